/- What the row of WorkQuiet leans on: printed functions and plain laws. Conditions: none. -/
import Derived.Test.YtnjanliihnadjaaTy
import Derived.Test.YtnjanliihnadjaaTab
import Derived.Test.YtnjanliihnadjaaKn
import Derived.Test.YtnjanliihnadjaaWf
import Derived.IntWalk
import Derived.KernelRfl
import Derived.OpenShut
set_option linter.unusedVariables false
set_option linter.unusedSimpArgs false
namespace Go.Proofs.Ytnjanliihnadjaa.Tm
open Go
theorem elAt_nat {α : Type} (l : List α) (i : Nat) : elAt l (i : Int) = l[i]? := by simp [elAt]
theorem wadd_ok {a b : Int} (h1 : -9223372036854775808 ≤ a + b) (h2 : a + b < 9223372036854775808) : wadd .i64 a b = a + b := by
 show IntKind.i64.wrap (a + b) = a + b
 rw [IntKind.wrap_i64]
 omega
theorem wadd_nat {i : Nat} (h : i < 4611686018427387904) : wadd .i64 (i : Int) 1 = ((i + 1 : Nat) : Int) := by
 rw [wadd_ok (by omega) (by omega)]; simp
theorem at_idx {α : Type} (l : List α) (i : Nat) :
   (∃ x, l.drop i = x :: l.drop (i + 1) ∧ ilt (i : Int) (nlen (len l)) = true ∧ inr (i : Int) (len l) = true ∧ elAt l (i : Int) = some x) ∨
   (l.drop i = [] ∧ ilt (i : Int) (nlen (len l)) = false) := by
 by_cases h : i < l.length
 · left
   refine ⟨l[i], List.drop_eq_getElem_cons h, ?_, ?_, ?_⟩
   · simp [ilt, nlen, len]; omega
   · simp [inr, len]; omega
   · rw [elAt_nat]; simp [h]
 · right
   refine ⟨List.drop_eq_nil_of_le (by omega), ?_⟩
   simp [ilt, nlen, len]; omega
def goI {α σ β : Type} (step : Nat → α → σ → (σ → Option β) → Option β) (fin : σ → Option β) : Nat → List α → σ → Option β
 | _, [], s => fin s
 | i, x :: r, s => step i x s (goI step fin (i + 1) r)
def goL {α σ β : Type} (step : α → σ → (σ → Option β) → Option β) (fin : σ → Option β) : List α → σ → Option β
 | [], s => fin s
 | x :: r, s => step x s (goL step fin r)
theorem lt_of_drop' {α : Type} {l : List α} {i : Nat} {x : α} {r : List α} (h : l.drop i = x :: r) : i < l.length := by
 rcases Nat.lt_or_ge i l.length with g | g
 · exact g
 · rw [List.drop_eq_nil_of_le g] at h; cases h
theorem scanI {α σ β : Type} {l : List α} {L : Nat → σ → Int → Option β} (step : Nat → α → σ → (σ → Option β) → Option β) (fin : σ → Option β)
   (h : ∀ k s (i : Nat), i ≤ l.length → L (k + 1) s i = bif ilt i (nlen (len l)) then (bif inr i (len l) then (elAt l i).bind fun x => step i x s (fun s' => L k s' (wadd .i64 i 1)) else none) else fin s)
   (hl : l.length < 4611686018427387904) : ∀ (k : Nat) (s : σ) (i : Nat), l.length - i < k → i ≤ l.length → L k s i = goI step fin i (l.drop i) s := by
 intro k
 induction k with
 | zero => intro s i h; omega
 | succ k ih =>
   intro s i hk hi
   rw [h k s i hi]
   rcases at_idx l i with ⟨x, e1, e2, e3, e4⟩ | ⟨e1, e2⟩
   · have hlt := lt_of_drop' e1
     rw [e1, e2, e3, e4]
     simp only [cond_true, Option.bind_some, goI]
     congr 1
     funext s'
     rw [wadd_nat (by omega)]
     exact ih s' (i + 1) (by omega) (by omega)
   · rw [e1, e2]; rfl
theorem scanL {α σ β : Type} {l : List α} {L : Nat → σ → Int → Option β} (step : α → σ → (σ → Option β) → Option β) (fin : σ → Option β)
   (h : ∀ k s (i : Nat), i ≤ l.length → L (k + 1) s i = bif ilt i (nlen (len l)) then (bif inr i (len l) then (elAt l i).bind fun x => step x s (fun s' => L k s' (wadd .i64 i 1)) else none) else fin s)
   (hl : l.length < 4611686018427387904) {K : Nat} (hK : l.length < K) (s : σ) : L K s 0 = goL step fin l s := by
 have e : ∀ (i : Nat) (r : List α) (s : σ), goI (fun _ => step) fin i r s = goL step fin r s := by
   intro i r
   induction r generalizing i with
   | nil => intro s; rfl
   | cons x r ih =>
     intro s
     simp only [goI, goL]
     congr 1
     funext s'
     exact ih (i + 1) s'
 have := scanI (fun _ => step) fin h hl K s 0 (by omega) (by omega)
 rw [e, List.drop_zero] at this
 exact this
theorem ilt_not' (a b : Int) : ilt a b = !(ile b a) := by
 unfold ilt ile
 by_cases h : a < b <;> simp [h] <;> omega
theorem ieq_refl (a : Int) : ieq a a = true := by simp [ieq]
theorem beqb_refl (a : Bool) : beqb a a = true := by cases a <;> rfl
theorem ile_iff {a b : Int} : ile a b = true ↔ a ≤ b := decide_eq_true_iff
theorem ilt_iff {a b : Int} : ilt a b = true ↔ a < b := decide_eq_true_iff
theorem ieq_iff {a b : Int} : ieq a b = true ↔ a = b := by simp [ieq]
theorem ile_f {a b : Int} : ile a b = false ↔ b < a := by simp [ile]
theorem ilt_f {a b : Int} : ilt a b = false ↔ b ≤ a := by simp [ilt]
theorem ieq_f {a b : Int} : ieq a b = false ↔ a ≠ b := by simp [ieq]
noncomputable def hn65 : Hint := { H 65 with nt := 99, prot := 0 }
noncomputable def c65_0 : Code := loopOf E 65 0
def F65_res (r1106 : Int) : Res := ⟨[(.one (.im (.lit (.int .i64 r1106))))], []⟩
def F65_l0_0 (K : Nat) (a1053 : GGraph) : Nat → Int → Option ((Int) ⊕ (Unit))
 | 0, _ => none
 | k + 1, v1067 =>
  bif (ilt v1067 (nlen (len a1053.Edges))) then
   (bif (inr v1067 (len a1053.Edges)) then
   (elAt a1053.Edges v1067).bind fun x1070 =>
   bif (ilt x1070.From 0) then
    (some (.inl 4))
   else
   bif (ilt x1070.To 0) then
    (some (.inl 4))
   else
   bif (ile a1053.N x1070.From) then
    (some (.inl 4))
   else
   bif (ile a1053.N x1070.To) then
    (some (.inl 4))
   else
   bif (ilt x1070.W 0) then
    (some (.inl 1))
   else
   bif (ilt 4611686018427387904 x1070.W) then
    (some (.inl 1))
   else
   bif (ilt 0 v1067) then
    (bif (inr (wsub .i64 v1067 1) (len a1053.Edges)) then
    (elAt a1053.Edges (wsub .i64 v1067 1)).bind fun x1080 =>
    bif (ieq x1080.From x1070.From) then
     (bif (ieq x1080.To x1070.To) then
      (some (.inl 5))
     else
     bif (ilt x1070.From x1080.From) then
      (some (.inl 6))
     else
     bif (ilt x1070.To x1080.To) then
      (some (.inl 6))
     else
     F65_l0_0 K a1053 k (wadd .i64 v1067 1))
    else
    bif (ilt x1070.From x1080.From) then
     (some (.inl 6))
    else
    F65_l0_0 K a1053 k (wadd .i64 v1067 1)
    else none)
   else
   F65_l0_0 K a1053 k (wadd .i64 v1067 1)
   else none)
  else
  some (.inr ())
def F65_l0_0_S (a1053 : GGraph) (v1067 : Int) : TS := .on [64, 65, 66, 192, 193] [(64, ⟨(.box 62 2), 0, nob⟩), (65, ⟨.im, 0, (.lit (.int .i64 a1053.N))⟩), (66, ⟨.im, 0, (.sl (len a1053.Edges) (flat eGEdge a1053.Edges))⟩), (192, ⟨.one, 0, nob⟩), (193, ⟨.im, 0, (.lit (.int .i64 v1067))⟩)]
def F65_l0_0_X0 (a1053 : GGraph) (w1087 : Int) : TS := .on [128, 129] [(128, ⟨.one, 0, nob⟩), (129, ⟨.im, 0, (.lit (.int .i64 w1087))⟩)]
def F65_l0_0_X1 (a1053 : GGraph) (w1089 : Unit) : TS := .on [] []
theorem F65_l0_0_ok (K : Nat) (a1053 : GGraph) : ∀ (k : Nat) (v1067 : Int) (r : (Int) ⊕ (Unit)), F65_l0_0 K a1053 k v1067 = some r → (Sum.elim (fun w => LoopEv E H hn65 0 c65_0 (F65_l0_0_S a1053 v1067) .ret (F65_l0_0_X0 a1053 w)) (fun w => LoopEv E H hn65 0 c65_0 (F65_l0_0_S a1053 v1067) (.exit 0) (F65_l0_0_X1 a1053 w))) r := by
 intro k
 induction k with
 | zero => intro v1067 r hF; cases hF
 | succ k ih =>
  intro v1067 r hF
  rw [F65_l0_0] at hF
  refine cond_some hF (fun h1068 hF => ?_) (fun h1068 hF => ?_)
  ·
   refine cond_some hF (fun h1069 hF => ?_) (fun _ hF => nomatch hF)
   refine bind_some hF (fun x1070 h1071 hF => ?_)
   have pq1090 : ∀ {l : List Cond}, HoldAll E H hn65 l → HoldAll E H hn65 (.int (nlen (len a1053.Edges)) (nlen (len a1053.Edges)) :: .test (ilt v1067 (nlen (len a1053.Edges))) true :: .test (inr v1067 (len a1053.Edges)) true :: .sub (flat eGEdge a1053.Edges) (nidx v1067 3) 3 [(.lit (.int .i64 x1070.From)), (.lit (.int .i64 x1070.To)), (.lit (.int .i64 x1070.W))] :: l) := fun z => ⟨rfl, h1068, h1069, ⟨rfl, sub_flat0 eGEdge_len h1071 3 (by decide)⟩, z⟩
   refine cond_some hF (fun h1072 hF => ?_) (fun h1072 hF => ?_)
   ·
    obtain rfl := Option.some.inj hF
    have pz : HoldAll E H hn65 [.test (beqb (ilt x1070.From 0) false) false, .test (beqb (ilt x1070.From 0) false) false, .test (beqb (ilt x1070.From 0) false) false, .test (ilt x1070.From 0) true, .test (beqb true false) false, .test (beqb true false) false, .test (beqb true false) false, .test (beqb true false) false, .test (beqb true false) false, .test true true, .test (beqb true false) false, .test (beqb true false) false, .test (beqb true false) false, .test (beqb true false) false, .test (beqb true false) false, .test true true, .test true true] := ⟨(beqb_ft h1072), (beqb_ft h1072), (beqb_ft h1072), h1072, (beqb_ft rfl), (beqb_ft rfl), (beqb_ft rfl), (beqb_ft rfl), (beqb_ft rfl), rfl, (beqb_ft rfl), (beqb_ft rfl), (beqb_ft rfl), (beqb_ft rfl), (beqb_ft rfl), rfl, rfl, trivial⟩
    exact loop_endC (h := hn65) (l := 0) (c := c65_0) (ts := F65_l0_0_S a1053 v1067) (ts' := F65_l0_0_X0 a1053 4) (ex := .ret) (pq1090 pz) (by kernel_rfl) trivial
   have pq1091 : ∀ {l : List Cond}, HoldAll E H hn65 l → HoldAll E H hn65 (.test (beqb (ilt x1070.From 0) false) true :: .test (beqb (ilt x1070.From 0) false) true :: .test (beqb (ilt x1070.From 0) false) true :: .test (ilt x1070.From 0) false :: l) := fun z => ⟨(beqb_ff h1072), (beqb_ff h1072), (beqb_ff h1072), h1072, z⟩
   refine cond_some hF (fun h1073 hF => ?_) (fun h1073 hF => ?_)
   ·
    obtain rfl := Option.some.inj hF
    have pz : HoldAll E H hn65 [.test (beqb (ilt x1070.To 0) false) false, .test (beqb (ilt x1070.To 0) false) false, .test (beqb (ilt x1070.To 0) false) false, .test (beqb (ilt x1070.To 0) false) false, .test (beqb (ilt x1070.To 0) false) false, .test (ilt x1070.To 0) true, .test (beqb true false) false, .test (beqb true false) false, .test (beqb true false) false, .test (beqb true false) false, .test (beqb true false) false, .test true true, .test true true] := ⟨(beqb_ft h1073), (beqb_ft h1073), (beqb_ft h1073), (beqb_ft h1073), (beqb_ft h1073), h1073, (beqb_ft rfl), (beqb_ft rfl), (beqb_ft rfl), (beqb_ft rfl), (beqb_ft rfl), rfl, rfl, trivial⟩
    exact loop_endC (h := hn65) (l := 0) (c := c65_0) (ts := F65_l0_0_S a1053 v1067) (ts' := F65_l0_0_X0 a1053 4) (ex := .ret) (pq1090 (pq1091 pz)) (by kernel_rfl) trivial
   have pq1092 : ∀ {l : List Cond}, HoldAll E H hn65 l → HoldAll E H hn65 (.test (beqb (ilt x1070.To 0) false) true :: .test (beqb (ilt x1070.To 0) false) true :: .test (beqb (ilt x1070.To 0) false) true :: .test (beqb (ilt x1070.To 0) false) true :: .test (beqb (ilt x1070.To 0) false) true :: .test (ilt x1070.To 0) false :: l) := fun z => ⟨(beqb_ff h1073), (beqb_ff h1073), (beqb_ff h1073), (beqb_ff h1073), (beqb_ff h1073), h1073, z⟩
   refine cond_some hF (fun h1074 hF => ?_) (fun h1074 hF => ?_)
   ·
    obtain rfl := Option.some.inj hF
    have pz : HoldAll E H hn65 [.test (beqb (ige x1070.From a1053.N) false) false, .test (beqb (ige x1070.From a1053.N) false) false, .test (beqb (ige x1070.From a1053.N) false) false, .test (beqb (ige x1070.From a1053.N) false) false, .test (beqb (ige x1070.From a1053.N) false) false, .test (ige x1070.From a1053.N) true, .test true true] := ⟨(beqb_ft (ige_eq h1074)), (beqb_ft (ige_eq h1074)), (beqb_ft (ige_eq h1074)), (beqb_ft (ige_eq h1074)), (beqb_ft (ige_eq h1074)), (ige_eq h1074), rfl, trivial⟩
    exact loop_endC (h := hn65) (l := 0) (c := c65_0) (ts := F65_l0_0_S a1053 v1067) (ts' := F65_l0_0_X0 a1053 4) (ex := .ret) (pq1090 (pq1091 (pq1092 pz))) (by kernel_rfl) trivial
   have pq1093 : ∀ {l : List Cond}, HoldAll E H hn65 l → HoldAll E H hn65 (.test (beqb (ige x1070.From a1053.N) false) true :: .test (beqb (ige x1070.From a1053.N) false) true :: .test (beqb (ige x1070.From a1053.N) false) true :: .test (beqb (ige x1070.From a1053.N) false) true :: .test (beqb (ige x1070.From a1053.N) false) true :: .test (ige x1070.From a1053.N) false :: l) := fun z => ⟨(beqb_ff (ige_eq h1074)), (beqb_ff (ige_eq h1074)), (beqb_ff (ige_eq h1074)), (beqb_ff (ige_eq h1074)), (beqb_ff (ige_eq h1074)), (ige_eq h1074), z⟩
   refine cond_some hF (fun h1075 hF => ?_) (fun h1075 hF => ?_)
   ·
    obtain rfl := Option.some.inj hF
    have pz : HoldAll E H hn65 [.test (ige x1070.To a1053.N) true] := ⟨(ige_eq h1075), trivial⟩
    exact loop_endC (h := hn65) (l := 0) (c := c65_0) (ts := F65_l0_0_S a1053 v1067) (ts' := F65_l0_0_X0 a1053 4) (ex := .ret) (pq1090 (pq1091 (pq1092 (pq1093 pz)))) (by kernel_rfl) trivial
   refine cond_some hF (fun h1076 hF => ?_) (fun h1076 hF => ?_)
   ·
    obtain rfl := Option.some.inj hF
    have pz : HoldAll E H hn65 [.test (ige x1070.To a1053.N) false, .test (beqb (ilt x1070.W 0) false) false, .test (beqb (ilt x1070.W 0) false) false, .test (beqb (ilt x1070.W 0) false) false, .test (ilt x1070.W 0) true, .test true true] := ⟨(ige_eq h1075), (beqb_ft h1076), (beqb_ft h1076), (beqb_ft h1076), h1076, rfl, trivial⟩
    exact loop_endC (h := hn65) (l := 0) (c := c65_0) (ts := F65_l0_0_S a1053 v1067) (ts' := F65_l0_0_X0 a1053 1) (ex := .ret) (pq1090 (pq1091 (pq1092 (pq1093 pz)))) (by kernel_rfl) trivial
   have pq1094 : ∀ {l : List Cond}, HoldAll E H hn65 l → HoldAll E H hn65 (.test (ige x1070.To a1053.N) false :: .test (beqb (ilt x1070.W 0) false) true :: .test (beqb (ilt x1070.W 0) false) true :: .test (beqb (ilt x1070.W 0) false) true :: .test (ilt x1070.W 0) false :: l) := fun z => ⟨(ige_eq h1075), (beqb_ff h1076), (beqb_ff h1076), (beqb_ff h1076), h1076, z⟩
   refine cond_some hF (fun h1077 hF => ?_) (fun h1077 hF => ?_)
   ·
    obtain rfl := Option.some.inj hF
    have pz : HoldAll E H hn65 [.test (igt x1070.W 4611686018427387904) true] := ⟨(igt_eq h1077), trivial⟩
    exact loop_endC (h := hn65) (l := 0) (c := c65_0) (ts := F65_l0_0_S a1053 v1067) (ts' := F65_l0_0_X0 a1053 1) (ex := .ret) (pq1090 (pq1091 (pq1092 (pq1093 (pq1094 pz))))) (by kernel_rfl) trivial
   refine cond_some hF (fun h1078 hF => ?_) (fun h1078 hF => ?_)
   ·
    refine cond_some hF (fun h1079 hF => ?_) (fun _ hF => nomatch hF)
    refine bind_some hF (fun x1080 h1081 hF => ?_)
    have pq1095 : ∀ {l : List Cond}, HoldAll E H hn65 l → HoldAll E H hn65 (.test (igt x1070.W 4611686018427387904) false :: .test (igt v1067 0) true :: .int (wsub .i64 v1067 1) (wsub .i64 v1067 1) :: .test (inr (wsub .i64 v1067 1) (len a1053.Edges)) true :: .sub (flat eGEdge a1053.Edges) (nidx (wsub .i64 v1067 1) 3) 3 [(.lit (.int .i64 x1080.From)), (.lit (.int .i64 x1080.To)), (.lit (.int .i64 x1080.W))] :: l) := fun z => ⟨(igt_eq h1077), (igt_eq h1078), rfl, h1079, ⟨rfl, sub_flat0 eGEdge_len h1081 3 (by decide)⟩, z⟩
    refine cond_some hF (fun h1082 hF => ?_) (fun h1082 hF => ?_)
    ·
     have pq1096 : ∀ {l : List Cond}, HoldAll E H hn65 l → HoldAll E H hn65 (.test (beqb (ieq x1080.From x1070.From) true) true :: .test (beqb (ieq x1080.From x1070.From) true) true :: .test (beqb (ieq x1080.From x1070.From) true) true :: .test (beqb (ieq x1080.From x1070.From) true) true :: .test (beqb (ieq x1080.From x1070.From) true) true :: .test (ieq x1080.From x1070.From) true :: l) := fun z => ⟨(beqb_t h1082), (beqb_t h1082), (beqb_t h1082), (beqb_t h1082), (beqb_t h1082), h1082, z⟩
     refine cond_some hF (fun h1083 hF => ?_) (fun h1083 hF => ?_)
     ·
      obtain rfl := Option.some.inj hF
      have pz : HoldAll E H hn65 [.test (ieq x1080.To x1070.To) true] := ⟨h1083, trivial⟩
      exact loop_endC (h := hn65) (l := 0) (c := c65_0) (ts := F65_l0_0_S a1053 v1067) (ts' := F65_l0_0_X0 a1053 5) (ex := .ret) (pq1090 (pq1091 (pq1092 (pq1093 (pq1094 (pq1095 (pq1096 pz))))))) (by kernel_rfl) trivial
     refine cond_some hF (fun h1084 hF => ?_) (fun h1084 hF => ?_)
     ·
      obtain rfl := Option.some.inj hF
      have pz : HoldAll E H hn65 [.test (ieq x1080.To x1070.To) false, .test (beqb (igt x1080.From x1070.From) false) false, .test (beqb (igt x1080.From x1070.From) false) false, .test (beqb (igt x1080.From x1070.From) false) false, .test (beqb (igt x1080.From x1070.From) false) false, .test (beqb (igt x1080.From x1070.From) false) false, .test (beqb (igt x1080.From x1070.From) false) false, .test (beqb (igt x1080.From x1070.From) false) false, .test (igt x1080.From x1070.From) true, .test true true] := ⟨h1083, (beqb_ft (igt_eq h1084)), (beqb_ft (igt_eq h1084)), (beqb_ft (igt_eq h1084)), (beqb_ft (igt_eq h1084)), (beqb_ft (igt_eq h1084)), (beqb_ft (igt_eq h1084)), (beqb_ft (igt_eq h1084)), (igt_eq h1084), rfl, trivial⟩
      exact loop_endC (h := hn65) (l := 0) (c := c65_0) (ts := F65_l0_0_S a1053 v1067) (ts' := F65_l0_0_X0 a1053 6) (ex := .ret) (pq1090 (pq1091 (pq1092 (pq1093 (pq1094 (pq1095 (pq1096 pz))))))) (by kernel_rfl) trivial
     have pq1097 : ∀ {l : List Cond}, HoldAll E H hn65 l → HoldAll E H hn65 (.test (ieq x1080.To x1070.To) false :: .test (beqb (igt x1080.From x1070.From) false) true :: .test (beqb (igt x1080.From x1070.From) false) true :: .test (beqb (igt x1080.From x1070.From) false) true :: .test (beqb (igt x1080.From x1070.From) false) true :: .test (beqb (igt x1080.From x1070.From) false) true :: .test (beqb (igt x1080.From x1070.From) false) true :: .test (beqb (ieq x1080.From x1070.From) true) true :: .test (beqb (ieq x1080.From x1070.From) true) true :: .test (beqb (ieq x1080.From x1070.From) true) true :: .test (beqb (ieq x1080.From x1070.From) true) true :: .test (beqb (ieq x1080.From x1070.From) true) true :: .test (beqb (igt x1080.From x1070.From) false) true :: .test (ieq x1080.From x1070.From) true :: .test (igt x1080.From x1070.From) false :: l) := fun z => ⟨h1083, (beqb_ff (igt_eq h1084)), (beqb_ff (igt_eq h1084)), (beqb_ff (igt_eq h1084)), (beqb_ff (igt_eq h1084)), (beqb_ff (igt_eq h1084)), (beqb_ff (igt_eq h1084)), (beqb_t h1082), (beqb_t h1082), (beqb_t h1082), (beqb_t h1082), (beqb_t h1082), (beqb_ff (igt_eq h1084)), h1082, (igt_eq h1084), z⟩
     refine cond_some hF (fun h1085 hF => ?_) (fun h1085 hF => ?_)
     ·
      obtain rfl := Option.some.inj hF
      have pz : HoldAll E H hn65 [.test (igt x1080.To x1070.To) true] := ⟨(igt_eq h1085), trivial⟩
      exact loop_endC (h := hn65) (l := 0) (c := c65_0) (ts := F65_l0_0_S a1053 v1067) (ts' := F65_l0_0_X0 a1053 6) (ex := .ret) (pq1090 (pq1091 (pq1092 (pq1093 (pq1094 (pq1095 (pq1096 (pq1097 pz)))))))) (by kernel_rfl) trivial
     have pz : HoldAll E H hn65 [.test (igt x1080.To x1070.To) false, .int (wadd .i64 v1067 1) (wadd .i64 v1067 1)] := ⟨(igt_eq h1085), rfl, trivial⟩
     have h0 := ih _ _ hF
     have hn := fun ex ts' => loop_nextC (h := hn65) (l := 0) (c := c65_0) (ts := F65_l0_0_S a1053 v1067) (ts1 := (F65_l0_0_S a1053 (wadd .i64 v1067 1))) (ex := ex) (ts' := ts') (pq1090 (pq1091 (pq1092 (pq1093 (pq1094 (pq1095 (pq1096 (pq1097 pz)))))))) (by kernel_rfl)
     cases r with
     | inl w => exact hn _ _ h0
     | inr w => exact hn _ _ h0
    have pq1098 : ∀ {l : List Cond}, HoldAll E H hn65 l → HoldAll E H hn65 (.test (beqb (ieq x1080.From x1070.From) true) false :: .test (beqb (ieq x1080.From x1070.From) true) false :: .test (beqb (ieq x1080.From x1070.From) true) false :: .test (beqb (ieq x1080.From x1070.From) true) false :: .test (beqb (ieq x1080.From x1070.From) true) false :: .test (ieq x1080.From x1070.From) false :: .test false false :: l) := fun z => ⟨(beqb_t h1082), (beqb_t h1082), (beqb_t h1082), (beqb_t h1082), (beqb_t h1082), h1082, rfl, z⟩
    refine cond_some hF (fun h1086 hF => ?_) (fun h1086 hF => ?_)
    ·
     obtain rfl := Option.some.inj hF
     have pz : HoldAll E H hn65 [.test (beqb (igt x1080.From x1070.From) false) false, .test (beqb (igt x1080.From x1070.From) false) false, .test (beqb (igt x1080.From x1070.From) false) false, .test (beqb (igt x1080.From x1070.From) false) false, .test (beqb (igt x1080.From x1070.From) false) false, .test (beqb (igt x1080.From x1070.From) false) false, .test (beqb (igt x1080.From x1070.From) false) false, .test (igt x1080.From x1070.From) true, .test true true] := ⟨(beqb_ft (igt_eq h1086)), (beqb_ft (igt_eq h1086)), (beqb_ft (igt_eq h1086)), (beqb_ft (igt_eq h1086)), (beqb_ft (igt_eq h1086)), (beqb_ft (igt_eq h1086)), (beqb_ft (igt_eq h1086)), (igt_eq h1086), rfl, trivial⟩
     exact loop_endC (h := hn65) (l := 0) (c := c65_0) (ts := F65_l0_0_S a1053 v1067) (ts' := F65_l0_0_X0 a1053 6) (ex := .ret) (pq1090 (pq1091 (pq1092 (pq1093 (pq1094 (pq1095 (pq1098 pz))))))) (by kernel_rfl) trivial
    have pz : HoldAll E H hn65 [.test (beqb (igt x1080.From x1070.From) false) true, .test (beqb (igt x1080.From x1070.From) false) true, .test (beqb (igt x1080.From x1070.From) false) true, .test (beqb (igt x1080.From x1070.From) false) true, .test (beqb (igt x1080.From x1070.From) false) true, .test (beqb (igt x1080.From x1070.From) false) true, .test (beqb (ieq x1080.From x1070.From) true) false, .test (beqb (ieq x1080.From x1070.From) true) false, .test (beqb (ieq x1080.From x1070.From) true) false, .test (beqb (ieq x1080.From x1070.From) true) false, .test (beqb (ieq x1080.From x1070.From) true) false, .test (beqb (igt x1080.From x1070.From) false) true, .test (ieq x1080.From x1070.From) false, .test (igt x1080.From x1070.From) false, .test false false, .int (wadd .i64 v1067 1) (wadd .i64 v1067 1)] := ⟨(beqb_ff (igt_eq h1086)), (beqb_ff (igt_eq h1086)), (beqb_ff (igt_eq h1086)), (beqb_ff (igt_eq h1086)), (beqb_ff (igt_eq h1086)), (beqb_ff (igt_eq h1086)), (beqb_t h1082), (beqb_t h1082), (beqb_t h1082), (beqb_t h1082), (beqb_t h1082), (beqb_ff (igt_eq h1086)), h1082, (igt_eq h1086), rfl, rfl, trivial⟩
    have h0 := ih _ _ hF
    have hn := fun ex ts' => loop_nextC (h := hn65) (l := 0) (c := c65_0) (ts := F65_l0_0_S a1053 v1067) (ts1 := (F65_l0_0_S a1053 (wadd .i64 v1067 1))) (ex := ex) (ts' := ts') (pq1090 (pq1091 (pq1092 (pq1093 (pq1094 (pq1095 (pq1098 pz))))))) (by kernel_rfl)
    cases r with
    | inl w => exact hn _ _ h0
    | inr w => exact hn _ _ h0
   have pz : HoldAll E H hn65 [.test (igt x1070.W 4611686018427387904) false, .test (igt v1067 0) false, .int (wadd .i64 v1067 1) (wadd .i64 v1067 1)] := ⟨(igt_eq h1077), (igt_eq h1078), rfl, trivial⟩
   have h0 := ih _ _ hF
   have hn := fun ex ts' => loop_nextC (h := hn65) (l := 0) (c := c65_0) (ts := F65_l0_0_S a1053 v1067) (ts1 := (F65_l0_0_S a1053 (wadd .i64 v1067 1))) (ex := ex) (ts' := ts') (pq1090 (pq1091 (pq1092 (pq1093 (pq1094 pz))))) (by kernel_rfl)
   cases r with
   | inl w => exact hn _ _ h0
   | inr w => exact hn _ _ h0
  obtain rfl := Option.some.inj hF
  have pz : HoldAll E H hn65 [.int (nlen (len a1053.Edges)) (nlen (len a1053.Edges)), .test (ilt v1067 (nlen (len a1053.Edges))) false] := ⟨rfl, h1068, trivial⟩
  exact loop_endC (h := hn65) (l := 0) (c := c65_0) (ts := F65_l0_0_S a1053 v1067) (ts' := F65_l0_0_X1 a1053 ()) (ex := (.exit 0)) pz (by kernel_rfl) trivial
def F65 (K : Nat) (a1053 : GGraph) : Option (Int) :=
 bif (ilt a1053.N 1) then
  (some 1)
 else
 bif (ilt 24 a1053.N) then
  (some 1)
 else
 bif (ilt 80 (nlen (len a1053.Edges))) then
  (some 3)
 else
 (F65_l0_0 K a1053 K 0).bind fun y1100 =>
 Sum.elim (fun w1101 =>
  some w1101)
  (fun w1103 =>
  some 0) y1100
theorem F65_ok (K : Nat) (a1053 : GGraph) (r : Int) (hF : F65 K a1053 = some r) : Evt E H 65 [.agg (eGGraph a1053)] (F65_res r) := by
 rw [F65] at hF
 refine cond_some hF (fun h1054 hF => ?_) (fun h1054 hF => ?_)
 ·
  obtain rfl := Option.some.inj hF
  have pz : HoldAll E H hn65 [.test (beqb (ilt a1053.N 1) false) false, .test (beqb (ilt a1053.N 1) false) false, .test (beqb (ilt a1053.N 1) false) false, .test (ilt a1053.N 1) true, .test true true] := ⟨(beqb_ft h1054), (beqb_ft h1054), (beqb_ft h1054), h1054, rfl, trivial⟩
  exact fn_playC hn65 (r := F65_res 1) pz (by kernel_rfl) (by kernel_rfl)
 have pq1104 : ∀ {l : List Cond}, HoldAll E H hn65 l → HoldAll E H hn65 (.test (beqb (ilt a1053.N 1) false) true :: .test (beqb (ilt a1053.N 1) false) true :: .test (beqb (ilt a1053.N 1) false) true :: .test (ilt a1053.N 1) false :: l) := fun z => ⟨(beqb_ff h1054), (beqb_ff h1054), (beqb_ff h1054), h1054, z⟩
 refine cond_some hF (fun h1055 hF => ?_) (fun h1055 hF => ?_)
 ·
  obtain rfl := Option.some.inj hF
  have pz : HoldAll E H hn65 [.test (igt a1053.N 24) true] := ⟨(igt_eq h1055), trivial⟩
  exact fn_playC hn65 (r := F65_res 1) (pq1104 pz) (by kernel_rfl) (by kernel_rfl)
 refine cond_some hF (fun h1056 hF => ?_) (fun h1056 hF => ?_)
 ·
  obtain rfl := Option.some.inj hF
  have pz : HoldAll E H hn65 [.test (igt a1053.N 24) false, .int (nlen (len a1053.Edges)) (nlen (len a1053.Edges)), .test (igt (nlen (len a1053.Edges)) 80) true] := ⟨(igt_eq h1055), rfl, (igt_eq h1056), trivial⟩
  exact fn_playC hn65 (r := F65_res 3) (pq1104 pz) (by kernel_rfl) (by kernel_rfl)
 have pq1105 : ∀ {l : List Cond}, HoldAll E H hn65 l → HoldAll E H hn65 (.test (igt a1053.N 24) false :: .int (nlen (len a1053.Edges)) (nlen (len a1053.Edges)) :: .test (igt (nlen (len a1053.Edges)) 80) false :: l) := fun z => ⟨(igt_eq h1055), rfl, (igt_eq h1056), z⟩
 refine bind_some hF (fun y1100 h1099 hF => ?_)
 refine sum_some hF (fun w1101 hx hF => ?_) (fun w1103 hx hF => ?_)
 ·
  subst hx
  obtain rfl := Option.some.inj hF
  have pz : HoldAll E H hn65 [.loop 0 c65_0 (F65_l0_0_S a1053 0) .ret (F65_l0_0_X0 a1053 w1101)] := ⟨(F65_l0_0_ok K a1053 K 0 _ h1099), trivial⟩
  exact fn_playC hn65 (r := F65_res w1101) (pq1104 (pq1105 pz)) (by kernel_rfl) (by kernel_rfl)
 subst hx
 obtain rfl := Option.some.inj hF
 have pz : HoldAll E H hn65 [.loop 0 c65_0 (F65_l0_0_S a1053 0) (.exit 0) (F65_l0_0_X1 a1053 w1103)] := ⟨(F65_l0_0_ok K a1053 K 0 _ h1099), trivial⟩
 exact fn_playC hn65 (r := F65_res 0) (pq1104 (pq1105 pz)) (by kernel_rfl) (by kernel_rfl)
noncomputable def hn132 : Hint := { H 132 with nt := 35, prot := 0 }
def F132_res (r2404 : Int) : Res := ⟨[(.one (.im (.lit (.int .i64 r2404))))], []⟩
def F132 (K : Nat) (a2392 : GEdge) (a2393 : Int) : Option (Int) :=
 bif (ilt a2392.From 0) then
  (some 4)
 else
 bif (ile a2393 a2392.From) then
  (some 4)
 else
 bif (ilt a2392.To 0) then
  (some 4)
 else
 bif (ile a2393 a2392.To) then
  (some 4)
 else
 bif (ilt a2392.W 0) then
  (some 1)
 else
 bif (ilt 4611686018427387904 a2392.W) then
  (some 1)
 else
 some 0
theorem F132_ok (K : Nat) (a2392 : GEdge) (a2393 : Int) (r : Int) (hF : F132 K a2392 a2393 = some r) : Evt E H 132 [.agg (eGEdge a2392), .one (.lit (.int .i64 a2393))] (F132_res r) := by
 rw [F132] at hF
 refine cond_some hF (fun h2394 hF => ?_) (fun h2394 hF => ?_)
 ·
  obtain rfl := Option.some.inj hF
  have pz : HoldAll E H hn132 [.test (beqb (ilt a2392.From 0) false) false, .test (beqb (ilt a2392.From 0) false) false, .test (beqb (ilt a2392.From 0) false) false, .test (beqb (ilt a2392.From 0) false) false, .test (ilt a2392.From 0) true, .test (beqb true false) false, .test (beqb true false) false, .test (beqb true false) false, .test true true, .test (beqb true false) false, .test (beqb true false) false, .test (beqb true false) false, .test (beqb true false) false, .test true true, .test true true] := ⟨(beqb_ft h2394), (beqb_ft h2394), (beqb_ft h2394), (beqb_ft h2394), h2394, (beqb_ft rfl), (beqb_ft rfl), (beqb_ft rfl), rfl, (beqb_ft rfl), (beqb_ft rfl), (beqb_ft rfl), (beqb_ft rfl), rfl, rfl, trivial⟩
  exact fn_playC hn132 (r := F132_res 4) pz (by kernel_rfl) (by kernel_rfl)
 have pq2400 : ∀ {l : List Cond}, HoldAll E H hn132 l → HoldAll E H hn132 (.test (beqb (ilt a2392.From 0) false) true :: .test (beqb (ilt a2392.From 0) false) true :: .test (beqb (ilt a2392.From 0) false) true :: .test (beqb (ilt a2392.From 0) false) true :: .test (ilt a2392.From 0) false :: l) := fun z => ⟨(beqb_ff h2394), (beqb_ff h2394), (beqb_ff h2394), (beqb_ff h2394), h2394, z⟩
 refine cond_some hF (fun h2395 hF => ?_) (fun h2395 hF => ?_)
 ·
  obtain rfl := Option.some.inj hF
  have pz : HoldAll E H hn132 [.test (beqb (ige a2392.From a2393) false) false, .test (beqb (ige a2392.From a2393) false) false, .test (beqb (ige a2392.From a2393) false) false, .test (ige a2392.From a2393) true, .test (beqb true false) false, .test (beqb true false) false, .test (beqb true false) false, .test (beqb true false) false, .test true true, .test true true] := ⟨(beqb_ft (ige_eq h2395)), (beqb_ft (ige_eq h2395)), (beqb_ft (ige_eq h2395)), (ige_eq h2395), (beqb_ft rfl), (beqb_ft rfl), (beqb_ft rfl), (beqb_ft rfl), rfl, rfl, trivial⟩
  exact fn_playC hn132 (r := F132_res 4) (pq2400 pz) (by kernel_rfl) (by kernel_rfl)
 have pq2401 : ∀ {l : List Cond}, HoldAll E H hn132 l → HoldAll E H hn132 (.test (beqb (ige a2392.From a2393) false) true :: .test (beqb (ige a2392.From a2393) false) true :: .test (beqb (ige a2392.From a2393) false) true :: .test (ige a2392.From a2393) false :: l) := fun z => ⟨(beqb_ff (ige_eq h2395)), (beqb_ff (ige_eq h2395)), (beqb_ff (ige_eq h2395)), (ige_eq h2395), z⟩
 refine cond_some hF (fun h2396 hF => ?_) (fun h2396 hF => ?_)
 ·
  obtain rfl := Option.some.inj hF
  have pz : HoldAll E H hn132 [.test (beqb (ilt a2392.To 0) false) false, .test (beqb (ilt a2392.To 0) false) false, .test (beqb (ilt a2392.To 0) false) false, .test (beqb (ilt a2392.To 0) false) false, .test (ilt a2392.To 0) true, .test true true] := ⟨(beqb_ft h2396), (beqb_ft h2396), (beqb_ft h2396), (beqb_ft h2396), h2396, rfl, trivial⟩
  exact fn_playC hn132 (r := F132_res 4) (pq2400 (pq2401 pz)) (by kernel_rfl) (by kernel_rfl)
 have pq2402 : ∀ {l : List Cond}, HoldAll E H hn132 l → HoldAll E H hn132 (.test (beqb (ilt a2392.To 0) false) true :: .test (beqb (ilt a2392.To 0) false) true :: .test (beqb (ilt a2392.To 0) false) true :: .test (beqb (ilt a2392.To 0) false) true :: .test (ilt a2392.To 0) false :: l) := fun z => ⟨(beqb_ff h2396), (beqb_ff h2396), (beqb_ff h2396), (beqb_ff h2396), h2396, z⟩
 refine cond_some hF (fun h2397 hF => ?_) (fun h2397 hF => ?_)
 ·
  obtain rfl := Option.some.inj hF
  have pz : HoldAll E H hn132 [.test (ige a2392.To a2393) true] := ⟨(ige_eq h2397), trivial⟩
  exact fn_playC hn132 (r := F132_res 4) (pq2400 (pq2401 (pq2402 pz))) (by kernel_rfl) (by kernel_rfl)
 refine cond_some hF (fun h2398 hF => ?_) (fun h2398 hF => ?_)
 ·
  obtain rfl := Option.some.inj hF
  have pz : HoldAll E H hn132 [.test (ige a2392.To a2393) false, .test (beqb (ilt a2392.W 0) false) false, .test (beqb (ilt a2392.W 0) false) false, .test (beqb (ilt a2392.W 0) false) false, .test (ilt a2392.W 0) true, .test true true] := ⟨(ige_eq h2397), (beqb_ft h2398), (beqb_ft h2398), (beqb_ft h2398), h2398, rfl, trivial⟩
  exact fn_playC hn132 (r := F132_res 1) (pq2400 (pq2401 (pq2402 pz))) (by kernel_rfl) (by kernel_rfl)
 have pq2403 : ∀ {l : List Cond}, HoldAll E H hn132 l → HoldAll E H hn132 (.test (ige a2392.To a2393) false :: .test (beqb (ilt a2392.W 0) false) true :: .test (beqb (ilt a2392.W 0) false) true :: .test (beqb (ilt a2392.W 0) false) true :: .test (ilt a2392.W 0) false :: l) := fun z => ⟨(ige_eq h2397), (beqb_ff h2398), (beqb_ff h2398), (beqb_ff h2398), h2398, z⟩
 refine cond_some hF (fun h2399 hF => ?_) (fun h2399 hF => ?_)
 ·
  obtain rfl := Option.some.inj hF
  have pz : HoldAll E H hn132 [.test (igt a2392.W 4611686018427387904) true] := ⟨(igt_eq h2399), trivial⟩
  exact fn_playC hn132 (r := F132_res 1) (pq2400 (pq2401 (pq2402 (pq2403 pz)))) (by kernel_rfl) (by kernel_rfl)
 obtain rfl := Option.some.inj hF
 have pz : HoldAll E H hn132 [.test (igt a2392.W 4611686018427387904) false] := ⟨(igt_eq h2399), trivial⟩
 exact fn_playC hn132 (r := F132_res 0) (pq2400 (pq2401 (pq2402 (pq2403 pz)))) (by kernel_rfl) (by kernel_rfl)
noncomputable def hn133 : Hint := { H 133 with nt := 20, prot := 0 }
def F133_res (r2423 : Int) : Res := ⟨[(.one (.im (.lit (.int .i64 r2423))))], []⟩
def F133 (K : Nat) (a2420 : GEdge) (a2421 : GEdge) : Option (Int) :=
 bif (ieq a2420.From a2421.From) then
  (some (wsub .i64 a2420.To a2421.To))
 else
 some (wsub .i64 a2420.From a2421.From)
theorem F133_ok (K : Nat) (a2420 : GEdge) (a2421 : GEdge) (r : Int) (hF : F133 K a2420 a2421 = some r) : Evt E H 133 [.agg (eGEdge a2420), .agg (eGEdge a2421)] (F133_res r) := by
 rw [F133] at hF
 refine cond_some hF (fun h2422 hF => ?_) (fun h2422 hF => ?_)
 ·
  obtain rfl := Option.some.inj hF
  have pz : HoldAll E H hn133 [.test (ine a2420.From a2421.From) false, .int (wsub .i64 a2420.To a2421.To) (wsub .i64 a2420.To a2421.To)] := ⟨(ine_t h2422), rfl, trivial⟩
  exact fn_playC hn133 (r := F133_res (wsub .i64 a2420.To a2421.To)) pz (by kernel_rfl) (by kernel_rfl)
 obtain rfl := Option.some.inj hF
 have pz : HoldAll E H hn133 [.test (ine a2420.From a2421.From) true, .int (wsub .i64 a2420.From a2421.From) (wsub .i64 a2420.From a2421.From)] := ⟨(ine_f h2422), rfl, trivial⟩
 exact fn_playC hn133 (r := F133_res (wsub .i64 a2420.From a2421.From)) pz (by kernel_rfl) (by kernel_rfl)
noncomputable def hn64 : Hint := { H 64 with nt := 51, prot := 0 }
noncomputable def c64_0 : Code := loopOf E 64 0
def F64_res (r2440 : Int) : Res := ⟨[(.one (.im (.lit (.int .i64 r2440))))], []⟩
def F64_l0_0 (K : Nat) (a2384 : GGraph) : Nat → Int → Option ((Int) ⊕ (Unit))
 | 0, _ => none
 | k + 1, v2408 =>
  bif (ilt v2408 (nlen (len a2384.Edges))) then
   (bif (inr v2408 (len a2384.Edges)) then
   (elAt a2384.Edges v2408).bind fun x2411 =>
   (F132 K x2411 a2384.N).bind fun r2413 =>
   bif (ieq r2413 0) then
    (bif (ieq v2408 0) then
     (F64_l0_0 K a2384 k (wadd .i64 v2408 1))
    else
    bif (inr (wsub .i64 v2408 1) (len a2384.Edges)) then
    (elAt a2384.Edges (wsub .i64 v2408 1)).bind fun x2418 =>
    (F133 K x2418 x2411).bind fun r2424 =>
    bif (ieq r2424 0) then
     (some (.inl 5))
    else
    bif (ilt 0 r2424) then
     (some (.inl 6))
    else
    F64_l0_0 K a2384 k (wadd .i64 v2408 1)
    else none)
   else
   some (.inl r2413)
   else none)
  else
  some (.inr ())
def F64_l0_0_S (a2384 : GGraph) (v2408 : Int) : TS := .on [64, 65, 66, 1216, 1280, 1281, 1344, 1345, 1408, 1409] [(64, ⟨(.box 62 2), 0, nob⟩), (65, ⟨.im, 0, (.lit (.int .i64 a2384.N))⟩), (66, ⟨.im, 0, (.sl (len a2384.Edges) (flat eGEdge a2384.Edges))⟩), (1216, ⟨(.ad 1 0 1), 0, nob⟩), (1280, ⟨.one, 0, nob⟩), (1281, ⟨.im, 0, (.sl (len a2384.Edges) (flat eGEdge a2384.Edges))⟩), (1344, ⟨.one, 0, nob⟩), (1345, ⟨.im, 0, (.lit (.int .i64 (nlen (len a2384.Edges))))⟩), (1408, ⟨.one, 0, nob⟩), (1409, ⟨.im, 0, (.lit (.int .i64 v2408))⟩)]
def F64_l0_0_X0 (a2384 : GGraph) (w2428 : Int) : TS := .on [128, 129] [(128, ⟨.one, 0, nob⟩), (129, ⟨.im, 0, (.lit (.int .i64 w2428))⟩)]
def F64_l0_0_X1 (a2384 : GGraph) (w2430 : Unit) : TS := .on [] []
theorem F64_l0_0_ok (K : Nat) (a2384 : GGraph) : ∀ (k : Nat) (v2408 : Int) (r : (Int) ⊕ (Unit)), F64_l0_0 K a2384 k v2408 = some r → (Sum.elim (fun w => LoopEv E H hn64 0 c64_0 (F64_l0_0_S a2384 v2408) .ret (F64_l0_0_X0 a2384 w)) (fun w => LoopEv E H hn64 0 c64_0 (F64_l0_0_S a2384 v2408) (.exit 0) (F64_l0_0_X1 a2384 w))) r := by
 intro k
 induction k with
 | zero => intro v2408 r hF; cases hF
 | succ k ih =>
  intro v2408 r hF
  rw [F64_l0_0] at hF
  refine cond_some hF (fun h2409 hF => ?_) (fun h2409 hF => ?_)
  ·
   refine cond_some hF (fun h2410 hF => ?_) (fun _ hF => nomatch hF)
   refine bind_some hF (fun x2411 h2412 hF => ?_)
   refine bind_some hF (fun r2413 h2414 hF => ?_)
   have pq2431 : ∀ {l : List Cond}, HoldAll E H hn64 l → HoldAll E H hn64 (.test (ilt v2408 (nlen (len a2384.Edges))) true :: .test (inr v2408 (len a2384.Edges)) true :: .sub (flat eGEdge a2384.Edges) (nidx v2408 3) 3 [(.lit (.int .i64 x2411.From)), (.lit (.int .i64 x2411.To)), (.lit (.int .i64 x2411.W))] :: .call 132 [.agg (eGEdge x2411), .one (.lit (.int .i64 a2384.N))] (F132_res r2413) :: .test (leadsAny (Res.mk [(.one (.im (.lit (.int .i64 r2413))))] [])) false :: l) := fun z => ⟨h2409, h2410, ⟨rfl, sub_flat0 eGEdge_len h2412 3 (by decide)⟩, (F132_ok K x2411 a2384.N _ h2414), (leads_ok (by simp [leadsAny, RV.leads, RC.leads, leadsT, hasSl_lit, flat_ns eGEdge_ns])), z⟩
   refine cond_some hF (fun h2415 hF => ?_) (fun h2415 hF => ?_)
   ·
    refine cond_some hF (fun h2416 hF => ?_) (fun h2416 hF => ?_)
    ·
     have pz : HoldAll E H hn64 [.test (ine r2413 0) false, .test (ieq v2408 0) true, .int (wadd .i64 v2408 1) (wadd .i64 v2408 1)] := ⟨(ine_t h2415), h2416, rfl, trivial⟩
     have h0 := ih _ _ hF
     have hn := fun ex ts' => loop_nextC (h := hn64) (l := 0) (c := c64_0) (ts := F64_l0_0_S a2384 v2408) (ts1 := (F64_l0_0_S a2384 (wadd .i64 v2408 1))) (ex := ex) (ts' := ts') (pq2431 pz) (by kernel_rfl)
     cases r with
     | inl w => exact hn _ _ h0
     | inr w => exact hn _ _ h0
    refine cond_some hF (fun h2417 hF => ?_) (fun _ hF => nomatch hF)
    refine bind_some hF (fun x2418 h2419 hF => ?_)
    refine bind_some hF (fun r2424 h2425 hF => ?_)
    have pq2432 : ∀ {l : List Cond}, HoldAll E H hn64 l → HoldAll E H hn64 (.test (ine r2413 0) false :: .test (ieq v2408 0) false :: .int (wsub .i64 v2408 1) (wsub .i64 v2408 1) :: .test (inr (wsub .i64 v2408 1) (len a2384.Edges)) true :: .sub (flat eGEdge a2384.Edges) (nidx (wsub .i64 v2408 1) 3) 3 [(.lit (.int .i64 x2418.From)), (.lit (.int .i64 x2418.To)), (.lit (.int .i64 x2418.W))] :: .call 133 [.agg (eGEdge x2418), .agg (eGEdge x2411)] (F133_res r2424) :: .test (leadsAny (Res.mk [(.one (.im (.lit (.int .i64 r2424))))] [])) false :: l) := fun z => ⟨(ine_t h2415), h2416, rfl, h2417, ⟨rfl, sub_flat0 eGEdge_len h2419 3 (by decide)⟩, (F133_ok K x2418 x2411 _ h2425), (leads_ok (by simp [leadsAny, RV.leads, RC.leads, leadsT, hasSl_lit, flat_ns eGEdge_ns])), z⟩
    refine cond_some hF (fun h2426 hF => ?_) (fun h2426 hF => ?_)
    ·
     obtain rfl := Option.some.inj hF
     have pz : HoldAll E H hn64 [.test (ieq r2424 0) true] := ⟨h2426, trivial⟩
     exact loop_endC (h := hn64) (l := 0) (c := c64_0) (ts := F64_l0_0_S a2384 v2408) (ts' := F64_l0_0_X0 a2384 5) (ex := .ret) (pq2431 (pq2432 pz)) (by kernel_rfl) trivial
    refine cond_some hF (fun h2427 hF => ?_) (fun h2427 hF => ?_)
    ·
     obtain rfl := Option.some.inj hF
     have pz : HoldAll E H hn64 [.test (ieq r2424 0) false, .test (igt r2424 0) true] := ⟨h2426, (igt_eq h2427), trivial⟩
     exact loop_endC (h := hn64) (l := 0) (c := c64_0) (ts := F64_l0_0_S a2384 v2408) (ts' := F64_l0_0_X0 a2384 6) (ex := .ret) (pq2431 (pq2432 pz)) (by kernel_rfl) trivial
    have pz : HoldAll E H hn64 [.test (ieq r2424 0) false, .test (igt r2424 0) false, .int (wadd .i64 v2408 1) (wadd .i64 v2408 1)] := ⟨h2426, (igt_eq h2427), rfl, trivial⟩
    have h0 := ih _ _ hF
    have hn := fun ex ts' => loop_nextC (h := hn64) (l := 0) (c := c64_0) (ts := F64_l0_0_S a2384 v2408) (ts1 := (F64_l0_0_S a2384 (wadd .i64 v2408 1))) (ex := ex) (ts' := ts') (pq2431 (pq2432 pz)) (by kernel_rfl)
    cases r with
    | inl w => exact hn _ _ h0
    | inr w => exact hn _ _ h0
   obtain rfl := Option.some.inj hF
   have pz : HoldAll E H hn64 [.test (ine r2413 0) true] := ⟨(ine_f h2415), trivial⟩
   exact loop_endC (h := hn64) (l := 0) (c := c64_0) (ts := F64_l0_0_S a2384 v2408) (ts' := F64_l0_0_X0 a2384 r2413) (ex := .ret) (pq2431 pz) (by kernel_rfl) trivial
  obtain rfl := Option.some.inj hF
  have pz : HoldAll E H hn64 [.test (ilt v2408 (nlen (len a2384.Edges))) false] := ⟨h2409, trivial⟩
  exact loop_endC (h := hn64) (l := 0) (c := c64_0) (ts := F64_l0_0_S a2384 v2408) (ts' := F64_l0_0_X1 a2384 ()) (ex := (.exit 0)) pz (by kernel_rfl) trivial
def F64 (K : Nat) (a2384 : GGraph) : Option (Int) :=
 bif (ilt a2384.N 1) then
  (some 1)
 else
 bif (ilt 24 a2384.N) then
  (some 1)
 else
 bif (ilt 80 (nlen (len a2384.Edges))) then
  (some 3)
 else
 (F64_l0_0 K a2384 K 0).bind fun y2434 =>
 Sum.elim (fun w2435 =>
  some w2435)
  (fun w2437 =>
  some 0) y2434
theorem F64_ok (K : Nat) (a2384 : GGraph) (r : Int) (hF : F64 K a2384 = some r) : Evt E H 64 [.agg (eGGraph a2384)] (F64_res r) := by
 rw [F64] at hF
 refine cond_some hF (fun h2385 hF => ?_) (fun h2385 hF => ?_)
 ·
  obtain rfl := Option.some.inj hF
  have pz : HoldAll E H hn64 [.test (beqb (ilt a2384.N 1) false) false, .test (beqb (ilt a2384.N 1) false) false, .test (beqb (ilt a2384.N 1) false) false, .test (ilt a2384.N 1) true, .test true true] := ⟨(beqb_ft h2385), (beqb_ft h2385), (beqb_ft h2385), h2385, rfl, trivial⟩
  exact fn_playC hn64 (r := F64_res 1) pz (by kernel_rfl) (by kernel_rfl)
 have pq2438 : ∀ {l : List Cond}, HoldAll E H hn64 l → HoldAll E H hn64 (.test (beqb (ilt a2384.N 1) false) true :: .test (beqb (ilt a2384.N 1) false) true :: .test (beqb (ilt a2384.N 1) false) true :: .test (ilt a2384.N 1) false :: l) := fun z => ⟨(beqb_ff h2385), (beqb_ff h2385), (beqb_ff h2385), h2385, z⟩
 refine cond_some hF (fun h2386 hF => ?_) (fun h2386 hF => ?_)
 ·
  obtain rfl := Option.some.inj hF
  have pz : HoldAll E H hn64 [.test (igt a2384.N 24) true] := ⟨(igt_eq h2386), trivial⟩
  exact fn_playC hn64 (r := F64_res 1) (pq2438 pz) (by kernel_rfl) (by kernel_rfl)
 refine cond_some hF (fun h2387 hF => ?_) (fun h2387 hF => ?_)
 ·
  obtain rfl := Option.some.inj hF
  have pz : HoldAll E H hn64 [.test (igt a2384.N 24) false, .int (nlen (len a2384.Edges)) (nlen (len a2384.Edges)), .test (igt (nlen (len a2384.Edges)) 80) true] := ⟨(igt_eq h2386), rfl, (igt_eq h2387), trivial⟩
  exact fn_playC hn64 (r := F64_res 3) (pq2438 pz) (by kernel_rfl) (by kernel_rfl)
 have pq2439 : ∀ {l : List Cond}, HoldAll E H hn64 l → HoldAll E H hn64 (.test (igt a2384.N 24) false :: .int (nlen (len a2384.Edges)) (nlen (len a2384.Edges)) :: .test (igt (nlen (len a2384.Edges)) 80) false :: .int (nlen (len a2384.Edges)) (nlen (len a2384.Edges)) :: l) := fun z => ⟨(igt_eq h2386), rfl, (igt_eq h2387), rfl, z⟩
 refine bind_some hF (fun y2434 h2433 hF => ?_)
 refine sum_some hF (fun w2435 hx hF => ?_) (fun w2437 hx hF => ?_)
 ·
  subst hx
  obtain rfl := Option.some.inj hF
  have pz : HoldAll E H hn64 [.loop 0 c64_0 (F64_l0_0_S a2384 0) .ret (F64_l0_0_X0 a2384 w2435)] := ⟨(F64_l0_0_ok K a2384 K 0 _ h2433), trivial⟩
  exact fn_playC hn64 (r := F64_res w2435) (pq2438 (pq2439 pz)) (by kernel_rfl) (by kernel_rfl)
 subst hx
 obtain rfl := Option.some.inj hF
 have pz : HoldAll E H hn64 [.loop 0 c64_0 (F64_l0_0_S a2384 0) (.exit 0) (F64_l0_0_X1 a2384 w2437)] := ⟨(F64_l0_0_ok K a2384 K 0 _ h2433), trivial⟩
 exact fn_playC hn64 (r := F64_res 0) (pq2438 (pq2439 pz)) (by kernel_rfl) (by kernel_rfl)
def badE (n : Int) (e : GEdge) : Int :=
 bif ilt e.From 0 || ile n e.From || ilt e.To 0 || ile n e.To then 4 else bif ilt e.W 0 || ilt 4611686018427387904 e.W then 1 else 0
def ordE (d e : GEdge) : Int := bif ieq d.From e.From && ieq d.To e.To then 5 else bif ilt e.From d.From || (ieq d.From e.From && ilt e.To d.To) then 6 else 0
def gchk (n : Int) : Option GEdge → List GEdge → Int
 | _, [] => 0
 | prev, e :: r => bif ieq (badE n e) 0 then (match prev with
   | none => gchk n (some e) r
   | some d => bif ieq (ordE d e) 0 then gchk n (some e) r else ordE d e) else badE n e
def gcheck (g : GGraph) : Int := bif ilt g.N 1 || ilt 24 g.N then 1 else bif ilt 80 (nlen (len g.Edges)) then 3 else gchk g.N none g.Edges
def prevOf {α : Type} (l : List α) : Nat → Option α
 | 0 => none
 | i + 1 => l[i]?
theorem wsub_one {i : Nat} (h0 : 0 < i) (h : i < 4611686018427387904) : wsub .i64 (i : Int) 1 = ((i - 1 : Nat) : Int) := by
 show IntKind.i64.wrap ((i : Int) - 1) = _
 rw [IntKind.wrap_i64]; omega
theorem prev_at {α : Type} {l : List α} {i : Nat} (h0 : 0 < i) (hi : i < l.length) (hl : l.length < 4611686018427387904) :
   ∃ d, prevOf l i = some d ∧ wsub .i64 (i : Int) 1 = ((i - 1 : Nat) : Int) ∧ inr ((i - 1 : Nat) : Int) (len l) = true ∧ elAt l ((i - 1 : Nat) : Int) = some d := by
 obtain ⟨j, rfl⟩ : ∃ j, i = j + 1 := ⟨i - 1, by omega⟩
 refine ⟨l[j], by simp [prevOf], wsub_one h0 (by omega), decide_eq_true ⟨by omega, by show ((j + 1 - 1 : Nat) : Int) < (l.length : Int); omega⟩, ?_⟩
 rw [elAt_nat]
 simp
theorem prev_next {α : Type} {l : List α} {i : Nat} {x : α} {r : List α} (h : l.drop i = x :: r) : prevOf l (i + 1) = some x ∧ l.drop (i + 1) = r ∧ i < l.length := by
 have hi := lt_of_drop' h
 have := List.drop_eq_getElem_cons hi
 rw [h] at this
 injection this with a b
 exact ⟨by simp [prevOf, hi, a], b.symm, hi⟩
def sumI (v : Int) : Int ⊕ Unit := bif ieq v 0 then .inr () else .inl v
theorem F132_spec (K : Nat) (e : GEdge) (n : Int) : F132 K e n = some (badE n e) := by
 rw [F132, badE]
 cases ilt e.From 0 <;> cases ile n e.From <;> cases ilt e.To 0 <;> cases ile n e.To <;> cases ilt e.W 0 <;> cases ilt 4611686018427387904 e.W <;> rfl
theorem badE_ok {n : Int} {e : GEdge} (h : ieq (badE n e) 0 = true) : 0 ≤ e.From ∧ e.From < n ∧ 0 ≤ e.To ∧ e.To < n ∧ 0 ≤ e.W ∧ e.W ≤ 4611686018427387904 := by
 rw [badE] at h
 cases h1 : ilt e.From 0 || ile n e.From || ilt e.To 0 || ile n e.To
 · cases h2 : ilt e.W 0 || ilt 4611686018427387904 e.W
   · simp only [Bool.or_eq_false_iff, ilt_f, ile_f] at h1 h2
     omega
   · rw [h1, h2] at h; cases h
 · rw [h1] at h; cases h
theorem F133_spec (K : Nat) {n : Int} {d e : GEdge} (hn : n ≤ 24) (hd : ieq (badE n d) 0 = true) (he : ieq (badE n e) 0 = true) :
   F133 K d e = some (bif ieq d.From e.From then d.To - e.To else d.From - e.From) := by
 have h1 := badE_ok hd
 have h2 := badE_ok he
 rw [F133]
 have e1 : wsub .i64 d.To e.To = d.To - e.To := by show IntKind.i64.wrap _ = _; rw [IntKind.wrap_i64]; omega
 have e2 : wsub .i64 d.From e.From = d.From - e.From := by show IntKind.i64.wrap _ = _; rw [IntKind.wrap_i64]; omega
 rw [e1, e2]
 cases ieq d.From e.From <;> rfl
theorem F64_loop {K : Nat} (hK : 100 ≤ K) (g : GGraph) (hl : g.Edges.length ≤ 80) (hn : g.N ≤ 24) : F64_l0_0 K g K 0 = some (sumI (gchk g.N none g.Edges)) := by
 let step : Nat → GEdge → Unit → (Unit → Option (Int ⊕ Unit)) → Option (Int ⊕ Unit) := fun i x _ c =>
   (F132 K x g.N).bind fun r => bif (ieq r 0) then (bif (ieq (i : Int) 0) then c () else bif (inr (wsub .i64 (i : Int) 1) (len g.Edges)) then
       (elAt g.Edges (wsub .i64 (i : Int) 1)).bind fun d => (F133 K d x).bind fun r => bif (ieq r 0) then (some (.inl 5)) else bif (ilt 0 r) then (some (.inl 6)) else c ()
       else none) else some (.inl r)
 let fin : Unit → Option (Int ⊕ Unit) := fun _ => some (.inr ())
 have h := scanI (l := g.Edges) (L := fun k (_ : Unit) i => F64_l0_0 K g k i) step fin (fun k st i hi => rfl) (by omega) K () 0 (by omega) (by omega)
 have hw : ∀ (r : List GEdge) (i : Nat), g.Edges.drop i = r → (∀ d, prevOf g.Edges i = some d → ieq (badE g.N d) 0 = true) → (i = 0 ∨ i ≤ g.Edges.length) → goI step fin i r () = some (sumI (gchk g.N (prevOf g.Edges i) r)) := by
   intro r
   induction r with
   | nil => intro i _ _ _; rfl
   | cons x r ih =>
     intro i hr hp _
     obtain ⟨n1, n2, hi⟩ := prev_next hr
     rw [goI]
     show ((F132 K x g.N).bind fun r' => bif (ieq r' 0) then (bif (ieq (i : Int) 0) then goI step fin (i + 1) r () else bif (inr (wsub .i64 (i : Int) 1) (len g.Edges)) then
       (elAt g.Edges (wsub .i64 (i : Int) 1)).bind fun d => (F133 K d x).bind fun r' => bif (ieq r' 0) then (some (.inl 5)) else bif (ilt 0 r') then (some (.inl 6)) else goI step fin (i + 1) r ()
       else none) else some (.inl r')) = _
     rw [F132_spec, Option.bind_some]
     cases hb : ieq (badE g.N x) 0
     · have hne : badE g.N x ≠ 0 := ieq_f.1 hb
       cases prevOf g.Edges i <;> simp only [gchk, hb, cond_false, sumI]
     · have nx : goI step fin (i + 1) r () = some (sumI (gchk g.N (some x) r)) := by
         have := ih (i + 1) n2 (fun d hd => by rw [n1] at hd; cases hd; exact hb) (.inr (by omega))
         rw [n1] at this; exact this
       rw [cond_true, nx]
       cases i with
       | zero =>
         have : ieq ((0 : Nat) : Int) 0 = true := rfl
         rw [this, cond_true]
         show _ = some (sumI (gchk g.N none (x :: r)))
         rw [gchk, hb]; rfl
       | succ j =>
         obtain ⟨d, p1, p2, p3, p4⟩ := prev_at (l := g.Edges) (i := j + 1) (by omega) hi (by omega)
         have hd := hp d p1
         have : ieq ((j + 1 : Nat) : Int) 0 = false := ieq_f.2 (by omega)
         rw [this, cond_false, p2, p3, cond_true, p4, Option.bind_some, F133_spec K hn hd hb, Option.bind_some, p1, gchk, hb, cond_true]
         have b1 := badE_ok hd
         have b2 := badE_ok hb
         by_cases q1 : d.From = x.From
         · have i1 : ieq d.From x.From = true := ieq_iff.2 q1
           rw [i1, cond_true]
           by_cases q2 : d.To = x.To
           · have o5 : ordE d x = 5 := by simp [ordE, ieq_iff.2 q1, ieq_iff.2 q2]
             have : ieq (d.To - x.To) 0 = true := ieq_iff.2 (by omega)
             rw [this, cond_true, o5]; rfl
           · have : ieq (d.To - x.To) 0 = false := ieq_f.2 (by omega)
             rw [this, cond_false]
             have j2 : ieq d.To x.To = false := ieq_f.2 q2
             by_cases q3 : x.To < d.To
             · have o6 : ordE d x = 6 := by simp [ordE, i1, j2, ilt_iff.2 q3]
               have : ilt 0 (d.To - x.To) = true := ilt_iff.2 (by omega)
               rw [this, cond_true, o6]; rfl
             · have o0 : ordE d x = 0 := by simp [ordE, i1, j2, ilt_f.2 (show d.To ≤ x.To by omega), ilt_f.2 (show d.From ≤ x.From by omega)]
               have : ilt 0 (d.To - x.To) = false := ilt_f.2 (by omega)
               rw [this, cond_false, o0]; rfl
         · have i1 : ieq d.From x.From = false := ieq_f.2 q1
           rw [i1, cond_false]
           have : ieq (d.From - x.From) 0 = false := ieq_f.2 (by omega)
           rw [this, cond_false]
           by_cases q3 : x.From < d.From
           · have o6 : ordE d x = 6 := by simp [ordE, i1, ilt_iff.2 q3]
             have : ilt 0 (d.From - x.From) = true := ilt_iff.2 (by omega)
             rw [this, cond_true, o6]; rfl
           · have o0 : ordE d x = 0 := by simp [ordE, i1, ilt_f.2 (show d.From ≤ x.From by omega)]
             have : ilt 0 (d.From - x.From) = false := ilt_f.2 (by omega)
             rw [this, cond_false, o0]; rfl
 have := hw g.Edges 0 rfl (fun d hd => by cases hd) (.inl rfl)
 rw [List.drop_zero, this] at h
 exact h
theorem sumI_elim (v : Int) : (some (sumI v)).bind (fun y => Sum.elim (fun w => some w) (fun w => some 0) y) = some v := by
 unfold sumI
 cases h : ieq v 0
 · rfl
 · have : v = 0 := ieq_iff.1 h
   subst this; rfl
theorem F64_spec {K : Nat} (hK : 100 ≤ K) (g : GGraph) : F64 K g = some (gcheck g) := by
 rw [F64, gcheck]
 cases ilt g.N 1
 · cases h2 : ilt 24 g.N
   · cases h3 : ilt 80 (nlen (len g.Edges))
     · have hl : g.Edges.length ≤ 80 := by have := ilt_f.1 h3; simp only [nlen, len] at this; omega
       have hn := ilt_f.1 h2
       rw [F64_loop hK g hl hn]
       exact sumI_elim _
     · rfl
   · rfl
 · rfl
theorem F65_loop {K : Nat} (hK : 100 ≤ K) (g : GGraph) (hl : g.Edges.length ≤ 80) : F65_l0_0 K g K 0 = some (sumI (gchk g.N none g.Edges)) := by
 let chk : Nat → GEdge → Option (Int ⊕ Unit) → Option (Int ⊕ Unit) := fun i x c =>
     bif (ilt 0 (i : Int)) then
       (bif (inr (wsub .i64 (i : Int) 1) (len g.Edges)) then
       (elAt g.Edges (wsub .i64 (i : Int) 1)).bind fun d =>
       bif (ieq d.From x.From) then
         (bif (ieq d.To x.To) then (some (.inl 5)) else bif (ilt x.From d.From) then (some (.inl 6)) else bif (ilt x.To d.To) then (some (.inl 6)) else c)
       else bif (ilt x.From d.From) then (some (.inl 6)) else c
       else none)
     else c
 let step : Nat → GEdge → Unit → (Unit → Option (Int ⊕ Unit)) → Option (Int ⊕ Unit) := fun i x _ c =>
     bif (ilt x.From 0) then (some (.inl 4)) else bif (ilt x.To 0) then (some (.inl 4)) else bif (ile g.N x.From) then (some (.inl 4)) else bif (ile g.N x.To) then (some (.inl 4)) else
     bif (ilt x.W 0) then (some (.inl 1)) else bif (ilt 4611686018427387904 x.W) then (some (.inl 1)) else chk i x (c ())
 let fin : Unit → Option (Int ⊕ Unit) := fun _ => some (.inr ())
 have h := scanI (l := g.Edges) (L := fun k (_ : Unit) i => F65_l0_0 K g k i) step fin (fun k st i hi => rfl) (by omega) K () 0 (by omega) (by omega)
 have hstep : ∀ i x c, step i x () c = bif ieq (badE g.N x) 0 then chk i x (c ()) else some (.inl (badE g.N x)) := by
   intro i x c
   show (bif (ilt x.From 0) then (some (.inl 4)) else bif (ilt x.To 0) then (some (.inl 4)) else bif (ile g.N x.From) then (some (.inl 4)) else bif (ile g.N x.To) then (some (.inl 4)) else
     bif (ilt x.W 0) then (some (.inl 1)) else bif (ilt 4611686018427387904 x.W) then (some (.inl 1)) else chk i x (c ())) = _
   rw [badE]
   cases ilt x.From 0 <;> cases ile g.N x.From <;> cases ilt x.To 0 <;> cases ile g.N x.To <;> cases ilt x.W 0 <;> cases ilt 4611686018427387904 x.W <;> rfl
 have hw : ∀ (r : List GEdge) (i : Nat), g.Edges.drop i = r → goI step fin i r () = some (sumI (gchk g.N (prevOf g.Edges i) r)) := by
   intro r
   induction r with
   | nil => intro i _; rfl
   | cons x r ih =>
     intro i hr
     obtain ⟨n1, n2, hi⟩ := prev_next hr
     rw [goI, hstep]
     cases hb : ieq (badE g.N x) 0
     · have hne : badE g.N x ≠ 0 := ieq_f.1 hb
       cases prevOf g.Edges i <;> simp only [gchk, hb, cond_false, sumI]
     · have nx := ih (i + 1) n2
       rw [n1] at nx
       rw [cond_true, nx]
       cases i with
       | zero =>
         show some (sumI (gchk g.N (some x) r)) = some (sumI (gchk g.N none (x :: r)))
         rw [gchk, hb]; rfl
       | succ j =>
         obtain ⟨d, p1, p2, p3, p4⟩ := prev_at (l := g.Edges) (i := j + 1) (by omega) hi (by omega)
         have : ilt 0 ((j + 1 : Nat) : Int) = true := ilt_iff.2 (by omega)
         show (bif (ilt 0 ((j + 1 : Nat) : Int)) then
           (bif (inr (wsub .i64 ((j + 1 : Nat) : Int) 1) (len g.Edges)) then
           (elAt g.Edges (wsub .i64 ((j + 1 : Nat) : Int) 1)).bind fun d =>
           bif (ieq d.From x.From) then
             (bif (ieq d.To x.To) then (some (.inl 5)) else bif (ilt x.From d.From) then (some (.inl 6)) else bif (ilt x.To d.To) then (some (.inl 6)) else some (sumI (gchk g.N (some x) r)))
           else bif (ilt x.From d.From) then (some (.inl 6)) else some (sumI (gchk g.N (some x) r))
           else none)
         else some (sumI (gchk g.N (some x) r))) = _
         rw [this, cond_true, p2, p3, cond_true, p4, Option.bind_some, p1, gchk, hb, cond_true, ordE]
         cases hf : ieq d.From x.From
         · cases ilt x.From d.From <;> rfl
         · have : ilt x.From d.From = false := ilt_f.2 (by have := ieq_iff.1 hf; omega)
           rw [this]
           cases ieq d.To x.To <;> cases ilt x.To d.To <;> rfl
 have := hw g.Edges 0 rfl
 rw [List.drop_zero, this] at h
 exact h
theorem F65_spec {K : Nat} (hK : 100 ≤ K) (g : GGraph) : F65 K g = some (gcheck g) := by
 rw [F65, gcheck]
 cases ilt g.N 1
 · cases h2 : ilt 24 g.N
   · cases h3 : ilt 80 (nlen (len g.Edges))
     · have hl : g.Edges.length ≤ 80 := by have := ilt_f.1 h3; simp only [nlen, len] at this; omega
       rw [F65_loop hK g hl]
       exact sumI_elim _
     · rfl
   · rfl
 · rfl
theorem gcheck_ok {g : GGraph} (h : ieq (gcheck g) 0 = true) : 1 ≤ g.N ∧ g.N ≤ 24 ∧ g.Edges.length ≤ 80 ∧ gchk g.N none g.Edges = 0 := by
 rw [gcheck] at h
 cases h1 : ilt g.N 1 || ilt 24 g.N
 · rw [h1, cond_false] at h
   cases h2 : ilt 80 (nlen (len g.Edges))
   · rw [h2, cond_false] at h
     simp only [Bool.or_eq_false_iff, ilt_f] at h1
     have := ilt_f.1 h2
     simp only [nlen, len] at this
     exact ⟨by omega, by omega, by omega, ieq_iff.1 h⟩
   · rw [h2] at h; cases h
 · rw [h1] at h; cases h
noncomputable def hn59 : Hint := { H 59 with nt := 51, prot := 0 }
def F59_res (r1126 : Int) : Res := ⟨[(.one (.im (.lit (.int .i64 r1126))))], []⟩
def F59 (K : Nat) (a1051 : GGraph) (a1052 : GJob) : Option (Int) :=
 (F65 K a1051).bind fun r1107 =>
 bif (ieq r1107 0) then
  (bif (ilt a1052.Prog 1) then
   (some 1)
  else
  bif (ilt 5 a1052.Prog) then
   (some 1)
  else
  bif (ilt a1052.Source 0) then
   (some 1)
  else
  bif (ile a1051.N a1052.Source) then
   (some 1)
  else
  bif (ilt a1052.Limit 0) then
   (some 1)
  else
  bif (ilt 40 a1052.Limit) then
   (some 1)
  else
  bif (ilt a1052.Parts 1) then
   (some 1)
  else
  bif (ilt 6 a1052.Parts) then
   (some 1)
  else
  some 0)
 else
 some r1107
theorem F59_ok (K : Nat) (a1051 : GGraph) (a1052 : GJob) (r : Int) (hF : F59 K a1051 a1052 = some r) : Evt E H 59 [.agg (eGGraph a1051), .agg (eGJob a1052)] (F59_res r) := by
 rw [F59] at hF
 refine bind_some hF (fun r1107 h1108 hF => ?_)
 refine cond_some hF (fun h1109 hF => ?_) (fun h1109 hF => ?_)
 ·
  have pq1118 : ∀ {l : List Cond}, HoldAll E H hn59 l → HoldAll E H hn59 (.call 65 [.agg (eGGraph a1051)] (F65_res r1107) :: .test (leadsAny (Res.mk [(.one (.im (.lit (.int .i64 r1107))))] [])) false :: .test (ine r1107 0) false :: l) := fun z => ⟨(F65_ok K a1051 _ h1108), (leads_ok (by simp [leadsAny, RV.leads, RC.leads, leadsT, hasSl_lit])), (ine_t h1109), z⟩
  refine cond_some hF (fun h1110 hF => ?_) (fun h1110 hF => ?_)
  ·
   obtain rfl := Option.some.inj hF
   have pz : HoldAll E H hn59 [.test (beqb (ilt a1052.Prog 1) false) false, .test (beqb (ilt a1052.Prog 1) false) false, .test (beqb (ilt a1052.Prog 1) false) false, .test (ilt a1052.Prog 1) true, .test (beqb true false) false, .test (beqb true false) false, .test (beqb true false) false, .test true true, .test (beqb true false) false, .test (beqb true false) false, .test (beqb true false) false, .test (beqb true false) false, .test (beqb true false) false, .test true true, .test (beqb true false) false, .test (beqb true false) false, .test (beqb true false) false, .test true true, .test (beqb true false) false, .test (beqb true false) false, .test (beqb true false) false, .test true true, .test (beqb true false) false, .test (beqb true false) false, .test (beqb true false) false, .test true true, .test (beqb true false) false, .test (beqb true false) false, .test (beqb true false) false, .test true true, .test true true] := ⟨(beqb_ft h1110), (beqb_ft h1110), (beqb_ft h1110), h1110, (beqb_ft rfl), (beqb_ft rfl), (beqb_ft rfl), rfl, (beqb_ft rfl), (beqb_ft rfl), (beqb_ft rfl), (beqb_ft rfl), (beqb_ft rfl), rfl, (beqb_ft rfl), (beqb_ft rfl), (beqb_ft rfl), rfl, (beqb_ft rfl), (beqb_ft rfl), (beqb_ft rfl), rfl, (beqb_ft rfl), (beqb_ft rfl), (beqb_ft rfl), rfl, (beqb_ft rfl), (beqb_ft rfl), (beqb_ft rfl), rfl, rfl, trivial⟩
   exact fn_playC hn59 (r := F59_res 1) (pq1118 pz) (by kernel_rfl) (by kernel_rfl)
  have pq1119 : ∀ {l : List Cond}, HoldAll E H hn59 l → HoldAll E H hn59 (.test (beqb (ilt a1052.Prog 1) false) true :: .test (beqb (ilt a1052.Prog 1) false) true :: .test (beqb (ilt a1052.Prog 1) false) true :: .test (ilt a1052.Prog 1) false :: l) := fun z => ⟨(beqb_ff h1110), (beqb_ff h1110), (beqb_ff h1110), h1110, z⟩
  refine cond_some hF (fun h1111 hF => ?_) (fun h1111 hF => ?_)
  ·
   obtain rfl := Option.some.inj hF
   have pz : HoldAll E H hn59 [.test (beqb (igt a1052.Prog 5) false) false, .test (beqb (igt a1052.Prog 5) false) false, .test (beqb (igt a1052.Prog 5) false) false, .test (igt a1052.Prog 5) true, .test (beqb true false) false, .test (beqb true false) false, .test (beqb true false) false, .test (beqb true false) false, .test (beqb true false) false, .test true true, .test (beqb true false) false, .test (beqb true false) false, .test (beqb true false) false, .test true true, .test (beqb true false) false, .test (beqb true false) false, .test (beqb true false) false, .test true true, .test (beqb true false) false, .test (beqb true false) false, .test (beqb true false) false, .test true true, .test (beqb true false) false, .test (beqb true false) false, .test (beqb true false) false, .test true true, .test true true] := ⟨(beqb_ft (igt_eq h1111)), (beqb_ft (igt_eq h1111)), (beqb_ft (igt_eq h1111)), (igt_eq h1111), (beqb_ft rfl), (beqb_ft rfl), (beqb_ft rfl), (beqb_ft rfl), (beqb_ft rfl), rfl, (beqb_ft rfl), (beqb_ft rfl), (beqb_ft rfl), rfl, (beqb_ft rfl), (beqb_ft rfl), (beqb_ft rfl), rfl, (beqb_ft rfl), (beqb_ft rfl), (beqb_ft rfl), rfl, (beqb_ft rfl), (beqb_ft rfl), (beqb_ft rfl), rfl, rfl, trivial⟩
   exact fn_playC hn59 (r := F59_res 1) (pq1118 (pq1119 pz)) (by kernel_rfl) (by kernel_rfl)
  have pq1120 : ∀ {l : List Cond}, HoldAll E H hn59 l → HoldAll E H hn59 (.test (beqb (igt a1052.Prog 5) false) true :: .test (beqb (igt a1052.Prog 5) false) true :: .test (beqb (igt a1052.Prog 5) false) true :: .test (igt a1052.Prog 5) false :: l) := fun z => ⟨(beqb_ff (igt_eq h1111)), (beqb_ff (igt_eq h1111)), (beqb_ff (igt_eq h1111)), (igt_eq h1111), z⟩
  refine cond_some hF (fun h1112 hF => ?_) (fun h1112 hF => ?_)
  ·
   obtain rfl := Option.some.inj hF
   have pz : HoldAll E H hn59 [.test (beqb (ilt a1052.Source 0) false) false, .test (beqb (ilt a1052.Source 0) false) false, .test (beqb (ilt a1052.Source 0) false) false, .test (beqb (ilt a1052.Source 0) false) false, .test (beqb (ilt a1052.Source 0) false) false, .test (ilt a1052.Source 0) true, .test (beqb true false) false, .test (beqb true false) false, .test (beqb true false) false, .test true true, .test (beqb true false) false, .test (beqb true false) false, .test (beqb true false) false, .test true true, .test (beqb true false) false, .test (beqb true false) false, .test (beqb true false) false, .test true true, .test (beqb true false) false, .test (beqb true false) false, .test (beqb true false) false, .test true true, .test true true] := ⟨(beqb_ft h1112), (beqb_ft h1112), (beqb_ft h1112), (beqb_ft h1112), (beqb_ft h1112), h1112, (beqb_ft rfl), (beqb_ft rfl), (beqb_ft rfl), rfl, (beqb_ft rfl), (beqb_ft rfl), (beqb_ft rfl), rfl, (beqb_ft rfl), (beqb_ft rfl), (beqb_ft rfl), rfl, (beqb_ft rfl), (beqb_ft rfl), (beqb_ft rfl), rfl, rfl, trivial⟩
   exact fn_playC hn59 (r := F59_res 1) (pq1118 (pq1119 (pq1120 pz))) (by kernel_rfl) (by kernel_rfl)
  have pq1121 : ∀ {l : List Cond}, HoldAll E H hn59 l → HoldAll E H hn59 (.test (beqb (ilt a1052.Source 0) false) true :: .test (beqb (ilt a1052.Source 0) false) true :: .test (beqb (ilt a1052.Source 0) false) true :: .test (beqb (ilt a1052.Source 0) false) true :: .test (beqb (ilt a1052.Source 0) false) true :: .test (ilt a1052.Source 0) false :: l) := fun z => ⟨(beqb_ff h1112), (beqb_ff h1112), (beqb_ff h1112), (beqb_ff h1112), (beqb_ff h1112), h1112, z⟩
  refine cond_some hF (fun h1113 hF => ?_) (fun h1113 hF => ?_)
  ·
   obtain rfl := Option.some.inj hF
   have pz : HoldAll E H hn59 [.test (beqb (ige a1052.Source a1051.N) false) false, .test (beqb (ige a1052.Source a1051.N) false) false, .test (beqb (ige a1052.Source a1051.N) false) false, .test (ige a1052.Source a1051.N) true, .test (beqb true false) false, .test (beqb true false) false, .test (beqb true false) false, .test true true, .test (beqb true false) false, .test (beqb true false) false, .test (beqb true false) false, .test true true, .test (beqb true false) false, .test (beqb true false) false, .test (beqb true false) false, .test true true, .test true true] := ⟨(beqb_ft (ige_eq h1113)), (beqb_ft (ige_eq h1113)), (beqb_ft (ige_eq h1113)), (ige_eq h1113), (beqb_ft rfl), (beqb_ft rfl), (beqb_ft rfl), rfl, (beqb_ft rfl), (beqb_ft rfl), (beqb_ft rfl), rfl, (beqb_ft rfl), (beqb_ft rfl), (beqb_ft rfl), rfl, rfl, trivial⟩
   exact fn_playC hn59 (r := F59_res 1) (pq1118 (pq1119 (pq1120 (pq1121 pz)))) (by kernel_rfl) (by kernel_rfl)
  have pq1122 : ∀ {l : List Cond}, HoldAll E H hn59 l → HoldAll E H hn59 (.test (beqb (ige a1052.Source a1051.N) false) true :: .test (beqb (ige a1052.Source a1051.N) false) true :: .test (beqb (ige a1052.Source a1051.N) false) true :: .test (ige a1052.Source a1051.N) false :: l) := fun z => ⟨(beqb_ff (ige_eq h1113)), (beqb_ff (ige_eq h1113)), (beqb_ff (ige_eq h1113)), (ige_eq h1113), z⟩
  refine cond_some hF (fun h1114 hF => ?_) (fun h1114 hF => ?_)
  ·
   obtain rfl := Option.some.inj hF
   have pz : HoldAll E H hn59 [.test (beqb (ilt a1052.Limit 0) false) false, .test (beqb (ilt a1052.Limit 0) false) false, .test (beqb (ilt a1052.Limit 0) false) false, .test (ilt a1052.Limit 0) true, .test (beqb true false) false, .test (beqb true false) false, .test (beqb true false) false, .test true true, .test (beqb true false) false, .test (beqb true false) false, .test (beqb true false) false, .test true true, .test true true] := ⟨(beqb_ft h1114), (beqb_ft h1114), (beqb_ft h1114), h1114, (beqb_ft rfl), (beqb_ft rfl), (beqb_ft rfl), rfl, (beqb_ft rfl), (beqb_ft rfl), (beqb_ft rfl), rfl, rfl, trivial⟩
   exact fn_playC hn59 (r := F59_res 1) (pq1118 (pq1119 (pq1120 (pq1121 (pq1122 pz))))) (by kernel_rfl) (by kernel_rfl)
  have pq1123 : ∀ {l : List Cond}, HoldAll E H hn59 l → HoldAll E H hn59 (.test (beqb (ilt a1052.Limit 0) false) true :: .test (beqb (ilt a1052.Limit 0) false) true :: .test (beqb (ilt a1052.Limit 0) false) true :: .test (ilt a1052.Limit 0) false :: l) := fun z => ⟨(beqb_ff h1114), (beqb_ff h1114), (beqb_ff h1114), h1114, z⟩
  refine cond_some hF (fun h1115 hF => ?_) (fun h1115 hF => ?_)
  ·
   obtain rfl := Option.some.inj hF
   have pz : HoldAll E H hn59 [.test (beqb (igt a1052.Limit 40) false) false, .test (beqb (igt a1052.Limit 40) false) false, .test (beqb (igt a1052.Limit 40) false) false, .test (igt a1052.Limit 40) true, .test (beqb true false) false, .test (beqb true false) false, .test (beqb true false) false, .test true true, .test true true] := ⟨(beqb_ft (igt_eq h1115)), (beqb_ft (igt_eq h1115)), (beqb_ft (igt_eq h1115)), (igt_eq h1115), (beqb_ft rfl), (beqb_ft rfl), (beqb_ft rfl), rfl, rfl, trivial⟩
   exact fn_playC hn59 (r := F59_res 1) (pq1118 (pq1119 (pq1120 (pq1121 (pq1122 (pq1123 pz)))))) (by kernel_rfl) (by kernel_rfl)
  have pq1124 : ∀ {l : List Cond}, HoldAll E H hn59 l → HoldAll E H hn59 (.test (beqb (igt a1052.Limit 40) false) true :: .test (beqb (igt a1052.Limit 40) false) true :: .test (beqb (igt a1052.Limit 40) false) true :: .test (igt a1052.Limit 40) false :: l) := fun z => ⟨(beqb_ff (igt_eq h1115)), (beqb_ff (igt_eq h1115)), (beqb_ff (igt_eq h1115)), (igt_eq h1115), z⟩
  refine cond_some hF (fun h1116 hF => ?_) (fun h1116 hF => ?_)
  ·
   obtain rfl := Option.some.inj hF
   have pz : HoldAll E H hn59 [.test (beqb (ilt a1052.Parts 1) false) false, .test (beqb (ilt a1052.Parts 1) false) false, .test (beqb (ilt a1052.Parts 1) false) false, .test (ilt a1052.Parts 1) true, .test true true] := ⟨(beqb_ft h1116), (beqb_ft h1116), (beqb_ft h1116), h1116, rfl, trivial⟩
   exact fn_playC hn59 (r := F59_res 1) (pq1118 (pq1119 (pq1120 (pq1121 (pq1122 (pq1123 (pq1124 pz))))))) (by kernel_rfl) (by kernel_rfl)
  have pq1125 : ∀ {l : List Cond}, HoldAll E H hn59 l → HoldAll E H hn59 (.test (beqb (ilt a1052.Parts 1) false) true :: .test (beqb (ilt a1052.Parts 1) false) true :: .test (beqb (ilt a1052.Parts 1) false) true :: .test (ilt a1052.Parts 1) false :: l) := fun z => ⟨(beqb_ff h1116), (beqb_ff h1116), (beqb_ff h1116), h1116, z⟩
  refine cond_some hF (fun h1117 hF => ?_) (fun h1117 hF => ?_)
  ·
   obtain rfl := Option.some.inj hF
   have pz : HoldAll E H hn59 [.test (igt a1052.Parts 6) true] := ⟨(igt_eq h1117), trivial⟩
   exact fn_playC hn59 (r := F59_res 1) (pq1118 (pq1119 (pq1120 (pq1121 (pq1122 (pq1123 (pq1124 (pq1125 pz)))))))) (by kernel_rfl) (by kernel_rfl)
  obtain rfl := Option.some.inj hF
  have pz : HoldAll E H hn59 [.test (igt a1052.Parts 6) false] := ⟨(igt_eq h1117), trivial⟩
  exact fn_playC hn59 (r := F59_res 0) (pq1118 (pq1119 (pq1120 (pq1121 (pq1122 (pq1123 (pq1124 (pq1125 pz)))))))) (by kernel_rfl) (by kernel_rfl)
 obtain rfl := Option.some.inj hF
 have pz : HoldAll E H hn59 [.call 65 [.agg (eGGraph a1051)] (F65_res r1107), .test (leadsAny (Res.mk [(.one (.im (.lit (.int .i64 r1107))))] [])) false, .test (ine r1107 0) true] := ⟨(F65_ok K a1051 _ h1108), (leads_ok (by simp [leadsAny, RV.leads, RC.leads, leadsT, hasSl_lit])), (ine_f h1109), trivial⟩
 exact fn_playC hn59 (r := F59_res r1107) pz (by kernel_rfl) (by kernel_rfl)
noncomputable def hn143 : Hint := { H 143 with nt := 21, prot := 0 }
def F143_res (r3142 : Grule × Bool) : Res := ⟨[(.agg [(.im (.lit r3142.1.start_)), (.im (.lit r3142.1.better_)), (.im (.lit (.bool r3142.1.only_))), (.im (.lit r3142.1.send_))]), (.one (.im (.lit (.bool r3142.2))))], []⟩
def F143_res0 (r3142 : Grule × Bool) : Res := ⟨[(.agg [(.im (.lit (fnV 158))), (.im (.lit (fnV 159))), (.im (.lit (.bool r3142.1.only_))), (.im (.lit (fnV 160)))]), (.one (.im (.lit (.bool r3142.2))))], []⟩
def F143_res1 (r3142 : Grule × Bool) : Res := ⟨[(.agg [(.im (.lit (fnV 158))), (.im (.lit (fnV 159))), (.im (.lit (.bool r3142.1.only_))), (.im (.lit (fnV 161)))]), (.one (.im (.lit (.bool r3142.2))))], []⟩
def F143_res2 (r3142 : Grule × Bool) : Res := ⟨[(.agg [(.im (.lit (fnV 162))), (.im (.lit (fnV 159))), (.im (.lit (.bool r3142.1.only_))), (.im (.lit (fnV 163)))]), (.one (.im (.lit (.bool r3142.2))))], []⟩
def F143_res3 (r3142 : Grule × Bool) : Res := ⟨[(.agg [(.im (.lit (fnV 164))), (.im (.lit (fnV 165))), (.im (.lit (.bool r3142.1.only_))), (.im (.lit (fnV 163)))]), (.one (.im (.lit (.bool r3142.2))))], []⟩
def F143_res4 (r3142 : Grule × Bool) : Res := ⟨[(.agg [(.im (.lit (fnV 166))), (.im (.lit .nilFunc)), (.im (.lit (.bool r3142.1.only_))), (.im (.lit (fnV 163)))]), (.one (.im (.lit (.bool r3142.2))))], []⟩
def F143_res5 (r3142 : Grule × Bool) : Res := ⟨[(.agg [(.im (.lit .nilFunc)), (.im (.lit .nilFunc)), (.im (.lit (.bool r3142.1.only_))), (.im (.lit .nilFunc))]), (.one (.im (.lit (.bool r3142.2))))], []⟩
def F143 (K : Nat) (a3135 : Int) : Option (Grule × Bool) :=
 bif (ieq a3135 1) then
  (some ((Grule.mk (fnV 158) (fnV 159) true (fnV 160)), true))
 else
 bif (ieq a3135 3) then
  (some ((Grule.mk (fnV 158) (fnV 159) true (fnV 161)), true))
 else
 bif (ieq a3135 2) then
  (some ((Grule.mk (fnV 162) (fnV 159) false (fnV 163)), true))
 else
 bif (ieq a3135 4) then
  (some ((Grule.mk (fnV 164) (fnV 165) false (fnV 163)), true))
 else
 bif (ieq a3135 5) then
  (some ((Grule.mk (fnV 166) .nilFunc false (fnV 163)), true))
 else
 some ((Grule.mk .nilFunc .nilFunc false .nilFunc), false)
theorem F143_ok (K : Nat) (a3135 : Int) (r : Grule × Bool) (hF : F143 K a3135 = some r) : Evt E H 143 [.one (.lit (.int .i64 a3135))] (F143_res r) := by
 rw [F143] at hF
 refine cond_some hF (fun h3136 hF => ?_) (fun h3136 hF => ?_)
 ·
  obtain rfl := Option.some.inj hF
  have pz : HoldAll E H hn143 [.test (ieq a3135 1) true] := ⟨h3136, trivial⟩
  exact fn_playC hn143 (r := F143_res ((Grule.mk (fnV 158) (fnV 159) true (fnV 160)), true)) pz (by kernel_rfl) (by kernel_rfl)
 refine cond_some hF (fun h3137 hF => ?_) (fun h3137 hF => ?_)
 ·
  obtain rfl := Option.some.inj hF
  have pz : HoldAll E H hn143 [.test (ieq a3135 1) false, .test (ieq a3135 3) true] := ⟨h3136, h3137, trivial⟩
  exact fn_playC hn143 (r := F143_res ((Grule.mk (fnV 158) (fnV 159) true (fnV 161)), true)) pz (by kernel_rfl) (by kernel_rfl)
 refine cond_some hF (fun h3138 hF => ?_) (fun h3138 hF => ?_)
 ·
  obtain rfl := Option.some.inj hF
  have pz : HoldAll E H hn143 [.test (ieq a3135 1) false, .test (ieq a3135 3) false, .test (ieq a3135 2) true] := ⟨h3136, h3137, h3138, trivial⟩
  exact fn_playC hn143 (r := F143_res ((Grule.mk (fnV 162) (fnV 159) false (fnV 163)), true)) pz (by kernel_rfl) (by kernel_rfl)
 have pq3141 : ∀ {l : List Cond}, HoldAll E H hn143 l → HoldAll E H hn143 (.test (ieq a3135 1) false :: .test (ieq a3135 3) false :: .test (ieq a3135 2) false :: l) := fun z => ⟨h3136, h3137, h3138, z⟩
 refine cond_some hF (fun h3139 hF => ?_) (fun h3139 hF => ?_)
 ·
  obtain rfl := Option.some.inj hF
  have pz : HoldAll E H hn143 [.test (ieq a3135 4) true] := ⟨h3139, trivial⟩
  exact fn_playC hn143 (r := F143_res ((Grule.mk (fnV 164) (fnV 165) false (fnV 163)), true)) (pq3141 pz) (by kernel_rfl) (by kernel_rfl)
 refine cond_some hF (fun h3140 hF => ?_) (fun h3140 hF => ?_)
 ·
  obtain rfl := Option.some.inj hF
  have pz : HoldAll E H hn143 [.test (ieq a3135 4) false, .test (ieq a3135 5) true] := ⟨h3139, h3140, trivial⟩
  exact fn_playC hn143 (r := F143_res ((Grule.mk (fnV 166) .nilFunc false (fnV 163)), true)) (pq3141 pz) (by kernel_rfl) (by kernel_rfl)
 obtain rfl := Option.some.inj hF
 have pz : HoldAll E H hn143 [.test (ieq a3135 4) false, .test (ieq a3135 5) false] := ⟨h3139, h3140, trivial⟩
 exact fn_playC hn143 (r := F143_res ((Grule.mk .nilFunc .nilFunc false .nilFunc), false)) (pq3141 pz) (by kernel_rfl) (by kernel_rfl)
theorem F143_ok0 {ads : List AD} (r3142 : Grule × Bool) (e : areFns [r3142.1.start_, r3142.1.better_, r3142.1.send_] [158, 159, 160] = true) (h : Evt E H 143 ads (F143_res r3142)) : Evt E H 143 ads (F143_res0 r3142) := by
 obtain ⟨q0, e⟩ := areFns_cons e
 obtain ⟨q1, e⟩ := areFns_cons e
 obtain ⟨q2, e⟩ := areFns_cons e
 unfold F143_res at h
 rw [q0, q1, q2] at h
 exact h
theorem F143_ok1 {ads : List AD} (r3142 : Grule × Bool) (e : areFns [r3142.1.start_, r3142.1.better_, r3142.1.send_] [158, 159, 161] = true) (h : Evt E H 143 ads (F143_res r3142)) : Evt E H 143 ads (F143_res1 r3142) := by
 obtain ⟨q0, e⟩ := areFns_cons e
 obtain ⟨q1, e⟩ := areFns_cons e
 obtain ⟨q2, e⟩ := areFns_cons e
 unfold F143_res at h
 rw [q0, q1, q2] at h
 exact h
theorem F143_ok2 {ads : List AD} (r3142 : Grule × Bool) (e : areFns [r3142.1.start_, r3142.1.better_, r3142.1.send_] [162, 159, 163] = true) (h : Evt E H 143 ads (F143_res r3142)) : Evt E H 143 ads (F143_res2 r3142) := by
 obtain ⟨q0, e⟩ := areFns_cons e
 obtain ⟨q1, e⟩ := areFns_cons e
 obtain ⟨q2, e⟩ := areFns_cons e
 unfold F143_res at h
 rw [q0, q1, q2] at h
 exact h
theorem F143_ok3 {ads : List AD} (r3142 : Grule × Bool) (e : areFns [r3142.1.start_, r3142.1.better_, r3142.1.send_] [164, 165, 163] = true) (h : Evt E H 143 ads (F143_res r3142)) : Evt E H 143 ads (F143_res3 r3142) := by
 obtain ⟨q0, e⟩ := areFns_cons e
 obtain ⟨q1, e⟩ := areFns_cons e
 obtain ⟨q2, e⟩ := areFns_cons e
 unfold F143_res at h
 rw [q0, q1, q2] at h
 exact h
theorem F143_ok4 {ads : List AD} (r3142 : Grule × Bool) (e : areFns [r3142.1.start_, r3142.1.better_, r3142.1.send_] [166, 0, 163] = true) (h : Evt E H 143 ads (F143_res r3142)) : Evt E H 143 ads (F143_res4 r3142) := by
 obtain ⟨q0, e⟩ := areFns_cons e
 obtain ⟨q1, e⟩ := areFns_cons e
 obtain ⟨q2, e⟩ := areFns_cons e
 unfold F143_res at h
 rw [q0, q1, q2] at h
 exact h
theorem F143_ok5 {ads : List AD} (r3142 : Grule × Bool) (e : areFns [r3142.1.start_, r3142.1.better_, r3142.1.send_] [0, 0, 0] = true) (h : Evt E H 143 ads (F143_res r3142)) : Evt E H 143 ads (F143_res5 r3142) := by
 obtain ⟨q0, e⟩ := areFns_cons e
 obtain ⟨q1, e⟩ := areFns_cons e
 obtain ⟨q2, e⟩ := areFns_cons e
 unfold F143_res at h
 rw [q0, q1, q2] at h
 exact h
noncomputable def hn94 : Hint := { H 94 with nt := 53, prot := 0 }
def F94_res (r3230 : Int) : Res := ⟨[(.one (.im (.lit (.int .i64 r3230))))], []⟩
def F94 (K : Nat) (a3130 : GGraph) (a3131 : GJob) : Option (Int) :=
 (F64 K a3130).bind fun r3132 =>
 bif (ieq r3132 0) then
  ((F143 K a3131.Prog).bind fun r3143 =>
  bif (areFns [r3143.1.start_, r3143.1.better_, r3143.1.send_] [158, 159, 160]) then
   (bif r3143.2 then
    (bif (ilt a3131.Source 0) then
     (some 1)
    else
    bif (ile a3130.N a3131.Source) then
     (some 1)
    else
    bif (ilt a3131.Limit 0) then
     (some 1)
    else
    bif (ilt 40 a3131.Limit) then
     (some 1)
    else
    bif (ilt a3131.Parts 1) then
     (some 1)
    else
    bif (ilt 6 a3131.Parts) then
     (some 1)
    else
    some 0)
   else
   some 1)
  else
  bif (areFns [r3143.1.start_, r3143.1.better_, r3143.1.send_] [158, 159, 161]) then
   (bif r3143.2 then
    (bif (ilt a3131.Source 0) then
     (some 1)
    else
    bif (ile a3130.N a3131.Source) then
     (some 1)
    else
    bif (ilt a3131.Limit 0) then
     (some 1)
    else
    bif (ilt 40 a3131.Limit) then
     (some 1)
    else
    bif (ilt a3131.Parts 1) then
     (some 1)
    else
    bif (ilt 6 a3131.Parts) then
     (some 1)
    else
    some 0)
   else
   some 1)
  else
  bif (areFns [r3143.1.start_, r3143.1.better_, r3143.1.send_] [162, 159, 163]) then
   (bif r3143.2 then
    (bif (ilt a3131.Source 0) then
     (some 1)
    else
    bif (ile a3130.N a3131.Source) then
     (some 1)
    else
    bif (ilt a3131.Limit 0) then
     (some 1)
    else
    bif (ilt 40 a3131.Limit) then
     (some 1)
    else
    bif (ilt a3131.Parts 1) then
     (some 1)
    else
    bif (ilt 6 a3131.Parts) then
     (some 1)
    else
    some 0)
   else
   some 1)
  else
  bif (areFns [r3143.1.start_, r3143.1.better_, r3143.1.send_] [164, 165, 163]) then
   (bif r3143.2 then
    (bif (ilt a3131.Source 0) then
     (some 1)
    else
    bif (ile a3130.N a3131.Source) then
     (some 1)
    else
    bif (ilt a3131.Limit 0) then
     (some 1)
    else
    bif (ilt 40 a3131.Limit) then
     (some 1)
    else
    bif (ilt a3131.Parts 1) then
     (some 1)
    else
    bif (ilt 6 a3131.Parts) then
     (some 1)
    else
    some 0)
   else
   some 1)
  else
  bif (areFns [r3143.1.start_, r3143.1.better_, r3143.1.send_] [166, 0, 163]) then
   (bif r3143.2 then
    (bif (ilt a3131.Source 0) then
     (some 1)
    else
    bif (ile a3130.N a3131.Source) then
     (some 1)
    else
    bif (ilt a3131.Limit 0) then
     (some 1)
    else
    bif (ilt 40 a3131.Limit) then
     (some 1)
    else
    bif (ilt a3131.Parts 1) then
     (some 1)
    else
    bif (ilt 6 a3131.Parts) then
     (some 1)
    else
    some 0)
   else
   some 1)
  else
  bif (areFns [r3143.1.start_, r3143.1.better_, r3143.1.send_] [0, 0, 0]) then
  bif r3143.2 then
   (bif (ilt a3131.Source 0) then
    (some 1)
   else
   bif (ile a3130.N a3131.Source) then
    (some 1)
   else
   bif (ilt a3131.Limit 0) then
    (some 1)
   else
   bif (ilt 40 a3131.Limit) then
    (some 1)
   else
   bif (ilt a3131.Parts 1) then
    (some 1)
   else
   bif (ilt 6 a3131.Parts) then
    (some 1)
   else
   some 0)
  else
  some 1
  else none)
 else
 some r3132
theorem F94_ok (K : Nat) (a3130 : GGraph) (a3131 : GJob) (r : Int) (hF : F94 K a3130 a3131 = some r) : Evt E H 94 [.agg (eGGraph a3130), .agg (eGJob a3131)] (F94_res r) := by
 rw [F94] at hF
 refine bind_some hF (fun r3132 h3133 hF => ?_)
 refine cond_some hF (fun h3134 hF => ?_) (fun h3134 hF => ?_)
 ·
  refine bind_some hF (fun r3143 h3144 hF => ?_)
  have pq3193 : ∀ {l : List Cond}, HoldAll E H hn94 l → HoldAll E H hn94 (.call 64 [.agg (eGGraph a3130)] (F64_res r3132) :: .test (leadsAny (Res.mk [(.one (.im (.lit (.int .i64 r3132))))] [])) false :: .test (ine r3132 0) false :: l) := fun z => ⟨(F64_ok K a3130 _ h3133), (leads_ok (by simp [leadsAny, RV.leads, RC.leads, leadsT, hasSl_lit])), (ine_t h3134), z⟩
  refine cond_some hF (fun h3145 hF => ?_) (fun h3145 hF => ?_)
  ·
   refine cond_some hF (fun h3146 hF => ?_) (fun h3146 hF => ?_)
   ·
    have pq3194 : ∀ {l : List Cond}, HoldAll E H hn94 l → HoldAll E H hn94 (.call 143 [.one (.lit (.int .i64 a3131.Prog))] (F143_res0 r3143) :: .test (leadsAny (Res.mk [(.agg [(.im (.lit (fnV 158))), (.im (.lit (fnV 159))), (.im (.lit (.bool r3143.1.only_))), (.im (.lit (fnV 160)))]), (.one (.im (.lit (.bool r3143.2))))] [])) false :: .test (beqb (bnot r3143.2) false) true :: .test (beqb (bnot r3143.2) false) true :: .test (beqb (bnot r3143.2) false) true :: .test (bnot r3143.2) false :: l) := fun z => ⟨(F143_ok0 _ h3145 (F143_ok K a3131.Prog _ h3144)), (leads_ok (by simp [leadsAny, RV.leads, RC.leads, leadsT, hasSl_lit])), (beqb_ff (bnot_t h3146)), (beqb_ff (bnot_t h3146)), (beqb_ff (bnot_t h3146)), (bnot_t h3146), z⟩
    refine cond_some hF (fun h3147 hF => ?_) (fun h3147 hF => ?_)
    ·
     obtain rfl := Option.some.inj hF
     have pz : HoldAll E H hn94 [.test (beqb (ilt a3131.Source 0) false) false, .test (beqb (ilt a3131.Source 0) false) false, .test (beqb (ilt a3131.Source 0) false) false, .test (beqb (ilt a3131.Source 0) false) false, .test (beqb (ilt a3131.Source 0) false) false, .test (ilt a3131.Source 0) true, .test (beqb true false) false, .test (beqb true false) false, .test (beqb true false) false, .test true true, .test (beqb true false) false, .test (beqb true false) false, .test (beqb true false) false, .test true true, .test (beqb true false) false, .test (beqb true false) false, .test (beqb true false) false, .test true true, .test (beqb true false) false, .test (beqb true false) false, .test (beqb true false) false, .test true true, .test true true] := ⟨(beqb_ft h3147), (beqb_ft h3147), (beqb_ft h3147), (beqb_ft h3147), (beqb_ft h3147), h3147, (beqb_ft rfl), (beqb_ft rfl), (beqb_ft rfl), rfl, (beqb_ft rfl), (beqb_ft rfl), (beqb_ft rfl), rfl, (beqb_ft rfl), (beqb_ft rfl), (beqb_ft rfl), rfl, (beqb_ft rfl), (beqb_ft rfl), (beqb_ft rfl), rfl, rfl, trivial⟩
     exact fn_playC hn94 (r := F94_res 1) (pq3193 (pq3194 pz)) (by kernel_rfl) (by kernel_rfl)
    have pq3195 : ∀ {l : List Cond}, HoldAll E H hn94 l → HoldAll E H hn94 (.test (beqb (ilt a3131.Source 0) false) true :: .test (beqb (ilt a3131.Source 0) false) true :: .test (beqb (ilt a3131.Source 0) false) true :: .test (beqb (ilt a3131.Source 0) false) true :: .test (beqb (ilt a3131.Source 0) false) true :: .test (ilt a3131.Source 0) false :: l) := fun z => ⟨(beqb_ff h3147), (beqb_ff h3147), (beqb_ff h3147), (beqb_ff h3147), (beqb_ff h3147), h3147, z⟩
    refine cond_some hF (fun h3148 hF => ?_) (fun h3148 hF => ?_)
    ·
     obtain rfl := Option.some.inj hF
     have pz : HoldAll E H hn94 [.test (beqb (ige a3131.Source a3130.N) false) false, .test (beqb (ige a3131.Source a3130.N) false) false, .test (beqb (ige a3131.Source a3130.N) false) false, .test (ige a3131.Source a3130.N) true, .test (beqb true false) false, .test (beqb true false) false, .test (beqb true false) false, .test true true, .test (beqb true false) false, .test (beqb true false) false, .test (beqb true false) false, .test true true, .test (beqb true false) false, .test (beqb true false) false, .test (beqb true false) false, .test true true, .test true true] := ⟨(beqb_ft (ige_eq h3148)), (beqb_ft (ige_eq h3148)), (beqb_ft (ige_eq h3148)), (ige_eq h3148), (beqb_ft rfl), (beqb_ft rfl), (beqb_ft rfl), rfl, (beqb_ft rfl), (beqb_ft rfl), (beqb_ft rfl), rfl, (beqb_ft rfl), (beqb_ft rfl), (beqb_ft rfl), rfl, rfl, trivial⟩
     exact fn_playC hn94 (r := F94_res 1) (pq3193 (pq3194 (pq3195 pz))) (by kernel_rfl) (by kernel_rfl)
    have pq3196 : ∀ {l : List Cond}, HoldAll E H hn94 l → HoldAll E H hn94 (.test (beqb (ige a3131.Source a3130.N) false) true :: .test (beqb (ige a3131.Source a3130.N) false) true :: .test (beqb (ige a3131.Source a3130.N) false) true :: .test (ige a3131.Source a3130.N) false :: l) := fun z => ⟨(beqb_ff (ige_eq h3148)), (beqb_ff (ige_eq h3148)), (beqb_ff (ige_eq h3148)), (ige_eq h3148), z⟩
    refine cond_some hF (fun h3149 hF => ?_) (fun h3149 hF => ?_)
    ·
     obtain rfl := Option.some.inj hF
     have pz : HoldAll E H hn94 [.test (beqb (ilt a3131.Limit 0) false) false, .test (beqb (ilt a3131.Limit 0) false) false, .test (beqb (ilt a3131.Limit 0) false) false, .test (ilt a3131.Limit 0) true, .test (beqb true false) false, .test (beqb true false) false, .test (beqb true false) false, .test true true, .test (beqb true false) false, .test (beqb true false) false, .test (beqb true false) false, .test true true, .test true true] := ⟨(beqb_ft h3149), (beqb_ft h3149), (beqb_ft h3149), h3149, (beqb_ft rfl), (beqb_ft rfl), (beqb_ft rfl), rfl, (beqb_ft rfl), (beqb_ft rfl), (beqb_ft rfl), rfl, rfl, trivial⟩
     exact fn_playC hn94 (r := F94_res 1) (pq3193 (pq3194 (pq3195 (pq3196 pz)))) (by kernel_rfl) (by kernel_rfl)
    have pq3197 : ∀ {l : List Cond}, HoldAll E H hn94 l → HoldAll E H hn94 (.test (beqb (ilt a3131.Limit 0) false) true :: .test (beqb (ilt a3131.Limit 0) false) true :: .test (beqb (ilt a3131.Limit 0) false) true :: .test (ilt a3131.Limit 0) false :: l) := fun z => ⟨(beqb_ff h3149), (beqb_ff h3149), (beqb_ff h3149), h3149, z⟩
    refine cond_some hF (fun h3150 hF => ?_) (fun h3150 hF => ?_)
    ·
     obtain rfl := Option.some.inj hF
     have pz : HoldAll E H hn94 [.test (beqb (igt a3131.Limit 40) false) false, .test (beqb (igt a3131.Limit 40) false) false, .test (beqb (igt a3131.Limit 40) false) false, .test (igt a3131.Limit 40) true, .test (beqb true false) false, .test (beqb true false) false, .test (beqb true false) false, .test true true, .test true true] := ⟨(beqb_ft (igt_eq h3150)), (beqb_ft (igt_eq h3150)), (beqb_ft (igt_eq h3150)), (igt_eq h3150), (beqb_ft rfl), (beqb_ft rfl), (beqb_ft rfl), rfl, rfl, trivial⟩
     exact fn_playC hn94 (r := F94_res 1) (pq3193 (pq3194 (pq3195 (pq3196 (pq3197 pz))))) (by kernel_rfl) (by kernel_rfl)
    have pq3198 : ∀ {l : List Cond}, HoldAll E H hn94 l → HoldAll E H hn94 (.test (beqb (igt a3131.Limit 40) false) true :: .test (beqb (igt a3131.Limit 40) false) true :: .test (beqb (igt a3131.Limit 40) false) true :: .test (igt a3131.Limit 40) false :: l) := fun z => ⟨(beqb_ff (igt_eq h3150)), (beqb_ff (igt_eq h3150)), (beqb_ff (igt_eq h3150)), (igt_eq h3150), z⟩
    refine cond_some hF (fun h3151 hF => ?_) (fun h3151 hF => ?_)
    ·
     obtain rfl := Option.some.inj hF
     have pz : HoldAll E H hn94 [.test (beqb (ilt a3131.Parts 1) false) false, .test (beqb (ilt a3131.Parts 1) false) false, .test (beqb (ilt a3131.Parts 1) false) false, .test (ilt a3131.Parts 1) true, .test true true] := ⟨(beqb_ft h3151), (beqb_ft h3151), (beqb_ft h3151), h3151, rfl, trivial⟩
     exact fn_playC hn94 (r := F94_res 1) (pq3193 (pq3194 (pq3195 (pq3196 (pq3197 (pq3198 pz)))))) (by kernel_rfl) (by kernel_rfl)
    have pq3199 : ∀ {l : List Cond}, HoldAll E H hn94 l → HoldAll E H hn94 (.test (beqb (ilt a3131.Parts 1) false) true :: .test (beqb (ilt a3131.Parts 1) false) true :: .test (beqb (ilt a3131.Parts 1) false) true :: .test (ilt a3131.Parts 1) false :: l) := fun z => ⟨(beqb_ff h3151), (beqb_ff h3151), (beqb_ff h3151), h3151, z⟩
    refine cond_some hF (fun h3152 hF => ?_) (fun h3152 hF => ?_)
    ·
     obtain rfl := Option.some.inj hF
     have pz : HoldAll E H hn94 [.test (igt a3131.Parts 6) true] := ⟨(igt_eq h3152), trivial⟩
     exact fn_playC hn94 (r := F94_res 1) (pq3193 (pq3194 (pq3195 (pq3196 (pq3197 (pq3198 (pq3199 pz))))))) (by kernel_rfl) (by kernel_rfl)
    obtain rfl := Option.some.inj hF
    have pz : HoldAll E H hn94 [.test (igt a3131.Parts 6) false] := ⟨(igt_eq h3152), trivial⟩
    exact fn_playC hn94 (r := F94_res 0) (pq3193 (pq3194 (pq3195 (pq3196 (pq3197 (pq3198 (pq3199 pz))))))) (by kernel_rfl) (by kernel_rfl)
   obtain rfl := Option.some.inj hF
   have pz : HoldAll E H hn94 [.call 143 [.one (.lit (.int .i64 a3131.Prog))] (F143_res0 r3143), .test (leadsAny (Res.mk [(.agg [(.im (.lit (fnV 158))), (.im (.lit (fnV 159))), (.im (.lit (.bool r3143.1.only_))), (.im (.lit (fnV 160)))]), (.one (.im (.lit (.bool r3143.2))))] [])) false, .test (beqb (bnot r3143.2) false) false, .test (beqb (bnot r3143.2) false) false, .test (beqb (bnot r3143.2) false) false, .test (bnot r3143.2) true, .test (beqb true false) false, .test (beqb true false) false, .test (beqb true false) false, .test (beqb true false) false, .test (beqb true false) false, .test true true, .test (beqb true false) false, .test (beqb true false) false, .test (beqb true false) false, .test true true, .test (beqb true false) false, .test (beqb true false) false, .test (beqb true false) false, .test true true, .test (beqb true false) false, .test (beqb true false) false, .test (beqb true false) false, .test true true, .test (beqb true false) false, .test (beqb true false) false, .test (beqb true false) false, .test true true, .test true true] := ⟨(F143_ok0 _ h3145 (F143_ok K a3131.Prog _ h3144)), (leads_ok (by simp [leadsAny, RV.leads, RC.leads, leadsT, hasSl_lit])), (beqb_ft (bnot_f h3146)), (beqb_ft (bnot_f h3146)), (beqb_ft (bnot_f h3146)), (bnot_f h3146), (beqb_ft rfl), (beqb_ft rfl), (beqb_ft rfl), (beqb_ft rfl), (beqb_ft rfl), rfl, (beqb_ft rfl), (beqb_ft rfl), (beqb_ft rfl), rfl, (beqb_ft rfl), (beqb_ft rfl), (beqb_ft rfl), rfl, (beqb_ft rfl), (beqb_ft rfl), (beqb_ft rfl), rfl, (beqb_ft rfl), (beqb_ft rfl), (beqb_ft rfl), rfl, rfl, trivial⟩
   exact fn_playC hn94 (r := F94_res 1) (pq3193 pz) (by kernel_rfl) (by kernel_rfl)
  refine cond_some hF (fun h3153 hF => ?_) (fun h3153 hF => ?_)
  ·
   refine cond_some hF (fun h3154 hF => ?_) (fun h3154 hF => ?_)
   ·
    have pq3200 : ∀ {l : List Cond}, HoldAll E H hn94 l → HoldAll E H hn94 (.call 143 [.one (.lit (.int .i64 a3131.Prog))] (F143_res1 r3143) :: .test (leadsAny (Res.mk [(.agg [(.im (.lit (fnV 158))), (.im (.lit (fnV 159))), (.im (.lit (.bool r3143.1.only_))), (.im (.lit (fnV 161)))]), (.one (.im (.lit (.bool r3143.2))))] [])) false :: .test (beqb (bnot r3143.2) false) true :: .test (beqb (bnot r3143.2) false) true :: .test (beqb (bnot r3143.2) false) true :: .test (bnot r3143.2) false :: l) := fun z => ⟨(F143_ok1 _ h3153 (F143_ok K a3131.Prog _ h3144)), (leads_ok (by simp [leadsAny, RV.leads, RC.leads, leadsT, hasSl_lit])), (beqb_ff (bnot_t h3154)), (beqb_ff (bnot_t h3154)), (beqb_ff (bnot_t h3154)), (bnot_t h3154), z⟩
    refine cond_some hF (fun h3155 hF => ?_) (fun h3155 hF => ?_)
    ·
     obtain rfl := Option.some.inj hF
     have pz : HoldAll E H hn94 [.test (beqb (ilt a3131.Source 0) false) false, .test (beqb (ilt a3131.Source 0) false) false, .test (beqb (ilt a3131.Source 0) false) false, .test (beqb (ilt a3131.Source 0) false) false, .test (beqb (ilt a3131.Source 0) false) false, .test (ilt a3131.Source 0) true, .test (beqb true false) false, .test (beqb true false) false, .test (beqb true false) false, .test true true, .test (beqb true false) false, .test (beqb true false) false, .test (beqb true false) false, .test true true, .test (beqb true false) false, .test (beqb true false) false, .test (beqb true false) false, .test true true, .test (beqb true false) false, .test (beqb true false) false, .test (beqb true false) false, .test true true, .test true true] := ⟨(beqb_ft h3155), (beqb_ft h3155), (beqb_ft h3155), (beqb_ft h3155), (beqb_ft h3155), h3155, (beqb_ft rfl), (beqb_ft rfl), (beqb_ft rfl), rfl, (beqb_ft rfl), (beqb_ft rfl), (beqb_ft rfl), rfl, (beqb_ft rfl), (beqb_ft rfl), (beqb_ft rfl), rfl, (beqb_ft rfl), (beqb_ft rfl), (beqb_ft rfl), rfl, rfl, trivial⟩
     exact fn_playC hn94 (r := F94_res 1) (pq3193 (pq3200 pz)) (by kernel_rfl) (by kernel_rfl)
    have pq3201 : ∀ {l : List Cond}, HoldAll E H hn94 l → HoldAll E H hn94 (.test (beqb (ilt a3131.Source 0) false) true :: .test (beqb (ilt a3131.Source 0) false) true :: .test (beqb (ilt a3131.Source 0) false) true :: .test (beqb (ilt a3131.Source 0) false) true :: .test (beqb (ilt a3131.Source 0) false) true :: .test (ilt a3131.Source 0) false :: l) := fun z => ⟨(beqb_ff h3155), (beqb_ff h3155), (beqb_ff h3155), (beqb_ff h3155), (beqb_ff h3155), h3155, z⟩
    refine cond_some hF (fun h3156 hF => ?_) (fun h3156 hF => ?_)
    ·
     obtain rfl := Option.some.inj hF
     have pz : HoldAll E H hn94 [.test (beqb (ige a3131.Source a3130.N) false) false, .test (beqb (ige a3131.Source a3130.N) false) false, .test (beqb (ige a3131.Source a3130.N) false) false, .test (ige a3131.Source a3130.N) true, .test (beqb true false) false, .test (beqb true false) false, .test (beqb true false) false, .test true true, .test (beqb true false) false, .test (beqb true false) false, .test (beqb true false) false, .test true true, .test (beqb true false) false, .test (beqb true false) false, .test (beqb true false) false, .test true true, .test true true] := ⟨(beqb_ft (ige_eq h3156)), (beqb_ft (ige_eq h3156)), (beqb_ft (ige_eq h3156)), (ige_eq h3156), (beqb_ft rfl), (beqb_ft rfl), (beqb_ft rfl), rfl, (beqb_ft rfl), (beqb_ft rfl), (beqb_ft rfl), rfl, (beqb_ft rfl), (beqb_ft rfl), (beqb_ft rfl), rfl, rfl, trivial⟩
     exact fn_playC hn94 (r := F94_res 1) (pq3193 (pq3200 (pq3201 pz))) (by kernel_rfl) (by kernel_rfl)
    have pq3202 : ∀ {l : List Cond}, HoldAll E H hn94 l → HoldAll E H hn94 (.test (beqb (ige a3131.Source a3130.N) false) true :: .test (beqb (ige a3131.Source a3130.N) false) true :: .test (beqb (ige a3131.Source a3130.N) false) true :: .test (ige a3131.Source a3130.N) false :: l) := fun z => ⟨(beqb_ff (ige_eq h3156)), (beqb_ff (ige_eq h3156)), (beqb_ff (ige_eq h3156)), (ige_eq h3156), z⟩
    refine cond_some hF (fun h3157 hF => ?_) (fun h3157 hF => ?_)
    ·
     obtain rfl := Option.some.inj hF
     have pz : HoldAll E H hn94 [.test (beqb (ilt a3131.Limit 0) false) false, .test (beqb (ilt a3131.Limit 0) false) false, .test (beqb (ilt a3131.Limit 0) false) false, .test (ilt a3131.Limit 0) true, .test (beqb true false) false, .test (beqb true false) false, .test (beqb true false) false, .test true true, .test (beqb true false) false, .test (beqb true false) false, .test (beqb true false) false, .test true true, .test true true] := ⟨(beqb_ft h3157), (beqb_ft h3157), (beqb_ft h3157), h3157, (beqb_ft rfl), (beqb_ft rfl), (beqb_ft rfl), rfl, (beqb_ft rfl), (beqb_ft rfl), (beqb_ft rfl), rfl, rfl, trivial⟩
     exact fn_playC hn94 (r := F94_res 1) (pq3193 (pq3200 (pq3201 (pq3202 pz)))) (by kernel_rfl) (by kernel_rfl)
    have pq3203 : ∀ {l : List Cond}, HoldAll E H hn94 l → HoldAll E H hn94 (.test (beqb (ilt a3131.Limit 0) false) true :: .test (beqb (ilt a3131.Limit 0) false) true :: .test (beqb (ilt a3131.Limit 0) false) true :: .test (ilt a3131.Limit 0) false :: l) := fun z => ⟨(beqb_ff h3157), (beqb_ff h3157), (beqb_ff h3157), h3157, z⟩
    refine cond_some hF (fun h3158 hF => ?_) (fun h3158 hF => ?_)
    ·
     obtain rfl := Option.some.inj hF
     have pz : HoldAll E H hn94 [.test (beqb (igt a3131.Limit 40) false) false, .test (beqb (igt a3131.Limit 40) false) false, .test (beqb (igt a3131.Limit 40) false) false, .test (igt a3131.Limit 40) true, .test (beqb true false) false, .test (beqb true false) false, .test (beqb true false) false, .test true true, .test true true] := ⟨(beqb_ft (igt_eq h3158)), (beqb_ft (igt_eq h3158)), (beqb_ft (igt_eq h3158)), (igt_eq h3158), (beqb_ft rfl), (beqb_ft rfl), (beqb_ft rfl), rfl, rfl, trivial⟩
     exact fn_playC hn94 (r := F94_res 1) (pq3193 (pq3200 (pq3201 (pq3202 (pq3203 pz))))) (by kernel_rfl) (by kernel_rfl)
    have pq3204 : ∀ {l : List Cond}, HoldAll E H hn94 l → HoldAll E H hn94 (.test (beqb (igt a3131.Limit 40) false) true :: .test (beqb (igt a3131.Limit 40) false) true :: .test (beqb (igt a3131.Limit 40) false) true :: .test (igt a3131.Limit 40) false :: l) := fun z => ⟨(beqb_ff (igt_eq h3158)), (beqb_ff (igt_eq h3158)), (beqb_ff (igt_eq h3158)), (igt_eq h3158), z⟩
    refine cond_some hF (fun h3159 hF => ?_) (fun h3159 hF => ?_)
    ·
     obtain rfl := Option.some.inj hF
     have pz : HoldAll E H hn94 [.test (beqb (ilt a3131.Parts 1) false) false, .test (beqb (ilt a3131.Parts 1) false) false, .test (beqb (ilt a3131.Parts 1) false) false, .test (ilt a3131.Parts 1) true, .test true true] := ⟨(beqb_ft h3159), (beqb_ft h3159), (beqb_ft h3159), h3159, rfl, trivial⟩
     exact fn_playC hn94 (r := F94_res 1) (pq3193 (pq3200 (pq3201 (pq3202 (pq3203 (pq3204 pz)))))) (by kernel_rfl) (by kernel_rfl)
    have pq3205 : ∀ {l : List Cond}, HoldAll E H hn94 l → HoldAll E H hn94 (.test (beqb (ilt a3131.Parts 1) false) true :: .test (beqb (ilt a3131.Parts 1) false) true :: .test (beqb (ilt a3131.Parts 1) false) true :: .test (ilt a3131.Parts 1) false :: l) := fun z => ⟨(beqb_ff h3159), (beqb_ff h3159), (beqb_ff h3159), h3159, z⟩
    refine cond_some hF (fun h3160 hF => ?_) (fun h3160 hF => ?_)
    ·
     obtain rfl := Option.some.inj hF
     have pz : HoldAll E H hn94 [.test (igt a3131.Parts 6) true] := ⟨(igt_eq h3160), trivial⟩
     exact fn_playC hn94 (r := F94_res 1) (pq3193 (pq3200 (pq3201 (pq3202 (pq3203 (pq3204 (pq3205 pz))))))) (by kernel_rfl) (by kernel_rfl)
    obtain rfl := Option.some.inj hF
    have pz : HoldAll E H hn94 [.test (igt a3131.Parts 6) false] := ⟨(igt_eq h3160), trivial⟩
    exact fn_playC hn94 (r := F94_res 0) (pq3193 (pq3200 (pq3201 (pq3202 (pq3203 (pq3204 (pq3205 pz))))))) (by kernel_rfl) (by kernel_rfl)
   obtain rfl := Option.some.inj hF
   have pz : HoldAll E H hn94 [.call 143 [.one (.lit (.int .i64 a3131.Prog))] (F143_res1 r3143), .test (leadsAny (Res.mk [(.agg [(.im (.lit (fnV 158))), (.im (.lit (fnV 159))), (.im (.lit (.bool r3143.1.only_))), (.im (.lit (fnV 161)))]), (.one (.im (.lit (.bool r3143.2))))] [])) false, .test (beqb (bnot r3143.2) false) false, .test (beqb (bnot r3143.2) false) false, .test (beqb (bnot r3143.2) false) false, .test (bnot r3143.2) true, .test (beqb true false) false, .test (beqb true false) false, .test (beqb true false) false, .test (beqb true false) false, .test (beqb true false) false, .test true true, .test (beqb true false) false, .test (beqb true false) false, .test (beqb true false) false, .test true true, .test (beqb true false) false, .test (beqb true false) false, .test (beqb true false) false, .test true true, .test (beqb true false) false, .test (beqb true false) false, .test (beqb true false) false, .test true true, .test (beqb true false) false, .test (beqb true false) false, .test (beqb true false) false, .test true true, .test true true] := ⟨(F143_ok1 _ h3153 (F143_ok K a3131.Prog _ h3144)), (leads_ok (by simp [leadsAny, RV.leads, RC.leads, leadsT, hasSl_lit])), (beqb_ft (bnot_f h3154)), (beqb_ft (bnot_f h3154)), (beqb_ft (bnot_f h3154)), (bnot_f h3154), (beqb_ft rfl), (beqb_ft rfl), (beqb_ft rfl), (beqb_ft rfl), (beqb_ft rfl), rfl, (beqb_ft rfl), (beqb_ft rfl), (beqb_ft rfl), rfl, (beqb_ft rfl), (beqb_ft rfl), (beqb_ft rfl), rfl, (beqb_ft rfl), (beqb_ft rfl), (beqb_ft rfl), rfl, (beqb_ft rfl), (beqb_ft rfl), (beqb_ft rfl), rfl, rfl, trivial⟩
   exact fn_playC hn94 (r := F94_res 1) (pq3193 pz) (by kernel_rfl) (by kernel_rfl)
  refine cond_some hF (fun h3161 hF => ?_) (fun h3161 hF => ?_)
  ·
   refine cond_some hF (fun h3162 hF => ?_) (fun h3162 hF => ?_)
   ·
    have pq3206 : ∀ {l : List Cond}, HoldAll E H hn94 l → HoldAll E H hn94 (.call 143 [.one (.lit (.int .i64 a3131.Prog))] (F143_res2 r3143) :: .test (leadsAny (Res.mk [(.agg [(.im (.lit (fnV 162))), (.im (.lit (fnV 159))), (.im (.lit (.bool r3143.1.only_))), (.im (.lit (fnV 163)))]), (.one (.im (.lit (.bool r3143.2))))] [])) false :: .test (beqb (bnot r3143.2) false) true :: .test (beqb (bnot r3143.2) false) true :: .test (beqb (bnot r3143.2) false) true :: .test (bnot r3143.2) false :: l) := fun z => ⟨(F143_ok2 _ h3161 (F143_ok K a3131.Prog _ h3144)), (leads_ok (by simp [leadsAny, RV.leads, RC.leads, leadsT, hasSl_lit])), (beqb_ff (bnot_t h3162)), (beqb_ff (bnot_t h3162)), (beqb_ff (bnot_t h3162)), (bnot_t h3162), z⟩
    refine cond_some hF (fun h3163 hF => ?_) (fun h3163 hF => ?_)
    ·
     obtain rfl := Option.some.inj hF
     have pz : HoldAll E H hn94 [.test (beqb (ilt a3131.Source 0) false) false, .test (beqb (ilt a3131.Source 0) false) false, .test (beqb (ilt a3131.Source 0) false) false, .test (beqb (ilt a3131.Source 0) false) false, .test (beqb (ilt a3131.Source 0) false) false, .test (ilt a3131.Source 0) true, .test (beqb true false) false, .test (beqb true false) false, .test (beqb true false) false, .test true true, .test (beqb true false) false, .test (beqb true false) false, .test (beqb true false) false, .test true true, .test (beqb true false) false, .test (beqb true false) false, .test (beqb true false) false, .test true true, .test (beqb true false) false, .test (beqb true false) false, .test (beqb true false) false, .test true true, .test true true] := ⟨(beqb_ft h3163), (beqb_ft h3163), (beqb_ft h3163), (beqb_ft h3163), (beqb_ft h3163), h3163, (beqb_ft rfl), (beqb_ft rfl), (beqb_ft rfl), rfl, (beqb_ft rfl), (beqb_ft rfl), (beqb_ft rfl), rfl, (beqb_ft rfl), (beqb_ft rfl), (beqb_ft rfl), rfl, (beqb_ft rfl), (beqb_ft rfl), (beqb_ft rfl), rfl, rfl, trivial⟩
     exact fn_playC hn94 (r := F94_res 1) (pq3193 (pq3206 pz)) (by kernel_rfl) (by kernel_rfl)
    have pq3207 : ∀ {l : List Cond}, HoldAll E H hn94 l → HoldAll E H hn94 (.test (beqb (ilt a3131.Source 0) false) true :: .test (beqb (ilt a3131.Source 0) false) true :: .test (beqb (ilt a3131.Source 0) false) true :: .test (beqb (ilt a3131.Source 0) false) true :: .test (beqb (ilt a3131.Source 0) false) true :: .test (ilt a3131.Source 0) false :: l) := fun z => ⟨(beqb_ff h3163), (beqb_ff h3163), (beqb_ff h3163), (beqb_ff h3163), (beqb_ff h3163), h3163, z⟩
    refine cond_some hF (fun h3164 hF => ?_) (fun h3164 hF => ?_)
    ·
     obtain rfl := Option.some.inj hF
     have pz : HoldAll E H hn94 [.test (beqb (ige a3131.Source a3130.N) false) false, .test (beqb (ige a3131.Source a3130.N) false) false, .test (beqb (ige a3131.Source a3130.N) false) false, .test (ige a3131.Source a3130.N) true, .test (beqb true false) false, .test (beqb true false) false, .test (beqb true false) false, .test true true, .test (beqb true false) false, .test (beqb true false) false, .test (beqb true false) false, .test true true, .test (beqb true false) false, .test (beqb true false) false, .test (beqb true false) false, .test true true, .test true true] := ⟨(beqb_ft (ige_eq h3164)), (beqb_ft (ige_eq h3164)), (beqb_ft (ige_eq h3164)), (ige_eq h3164), (beqb_ft rfl), (beqb_ft rfl), (beqb_ft rfl), rfl, (beqb_ft rfl), (beqb_ft rfl), (beqb_ft rfl), rfl, (beqb_ft rfl), (beqb_ft rfl), (beqb_ft rfl), rfl, rfl, trivial⟩
     exact fn_playC hn94 (r := F94_res 1) (pq3193 (pq3206 (pq3207 pz))) (by kernel_rfl) (by kernel_rfl)
    have pq3208 : ∀ {l : List Cond}, HoldAll E H hn94 l → HoldAll E H hn94 (.test (beqb (ige a3131.Source a3130.N) false) true :: .test (beqb (ige a3131.Source a3130.N) false) true :: .test (beqb (ige a3131.Source a3130.N) false) true :: .test (ige a3131.Source a3130.N) false :: l) := fun z => ⟨(beqb_ff (ige_eq h3164)), (beqb_ff (ige_eq h3164)), (beqb_ff (ige_eq h3164)), (ige_eq h3164), z⟩
    refine cond_some hF (fun h3165 hF => ?_) (fun h3165 hF => ?_)
    ·
     obtain rfl := Option.some.inj hF
     have pz : HoldAll E H hn94 [.test (beqb (ilt a3131.Limit 0) false) false, .test (beqb (ilt a3131.Limit 0) false) false, .test (beqb (ilt a3131.Limit 0) false) false, .test (ilt a3131.Limit 0) true, .test (beqb true false) false, .test (beqb true false) false, .test (beqb true false) false, .test true true, .test (beqb true false) false, .test (beqb true false) false, .test (beqb true false) false, .test true true, .test true true] := ⟨(beqb_ft h3165), (beqb_ft h3165), (beqb_ft h3165), h3165, (beqb_ft rfl), (beqb_ft rfl), (beqb_ft rfl), rfl, (beqb_ft rfl), (beqb_ft rfl), (beqb_ft rfl), rfl, rfl, trivial⟩
     exact fn_playC hn94 (r := F94_res 1) (pq3193 (pq3206 (pq3207 (pq3208 pz)))) (by kernel_rfl) (by kernel_rfl)
    have pq3209 : ∀ {l : List Cond}, HoldAll E H hn94 l → HoldAll E H hn94 (.test (beqb (ilt a3131.Limit 0) false) true :: .test (beqb (ilt a3131.Limit 0) false) true :: .test (beqb (ilt a3131.Limit 0) false) true :: .test (ilt a3131.Limit 0) false :: l) := fun z => ⟨(beqb_ff h3165), (beqb_ff h3165), (beqb_ff h3165), h3165, z⟩
    refine cond_some hF (fun h3166 hF => ?_) (fun h3166 hF => ?_)
    ·
     obtain rfl := Option.some.inj hF
     have pz : HoldAll E H hn94 [.test (beqb (igt a3131.Limit 40) false) false, .test (beqb (igt a3131.Limit 40) false) false, .test (beqb (igt a3131.Limit 40) false) false, .test (igt a3131.Limit 40) true, .test (beqb true false) false, .test (beqb true false) false, .test (beqb true false) false, .test true true, .test true true] := ⟨(beqb_ft (igt_eq h3166)), (beqb_ft (igt_eq h3166)), (beqb_ft (igt_eq h3166)), (igt_eq h3166), (beqb_ft rfl), (beqb_ft rfl), (beqb_ft rfl), rfl, rfl, trivial⟩
     exact fn_playC hn94 (r := F94_res 1) (pq3193 (pq3206 (pq3207 (pq3208 (pq3209 pz))))) (by kernel_rfl) (by kernel_rfl)
    have pq3210 : ∀ {l : List Cond}, HoldAll E H hn94 l → HoldAll E H hn94 (.test (beqb (igt a3131.Limit 40) false) true :: .test (beqb (igt a3131.Limit 40) false) true :: .test (beqb (igt a3131.Limit 40) false) true :: .test (igt a3131.Limit 40) false :: l) := fun z => ⟨(beqb_ff (igt_eq h3166)), (beqb_ff (igt_eq h3166)), (beqb_ff (igt_eq h3166)), (igt_eq h3166), z⟩
    refine cond_some hF (fun h3167 hF => ?_) (fun h3167 hF => ?_)
    ·
     obtain rfl := Option.some.inj hF
     have pz : HoldAll E H hn94 [.test (beqb (ilt a3131.Parts 1) false) false, .test (beqb (ilt a3131.Parts 1) false) false, .test (beqb (ilt a3131.Parts 1) false) false, .test (ilt a3131.Parts 1) true, .test true true] := ⟨(beqb_ft h3167), (beqb_ft h3167), (beqb_ft h3167), h3167, rfl, trivial⟩
     exact fn_playC hn94 (r := F94_res 1) (pq3193 (pq3206 (pq3207 (pq3208 (pq3209 (pq3210 pz)))))) (by kernel_rfl) (by kernel_rfl)
    have pq3211 : ∀ {l : List Cond}, HoldAll E H hn94 l → HoldAll E H hn94 (.test (beqb (ilt a3131.Parts 1) false) true :: .test (beqb (ilt a3131.Parts 1) false) true :: .test (beqb (ilt a3131.Parts 1) false) true :: .test (ilt a3131.Parts 1) false :: l) := fun z => ⟨(beqb_ff h3167), (beqb_ff h3167), (beqb_ff h3167), h3167, z⟩
    refine cond_some hF (fun h3168 hF => ?_) (fun h3168 hF => ?_)
    ·
     obtain rfl := Option.some.inj hF
     have pz : HoldAll E H hn94 [.test (igt a3131.Parts 6) true] := ⟨(igt_eq h3168), trivial⟩
     exact fn_playC hn94 (r := F94_res 1) (pq3193 (pq3206 (pq3207 (pq3208 (pq3209 (pq3210 (pq3211 pz))))))) (by kernel_rfl) (by kernel_rfl)
    obtain rfl := Option.some.inj hF
    have pz : HoldAll E H hn94 [.test (igt a3131.Parts 6) false] := ⟨(igt_eq h3168), trivial⟩
    exact fn_playC hn94 (r := F94_res 0) (pq3193 (pq3206 (pq3207 (pq3208 (pq3209 (pq3210 (pq3211 pz))))))) (by kernel_rfl) (by kernel_rfl)
   obtain rfl := Option.some.inj hF
   have pz : HoldAll E H hn94 [.call 143 [.one (.lit (.int .i64 a3131.Prog))] (F143_res2 r3143), .test (leadsAny (Res.mk [(.agg [(.im (.lit (fnV 162))), (.im (.lit (fnV 159))), (.im (.lit (.bool r3143.1.only_))), (.im (.lit (fnV 163)))]), (.one (.im (.lit (.bool r3143.2))))] [])) false, .test (beqb (bnot r3143.2) false) false, .test (beqb (bnot r3143.2) false) false, .test (beqb (bnot r3143.2) false) false, .test (bnot r3143.2) true, .test (beqb true false) false, .test (beqb true false) false, .test (beqb true false) false, .test (beqb true false) false, .test (beqb true false) false, .test true true, .test (beqb true false) false, .test (beqb true false) false, .test (beqb true false) false, .test true true, .test (beqb true false) false, .test (beqb true false) false, .test (beqb true false) false, .test true true, .test (beqb true false) false, .test (beqb true false) false, .test (beqb true false) false, .test true true, .test (beqb true false) false, .test (beqb true false) false, .test (beqb true false) false, .test true true, .test true true] := ⟨(F143_ok2 _ h3161 (F143_ok K a3131.Prog _ h3144)), (leads_ok (by simp [leadsAny, RV.leads, RC.leads, leadsT, hasSl_lit])), (beqb_ft (bnot_f h3162)), (beqb_ft (bnot_f h3162)), (beqb_ft (bnot_f h3162)), (bnot_f h3162), (beqb_ft rfl), (beqb_ft rfl), (beqb_ft rfl), (beqb_ft rfl), (beqb_ft rfl), rfl, (beqb_ft rfl), (beqb_ft rfl), (beqb_ft rfl), rfl, (beqb_ft rfl), (beqb_ft rfl), (beqb_ft rfl), rfl, (beqb_ft rfl), (beqb_ft rfl), (beqb_ft rfl), rfl, (beqb_ft rfl), (beqb_ft rfl), (beqb_ft rfl), rfl, rfl, trivial⟩
   exact fn_playC hn94 (r := F94_res 1) (pq3193 pz) (by kernel_rfl) (by kernel_rfl)
  refine cond_some hF (fun h3169 hF => ?_) (fun h3169 hF => ?_)
  ·
   refine cond_some hF (fun h3170 hF => ?_) (fun h3170 hF => ?_)
   ·
    have pq3212 : ∀ {l : List Cond}, HoldAll E H hn94 l → HoldAll E H hn94 (.call 143 [.one (.lit (.int .i64 a3131.Prog))] (F143_res3 r3143) :: .test (leadsAny (Res.mk [(.agg [(.im (.lit (fnV 164))), (.im (.lit (fnV 165))), (.im (.lit (.bool r3143.1.only_))), (.im (.lit (fnV 163)))]), (.one (.im (.lit (.bool r3143.2))))] [])) false :: .test (beqb (bnot r3143.2) false) true :: .test (beqb (bnot r3143.2) false) true :: .test (beqb (bnot r3143.2) false) true :: .test (bnot r3143.2) false :: l) := fun z => ⟨(F143_ok3 _ h3169 (F143_ok K a3131.Prog _ h3144)), (leads_ok (by simp [leadsAny, RV.leads, RC.leads, leadsT, hasSl_lit])), (beqb_ff (bnot_t h3170)), (beqb_ff (bnot_t h3170)), (beqb_ff (bnot_t h3170)), (bnot_t h3170), z⟩
    refine cond_some hF (fun h3171 hF => ?_) (fun h3171 hF => ?_)
    ·
     obtain rfl := Option.some.inj hF
     have pz : HoldAll E H hn94 [.test (beqb (ilt a3131.Source 0) false) false, .test (beqb (ilt a3131.Source 0) false) false, .test (beqb (ilt a3131.Source 0) false) false, .test (beqb (ilt a3131.Source 0) false) false, .test (beqb (ilt a3131.Source 0) false) false, .test (ilt a3131.Source 0) true, .test (beqb true false) false, .test (beqb true false) false, .test (beqb true false) false, .test true true, .test (beqb true false) false, .test (beqb true false) false, .test (beqb true false) false, .test true true, .test (beqb true false) false, .test (beqb true false) false, .test (beqb true false) false, .test true true, .test (beqb true false) false, .test (beqb true false) false, .test (beqb true false) false, .test true true, .test true true] := ⟨(beqb_ft h3171), (beqb_ft h3171), (beqb_ft h3171), (beqb_ft h3171), (beqb_ft h3171), h3171, (beqb_ft rfl), (beqb_ft rfl), (beqb_ft rfl), rfl, (beqb_ft rfl), (beqb_ft rfl), (beqb_ft rfl), rfl, (beqb_ft rfl), (beqb_ft rfl), (beqb_ft rfl), rfl, (beqb_ft rfl), (beqb_ft rfl), (beqb_ft rfl), rfl, rfl, trivial⟩
     exact fn_playC hn94 (r := F94_res 1) (pq3193 (pq3212 pz)) (by kernel_rfl) (by kernel_rfl)
    have pq3213 : ∀ {l : List Cond}, HoldAll E H hn94 l → HoldAll E H hn94 (.test (beqb (ilt a3131.Source 0) false) true :: .test (beqb (ilt a3131.Source 0) false) true :: .test (beqb (ilt a3131.Source 0) false) true :: .test (beqb (ilt a3131.Source 0) false) true :: .test (beqb (ilt a3131.Source 0) false) true :: .test (ilt a3131.Source 0) false :: l) := fun z => ⟨(beqb_ff h3171), (beqb_ff h3171), (beqb_ff h3171), (beqb_ff h3171), (beqb_ff h3171), h3171, z⟩
    refine cond_some hF (fun h3172 hF => ?_) (fun h3172 hF => ?_)
    ·
     obtain rfl := Option.some.inj hF
     have pz : HoldAll E H hn94 [.test (beqb (ige a3131.Source a3130.N) false) false, .test (beqb (ige a3131.Source a3130.N) false) false, .test (beqb (ige a3131.Source a3130.N) false) false, .test (ige a3131.Source a3130.N) true, .test (beqb true false) false, .test (beqb true false) false, .test (beqb true false) false, .test true true, .test (beqb true false) false, .test (beqb true false) false, .test (beqb true false) false, .test true true, .test (beqb true false) false, .test (beqb true false) false, .test (beqb true false) false, .test true true, .test true true] := ⟨(beqb_ft (ige_eq h3172)), (beqb_ft (ige_eq h3172)), (beqb_ft (ige_eq h3172)), (ige_eq h3172), (beqb_ft rfl), (beqb_ft rfl), (beqb_ft rfl), rfl, (beqb_ft rfl), (beqb_ft rfl), (beqb_ft rfl), rfl, (beqb_ft rfl), (beqb_ft rfl), (beqb_ft rfl), rfl, rfl, trivial⟩
     exact fn_playC hn94 (r := F94_res 1) (pq3193 (pq3212 (pq3213 pz))) (by kernel_rfl) (by kernel_rfl)
    have pq3214 : ∀ {l : List Cond}, HoldAll E H hn94 l → HoldAll E H hn94 (.test (beqb (ige a3131.Source a3130.N) false) true :: .test (beqb (ige a3131.Source a3130.N) false) true :: .test (beqb (ige a3131.Source a3130.N) false) true :: .test (ige a3131.Source a3130.N) false :: l) := fun z => ⟨(beqb_ff (ige_eq h3172)), (beqb_ff (ige_eq h3172)), (beqb_ff (ige_eq h3172)), (ige_eq h3172), z⟩
    refine cond_some hF (fun h3173 hF => ?_) (fun h3173 hF => ?_)
    ·
     obtain rfl := Option.some.inj hF
     have pz : HoldAll E H hn94 [.test (beqb (ilt a3131.Limit 0) false) false, .test (beqb (ilt a3131.Limit 0) false) false, .test (beqb (ilt a3131.Limit 0) false) false, .test (ilt a3131.Limit 0) true, .test (beqb true false) false, .test (beqb true false) false, .test (beqb true false) false, .test true true, .test (beqb true false) false, .test (beqb true false) false, .test (beqb true false) false, .test true true, .test true true] := ⟨(beqb_ft h3173), (beqb_ft h3173), (beqb_ft h3173), h3173, (beqb_ft rfl), (beqb_ft rfl), (beqb_ft rfl), rfl, (beqb_ft rfl), (beqb_ft rfl), (beqb_ft rfl), rfl, rfl, trivial⟩
     exact fn_playC hn94 (r := F94_res 1) (pq3193 (pq3212 (pq3213 (pq3214 pz)))) (by kernel_rfl) (by kernel_rfl)
    have pq3215 : ∀ {l : List Cond}, HoldAll E H hn94 l → HoldAll E H hn94 (.test (beqb (ilt a3131.Limit 0) false) true :: .test (beqb (ilt a3131.Limit 0) false) true :: .test (beqb (ilt a3131.Limit 0) false) true :: .test (ilt a3131.Limit 0) false :: l) := fun z => ⟨(beqb_ff h3173), (beqb_ff h3173), (beqb_ff h3173), h3173, z⟩
    refine cond_some hF (fun h3174 hF => ?_) (fun h3174 hF => ?_)
    ·
     obtain rfl := Option.some.inj hF
     have pz : HoldAll E H hn94 [.test (beqb (igt a3131.Limit 40) false) false, .test (beqb (igt a3131.Limit 40) false) false, .test (beqb (igt a3131.Limit 40) false) false, .test (igt a3131.Limit 40) true, .test (beqb true false) false, .test (beqb true false) false, .test (beqb true false) false, .test true true, .test true true] := ⟨(beqb_ft (igt_eq h3174)), (beqb_ft (igt_eq h3174)), (beqb_ft (igt_eq h3174)), (igt_eq h3174), (beqb_ft rfl), (beqb_ft rfl), (beqb_ft rfl), rfl, rfl, trivial⟩
     exact fn_playC hn94 (r := F94_res 1) (pq3193 (pq3212 (pq3213 (pq3214 (pq3215 pz))))) (by kernel_rfl) (by kernel_rfl)
    have pq3216 : ∀ {l : List Cond}, HoldAll E H hn94 l → HoldAll E H hn94 (.test (beqb (igt a3131.Limit 40) false) true :: .test (beqb (igt a3131.Limit 40) false) true :: .test (beqb (igt a3131.Limit 40) false) true :: .test (igt a3131.Limit 40) false :: l) := fun z => ⟨(beqb_ff (igt_eq h3174)), (beqb_ff (igt_eq h3174)), (beqb_ff (igt_eq h3174)), (igt_eq h3174), z⟩
    refine cond_some hF (fun h3175 hF => ?_) (fun h3175 hF => ?_)
    ·
     obtain rfl := Option.some.inj hF
     have pz : HoldAll E H hn94 [.test (beqb (ilt a3131.Parts 1) false) false, .test (beqb (ilt a3131.Parts 1) false) false, .test (beqb (ilt a3131.Parts 1) false) false, .test (ilt a3131.Parts 1) true, .test true true] := ⟨(beqb_ft h3175), (beqb_ft h3175), (beqb_ft h3175), h3175, rfl, trivial⟩
     exact fn_playC hn94 (r := F94_res 1) (pq3193 (pq3212 (pq3213 (pq3214 (pq3215 (pq3216 pz)))))) (by kernel_rfl) (by kernel_rfl)
    have pq3217 : ∀ {l : List Cond}, HoldAll E H hn94 l → HoldAll E H hn94 (.test (beqb (ilt a3131.Parts 1) false) true :: .test (beqb (ilt a3131.Parts 1) false) true :: .test (beqb (ilt a3131.Parts 1) false) true :: .test (ilt a3131.Parts 1) false :: l) := fun z => ⟨(beqb_ff h3175), (beqb_ff h3175), (beqb_ff h3175), h3175, z⟩
    refine cond_some hF (fun h3176 hF => ?_) (fun h3176 hF => ?_)
    ·
     obtain rfl := Option.some.inj hF
     have pz : HoldAll E H hn94 [.test (igt a3131.Parts 6) true] := ⟨(igt_eq h3176), trivial⟩
     exact fn_playC hn94 (r := F94_res 1) (pq3193 (pq3212 (pq3213 (pq3214 (pq3215 (pq3216 (pq3217 pz))))))) (by kernel_rfl) (by kernel_rfl)
    obtain rfl := Option.some.inj hF
    have pz : HoldAll E H hn94 [.test (igt a3131.Parts 6) false] := ⟨(igt_eq h3176), trivial⟩
    exact fn_playC hn94 (r := F94_res 0) (pq3193 (pq3212 (pq3213 (pq3214 (pq3215 (pq3216 (pq3217 pz))))))) (by kernel_rfl) (by kernel_rfl)
   obtain rfl := Option.some.inj hF
   have pz : HoldAll E H hn94 [.call 143 [.one (.lit (.int .i64 a3131.Prog))] (F143_res3 r3143), .test (leadsAny (Res.mk [(.agg [(.im (.lit (fnV 164))), (.im (.lit (fnV 165))), (.im (.lit (.bool r3143.1.only_))), (.im (.lit (fnV 163)))]), (.one (.im (.lit (.bool r3143.2))))] [])) false, .test (beqb (bnot r3143.2) false) false, .test (beqb (bnot r3143.2) false) false, .test (beqb (bnot r3143.2) false) false, .test (bnot r3143.2) true, .test (beqb true false) false, .test (beqb true false) false, .test (beqb true false) false, .test (beqb true false) false, .test (beqb true false) false, .test true true, .test (beqb true false) false, .test (beqb true false) false, .test (beqb true false) false, .test true true, .test (beqb true false) false, .test (beqb true false) false, .test (beqb true false) false, .test true true, .test (beqb true false) false, .test (beqb true false) false, .test (beqb true false) false, .test true true, .test (beqb true false) false, .test (beqb true false) false, .test (beqb true false) false, .test true true, .test true true] := ⟨(F143_ok3 _ h3169 (F143_ok K a3131.Prog _ h3144)), (leads_ok (by simp [leadsAny, RV.leads, RC.leads, leadsT, hasSl_lit])), (beqb_ft (bnot_f h3170)), (beqb_ft (bnot_f h3170)), (beqb_ft (bnot_f h3170)), (bnot_f h3170), (beqb_ft rfl), (beqb_ft rfl), (beqb_ft rfl), (beqb_ft rfl), (beqb_ft rfl), rfl, (beqb_ft rfl), (beqb_ft rfl), (beqb_ft rfl), rfl, (beqb_ft rfl), (beqb_ft rfl), (beqb_ft rfl), rfl, (beqb_ft rfl), (beqb_ft rfl), (beqb_ft rfl), rfl, (beqb_ft rfl), (beqb_ft rfl), (beqb_ft rfl), rfl, rfl, trivial⟩
   exact fn_playC hn94 (r := F94_res 1) (pq3193 pz) (by kernel_rfl) (by kernel_rfl)
  refine cond_some hF (fun h3177 hF => ?_) (fun h3177 hF => ?_)
  ·
   refine cond_some hF (fun h3178 hF => ?_) (fun h3178 hF => ?_)
   ·
    have pq3218 : ∀ {l : List Cond}, HoldAll E H hn94 l → HoldAll E H hn94 (.call 143 [.one (.lit (.int .i64 a3131.Prog))] (F143_res4 r3143) :: .test (leadsAny (Res.mk [(.agg [(.im (.lit (fnV 166))), (.im (.lit .nilFunc)), (.im (.lit (.bool r3143.1.only_))), (.im (.lit (fnV 163)))]), (.one (.im (.lit (.bool r3143.2))))] [])) false :: .test (beqb (bnot r3143.2) false) true :: .test (beqb (bnot r3143.2) false) true :: .test (beqb (bnot r3143.2) false) true :: .test (bnot r3143.2) false :: l) := fun z => ⟨(F143_ok4 _ h3177 (F143_ok K a3131.Prog _ h3144)), (leads_ok (by simp [leadsAny, RV.leads, RC.leads, leadsT, hasSl_lit])), (beqb_ff (bnot_t h3178)), (beqb_ff (bnot_t h3178)), (beqb_ff (bnot_t h3178)), (bnot_t h3178), z⟩
    refine cond_some hF (fun h3179 hF => ?_) (fun h3179 hF => ?_)
    ·
     obtain rfl := Option.some.inj hF
     have pz : HoldAll E H hn94 [.test (beqb (ilt a3131.Source 0) false) false, .test (beqb (ilt a3131.Source 0) false) false, .test (beqb (ilt a3131.Source 0) false) false, .test (beqb (ilt a3131.Source 0) false) false, .test (beqb (ilt a3131.Source 0) false) false, .test (ilt a3131.Source 0) true, .test (beqb true false) false, .test (beqb true false) false, .test (beqb true false) false, .test true true, .test (beqb true false) false, .test (beqb true false) false, .test (beqb true false) false, .test true true, .test (beqb true false) false, .test (beqb true false) false, .test (beqb true false) false, .test true true, .test (beqb true false) false, .test (beqb true false) false, .test (beqb true false) false, .test true true, .test true true] := ⟨(beqb_ft h3179), (beqb_ft h3179), (beqb_ft h3179), (beqb_ft h3179), (beqb_ft h3179), h3179, (beqb_ft rfl), (beqb_ft rfl), (beqb_ft rfl), rfl, (beqb_ft rfl), (beqb_ft rfl), (beqb_ft rfl), rfl, (beqb_ft rfl), (beqb_ft rfl), (beqb_ft rfl), rfl, (beqb_ft rfl), (beqb_ft rfl), (beqb_ft rfl), rfl, rfl, trivial⟩
     exact fn_playC hn94 (r := F94_res 1) (pq3193 (pq3218 pz)) (by kernel_rfl) (by kernel_rfl)
    have pq3219 : ∀ {l : List Cond}, HoldAll E H hn94 l → HoldAll E H hn94 (.test (beqb (ilt a3131.Source 0) false) true :: .test (beqb (ilt a3131.Source 0) false) true :: .test (beqb (ilt a3131.Source 0) false) true :: .test (beqb (ilt a3131.Source 0) false) true :: .test (beqb (ilt a3131.Source 0) false) true :: .test (ilt a3131.Source 0) false :: l) := fun z => ⟨(beqb_ff h3179), (beqb_ff h3179), (beqb_ff h3179), (beqb_ff h3179), (beqb_ff h3179), h3179, z⟩
    refine cond_some hF (fun h3180 hF => ?_) (fun h3180 hF => ?_)
    ·
     obtain rfl := Option.some.inj hF
     have pz : HoldAll E H hn94 [.test (beqb (ige a3131.Source a3130.N) false) false, .test (beqb (ige a3131.Source a3130.N) false) false, .test (beqb (ige a3131.Source a3130.N) false) false, .test (ige a3131.Source a3130.N) true, .test (beqb true false) false, .test (beqb true false) false, .test (beqb true false) false, .test true true, .test (beqb true false) false, .test (beqb true false) false, .test (beqb true false) false, .test true true, .test (beqb true false) false, .test (beqb true false) false, .test (beqb true false) false, .test true true, .test true true] := ⟨(beqb_ft (ige_eq h3180)), (beqb_ft (ige_eq h3180)), (beqb_ft (ige_eq h3180)), (ige_eq h3180), (beqb_ft rfl), (beqb_ft rfl), (beqb_ft rfl), rfl, (beqb_ft rfl), (beqb_ft rfl), (beqb_ft rfl), rfl, (beqb_ft rfl), (beqb_ft rfl), (beqb_ft rfl), rfl, rfl, trivial⟩
     exact fn_playC hn94 (r := F94_res 1) (pq3193 (pq3218 (pq3219 pz))) (by kernel_rfl) (by kernel_rfl)
    have pq3220 : ∀ {l : List Cond}, HoldAll E H hn94 l → HoldAll E H hn94 (.test (beqb (ige a3131.Source a3130.N) false) true :: .test (beqb (ige a3131.Source a3130.N) false) true :: .test (beqb (ige a3131.Source a3130.N) false) true :: .test (ige a3131.Source a3130.N) false :: l) := fun z => ⟨(beqb_ff (ige_eq h3180)), (beqb_ff (ige_eq h3180)), (beqb_ff (ige_eq h3180)), (ige_eq h3180), z⟩
    refine cond_some hF (fun h3181 hF => ?_) (fun h3181 hF => ?_)
    ·
     obtain rfl := Option.some.inj hF
     have pz : HoldAll E H hn94 [.test (beqb (ilt a3131.Limit 0) false) false, .test (beqb (ilt a3131.Limit 0) false) false, .test (beqb (ilt a3131.Limit 0) false) false, .test (ilt a3131.Limit 0) true, .test (beqb true false) false, .test (beqb true false) false, .test (beqb true false) false, .test true true, .test (beqb true false) false, .test (beqb true false) false, .test (beqb true false) false, .test true true, .test true true] := ⟨(beqb_ft h3181), (beqb_ft h3181), (beqb_ft h3181), h3181, (beqb_ft rfl), (beqb_ft rfl), (beqb_ft rfl), rfl, (beqb_ft rfl), (beqb_ft rfl), (beqb_ft rfl), rfl, rfl, trivial⟩
     exact fn_playC hn94 (r := F94_res 1) (pq3193 (pq3218 (pq3219 (pq3220 pz)))) (by kernel_rfl) (by kernel_rfl)
    have pq3221 : ∀ {l : List Cond}, HoldAll E H hn94 l → HoldAll E H hn94 (.test (beqb (ilt a3131.Limit 0) false) true :: .test (beqb (ilt a3131.Limit 0) false) true :: .test (beqb (ilt a3131.Limit 0) false) true :: .test (ilt a3131.Limit 0) false :: l) := fun z => ⟨(beqb_ff h3181), (beqb_ff h3181), (beqb_ff h3181), h3181, z⟩
    refine cond_some hF (fun h3182 hF => ?_) (fun h3182 hF => ?_)
    ·
     obtain rfl := Option.some.inj hF
     have pz : HoldAll E H hn94 [.test (beqb (igt a3131.Limit 40) false) false, .test (beqb (igt a3131.Limit 40) false) false, .test (beqb (igt a3131.Limit 40) false) false, .test (igt a3131.Limit 40) true, .test (beqb true false) false, .test (beqb true false) false, .test (beqb true false) false, .test true true, .test true true] := ⟨(beqb_ft (igt_eq h3182)), (beqb_ft (igt_eq h3182)), (beqb_ft (igt_eq h3182)), (igt_eq h3182), (beqb_ft rfl), (beqb_ft rfl), (beqb_ft rfl), rfl, rfl, trivial⟩
     exact fn_playC hn94 (r := F94_res 1) (pq3193 (pq3218 (pq3219 (pq3220 (pq3221 pz))))) (by kernel_rfl) (by kernel_rfl)
    have pq3222 : ∀ {l : List Cond}, HoldAll E H hn94 l → HoldAll E H hn94 (.test (beqb (igt a3131.Limit 40) false) true :: .test (beqb (igt a3131.Limit 40) false) true :: .test (beqb (igt a3131.Limit 40) false) true :: .test (igt a3131.Limit 40) false :: l) := fun z => ⟨(beqb_ff (igt_eq h3182)), (beqb_ff (igt_eq h3182)), (beqb_ff (igt_eq h3182)), (igt_eq h3182), z⟩
    refine cond_some hF (fun h3183 hF => ?_) (fun h3183 hF => ?_)
    ·
     obtain rfl := Option.some.inj hF
     have pz : HoldAll E H hn94 [.test (beqb (ilt a3131.Parts 1) false) false, .test (beqb (ilt a3131.Parts 1) false) false, .test (beqb (ilt a3131.Parts 1) false) false, .test (ilt a3131.Parts 1) true, .test true true] := ⟨(beqb_ft h3183), (beqb_ft h3183), (beqb_ft h3183), h3183, rfl, trivial⟩
     exact fn_playC hn94 (r := F94_res 1) (pq3193 (pq3218 (pq3219 (pq3220 (pq3221 (pq3222 pz)))))) (by kernel_rfl) (by kernel_rfl)
    have pq3223 : ∀ {l : List Cond}, HoldAll E H hn94 l → HoldAll E H hn94 (.test (beqb (ilt a3131.Parts 1) false) true :: .test (beqb (ilt a3131.Parts 1) false) true :: .test (beqb (ilt a3131.Parts 1) false) true :: .test (ilt a3131.Parts 1) false :: l) := fun z => ⟨(beqb_ff h3183), (beqb_ff h3183), (beqb_ff h3183), h3183, z⟩
    refine cond_some hF (fun h3184 hF => ?_) (fun h3184 hF => ?_)
    ·
     obtain rfl := Option.some.inj hF
     have pz : HoldAll E H hn94 [.test (igt a3131.Parts 6) true] := ⟨(igt_eq h3184), trivial⟩
     exact fn_playC hn94 (r := F94_res 1) (pq3193 (pq3218 (pq3219 (pq3220 (pq3221 (pq3222 (pq3223 pz))))))) (by kernel_rfl) (by kernel_rfl)
    obtain rfl := Option.some.inj hF
    have pz : HoldAll E H hn94 [.test (igt a3131.Parts 6) false] := ⟨(igt_eq h3184), trivial⟩
    exact fn_playC hn94 (r := F94_res 0) (pq3193 (pq3218 (pq3219 (pq3220 (pq3221 (pq3222 (pq3223 pz))))))) (by kernel_rfl) (by kernel_rfl)
   obtain rfl := Option.some.inj hF
   have pz : HoldAll E H hn94 [.call 143 [.one (.lit (.int .i64 a3131.Prog))] (F143_res4 r3143), .test (leadsAny (Res.mk [(.agg [(.im (.lit (fnV 166))), (.im (.lit .nilFunc)), (.im (.lit (.bool r3143.1.only_))), (.im (.lit (fnV 163)))]), (.one (.im (.lit (.bool r3143.2))))] [])) false, .test (beqb (bnot r3143.2) false) false, .test (beqb (bnot r3143.2) false) false, .test (beqb (bnot r3143.2) false) false, .test (bnot r3143.2) true, .test (beqb true false) false, .test (beqb true false) false, .test (beqb true false) false, .test (beqb true false) false, .test (beqb true false) false, .test true true, .test (beqb true false) false, .test (beqb true false) false, .test (beqb true false) false, .test true true, .test (beqb true false) false, .test (beqb true false) false, .test (beqb true false) false, .test true true, .test (beqb true false) false, .test (beqb true false) false, .test (beqb true false) false, .test true true, .test (beqb true false) false, .test (beqb true false) false, .test (beqb true false) false, .test true true, .test true true] := ⟨(F143_ok4 _ h3177 (F143_ok K a3131.Prog _ h3144)), (leads_ok (by simp [leadsAny, RV.leads, RC.leads, leadsT, hasSl_lit])), (beqb_ft (bnot_f h3178)), (beqb_ft (bnot_f h3178)), (beqb_ft (bnot_f h3178)), (bnot_f h3178), (beqb_ft rfl), (beqb_ft rfl), (beqb_ft rfl), (beqb_ft rfl), (beqb_ft rfl), rfl, (beqb_ft rfl), (beqb_ft rfl), (beqb_ft rfl), rfl, (beqb_ft rfl), (beqb_ft rfl), (beqb_ft rfl), rfl, (beqb_ft rfl), (beqb_ft rfl), (beqb_ft rfl), rfl, (beqb_ft rfl), (beqb_ft rfl), (beqb_ft rfl), rfl, rfl, trivial⟩
   exact fn_playC hn94 (r := F94_res 1) (pq3193 pz) (by kernel_rfl) (by kernel_rfl)
  refine cond_some hF (fun h3185 hF => ?_) (fun _ hF => nomatch hF)
  refine cond_some hF (fun h3186 hF => ?_) (fun h3186 hF => ?_)
  ·
   have pq3224 : ∀ {l : List Cond}, HoldAll E H hn94 l → HoldAll E H hn94 (.call 143 [.one (.lit (.int .i64 a3131.Prog))] (F143_res5 r3143) :: .test (leadsAny (Res.mk [(.agg [(.im (.lit .nilFunc)), (.im (.lit .nilFunc)), (.im (.lit (.bool r3143.1.only_))), (.im (.lit .nilFunc))]), (.one (.im (.lit (.bool r3143.2))))] [])) false :: .test (beqb (bnot r3143.2) false) true :: .test (beqb (bnot r3143.2) false) true :: .test (beqb (bnot r3143.2) false) true :: .test (bnot r3143.2) false :: l) := fun z => ⟨(F143_ok5 _ h3185 (F143_ok K a3131.Prog _ h3144)), (leads_ok (by simp [leadsAny, RV.leads, RC.leads, leadsT, hasSl_lit])), (beqb_ff (bnot_t h3186)), (beqb_ff (bnot_t h3186)), (beqb_ff (bnot_t h3186)), (bnot_t h3186), z⟩
   refine cond_some hF (fun h3187 hF => ?_) (fun h3187 hF => ?_)
   ·
    obtain rfl := Option.some.inj hF
    have pz : HoldAll E H hn94 [.test (beqb (ilt a3131.Source 0) false) false, .test (beqb (ilt a3131.Source 0) false) false, .test (beqb (ilt a3131.Source 0) false) false, .test (beqb (ilt a3131.Source 0) false) false, .test (beqb (ilt a3131.Source 0) false) false, .test (ilt a3131.Source 0) true, .test (beqb true false) false, .test (beqb true false) false, .test (beqb true false) false, .test true true, .test (beqb true false) false, .test (beqb true false) false, .test (beqb true false) false, .test true true, .test (beqb true false) false, .test (beqb true false) false, .test (beqb true false) false, .test true true, .test (beqb true false) false, .test (beqb true false) false, .test (beqb true false) false, .test true true, .test true true] := ⟨(beqb_ft h3187), (beqb_ft h3187), (beqb_ft h3187), (beqb_ft h3187), (beqb_ft h3187), h3187, (beqb_ft rfl), (beqb_ft rfl), (beqb_ft rfl), rfl, (beqb_ft rfl), (beqb_ft rfl), (beqb_ft rfl), rfl, (beqb_ft rfl), (beqb_ft rfl), (beqb_ft rfl), rfl, (beqb_ft rfl), (beqb_ft rfl), (beqb_ft rfl), rfl, rfl, trivial⟩
    exact fn_playC hn94 (r := F94_res 1) (pq3193 (pq3224 pz)) (by kernel_rfl) (by kernel_rfl)
   have pq3225 : ∀ {l : List Cond}, HoldAll E H hn94 l → HoldAll E H hn94 (.test (beqb (ilt a3131.Source 0) false) true :: .test (beqb (ilt a3131.Source 0) false) true :: .test (beqb (ilt a3131.Source 0) false) true :: .test (beqb (ilt a3131.Source 0) false) true :: .test (beqb (ilt a3131.Source 0) false) true :: .test (ilt a3131.Source 0) false :: l) := fun z => ⟨(beqb_ff h3187), (beqb_ff h3187), (beqb_ff h3187), (beqb_ff h3187), (beqb_ff h3187), h3187, z⟩
   refine cond_some hF (fun h3188 hF => ?_) (fun h3188 hF => ?_)
   ·
    obtain rfl := Option.some.inj hF
    have pz : HoldAll E H hn94 [.test (beqb (ige a3131.Source a3130.N) false) false, .test (beqb (ige a3131.Source a3130.N) false) false, .test (beqb (ige a3131.Source a3130.N) false) false, .test (ige a3131.Source a3130.N) true, .test (beqb true false) false, .test (beqb true false) false, .test (beqb true false) false, .test true true, .test (beqb true false) false, .test (beqb true false) false, .test (beqb true false) false, .test true true, .test (beqb true false) false, .test (beqb true false) false, .test (beqb true false) false, .test true true, .test true true] := ⟨(beqb_ft (ige_eq h3188)), (beqb_ft (ige_eq h3188)), (beqb_ft (ige_eq h3188)), (ige_eq h3188), (beqb_ft rfl), (beqb_ft rfl), (beqb_ft rfl), rfl, (beqb_ft rfl), (beqb_ft rfl), (beqb_ft rfl), rfl, (beqb_ft rfl), (beqb_ft rfl), (beqb_ft rfl), rfl, rfl, trivial⟩
    exact fn_playC hn94 (r := F94_res 1) (pq3193 (pq3224 (pq3225 pz))) (by kernel_rfl) (by kernel_rfl)
   have pq3226 : ∀ {l : List Cond}, HoldAll E H hn94 l → HoldAll E H hn94 (.test (beqb (ige a3131.Source a3130.N) false) true :: .test (beqb (ige a3131.Source a3130.N) false) true :: .test (beqb (ige a3131.Source a3130.N) false) true :: .test (ige a3131.Source a3130.N) false :: l) := fun z => ⟨(beqb_ff (ige_eq h3188)), (beqb_ff (ige_eq h3188)), (beqb_ff (ige_eq h3188)), (ige_eq h3188), z⟩
   refine cond_some hF (fun h3189 hF => ?_) (fun h3189 hF => ?_)
   ·
    obtain rfl := Option.some.inj hF
    have pz : HoldAll E H hn94 [.test (beqb (ilt a3131.Limit 0) false) false, .test (beqb (ilt a3131.Limit 0) false) false, .test (beqb (ilt a3131.Limit 0) false) false, .test (ilt a3131.Limit 0) true, .test (beqb true false) false, .test (beqb true false) false, .test (beqb true false) false, .test true true, .test (beqb true false) false, .test (beqb true false) false, .test (beqb true false) false, .test true true, .test true true] := ⟨(beqb_ft h3189), (beqb_ft h3189), (beqb_ft h3189), h3189, (beqb_ft rfl), (beqb_ft rfl), (beqb_ft rfl), rfl, (beqb_ft rfl), (beqb_ft rfl), (beqb_ft rfl), rfl, rfl, trivial⟩
    exact fn_playC hn94 (r := F94_res 1) (pq3193 (pq3224 (pq3225 (pq3226 pz)))) (by kernel_rfl) (by kernel_rfl)
   have pq3227 : ∀ {l : List Cond}, HoldAll E H hn94 l → HoldAll E H hn94 (.test (beqb (ilt a3131.Limit 0) false) true :: .test (beqb (ilt a3131.Limit 0) false) true :: .test (beqb (ilt a3131.Limit 0) false) true :: .test (ilt a3131.Limit 0) false :: l) := fun z => ⟨(beqb_ff h3189), (beqb_ff h3189), (beqb_ff h3189), h3189, z⟩
   refine cond_some hF (fun h3190 hF => ?_) (fun h3190 hF => ?_)
   ·
    obtain rfl := Option.some.inj hF
    have pz : HoldAll E H hn94 [.test (beqb (igt a3131.Limit 40) false) false, .test (beqb (igt a3131.Limit 40) false) false, .test (beqb (igt a3131.Limit 40) false) false, .test (igt a3131.Limit 40) true, .test (beqb true false) false, .test (beqb true false) false, .test (beqb true false) false, .test true true, .test true true] := ⟨(beqb_ft (igt_eq h3190)), (beqb_ft (igt_eq h3190)), (beqb_ft (igt_eq h3190)), (igt_eq h3190), (beqb_ft rfl), (beqb_ft rfl), (beqb_ft rfl), rfl, rfl, trivial⟩
    exact fn_playC hn94 (r := F94_res 1) (pq3193 (pq3224 (pq3225 (pq3226 (pq3227 pz))))) (by kernel_rfl) (by kernel_rfl)
   have pq3228 : ∀ {l : List Cond}, HoldAll E H hn94 l → HoldAll E H hn94 (.test (beqb (igt a3131.Limit 40) false) true :: .test (beqb (igt a3131.Limit 40) false) true :: .test (beqb (igt a3131.Limit 40) false) true :: .test (igt a3131.Limit 40) false :: l) := fun z => ⟨(beqb_ff (igt_eq h3190)), (beqb_ff (igt_eq h3190)), (beqb_ff (igt_eq h3190)), (igt_eq h3190), z⟩
   refine cond_some hF (fun h3191 hF => ?_) (fun h3191 hF => ?_)
   ·
    obtain rfl := Option.some.inj hF
    have pz : HoldAll E H hn94 [.test (beqb (ilt a3131.Parts 1) false) false, .test (beqb (ilt a3131.Parts 1) false) false, .test (beqb (ilt a3131.Parts 1) false) false, .test (ilt a3131.Parts 1) true, .test true true] := ⟨(beqb_ft h3191), (beqb_ft h3191), (beqb_ft h3191), h3191, rfl, trivial⟩
    exact fn_playC hn94 (r := F94_res 1) (pq3193 (pq3224 (pq3225 (pq3226 (pq3227 (pq3228 pz)))))) (by kernel_rfl) (by kernel_rfl)
   have pq3229 : ∀ {l : List Cond}, HoldAll E H hn94 l → HoldAll E H hn94 (.test (beqb (ilt a3131.Parts 1) false) true :: .test (beqb (ilt a3131.Parts 1) false) true :: .test (beqb (ilt a3131.Parts 1) false) true :: .test (ilt a3131.Parts 1) false :: l) := fun z => ⟨(beqb_ff h3191), (beqb_ff h3191), (beqb_ff h3191), h3191, z⟩
   refine cond_some hF (fun h3192 hF => ?_) (fun h3192 hF => ?_)
   ·
    obtain rfl := Option.some.inj hF
    have pz : HoldAll E H hn94 [.test (igt a3131.Parts 6) true] := ⟨(igt_eq h3192), trivial⟩
    exact fn_playC hn94 (r := F94_res 1) (pq3193 (pq3224 (pq3225 (pq3226 (pq3227 (pq3228 (pq3229 pz))))))) (by kernel_rfl) (by kernel_rfl)
   obtain rfl := Option.some.inj hF
   have pz : HoldAll E H hn94 [.test (igt a3131.Parts 6) false] := ⟨(igt_eq h3192), trivial⟩
   exact fn_playC hn94 (r := F94_res 0) (pq3193 (pq3224 (pq3225 (pq3226 (pq3227 (pq3228 (pq3229 pz))))))) (by kernel_rfl) (by kernel_rfl)
  obtain rfl := Option.some.inj hF
  have pz : HoldAll E H hn94 [.call 143 [.one (.lit (.int .i64 a3131.Prog))] (F143_res5 r3143), .test (leadsAny (Res.mk [(.agg [(.im (.lit .nilFunc)), (.im (.lit .nilFunc)), (.im (.lit (.bool r3143.1.only_))), (.im (.lit .nilFunc))]), (.one (.im (.lit (.bool r3143.2))))] [])) false, .test (beqb (bnot r3143.2) false) false, .test (beqb (bnot r3143.2) false) false, .test (beqb (bnot r3143.2) false) false, .test (bnot r3143.2) true, .test (beqb true false) false, .test (beqb true false) false, .test (beqb true false) false, .test (beqb true false) false, .test (beqb true false) false, .test true true, .test (beqb true false) false, .test (beqb true false) false, .test (beqb true false) false, .test true true, .test (beqb true false) false, .test (beqb true false) false, .test (beqb true false) false, .test true true, .test (beqb true false) false, .test (beqb true false) false, .test (beqb true false) false, .test true true, .test (beqb true false) false, .test (beqb true false) false, .test (beqb true false) false, .test true true, .test true true] := ⟨(F143_ok5 _ h3185 (F143_ok K a3131.Prog _ h3144)), (leads_ok (by simp [leadsAny, RV.leads, RC.leads, leadsT, hasSl_lit])), (beqb_ft (bnot_f h3186)), (beqb_ft (bnot_f h3186)), (beqb_ft (bnot_f h3186)), (bnot_f h3186), (beqb_ft rfl), (beqb_ft rfl), (beqb_ft rfl), (beqb_ft rfl), (beqb_ft rfl), rfl, (beqb_ft rfl), (beqb_ft rfl), (beqb_ft rfl), rfl, (beqb_ft rfl), (beqb_ft rfl), (beqb_ft rfl), rfl, (beqb_ft rfl), (beqb_ft rfl), (beqb_ft rfl), rfl, (beqb_ft rfl), (beqb_ft rfl), (beqb_ft rfl), rfl, rfl, trivial⟩
  exact fn_playC hn94 (r := F94_res 1) (pq3193 pz) (by kernel_rfl) (by kernel_rfl)
 obtain rfl := Option.some.inj hF
 have pz : HoldAll E H hn94 [.call 64 [.agg (eGGraph a3130)] (F64_res r3132), .test (leadsAny (Res.mk [(.one (.im (.lit (.int .i64 r3132))))] [])) false, .test (ine r3132 0) true] := ⟨(F64_ok K a3130 _ h3133), (leads_ok (by simp [leadsAny, RV.leads, RC.leads, leadsT, hasSl_lit])), (ine_f h3134), trivial⟩
 exact fn_playC hn94 (r := F94_res r3132) pz (by kernel_rfl) (by kernel_rfl)
theorem af_1_1 : areFns [(fnV 158), (fnV 159), (fnV 160)] [158, 159, 160] = true := rfl
theorem af_1_3 : areFns [(fnV 158), (fnV 159), (fnV 160)] [158, 159, 161] = false := rfl
theorem af_1_2 : areFns [(fnV 158), (fnV 159), (fnV 160)] [162, 159, 163] = false := rfl
theorem af_1_4 : areFns [(fnV 158), (fnV 159), (fnV 160)] [164, 165, 163] = false := rfl
theorem af_1_5 : areFns [(fnV 158), (fnV 159), (fnV 160)] [166, 0, 163] = false := rfl
theorem af_1_0 : areFns [(fnV 158), (fnV 159), (fnV 160)] [0, 0, 0] = false := rfl
theorem af_3_1 : areFns [(fnV 158), (fnV 159), (fnV 161)] [158, 159, 160] = false := rfl
theorem af_3_3 : areFns [(fnV 158), (fnV 159), (fnV 161)] [158, 159, 161] = true := rfl
theorem af_3_2 : areFns [(fnV 158), (fnV 159), (fnV 161)] [162, 159, 163] = false := rfl
theorem af_3_4 : areFns [(fnV 158), (fnV 159), (fnV 161)] [164, 165, 163] = false := rfl
theorem af_3_5 : areFns [(fnV 158), (fnV 159), (fnV 161)] [166, 0, 163] = false := rfl
theorem af_3_0 : areFns [(fnV 158), (fnV 159), (fnV 161)] [0, 0, 0] = false := rfl
theorem af_2_1 : areFns [(fnV 162), (fnV 159), (fnV 163)] [158, 159, 160] = false := rfl
theorem af_2_3 : areFns [(fnV 162), (fnV 159), (fnV 163)] [158, 159, 161] = false := rfl
theorem af_2_2 : areFns [(fnV 162), (fnV 159), (fnV 163)] [162, 159, 163] = true := rfl
theorem af_2_4 : areFns [(fnV 162), (fnV 159), (fnV 163)] [164, 165, 163] = false := rfl
theorem af_2_5 : areFns [(fnV 162), (fnV 159), (fnV 163)] [166, 0, 163] = false := rfl
theorem af_2_0 : areFns [(fnV 162), (fnV 159), (fnV 163)] [0, 0, 0] = false := rfl
theorem af_4_1 : areFns [(fnV 164), (fnV 165), (fnV 163)] [158, 159, 160] = false := rfl
theorem af_4_3 : areFns [(fnV 164), (fnV 165), (fnV 163)] [158, 159, 161] = false := rfl
theorem af_4_2 : areFns [(fnV 164), (fnV 165), (fnV 163)] [162, 159, 163] = false := rfl
theorem af_4_4 : areFns [(fnV 164), (fnV 165), (fnV 163)] [164, 165, 163] = true := rfl
theorem af_4_5 : areFns [(fnV 164), (fnV 165), (fnV 163)] [166, 0, 163] = false := rfl
theorem af_4_0 : areFns [(fnV 164), (fnV 165), (fnV 163)] [0, 0, 0] = false := rfl
theorem af_5_1 : areFns [(fnV 166), .nilFunc, (fnV 163)] [158, 159, 160] = false := rfl
theorem af_5_3 : areFns [(fnV 166), .nilFunc, (fnV 163)] [158, 159, 161] = false := rfl
theorem af_5_2 : areFns [(fnV 166), .nilFunc, (fnV 163)] [162, 159, 163] = false := rfl
theorem af_5_4 : areFns [(fnV 166), .nilFunc, (fnV 163)] [164, 165, 163] = false := rfl
theorem af_5_5 : areFns [(fnV 166), .nilFunc, (fnV 163)] [166, 0, 163] = true := rfl
theorem af_5_0 : areFns [(fnV 166), .nilFunc, (fnV 163)] [0, 0, 0] = false := rfl
theorem af_0_1 : areFns [.nilFunc, .nilFunc, .nilFunc] [158, 159, 160] = false := rfl
theorem af_0_3 : areFns [.nilFunc, .nilFunc, .nilFunc] [158, 159, 161] = false := rfl
theorem af_0_2 : areFns [.nilFunc, .nilFunc, .nilFunc] [162, 159, 163] = false := rfl
theorem af_0_4 : areFns [.nilFunc, .nilFunc, .nilFunc] [164, 165, 163] = false := rfl
theorem af_0_5 : areFns [.nilFunc, .nilFunc, .nilFunc] [166, 0, 163] = false := rfl
theorem af_0_0 : areFns [.nilFunc, .nilFunc, .nilFunc] [0, 0, 0] = true := rfl
theorem F143_1 (K : Nat) : F143 K 1 = some (Grule.mk (fnV 158) (fnV 159) true (fnV 160), true) := rfl
theorem F143_2 (K : Nat) : F143 K 2 = some (Grule.mk (fnV 162) (fnV 159) false (fnV 163), true) := rfl
theorem F143_3 (K : Nat) : F143 K 3 = some (Grule.mk (fnV 158) (fnV 159) true (fnV 161), true) := rfl
theorem F143_4 (K : Nat) : F143 K 4 = some (Grule.mk (fnV 164) (fnV 165) false (fnV 163), true) := rfl
theorem F143_5 (K : Nat) : F143 K 5 = some (Grule.mk (fnV 166) .nilFunc false (fnV 163), true) := rfl
theorem F143_0 (K : Nat) {p : Int} (h : p < 1 ∨ 5 < p) : F143 K p = some (Grule.mk .nilFunc .nilFunc false .nilFunc, false) := by
 rw [F143, ieq_f.2 (by omega : p ≠ 1), ieq_f.2 (by omega : p ≠ 3), ieq_f.2 (by omega : p ≠ 2), ieq_f.2 (by omega : p ≠ 4), ieq_f.2 (by omega : p ≠ 5)]; rfl
theorem prog_cases (p : Int) : p = 1 ∨ p = 2 ∨ p = 3 ∨ p = 4 ∨ p = 5 ∨ (p < 1 ∨ 5 < p) := by omega
def jbad (n : Int) (j : GJob) : Bool := ilt j.Source 0 || (ile n j.Source || (ilt j.Limit 0 || (ilt 40 j.Limit || (ilt j.Parts 1 || ilt 6 j.Parts))))
def pbad (p : Int) : Bool := ilt p 1 || ilt 5 p
def jcheck (g : GGraph) (j : GJob) : Int := bif ieq (gcheck g) 0 then (bif pbad j.Prog || jbad g.N j then 1 else 0) else gcheck g
theorem jtail (n : Int) (j : GJob) : (bif (ilt j.Source 0) then (some 1) else bif (ile n j.Source) then (some 1) else bif (ilt j.Limit 0) then (some 1) else bif (ilt 40 j.Limit) then (some 1) else bif (ilt j.Parts 1) then (some 1) else bif (ilt 6 j.Parts) then (some 1) else some 0) = some (bif jbad n j then 1 else 0 : Int) := by
 unfold jbad
 cases ilt j.Source 0 <;> cases ile n j.Source <;> cases ilt j.Limit 0 <;> cases ilt 40 j.Limit <;> cases ilt j.Parts 1 <;> cases ilt 6 j.Parts <;> rfl
theorem F59_spec {K : Nat} (hK : 100 ≤ K) (g : GGraph) (j : GJob) : F59 K g j = some (jcheck g j) := by
 rw [F59, F65_spec hK, Option.bind_some, jcheck]
 cases ieq (gcheck g) 0
 · rfl
 · rw [cond_true, cond_true, jtail, pbad]
   cases ilt j.Prog 1 <;> cases ilt 5 j.Prog <;> rfl
theorem F94_spec {K : Nat} (hK : 100 ≤ K) (g : GGraph) (j : GJob) : F94 K g j = some (jcheck g j) := by
 rw [F94, F64_spec hK, Option.bind_some, jcheck]
 cases ieq (gcheck g) 0
 · rfl
 · rw [cond_true, cond_true]
   rcases prog_cases j.Prog with h | h | h | h | h | h
   · have hb : pbad j.Prog = false := by rw [h]; rfl
     rw [hb, Bool.false_or, h, F143_1]
     simp only [Option.bind_some, cond_true, cond_false, af_1_1, af_1_3, af_1_2, af_1_4, af_1_5, af_1_0, af_3_1, af_3_3, af_3_2, af_3_4, af_3_5, af_3_0, af_2_1, af_2_3, af_2_2, af_2_4, af_2_5, af_2_0, af_4_1, af_4_3, af_4_2, af_4_4, af_4_5, af_4_0, af_5_1, af_5_3, af_5_2, af_5_4, af_5_5, af_5_0, af_0_1, af_0_3, af_0_2, af_0_4, af_0_5, af_0_0, jtail]
   · have hb : pbad j.Prog = false := by rw [h]; rfl
     rw [hb, Bool.false_or, h, F143_2]
     simp only [Option.bind_some, cond_true, cond_false, af_1_1, af_1_3, af_1_2, af_1_4, af_1_5, af_1_0, af_3_1, af_3_3, af_3_2, af_3_4, af_3_5, af_3_0, af_2_1, af_2_3, af_2_2, af_2_4, af_2_5, af_2_0, af_4_1, af_4_3, af_4_2, af_4_4, af_4_5, af_4_0, af_5_1, af_5_3, af_5_2, af_5_4, af_5_5, af_5_0, af_0_1, af_0_3, af_0_2, af_0_4, af_0_5, af_0_0, jtail]
   · have hb : pbad j.Prog = false := by rw [h]; rfl
     rw [hb, Bool.false_or, h, F143_3]
     simp only [Option.bind_some, cond_true, cond_false, af_1_1, af_1_3, af_1_2, af_1_4, af_1_5, af_1_0, af_3_1, af_3_3, af_3_2, af_3_4, af_3_5, af_3_0, af_2_1, af_2_3, af_2_2, af_2_4, af_2_5, af_2_0, af_4_1, af_4_3, af_4_2, af_4_4, af_4_5, af_4_0, af_5_1, af_5_3, af_5_2, af_5_4, af_5_5, af_5_0, af_0_1, af_0_3, af_0_2, af_0_4, af_0_5, af_0_0, jtail]
   · have hb : pbad j.Prog = false := by rw [h]; rfl
     rw [hb, Bool.false_or, h, F143_4]
     simp only [Option.bind_some, cond_true, cond_false, af_1_1, af_1_3, af_1_2, af_1_4, af_1_5, af_1_0, af_3_1, af_3_3, af_3_2, af_3_4, af_3_5, af_3_0, af_2_1, af_2_3, af_2_2, af_2_4, af_2_5, af_2_0, af_4_1, af_4_3, af_4_2, af_4_4, af_4_5, af_4_0, af_5_1, af_5_3, af_5_2, af_5_4, af_5_5, af_5_0, af_0_1, af_0_3, af_0_2, af_0_4, af_0_5, af_0_0, jtail]
   · have hb : pbad j.Prog = false := by rw [h]; rfl
     rw [hb, Bool.false_or, h, F143_5]
     simp only [Option.bind_some, cond_true, cond_false, af_1_1, af_1_3, af_1_2, af_1_4, af_1_5, af_1_0, af_3_1, af_3_3, af_3_2, af_3_4, af_3_5, af_3_0, af_2_1, af_2_3, af_2_2, af_2_4, af_2_5, af_2_0, af_4_1, af_4_3, af_4_2, af_4_4, af_4_5, af_4_0, af_5_1, af_5_3, af_5_2, af_5_4, af_5_5, af_5_0, af_0_1, af_0_3, af_0_2, af_0_4, af_0_5, af_0_0, jtail]
   · have hb : pbad j.Prog = true := by
       unfold pbad
       rcases h with h | h
       · rw [ilt_iff.2 h]; rfl
       · rw [ilt_iff.2 h, Bool.or_true]
     rw [hb, Bool.true_or, F143_0 K h]
     simp only [Option.bind_some, cond_true, cond_false, af_1_1, af_1_3, af_1_2, af_1_4, af_1_5, af_1_0, af_3_1, af_3_3, af_3_2, af_3_4, af_3_5, af_3_0, af_2_1, af_2_3, af_2_2, af_2_4, af_2_5, af_2_0, af_4_1, af_4_3, af_4_2, af_4_4, af_4_5, af_4_0, af_5_1, af_5_3, af_5_2, af_5_4, af_5_5, af_5_0, af_0_1, af_0_3, af_0_2, af_0_4, af_0_5, af_0_0]
theorem jcheck_ok {g : GGraph} {j : GJob} (h : ieq (jcheck g j) 0 = true) : ieq (gcheck g) 0 = true ∧ 1 ≤ j.Prog ∧ j.Prog ≤ 5 ∧ 0 ≤ j.Source ∧ j.Source < g.N ∧ 0 ≤ j.Limit ∧ j.Limit ≤ 40 ∧ 1 ≤ j.Parts ∧ j.Parts ≤ 6 := by
 rw [jcheck] at h
 cases hg : ieq (gcheck g) 0
 · rw [hg, cond_false] at h; rw [h] at hg; cases hg
 · rw [hg, cond_true] at h
   cases hb : pbad j.Prog || jbad g.N j
   · simp only [pbad, jbad, Bool.or_eq_false_iff, ilt_f, ile_f] at hb
     obtain ⟨⟨h1, h2⟩, h3, h4, h5, h6, h7, h8⟩ := hb
     exact ⟨rfl, h1, h2, h3, h4, h5, h6, h7, h8⟩
   · rw [hb] at h; cases h
def i64 (n : Int) : Prop := -9223372036854775808 ≤ n ∧ n ≤ 9223372036854775807
theorem scanN {σ β : Type} {N : Int} {L : Nat → σ → Int → Option β} (step : Nat → σ → (σ → Option β) → Option β) (fin : σ → Option β)
   (h : ∀ k s (i : Nat), i ≤ N.toNat → L (k + 1) s i = bif ilt i N then step i s (fun s' => L k s' (wadd .i64 i 1)) else fin s) (hN : N ≤ 1000000) {K : Nat} (hK : N.toNat < K) (s : σ) :
   L K s 0 = goL step fin (List.range N.toNat) s := by
 have hw : ∀ (k : Nat) (s : σ) (i : Nat), N.toNat - i < k → i ≤ N.toNat → L k s i = goL step fin ((List.range N.toNat).drop i) s := by
   intro k
   induction k with
   | zero => intro s i h; omega
   | succ k ih =>
     intro s i hk hi
     rw [h k s i hi]
     by_cases hlt : i < N.toNat
     · have e : (List.range N.toNat).drop i = i :: (List.range N.toNat).drop (i + 1) := by
         rw [List.drop_eq_getElem_cons (by simpa using hlt)]; simp
       rw [ilt_iff.2 (by omega : (i : Int) < N), cond_true, e, goL]
       congr 1
       funext s'
       rw [wadd_nat (by omega)]
       exact ih s' (i + 1) (by omega) (by omega)
     · have e : (List.range N.toNat).drop i = [] := List.drop_eq_nil_of_le (by simp; omega)
       rw [ilt_f.2 (by omega : N ≤ (i : Int)), cond_false, e]; rfl
 have := hw K s 0 (by omega) (by omega)
 rw [List.drop_zero] at this
 exact this
theorem wrem_emod {a b : Int} (h : 0 ≤ a) : wrem a b = a % b := by
 show Int.tmod _ _ = _
 exact Int.tmod_eq_emod_of_nonneg h
def vertsN (n parts : Nat) (p : Int) : List Nat := (List.range n).filter fun v => ieq ((v % parts : Nat) : Int) p
def vertsS (g : GGraph) (j : GJob) (p : Int) : List Nat := vertsN g.N.toNat j.Parts.toNat p
theorem mem_verts {g : GGraph} {j : GJob} (h1 : 1 ≤ j.Parts) {p : Int} {v : Nat} : v ∈ vertsS g j p ↔ (v : Int) < g.N ∧ (v : Int) % j.Parts = p := by
 obtain ⟨m, hm⟩ := Int.eq_ofNat_of_zero_le (show 0 ≤ j.Parts by omega)
 simp only [vertsS, vertsN, List.mem_filter, List.mem_range, ieq_iff]
 have : j.Parts.toNat = m := by omega
 rw [this, hm]
 constructor
 · rintro ⟨a, b⟩; exact ⟨by omega, by rw [← b]; simp⟩
 · rintro ⟨a, b⟩; exact ⟨by omega, by rw [← b]; simp⟩
noncomputable def hn88 : Hint := { H 88 with nt := 75, prot := 0 }
noncomputable def c88_0 : Code := loopOf E 88 0
def F88_res (r1227 : Bool) : Res := ⟨[(.one (.im (.lit (.bool r1227))))], []⟩
def F88_l0_0 (K : Nat) (a1185 : GGraph) (a1187 : GState) : Nat → Int → Option ((Unit) ⊕ (Unit))
 | 0, _ => none
 | k + 1, v1201 =>
  bif (ilt v1201 (nlen (len a1187.In))) then
   (bif (inr v1201 (len a1187.In)) then
   (elAt a1187.In v1201).bind fun x1204 =>
   bif (ilt x1204.To 0) then
    (some (.inl ()))
   else
   bif (ile a1185.N x1204.To) then
    (some (.inl ()))
   else
   bif (ilt 0 v1201) then
    (bif (inr (wsub .i64 v1201 1) (len a1187.In)) then
    (elAt a1187.In (wsub .i64 v1201 1)).bind fun x1210 =>
    bif (ile x1204.To x1210.To) then
     (some (.inl ()))
    else
    F88_l0_0 K a1185 a1187 k (wadd .i64 v1201 1)
    else none)
   else
   F88_l0_0 K a1185 a1187 k (wadd .i64 v1201 1)
   else none)
  else
  some (.inr ())
def F88_l0_0_S (a1185 : GGraph) (a1187 : GState) (v1201 : Int) : TS := .on [192, 193, 194, 320, 321, 322, 323, 324, 448, 449] [(192, ⟨(.box 62 2), 0, nob⟩), (193, ⟨.im, 0, (.lit (.int .i64 a1185.N))⟩), (194, ⟨.im, 0, (.sl (len a1185.Edges) (flat eGEdge a1185.Edges))⟩), (320, ⟨(.box 74 4), 0, nob⟩), (321, ⟨.im, 0, (.lit (.int .i64 a1187.Step))⟩), (322, ⟨.im, 0, (.sl (len a1187.Vals) (flat (eInt .i64) a1187.Vals))⟩), (323, ⟨.im, 0, (.sl (len a1187.Rest) (flat eBool a1187.Rest))⟩), (324, ⟨.im, 0, (.sl (len a1187.In) (flat eGMsg a1187.In))⟩), (448, ⟨.one, 0, nob⟩), (449, ⟨.im, 0, (.lit (.int .i64 v1201))⟩)]
def F88_l0_0_X0 (a1185 : GGraph) (a1187 : GState) (w1213 : Unit) : TS := .on [384, 385] [(384, ⟨.one, 0, nob⟩), (385, ⟨.im, 0, (.lit (.bool false))⟩)]
def F88_l0_0_X1 (a1185 : GGraph) (a1187 : GState) (w1214 : Unit) : TS := .on [] []
theorem F88_l0_0_ok (K : Nat) (a1185 : GGraph) (a1187 : GState) : ∀ (k : Nat) (v1201 : Int) (r : (Unit) ⊕ (Unit)), F88_l0_0 K a1185 a1187 k v1201 = some r → (Sum.elim (fun w => LoopEv E H hn88 0 c88_0 (F88_l0_0_S a1185 a1187 v1201) .ret (F88_l0_0_X0 a1185 a1187 w)) (fun w => LoopEv E H hn88 0 c88_0 (F88_l0_0_S a1185 a1187 v1201) (.exit 0) (F88_l0_0_X1 a1185 a1187 w))) r := by
 intro k
 induction k with
 | zero => intro v1201 r hF; cases hF
 | succ k ih =>
  intro v1201 r hF
  rw [F88_l0_0] at hF
  refine cond_some hF (fun h1202 hF => ?_) (fun h1202 hF => ?_)
  ·
   refine cond_some hF (fun h1203 hF => ?_) (fun _ hF => nomatch hF)
   refine bind_some hF (fun x1204 h1205 hF => ?_)
   have pq1215 : ∀ {l : List Cond}, HoldAll E H hn88 l → HoldAll E H hn88 (.int (nlen (len a1187.In)) (nlen (len a1187.In)) :: .test (ilt v1201 (nlen (len a1187.In))) true :: .test (inr v1201 (len a1187.In)) true :: .sub (flat eGMsg a1187.In) (nadd (nidx v1201 2) 0) 1 [(.lit (.int .i64 x1204.To))] :: l) := fun z => ⟨rfl, h1202, h1203, ⟨rfl, sub_flat eGMsg_len h1205 0 1 (by decide)⟩, z⟩
   refine cond_some hF (fun h1206 hF => ?_) (fun h1206 hF => ?_)
   ·
    obtain rfl := Option.some.inj hF
    have pz : HoldAll E H hn88 [.test (beqb (ilt x1204.To 0) false) false, .test (beqb (ilt x1204.To 0) false) false, .test (beqb (ilt x1204.To 0) false) false, .test (beqb (ilt x1204.To 0) false) false, .test (ilt x1204.To 0) true, .test (beqb true false) false, .test (beqb true false) false, .test (beqb true false) false, .test (beqb true false) false, .test true true, .test true true] := ⟨(beqb_ft h1206), (beqb_ft h1206), (beqb_ft h1206), (beqb_ft h1206), h1206, (beqb_ft rfl), (beqb_ft rfl), (beqb_ft rfl), (beqb_ft rfl), rfl, rfl, trivial⟩
    exact loop_endC (h := hn88) (l := 0) (c := c88_0) (ts := F88_l0_0_S a1185 a1187 v1201) (ts' := F88_l0_0_X0 a1185 a1187 ()) (ex := .ret) (pq1215 pz) (by kernel_rfl) trivial
   have pq1216 : ∀ {l : List Cond}, HoldAll E H hn88 l → HoldAll E H hn88 (.test (beqb (ilt x1204.To 0) false) true :: .test (beqb (ilt x1204.To 0) false) true :: .test (beqb (ilt x1204.To 0) false) true :: .test (beqb (ilt x1204.To 0) false) true :: .test (ilt x1204.To 0) false :: l) := fun z => ⟨(beqb_ff h1206), (beqb_ff h1206), (beqb_ff h1206), (beqb_ff h1206), h1206, z⟩
   refine cond_some hF (fun h1207 hF => ?_) (fun h1207 hF => ?_)
   ·
    obtain rfl := Option.some.inj hF
    have pz : HoldAll E H hn88 [.test (beqb (ige x1204.To a1185.N) false) false, .test (beqb (ige x1204.To a1185.N) false) false, .test (beqb (ige x1204.To a1185.N) false) false, .test (beqb (ige x1204.To a1185.N) false) false, .test (ige x1204.To a1185.N) true, .test true true] := ⟨(beqb_ft (ige_eq h1207)), (beqb_ft (ige_eq h1207)), (beqb_ft (ige_eq h1207)), (beqb_ft (ige_eq h1207)), (ige_eq h1207), rfl, trivial⟩
    exact loop_endC (h := hn88) (l := 0) (c := c88_0) (ts := F88_l0_0_S a1185 a1187 v1201) (ts' := F88_l0_0_X0 a1185 a1187 ()) (ex := .ret) (pq1215 (pq1216 pz)) (by kernel_rfl) trivial
   have pq1217 : ∀ {l : List Cond}, HoldAll E H hn88 l → HoldAll E H hn88 (.test (beqb (ige x1204.To a1185.N) false) true :: .test (beqb (ige x1204.To a1185.N) false) true :: .test (beqb (ige x1204.To a1185.N) false) true :: l) := fun z => ⟨(beqb_ff (ige_eq h1207)), (beqb_ff (ige_eq h1207)), (beqb_ff (ige_eq h1207)), z⟩
   refine cond_some hF (fun h1208 hF => ?_) (fun h1208 hF => ?_)
   ·
    refine cond_some hF (fun h1209 hF => ?_) (fun _ hF => nomatch hF)
    refine bind_some hF (fun x1210 h1211 hF => ?_)
    have pq1218 : ∀ {l : List Cond}, HoldAll E H hn88 l → HoldAll E H hn88 (.test (beqb (igt v1201 0) true) true :: .test (beqb (igt v1201 0) true) true :: .test (beqb (igt v1201 0) true) true :: .test (beqb (igt v1201 0) true) true :: .int (wsub .i64 v1201 1) (wsub .i64 v1201 1) :: .test (beqb (igt v1201 0) true) true :: .test (inr (wsub .i64 v1201 1) (len a1187.In)) true :: .test (beqb (igt v1201 0) true) true :: .test (beqb (igt v1201 0) true) true :: .sub (flat eGMsg a1187.In) (nadd (nidx (wsub .i64 v1201 1) 2) 0) 1 [(.lit (.int .i64 x1210.To))] :: .test (beqb (igt v1201 0) true) true :: .test (beqb (igt v1201 0) true) true :: .test (beqb (ige x1204.To a1185.N) false) true :: .test (igt v1201 0) true :: .test (ige x1204.To a1185.N) false :: l) := fun z => ⟨(beqb_t (igt_eq h1208)), (beqb_t (igt_eq h1208)), (beqb_t (igt_eq h1208)), (beqb_t (igt_eq h1208)), rfl, (beqb_t (igt_eq h1208)), h1209, (beqb_t (igt_eq h1208)), (beqb_t (igt_eq h1208)), ⟨rfl, sub_flat eGMsg_len h1211 0 1 (by decide)⟩, (beqb_t (igt_eq h1208)), (beqb_t (igt_eq h1208)), (beqb_ff (ige_eq h1207)), (igt_eq h1208), (ige_eq h1207), z⟩
    refine cond_some hF (fun h1212 hF => ?_) (fun h1212 hF => ?_)
    ·
     obtain rfl := Option.some.inj hF
     have pz : HoldAll E H hn88 [.test (ige x1210.To x1204.To) true] := ⟨(ige_eq h1212), trivial⟩
     exact loop_endC (h := hn88) (l := 0) (c := c88_0) (ts := F88_l0_0_S a1185 a1187 v1201) (ts' := F88_l0_0_X0 a1185 a1187 ()) (ex := .ret) (pq1215 (pq1216 (pq1217 (pq1218 pz)))) (by kernel_rfl) trivial
    have pz : HoldAll E H hn88 [.test (ige x1210.To x1204.To) false, .int (wadd .i64 v1201 1) (wadd .i64 v1201 1)] := ⟨(ige_eq h1212), rfl, trivial⟩
    have h0 := ih _ _ hF
    have hn := fun ex ts' => loop_nextC (h := hn88) (l := 0) (c := c88_0) (ts := F88_l0_0_S a1185 a1187 v1201) (ts1 := (F88_l0_0_S a1185 a1187 (wadd .i64 v1201 1))) (ex := ex) (ts' := ts') (pq1215 (pq1216 (pq1217 (pq1218 pz)))) (by kernel_rfl)
    cases r with
    | inl w => exact hn _ _ h0
    | inr w => exact hn _ _ h0
   have pz : HoldAll E H hn88 [.test (beqb (igt v1201 0) true) false, .test (beqb (igt v1201 0) true) false, .test (beqb (igt v1201 0) true) false, .test (beqb (igt v1201 0) true) false, .test (beqb (igt v1201 0) true) false, .test (beqb (igt v1201 0) true) false, .test (beqb (igt v1201 0) true) false, .test (beqb (igt v1201 0) true) false, .test (beqb (igt v1201 0) true) false, .test (beqb (ige x1204.To a1185.N) false) true, .test (igt v1201 0) false, .test (ige x1204.To a1185.N) false, .test false false, .int (wadd .i64 v1201 1) (wadd .i64 v1201 1)] := ⟨(beqb_t (igt_eq h1208)), (beqb_t (igt_eq h1208)), (beqb_t (igt_eq h1208)), (beqb_t (igt_eq h1208)), (beqb_t (igt_eq h1208)), (beqb_t (igt_eq h1208)), (beqb_t (igt_eq h1208)), (beqb_t (igt_eq h1208)), (beqb_t (igt_eq h1208)), (beqb_ff (ige_eq h1207)), (igt_eq h1208), (ige_eq h1207), rfl, rfl, trivial⟩
   have h0 := ih _ _ hF
   have hn := fun ex ts' => loop_nextC (h := hn88) (l := 0) (c := c88_0) (ts := F88_l0_0_S a1185 a1187 v1201) (ts1 := (F88_l0_0_S a1185 a1187 (wadd .i64 v1201 1))) (ex := ex) (ts' := ts') (pq1215 (pq1216 (pq1217 pz))) (by kernel_rfl)
   cases r with
   | inl w => exact hn _ _ h0
   | inr w => exact hn _ _ h0
  obtain rfl := Option.some.inj hF
  have pz : HoldAll E H hn88 [.int (nlen (len a1187.In)) (nlen (len a1187.In)), .test (ilt v1201 (nlen (len a1187.In))) false] := ⟨rfl, h1202, trivial⟩
  exact loop_endC (h := hn88) (l := 0) (c := c88_0) (ts := F88_l0_0_S a1185 a1187 v1201) (ts' := F88_l0_0_X1 a1185 a1187 ()) (ex := (.exit 0)) pz (by kernel_rfl) trivial
def F88 (K : Nat) (a1185 : GGraph) (a1186 : GJob) (a1187 : GState) : Option (Bool) :=
 (F59 K a1185 a1186).bind fun r1188 =>
 bif (ieq r1188 0) then
  (bif (ilt a1187.Step 0) then
   (some false)
  else
  bif (ilt 40 a1187.Step) then
   (some false)
  else
  bif (ieq (nlen (len a1187.Vals)) a1185.N) then
   (bif (ieq (nlen (len a1187.Rest)) a1185.N) then
    ((F88_l0_0 K a1185 a1187 K 0).bind fun y1220 =>
    Sum.elim (fun w1221 =>
     some false)
     (fun w1222 =>
     some true) y1220)
   else
   some false)
  else
  some false)
 else
 some false
theorem F88_ok (K : Nat) (a1185 : GGraph) (a1186 : GJob) (a1187 : GState) (r : Bool) (hF : F88 K a1185 a1186 a1187 = some r) : Evt E H 88 [.agg (eGGraph a1185), .agg (eGJob a1186), .agg (eGState a1187)] (F88_res r) := by
 rw [F88] at hF
 refine bind_some hF (fun r1188 h1189 hF => ?_)
 refine cond_some hF (fun h1190 hF => ?_) (fun h1190 hF => ?_)
 ·
  have pq1223 : ∀ {l : List Cond}, HoldAll E H hn88 l → HoldAll E H hn88 (.call 59 [.agg (eGGraph a1185), .agg (eGJob a1186)] (F59_res r1188) :: .test (leadsAny (Res.mk [(.one (.im (.lit (.int .i64 r1188))))] [])) false :: .test (beqb (ine r1188 0) false) true :: .test (beqb (ine r1188 0) false) true :: .test (beqb (ine r1188 0) false) true :: .test (ine r1188 0) false :: l) := fun z => ⟨(F59_ok K a1185 a1186 _ h1189), (leads_ok (by simp [leadsAny, RV.leads, RC.leads, leadsT, hasSl_lit, flat_ns eGJob_ns])), (beqb_ff (ine_t h1190)), (beqb_ff (ine_t h1190)), (beqb_ff (ine_t h1190)), (ine_t h1190), z⟩
  refine cond_some hF (fun h1191 hF => ?_) (fun h1191 hF => ?_)
  ·
   obtain rfl := Option.some.inj hF
   have pz : HoldAll E H hn88 [.test (beqb (ilt a1187.Step 0) false) false, .test (beqb (ilt a1187.Step 0) false) false, .test (beqb (ilt a1187.Step 0) false) false, .test (ilt a1187.Step 0) true, .test (beqb true false) false, .test (beqb true false) false, .test (beqb true false) false, .test (beqb true false) false, .test (beqb true false) false, .test (beqb true false) false, .test true true, .test (beqb true false) false, .test (beqb true false) false, .test (beqb true false) false, .test (beqb true false) false, .test (beqb true false) false, .test (beqb true false) false, .test true true, .test true true] := ⟨(beqb_ft h1191), (beqb_ft h1191), (beqb_ft h1191), h1191, (beqb_ft rfl), (beqb_ft rfl), (beqb_ft rfl), (beqb_ft rfl), (beqb_ft rfl), (beqb_ft rfl), rfl, (beqb_ft rfl), (beqb_ft rfl), (beqb_ft rfl), (beqb_ft rfl), (beqb_ft rfl), (beqb_ft rfl), rfl, rfl, trivial⟩
   exact fn_playC hn88 (r := F88_res false) (pq1223 pz) (by kernel_rfl) (by kernel_rfl)
  have pq1224 : ∀ {l : List Cond}, HoldAll E H hn88 l → HoldAll E H hn88 (.test (beqb (ilt a1187.Step 0) false) true :: .test (beqb (ilt a1187.Step 0) false) true :: .test (beqb (ilt a1187.Step 0) false) true :: .test (ilt a1187.Step 0) false :: l) := fun z => ⟨(beqb_ff h1191), (beqb_ff h1191), (beqb_ff h1191), h1191, z⟩
  refine cond_some hF (fun h1192 hF => ?_) (fun h1192 hF => ?_)
  ·
   obtain rfl := Option.some.inj hF
   have pz : HoldAll E H hn88 [.test (beqb (igt a1187.Step 40) false) false, .test (beqb (igt a1187.Step 40) false) false, .test (beqb (igt a1187.Step 40) false) false, .test (beqb (igt a1187.Step 40) false) false, .test (beqb (igt a1187.Step 40) false) false, .test (beqb (igt a1187.Step 40) false) false, .test (igt a1187.Step 40) true, .test (beqb true false) false, .test (beqb true false) false, .test (beqb true false) false, .test (beqb true false) false, .test (beqb true false) false, .test (beqb true false) false, .test true true, .test true true] := ⟨(beqb_ft (igt_eq h1192)), (beqb_ft (igt_eq h1192)), (beqb_ft (igt_eq h1192)), (beqb_ft (igt_eq h1192)), (beqb_ft (igt_eq h1192)), (beqb_ft (igt_eq h1192)), (igt_eq h1192), (beqb_ft rfl), (beqb_ft rfl), (beqb_ft rfl), (beqb_ft rfl), (beqb_ft rfl), (beqb_ft rfl), rfl, rfl, trivial⟩
   exact fn_playC hn88 (r := F88_res false) (pq1223 (pq1224 pz)) (by kernel_rfl) (by kernel_rfl)
  have pq1225 : ∀ {l : List Cond}, HoldAll E H hn88 l → HoldAll E H hn88 (.test (beqb (igt a1187.Step 40) false) true :: .test (beqb (igt a1187.Step 40) false) true :: .test (beqb (igt a1187.Step 40) false) true :: .int (nlen (len a1187.Vals)) (nlen (len a1187.Vals)) :: .test (beqb (igt a1187.Step 40) false) true :: .test (beqb (igt a1187.Step 40) false) true :: .test (beqb (igt a1187.Step 40) false) true :: .test (igt a1187.Step 40) false :: l) := fun z => ⟨(beqb_ff (igt_eq h1192)), (beqb_ff (igt_eq h1192)), (beqb_ff (igt_eq h1192)), rfl, (beqb_ff (igt_eq h1192)), (beqb_ff (igt_eq h1192)), (beqb_ff (igt_eq h1192)), (igt_eq h1192), z⟩
  refine cond_some hF (fun h1193 hF => ?_) (fun h1193 hF => ?_)
  ·
   have pq1226 : ∀ {l : List Cond}, HoldAll E H hn88 l → HoldAll E H hn88 (.test (beqb (ine (nlen (len a1187.Vals)) a1185.N) false) true :: .test (beqb (ine (nlen (len a1187.Vals)) a1185.N) false) true :: .test (beqb (ine (nlen (len a1187.Vals)) a1185.N) false) true :: .int (nlen (len a1187.Rest)) (nlen (len a1187.Rest)) :: .test (beqb (ine (nlen (len a1187.Vals)) a1185.N) false) true :: .test (beqb (ine (nlen (len a1187.Vals)) a1185.N) false) true :: .test (beqb (ine (nlen (len a1187.Vals)) a1185.N) false) true :: .test (ine (nlen (len a1187.Vals)) a1185.N) false :: l) := fun z => ⟨(beqb_ff (ine_t h1193)), (beqb_ff (ine_t h1193)), (beqb_ff (ine_t h1193)), rfl, (beqb_ff (ine_t h1193)), (beqb_ff (ine_t h1193)), (beqb_ff (ine_t h1193)), (ine_t h1193), z⟩
   refine cond_some hF (fun h1194 hF => ?_) (fun h1194 hF => ?_)
   ·
    refine bind_some hF (fun y1220 h1219 hF => ?_)
    refine sum_some hF (fun w1221 hx hF => ?_) (fun w1222 hx hF => ?_)
    ·
     subst hx
     obtain rfl := Option.some.inj hF
     have pz : HoldAll E H hn88 [.test (ine (nlen (len a1187.Rest)) a1185.N) false, .loop 0 c88_0 (F88_l0_0_S a1185 a1187 0) .ret (F88_l0_0_X0 a1185 a1187 w1221)] := ⟨(ine_t h1194), (F88_l0_0_ok K a1185 a1187 K 0 _ h1219), trivial⟩
     exact fn_playC hn88 (r := F88_res false) (pq1223 (pq1224 (pq1225 (pq1226 pz)))) (by kernel_rfl) (by kernel_rfl)
    subst hx
    obtain rfl := Option.some.inj hF
    have pz : HoldAll E H hn88 [.test (ine (nlen (len a1187.Rest)) a1185.N) false, .loop 0 c88_0 (F88_l0_0_S a1185 a1187 0) (.exit 0) (F88_l0_0_X1 a1185 a1187 w1222)] := ⟨(ine_t h1194), (F88_l0_0_ok K a1185 a1187 K 0 _ h1219), trivial⟩
    exact fn_playC hn88 (r := F88_res true) (pq1223 (pq1224 (pq1225 (pq1226 pz)))) (by kernel_rfl) (by kernel_rfl)
   obtain rfl := Option.some.inj hF
   have pz : HoldAll E H hn88 [.test (ine (nlen (len a1187.Rest)) a1185.N) true] := ⟨(ine_f h1194), trivial⟩
   exact fn_playC hn88 (r := F88_res false) (pq1223 (pq1224 (pq1225 (pq1226 pz)))) (by kernel_rfl) (by kernel_rfl)
  obtain rfl := Option.some.inj hF
  have pz : HoldAll E H hn88 [.test (beqb (ine (nlen (len a1187.Vals)) a1185.N) false) false, .test (beqb (ine (nlen (len a1187.Vals)) a1185.N) false) false, .test (beqb (ine (nlen (len a1187.Vals)) a1185.N) false) false, .test (beqb (ine (nlen (len a1187.Vals)) a1185.N) false) false, .test (beqb (ine (nlen (len a1187.Vals)) a1185.N) false) false, .test (beqb (ine (nlen (len a1187.Vals)) a1185.N) false) false, .test (ine (nlen (len a1187.Vals)) a1185.N) true, .test true true] := ⟨(beqb_ft (ine_f h1193)), (beqb_ft (ine_f h1193)), (beqb_ft (ine_f h1193)), (beqb_ft (ine_f h1193)), (beqb_ft (ine_f h1193)), (beqb_ft (ine_f h1193)), (ine_f h1193), rfl, trivial⟩
  exact fn_playC hn88 (r := F88_res false) (pq1223 (pq1224 (pq1225 pz))) (by kernel_rfl) (by kernel_rfl)
 obtain rfl := Option.some.inj hF
 have pz : HoldAll E H hn88 [.call 59 [.agg (eGGraph a1185), .agg (eGJob a1186)] (F59_res r1188), .test (leadsAny (Res.mk [(.one (.im (.lit (.int .i64 r1188))))] [])) false, .test (beqb (ine r1188 0) false) false, .test (beqb (ine r1188 0) false) false, .test (beqb (ine r1188 0) false) false, .test (ine r1188 0) true, .test (beqb true false) false, .test (beqb true false) false, .test (beqb true false) false, .test true true, .test (beqb true false) false, .test (beqb true false) false, .test (beqb true false) false, .test (beqb true false) false, .test (beqb true false) false, .test (beqb true false) false, .test true true, .test (beqb true false) false, .test (beqb true false) false, .test (beqb true false) false, .test (beqb true false) false, .test (beqb true false) false, .test (beqb true false) false, .test true true, .test true true] := ⟨(F59_ok K a1185 a1186 _ h1189), (leads_ok (by simp [leadsAny, RV.leads, RC.leads, leadsT, hasSl_lit, flat_ns eGJob_ns])), (beqb_ft (ine_f h1190)), (beqb_ft (ine_f h1190)), (beqb_ft (ine_f h1190)), (ine_f h1190), (beqb_ft rfl), (beqb_ft rfl), (beqb_ft rfl), rfl, (beqb_ft rfl), (beqb_ft rfl), (beqb_ft rfl), (beqb_ft rfl), (beqb_ft rfl), (beqb_ft rfl), rfl, (beqb_ft rfl), (beqb_ft rfl), (beqb_ft rfl), (beqb_ft rfl), (beqb_ft rfl), (beqb_ft rfl), rfl, rfl, trivial⟩
 exact fn_playC hn88 (r := F88_res false) pz (by kernel_rfl) (by kernel_rfl)
noncomputable def hn104 : Hint := { H 104 with nt := 61, prot := 0 }
noncomputable def c104_0 : Code := loopOf E 104 0
def F104_res (r3470 : Bool) : Res := ⟨[(.one (.im (.lit (.bool r3470))))], []⟩
def F104_l0_0 (K : Nat) (a3434 : GGraph) (a3436 : GState) : Nat → Int → Int → Option ((Unit) ⊕ (Unit))
 | 0, _, _ => none
 | k + 1, v3450, v3451 =>
  bif (ilt v3451 (nlen (len a3436.In))) then
   (bif (inr v3451 (len a3436.In)) then
   (elAt a3436.In v3451).bind fun x3454 =>
   bif (ile x3454.To v3450) then
    (some (.inl ()))
   else
   bif (ile a3434.N x3454.To) then
    (some (.inl ()))
   else
   F104_l0_0 K a3434 a3436 k x3454.To (wadd .i64 v3451 1)
   else none)
  else
  some (.inr ())
def F104_l0_0_S (a3434 : GGraph) (a3436 : GState) (v3450 : Int) (v3451 : Int) : TS := .on [192, 193, 194, 320, 321, 322, 323, 324, 448, 449, 2560, 2624, 2625, 2688, 2689, 2752, 2753] [(192, ⟨(.box 62 2), 0, nob⟩), (193, ⟨.im, 0, (.lit (.int .i64 a3434.N))⟩), (194, ⟨.im, 0, (.sl (len a3434.Edges) (flat eGEdge a3434.Edges))⟩), (320, ⟨(.box 74 4), 0, nob⟩), (321, ⟨.im, 0, (.lit (.int .i64 a3436.Step))⟩), (322, ⟨.im, 0, (.sl (len a3436.Vals) (flat (eInt .i64) a3436.Vals))⟩), (323, ⟨.im, 0, (.sl (len a3436.Rest) (flat eBool a3436.Rest))⟩), (324, ⟨.im, 0, (.sl (len a3436.In) (flat eGMsg a3436.In))⟩), (448, ⟨.one, 0, nob⟩), (449, ⟨.im, 0, (.lit (.int .i64 v3450))⟩), (2560, ⟨(.ad 5 0 3), 0, nob⟩), (2624, ⟨.one, 0, nob⟩), (2625, ⟨.im, 0, (.sl (len a3436.In) (flat eGMsg a3436.In))⟩), (2688, ⟨.one, 0, nob⟩), (2689, ⟨.im, 0, (.lit (.int .i64 (nlen (len a3436.In))))⟩), (2752, ⟨.one, 0, nob⟩), (2753, ⟨.im, 0, (.lit (.int .i64 v3451))⟩)]
def F104_l0_0_X0 (a3434 : GGraph) (a3436 : GState) (w3458 : Unit) : TS := .on [384, 385] [(384, ⟨.one, 0, nob⟩), (385, ⟨.im, 0, (.lit (.bool false))⟩)]
def F104_l0_0_X1 (a3434 : GGraph) (a3436 : GState) (w3459 : Unit) : TS := .on [] []
theorem F104_l0_0_ok (K : Nat) (a3434 : GGraph) (a3436 : GState) : ∀ (k : Nat) (v3450 : Int) (v3451 : Int) (r : (Unit) ⊕ (Unit)), F104_l0_0 K a3434 a3436 k v3450 v3451 = some r → (Sum.elim (fun w => LoopEv E H hn104 0 c104_0 (F104_l0_0_S a3434 a3436 v3450 v3451) .ret (F104_l0_0_X0 a3434 a3436 w)) (fun w => LoopEv E H hn104 0 c104_0 (F104_l0_0_S a3434 a3436 v3450 v3451) (.exit 0) (F104_l0_0_X1 a3434 a3436 w))) r := by
 intro k
 induction k with
 | zero => intro v3450 v3451 r hF; cases hF
 | succ k ih =>
  intro v3450 v3451 r hF
  rw [F104_l0_0] at hF
  refine cond_some hF (fun h3452 hF => ?_) (fun h3452 hF => ?_)
  ·
   refine cond_some hF (fun h3453 hF => ?_) (fun _ hF => nomatch hF)
   refine bind_some hF (fun x3454 h3455 hF => ?_)
   have pq3460 : ∀ {l : List Cond}, HoldAll E H hn104 l → HoldAll E H hn104 (.test (ilt v3451 (nlen (len a3436.In))) true :: .test (inr v3451 (len a3436.In)) true :: .sub (flat eGMsg a3436.In) (nidx v3451 2) 2 [(.lit (.int .i64 x3454.To)), (.lit (.int .i64 x3454.V))] :: l) := fun z => ⟨h3452, h3453, ⟨rfl, sub_flat0 eGMsg_len h3455 2 (by decide)⟩, z⟩
   refine cond_some hF (fun h3456 hF => ?_) (fun h3456 hF => ?_)
   ·
    obtain rfl := Option.some.inj hF
    have pz : HoldAll E H hn104 [.test (beqb (ile x3454.To v3450) false) false, .test (beqb (ile x3454.To v3450) false) false, .test (beqb (ile x3454.To v3450) false) false, .test (beqb (ile x3454.To v3450) false) false, .test (beqb (ile x3454.To v3450) false) false, .test (ile x3454.To v3450) true, .test true true] := ⟨(beqb_ft h3456), (beqb_ft h3456), (beqb_ft h3456), (beqb_ft h3456), (beqb_ft h3456), h3456, rfl, trivial⟩
    exact loop_endC (h := hn104) (l := 0) (c := c104_0) (ts := F104_l0_0_S a3434 a3436 v3450 v3451) (ts' := F104_l0_0_X0 a3434 a3436 ()) (ex := .ret) (pq3460 pz) (by kernel_rfl) trivial
   have pq3461 : ∀ {l : List Cond}, HoldAll E H hn104 l → HoldAll E H hn104 (.test (beqb (ile x3454.To v3450) false) true :: .test (beqb (ile x3454.To v3450) false) true :: .test (beqb (ile x3454.To v3450) false) true :: .test (beqb (ile x3454.To v3450) false) true :: .test (beqb (ile x3454.To v3450) false) true :: .test (ile x3454.To v3450) false :: l) := fun z => ⟨(beqb_ff h3456), (beqb_ff h3456), (beqb_ff h3456), (beqb_ff h3456), (beqb_ff h3456), h3456, z⟩
   refine cond_some hF (fun h3457 hF => ?_) (fun h3457 hF => ?_)
   ·
    obtain rfl := Option.some.inj hF
    have pz : HoldAll E H hn104 [.test (ige x3454.To a3434.N) true] := ⟨(ige_eq h3457), trivial⟩
    exact loop_endC (h := hn104) (l := 0) (c := c104_0) (ts := F104_l0_0_S a3434 a3436 v3450 v3451) (ts' := F104_l0_0_X0 a3434 a3436 ()) (ex := .ret) (pq3460 (pq3461 pz)) (by kernel_rfl) trivial
   have pz : HoldAll E H hn104 [.test (ige x3454.To a3434.N) false, .int (wadd .i64 v3451 1) (wadd .i64 v3451 1)] := ⟨(ige_eq h3457), rfl, trivial⟩
   have h0 := ih _ _ _ hF
   have hn := fun ex ts' => loop_nextC (h := hn104) (l := 0) (c := c104_0) (ts := F104_l0_0_S a3434 a3436 v3450 v3451) (ts1 := (F104_l0_0_S a3434 a3436 x3454.To (wadd .i64 v3451 1))) (ex := ex) (ts' := ts') (pq3460 (pq3461 pz)) (by kernel_rfl)
   cases r with
   | inl w => exact hn _ _ h0
   | inr w => exact hn _ _ h0
  obtain rfl := Option.some.inj hF
  have pz : HoldAll E H hn104 [.test (ilt v3451 (nlen (len a3436.In))) false] := ⟨h3452, trivial⟩
  exact loop_endC (h := hn104) (l := 0) (c := c104_0) (ts := F104_l0_0_S a3434 a3436 v3450 v3451) (ts' := F104_l0_0_X1 a3434 a3436 ()) (ex := (.exit 0)) pz (by kernel_rfl) trivial
def F104 (K : Nat) (a3434 : GGraph) (a3435 : GJob) (a3436 : GState) : Option (Bool) :=
 (F94 K a3434 a3435).bind fun r3437 =>
 bif (ieq r3437 0) then
  (bif (ilt a3436.Step 0) then
   (some false)
  else
  bif (ilt 40 a3436.Step) then
   (some false)
  else
  bif (ieq (nlen (len a3436.Vals)) a3434.N) then
   (bif (ieq (nlen (len a3436.Rest)) a3434.N) then
    ((F104_l0_0 K a3434 a3436 K (-1) 0).bind fun y3463 =>
    Sum.elim (fun w3464 =>
     some false)
     (fun w3465 =>
     some true) y3463)
   else
   some false)
  else
  some false)
 else
 some false
theorem F104_ok (K : Nat) (a3434 : GGraph) (a3435 : GJob) (a3436 : GState) (r : Bool) (hF : F104 K a3434 a3435 a3436 = some r) : Evt E H 104 [.agg (eGGraph a3434), .agg (eGJob a3435), .agg (eGState a3436)] (F104_res r) := by
 rw [F104] at hF
 refine bind_some hF (fun r3437 h3438 hF => ?_)
 refine cond_some hF (fun h3439 hF => ?_) (fun h3439 hF => ?_)
 ·
  have pq3466 : ∀ {l : List Cond}, HoldAll E H hn104 l → HoldAll E H hn104 (.call 94 [.agg (eGGraph a3434), .agg (eGJob a3435)] (F94_res r3437) :: .test (leadsAny (Res.mk [(.one (.im (.lit (.int .i64 r3437))))] [])) false :: .test (beqb (ine r3437 0) false) true :: .test (beqb (ine r3437 0) false) true :: .test (beqb (ine r3437 0) false) true :: .test (ine r3437 0) false :: l) := fun z => ⟨(F94_ok K a3434 a3435 _ h3438), (leads_ok (by simp [leadsAny, RV.leads, RC.leads, leadsT, hasSl_lit, flat_ns eGJob_ns])), (beqb_ff (ine_t h3439)), (beqb_ff (ine_t h3439)), (beqb_ff (ine_t h3439)), (ine_t h3439), z⟩
  refine cond_some hF (fun h3440 hF => ?_) (fun h3440 hF => ?_)
  ·
   obtain rfl := Option.some.inj hF
   have pz : HoldAll E H hn104 [.test (beqb (ilt a3436.Step 0) false) false, .test (beqb (ilt a3436.Step 0) false) false, .test (beqb (ilt a3436.Step 0) false) false, .test (ilt a3436.Step 0) true, .test (beqb true false) false, .test (beqb true false) false, .test (beqb true false) false, .test (beqb true false) false, .test (beqb true false) false, .test (beqb true false) false, .test true true, .test (beqb true false) false, .test (beqb true false) false, .test (beqb true false) false, .test (beqb true false) false, .test (beqb true false) false, .test (beqb true false) false, .test true true, .test true true] := ⟨(beqb_ft h3440), (beqb_ft h3440), (beqb_ft h3440), h3440, (beqb_ft rfl), (beqb_ft rfl), (beqb_ft rfl), (beqb_ft rfl), (beqb_ft rfl), (beqb_ft rfl), rfl, (beqb_ft rfl), (beqb_ft rfl), (beqb_ft rfl), (beqb_ft rfl), (beqb_ft rfl), (beqb_ft rfl), rfl, rfl, trivial⟩
   exact fn_playC hn104 (r := F104_res false) (pq3466 pz) (by kernel_rfl) (by kernel_rfl)
  have pq3467 : ∀ {l : List Cond}, HoldAll E H hn104 l → HoldAll E H hn104 (.test (beqb (ilt a3436.Step 0) false) true :: .test (beqb (ilt a3436.Step 0) false) true :: .test (beqb (ilt a3436.Step 0) false) true :: .test (ilt a3436.Step 0) false :: l) := fun z => ⟨(beqb_ff h3440), (beqb_ff h3440), (beqb_ff h3440), h3440, z⟩
  refine cond_some hF (fun h3441 hF => ?_) (fun h3441 hF => ?_)
  ·
   obtain rfl := Option.some.inj hF
   have pz : HoldAll E H hn104 [.test (beqb (igt a3436.Step 40) false) false, .test (beqb (igt a3436.Step 40) false) false, .test (beqb (igt a3436.Step 40) false) false, .test (beqb (igt a3436.Step 40) false) false, .test (beqb (igt a3436.Step 40) false) false, .test (beqb (igt a3436.Step 40) false) false, .test (igt a3436.Step 40) true, .test (beqb true false) false, .test (beqb true false) false, .test (beqb true false) false, .test (beqb true false) false, .test (beqb true false) false, .test (beqb true false) false, .test true true, .test true true] := ⟨(beqb_ft (igt_eq h3441)), (beqb_ft (igt_eq h3441)), (beqb_ft (igt_eq h3441)), (beqb_ft (igt_eq h3441)), (beqb_ft (igt_eq h3441)), (beqb_ft (igt_eq h3441)), (igt_eq h3441), (beqb_ft rfl), (beqb_ft rfl), (beqb_ft rfl), (beqb_ft rfl), (beqb_ft rfl), (beqb_ft rfl), rfl, rfl, trivial⟩
   exact fn_playC hn104 (r := F104_res false) (pq3466 (pq3467 pz)) (by kernel_rfl) (by kernel_rfl)
  have pq3468 : ∀ {l : List Cond}, HoldAll E H hn104 l → HoldAll E H hn104 (.test (beqb (igt a3436.Step 40) false) true :: .test (beqb (igt a3436.Step 40) false) true :: .test (beqb (igt a3436.Step 40) false) true :: .int (nlen (len a3436.Vals)) (nlen (len a3436.Vals)) :: .test (beqb (igt a3436.Step 40) false) true :: .test (beqb (igt a3436.Step 40) false) true :: .test (beqb (igt a3436.Step 40) false) true :: .test (igt a3436.Step 40) false :: l) := fun z => ⟨(beqb_ff (igt_eq h3441)), (beqb_ff (igt_eq h3441)), (beqb_ff (igt_eq h3441)), rfl, (beqb_ff (igt_eq h3441)), (beqb_ff (igt_eq h3441)), (beqb_ff (igt_eq h3441)), (igt_eq h3441), z⟩
  refine cond_some hF (fun h3442 hF => ?_) (fun h3442 hF => ?_)
  ·
   have pq3469 : ∀ {l : List Cond}, HoldAll E H hn104 l → HoldAll E H hn104 (.test (beqb (ine (nlen (len a3436.Vals)) a3434.N) false) true :: .test (beqb (ine (nlen (len a3436.Vals)) a3434.N) false) true :: .test (beqb (ine (nlen (len a3436.Vals)) a3434.N) false) true :: .int (nlen (len a3436.Rest)) (nlen (len a3436.Rest)) :: .test (beqb (ine (nlen (len a3436.Vals)) a3434.N) false) true :: .test (beqb (ine (nlen (len a3436.Vals)) a3434.N) false) true :: .test (beqb (ine (nlen (len a3436.Vals)) a3434.N) false) true :: .test (ine (nlen (len a3436.Vals)) a3434.N) false :: l) := fun z => ⟨(beqb_ff (ine_t h3442)), (beqb_ff (ine_t h3442)), (beqb_ff (ine_t h3442)), rfl, (beqb_ff (ine_t h3442)), (beqb_ff (ine_t h3442)), (beqb_ff (ine_t h3442)), (ine_t h3442), z⟩
   refine cond_some hF (fun h3443 hF => ?_) (fun h3443 hF => ?_)
   ·
    refine bind_some hF (fun y3463 h3462 hF => ?_)
    refine sum_some hF (fun w3464 hx hF => ?_) (fun w3465 hx hF => ?_)
    ·
     subst hx
     obtain rfl := Option.some.inj hF
     have pz : HoldAll E H hn104 [.test (ine (nlen (len a3436.Rest)) a3434.N) false, .int (nlen (len a3436.In)) (nlen (len a3436.In)), .loop 0 c104_0 (F104_l0_0_S a3434 a3436 (-1) 0) .ret (F104_l0_0_X0 a3434 a3436 w3464)] := ⟨(ine_t h3443), rfl, (F104_l0_0_ok K a3434 a3436 K (-1) 0 _ h3462), trivial⟩
     exact fn_playC hn104 (r := F104_res false) (pq3466 (pq3467 (pq3468 (pq3469 pz)))) (by kernel_rfl) (by kernel_rfl)
    subst hx
    obtain rfl := Option.some.inj hF
    have pz : HoldAll E H hn104 [.test (ine (nlen (len a3436.Rest)) a3434.N) false, .int (nlen (len a3436.In)) (nlen (len a3436.In)), .loop 0 c104_0 (F104_l0_0_S a3434 a3436 (-1) 0) (.exit 0) (F104_l0_0_X1 a3434 a3436 w3465)] := ⟨(ine_t h3443), rfl, (F104_l0_0_ok K a3434 a3436 K (-1) 0 _ h3462), trivial⟩
    exact fn_playC hn104 (r := F104_res true) (pq3466 (pq3467 (pq3468 (pq3469 pz)))) (by kernel_rfl) (by kernel_rfl)
   obtain rfl := Option.some.inj hF
   have pz : HoldAll E H hn104 [.test (ine (nlen (len a3436.Rest)) a3434.N) true] := ⟨(ine_f h3443), trivial⟩
   exact fn_playC hn104 (r := F104_res false) (pq3466 (pq3467 (pq3468 (pq3469 pz)))) (by kernel_rfl) (by kernel_rfl)
  obtain rfl := Option.some.inj hF
  have pz : HoldAll E H hn104 [.test (beqb (ine (nlen (len a3436.Vals)) a3434.N) false) false, .test (beqb (ine (nlen (len a3436.Vals)) a3434.N) false) false, .test (beqb (ine (nlen (len a3436.Vals)) a3434.N) false) false, .test (beqb (ine (nlen (len a3436.Vals)) a3434.N) false) false, .test (beqb (ine (nlen (len a3436.Vals)) a3434.N) false) false, .test (beqb (ine (nlen (len a3436.Vals)) a3434.N) false) false, .test (ine (nlen (len a3436.Vals)) a3434.N) true, .test true true] := ⟨(beqb_ft (ine_f h3442)), (beqb_ft (ine_f h3442)), (beqb_ft (ine_f h3442)), (beqb_ft (ine_f h3442)), (beqb_ft (ine_f h3442)), (beqb_ft (ine_f h3442)), (ine_f h3442), rfl, trivial⟩
  exact fn_playC hn104 (r := F104_res false) (pq3466 (pq3467 (pq3468 pz))) (by kernel_rfl) (by kernel_rfl)
 obtain rfl := Option.some.inj hF
 have pz : HoldAll E H hn104 [.call 94 [.agg (eGGraph a3434), .agg (eGJob a3435)] (F94_res r3437), .test (leadsAny (Res.mk [(.one (.im (.lit (.int .i64 r3437))))] [])) false, .test (beqb (ine r3437 0) false) false, .test (beqb (ine r3437 0) false) false, .test (beqb (ine r3437 0) false) false, .test (ine r3437 0) true, .test (beqb true false) false, .test (beqb true false) false, .test (beqb true false) false, .test true true, .test (beqb true false) false, .test (beqb true false) false, .test (beqb true false) false, .test (beqb true false) false, .test (beqb true false) false, .test (beqb true false) false, .test true true, .test (beqb true false) false, .test (beqb true false) false, .test (beqb true false) false, .test (beqb true false) false, .test (beqb true false) false, .test (beqb true false) false, .test true true, .test true true] := ⟨(F94_ok K a3434 a3435 _ h3438), (leads_ok (by simp [leadsAny, RV.leads, RC.leads, leadsT, hasSl_lit, flat_ns eGJob_ns])), (beqb_ft (ine_f h3439)), (beqb_ft (ine_f h3439)), (beqb_ft (ine_f h3439)), (ine_f h3439), (beqb_ft rfl), (beqb_ft rfl), (beqb_ft rfl), rfl, (beqb_ft rfl), (beqb_ft rfl), (beqb_ft rfl), (beqb_ft rfl), (beqb_ft rfl), (beqb_ft rfl), rfl, (beqb_ft rfl), (beqb_ft rfl), (beqb_ft rfl), (beqb_ft rfl), (beqb_ft rfl), (beqb_ft rfl), rfl, rfl, trivial⟩
 exact fn_playC hn104 (r := F104_res false) pz (by kernel_rfl) (by kernel_rfl)
def inSt (n : Int) : Int → List GMsg → Bool
 | _, [] => true
 | prev, m :: r => ilt prev m.To && (ilt m.To n && inSt n m.To r)
def sumU (b : Bool) : Unit ⊕ Unit := bif b then .inr () else .inl ()
theorem sumU_elim (b : Bool) : (some (sumU b)).bind (fun y => Sum.elim (fun w => some false) (fun w => some true) y) = some b := by cases b <;> rfl
theorem not_ile {a b : Int} : ile a b = !(ilt b a) := by
 unfold ile ilt; by_cases h : b < a <;> simp [h] <;> omega
theorem verts_len (g : GGraph) (j : GJob) (hn : g.N ≤ 24) (p : Int) : (vertsS g j p).length ≤ 24 := by
 unfold vertsS vertsN
 refine Nat.le_trans (List.length_filter_le _ _) ?_
 simp; omega
def stRight (g : GGraph) (j : GJob) (s : GState) : Bool :=
 ieq (jcheck g j) 0 && (ile 0 s.Step && (ile s.Step 40 && (ieq (s.Vals.length : Int) g.N && (ieq (s.Rest.length : Int) g.N && inSt g.N (-1) s.In))))
theorem F104_loop {K : Nat} (g : GGraph) (s : GState) (hl : s.In.length < 1000000) (hK : s.In.length < K) : F104_l0_0 K g s K (-1) 0 = some (sumU (inSt g.N (-1) s.In)) := by
 let step : GMsg → Int → (Int → Option (Unit ⊕ Unit)) → Option (Unit ⊕ Unit) := fun m s c =>
   bif (ile m.To s) then (some (.inl ())) else bif (ile g.N m.To) then (some (.inl ())) else c m.To
 have h := scanL (l := s.In) (L := fun k v i => F104_l0_0 K g s k v i) step (fun _ => some (.inr ())) (fun k s i _ => rfl) (by omega) (K := K) hK (-1)
 have hw : ∀ (l : List GMsg) (v : Int), goL step (fun _ => some (.inr ())) l v = some (sumU (inSt g.N v l)) := by
   intro l
   induction l with
   | nil => intro s; rfl
   | cons m l ih =>
     intro v
     rw [goL]
     show (bif (ile m.To v) then (some (.inl ())) else bif (ile g.N m.To) then (some (.inl ())) else goL step (fun _ => some (.inr ())) l m.To) = _
     rw [inSt, not_ile, not_ile, ih]
     cases ilt v m.To <;> cases ilt m.To g.N <;> rfl
 rw [hw] at h
 exact h
theorem F104_spec {K : Nat} (hK : 1000 ≤ K) (g : GGraph) (j : GJob) (s : GState) (hl : s.In.length < 1000000) (hk : s.In.length < K) : F104 K g j s = some (stRight g j s) := by
 rw [F104, F94_spec (by omega), Option.bind_some, stRight]
 cases hc : ieq (jcheck g j) 0
 · rfl
 · rw [cond_true, F104_loop g s hl hk]
   have n1 : nlen (len s.Vals) = (s.Vals.length : Int) := rfl
   have n2 : nlen (len s.Rest) = (s.Rest.length : Int) := rfl
   rw [ilt_not' s.Step 0, ilt_not' 40 s.Step, n1, n2, sumU_elim]
   cases ile 0 s.Step <;> cases ile s.Step 40 <;> cases ieq (s.Vals.length : Int) g.N <;> cases ieq (s.Rest.length : Int) g.N <;> rfl
theorem F88_loop {K : Nat} (g : GGraph) (s : GState) (hl : s.In.length < 1000000) (hK : s.In.length < K) : F88_l0_0 K g s K 0 = some (sumU (inSt g.N (-1) s.In)) := by
 let step : Nat → GMsg → Unit → (Unit → Option (Unit ⊕ Unit)) → Option (Unit ⊕ Unit) := fun i m _ c =>
     bif (ilt m.To 0) then (some (.inl ())) else bif (ile g.N m.To) then (some (.inl ())) else
     bif (ilt 0 (i : Int)) then
       (bif (inr (wsub .i64 (i : Int) 1) (len s.In)) then
       (elAt s.In (wsub .i64 (i : Int) 1)).bind fun d => bif (ile m.To d.To) then (some (.inl ())) else c ()
       else none)
     else c ()
 have h := scanI (l := s.In) (L := fun k (_ : Unit) i => F88_l0_0 K g s k i) step (fun _ => some (.inr ())) (fun k st i hi => rfl) (by omega) K () 0 (by omega) (by omega)
 have hw : ∀ (r : List GMsg) (i : Nat), s.In.drop i = r → (∀ d, prevOf s.In i = some d → 0 ≤ d.To) → goI step (fun _ => some (.inr ())) i r () = some (sumU (inSt g.N (match prevOf s.In i with | none => -1 | some d => d.To) r)) := by
   intro r
   induction r with
   | nil => intro i _ _; rfl
   | cons m r ih =>
     intro i hr hp
     obtain ⟨n1, n2, hi⟩ := prev_next hr
     rw [goI]
     show (bif (ilt m.To 0) then (some (.inl ())) else bif (ile g.N m.To) then (some (.inl ())) else
     bif (ilt 0 (i : Int)) then
       (bif (inr (wsub .i64 (i : Int) 1) (len s.In)) then
       (elAt s.In (wsub .i64 (i : Int) 1)).bind fun d => bif (ile m.To d.To) then (some (.inl ())) else goI step (fun _ => some (.inr ())) (i + 1) r ()
       else none)
     else goI step (fun _ => some (.inr ())) (i + 1) r ()) = _
     cases h0 : ilt m.To 0
     · have hm0 := ilt_f.1 h0
       have nx := ih (i + 1) n2 (fun d hd => by rw [n1] at hd; cases hd; exact hm0)
       rw [n1] at nx
       dsimp only at nx
       rw [nx, inSt, not_ile]
       cases i with
       | zero =>
         have e1 : ilt 0 ((0 : Nat) : Int) = false := rfl
         have e2 : (match prevOf s.In 0 with | none => (-1 : Int) | some d => d.To) = -1 := rfl
         rw [e1, e2, ilt_iff.2 (by omega : (-1 : Int) < m.To)]
         cases ilt m.To g.N <;> rfl
       | succ q =>
         obtain ⟨d, p1, p2, p3, p4⟩ := prev_at (l := s.In) (i := q + 1) (by omega) hi (by omega)
         have e1 : ilt 0 ((q + 1 : Nat) : Int) = true := ilt_iff.2 (by omega)
         rw [e1, p2, p3, p4, p1]
         simp only [Option.bind_some, cond_true, cond_false, not_ile (a := m.To)]
         cases ilt d.To m.To <;> cases ilt m.To g.N <;> rfl
     · have hm0 := ilt_iff.1 h0
       have hno : ∀ a : Int, -1 ≤ a → ilt a m.To = false := fun a ha => ilt_f.2 (by omega)
       have hprev : (-1 : Int) ≤ (match prevOf s.In i with | none => -1 | some d => d.To) := by
         split
         · omega
         · rename_i d hd; have := hp d hd; omega
       rw [inSt, hno _ hprev]; rfl
 have := hw s.In 0 rfl (fun d hd => by cases hd)
 rw [List.drop_zero, this] at h
 exact h
theorem F88_spec {K : Nat} (hK : 1000 ≤ K) (g : GGraph) (j : GJob) (s : GState) (hl : s.In.length < 1000000) (hk : s.In.length < K) : F88 K g j s = some (stRight g j s) := by
 rw [F88, F59_spec (by omega), Option.bind_some, stRight]
 cases hc : ieq (jcheck g j) 0
 · rfl
 · rw [cond_true, F88_loop g s hl hk]
   have n1 : nlen (len s.Vals) = (s.Vals.length : Int) := rfl
   have n2 : nlen (len s.Rest) = (s.Rest.length : Int) := rfl
   rw [ilt_not' s.Step 0, ilt_not' 40 s.Step, n1, n2, sumU_elim]
   cases ile 0 s.Step <;> cases ile s.Step 40 <;> cases ieq (s.Vals.length : Int) g.N <;> cases ieq (s.Rest.length : Int) g.N <;> rfl
noncomputable def hn83 : Hint := { H 83 with nt := 91, prot := 0 }
noncomputable def c83_0 : Code := loopOf E 83 0
noncomputable def c83_1 : Code := loopOf E 83 1
noncomputable def c83_2 : Code := loopOf E 83 2
def F83_res (r3591 : List GPart × Int) : Res := ⟨[(.one (.own 42 (.sl (len r3591.1) (flat eGPart r3591.1)))), (.one (.im (.lit (.int .i64 r3591.2))))], []⟩
def F83_l1_1 (K : Nat) (a3428 : GGraph) (a3429 : GJob) (a3430 : GState) (v3528 : List GPart) (v3529 : Int) : Nat → List Int → List Bool → Int → Option (List Int × List Bool)
 | 0, _, _, _ => none
 | k + 1, v3540, v3541, v3542 =>
  bif (ilt v3542 a3428.N) then
   (bif (inr v3542 (len a3430.Vals)) then
   (elAt a3430.Vals v3542).bind fun x3545 =>
   bif (apok (len v3540) 1 8) then
   bif (inr v3542 (len a3430.Rest)) then
   (elAt a3430.Rest v3542).bind fun x3549 =>
   bif (apok (len v3541) 1 1) then
   F83_l1_1 K a3428 a3429 a3430 v3528 v3529 k (appL v3540 [x3545]) (appL v3541 [x3549]) (wadd .i64 v3542 a3429.Parts)
   else none
   else none
   else none
   else none)
  else
  some (v3540, v3541)
def F83_l1_1_S (a3428 : GGraph) (a3429 : GJob) (a3430 : GState) (v3528 : List GPart) (v3529 : Int) (v3540 : List Int) (v3541 : List Bool) (v3542 : Int) : TS := .on [192, 193, 194, 256, 257, 258, 259, 260, 320, 321, 322, 323, 324, 576, 577, 640, 641, 704, 705, 706, 707, 708, 709, 768, 769, 1728, 1729, 1792, 1793] [(192, ⟨(.box 62 2), 0, nob⟩), (193, ⟨.im, 0, (.lit (.int .i64 a3428.N))⟩), (194, ⟨.im, 0, (.sl (len a3428.Edges) (flat eGEdge a3428.Edges))⟩), (256, ⟨(.box 64 4), 0, nob⟩), (257, ⟨.im, 0, (.lit (.int .i64 a3429.Prog))⟩), (258, ⟨.im, 0, (.lit (.int .i64 a3429.Source))⟩), (259, ⟨.im, 0, (.lit (.int .i64 a3429.Limit))⟩), (260, ⟨.im, 0, (.lit (.int .i64 a3429.Parts))⟩), (320, ⟨(.box 74 4), 0, nob⟩), (321, ⟨.im, 0, (.lit (.int .i64 a3430.Step))⟩), (322, ⟨.im, 0, (.sl (len a3430.Vals) (flat (eInt .i64) a3430.Vals))⟩), (323, ⟨.im, 0, (.sl (len a3430.Rest) (flat eBool a3430.Rest))⟩), (324, ⟨.im, 0, (.sl (len a3430.In) (flat eGMsg a3430.In))⟩), (576, ⟨.one, 0, nob⟩), (577, ⟨(.own 42), 0, (.sl (len v3528) (flat eGPart v3528))⟩), (640, ⟨.one, 0, nob⟩), (641, ⟨.im, 0, (.lit (.int .i64 v3529))⟩), (704, ⟨(.box 42 5), 0, nob⟩), (705, ⟨.im, 0, (.lit (.int .i64 v3529))⟩), (706, ⟨.im, 0, (.lit (.int .i64 a3430.Step))⟩), (707, ⟨(.own 2), 0, (.sl (len v3540) (flat (eInt .i64) v3540))⟩), (708, ⟨(.own 4), 0, (.sl (len v3541) (flat eBool v3541))⟩), (709, ⟨(.own 130), 0, (.sl 0 [])⟩), (768, ⟨.one, 0, nob⟩), (769, ⟨.im, 0, (.lit (.int .i64 v3542))⟩), (1728, ⟨.one, 0, nob⟩), (1729, ⟨.im, 0, (.lit (.int .i64 a3429.Parts))⟩), (1792, ⟨.one, 0, nob⟩), (1793, ⟨.im, 0, (.lit (.int .i64 v3529))⟩)]
def F83_l1_1_X0 (a3428 : GGraph) (a3429 : GJob) (a3430 : GState) (v3528 : List GPart) (v3529 : Int) (w3552 : List Int × List Bool) : TS := .on [192, 193, 194, 256, 257, 258, 259, 260, 320, 321, 322, 323, 324, 576, 577, 640, 641, 704, 705, 706, 707, 708, 709, 1728, 1729, 1792, 1793] [(192, ⟨(.box 62 2), 0, nob⟩), (193, ⟨.im, 0, (.lit (.int .i64 a3428.N))⟩), (194, ⟨.im, 0, (.sl (len a3428.Edges) (flat eGEdge a3428.Edges))⟩), (256, ⟨(.box 64 4), 0, nob⟩), (257, ⟨.im, 0, (.lit (.int .i64 a3429.Prog))⟩), (258, ⟨.im, 0, (.lit (.int .i64 a3429.Source))⟩), (259, ⟨.im, 0, (.lit (.int .i64 a3429.Limit))⟩), (260, ⟨.im, 0, (.lit (.int .i64 a3429.Parts))⟩), (320, ⟨(.box 74 4), 0, nob⟩), (321, ⟨.im, 0, (.lit (.int .i64 a3430.Step))⟩), (322, ⟨.im, 0, (.sl (len a3430.Vals) (flat (eInt .i64) a3430.Vals))⟩), (323, ⟨.im, 0, (.sl (len a3430.Rest) (flat eBool a3430.Rest))⟩), (324, ⟨.im, 0, (.sl (len a3430.In) (flat eGMsg a3430.In))⟩), (576, ⟨.one, 0, nob⟩), (577, ⟨(.own 42), 0, (.sl (len v3528) (flat eGPart v3528))⟩), (640, ⟨.one, 0, nob⟩), (641, ⟨.im, 0, (.lit (.int .i64 v3529))⟩), (704, ⟨(.box 42 5), 0, nob⟩), (705, ⟨.im, 0, (.lit (.int .i64 v3529))⟩), (706, ⟨.im, 0, (.lit (.int .i64 a3430.Step))⟩), (707, ⟨(.own 2), 0, (.sl (len w3552.1) (flat (eInt .i64) w3552.1))⟩), (708, ⟨(.own 4), 0, (.sl (len w3552.2) (flat eBool w3552.2))⟩), (709, ⟨(.own 130), 0, (.sl 0 [])⟩), (1728, ⟨.one, 0, nob⟩), (1729, ⟨.im, 0, (.lit (.int .i64 a3429.Parts))⟩), (1792, ⟨.one, 0, nob⟩), (1793, ⟨.im, 0, (.lit (.int .i64 v3529))⟩)]
theorem F83_l1_1_ok (K : Nat) (a3428 : GGraph) (a3429 : GJob) (a3430 : GState) (v3528 : List GPart) (v3529 : Int) : ∀ (k : Nat) (v3540 : List Int) (v3541 : List Bool) (v3542 : Int) (r : List Int × List Bool), F83_l1_1 K a3428 a3429 a3430 v3528 v3529 k v3540 v3541 v3542 = some r → LoopEv E H hn83 2 c83_1 (F83_l1_1_S a3428 a3429 a3430 v3528 v3529 v3540 v3541 v3542) (.exit 2) (F83_l1_1_X0 a3428 a3429 a3430 v3528 v3529 r) := by
 intro k
 induction k with
 | zero => intro v3540 v3541 v3542 r hF; cases hF
 | succ k ih =>
  intro v3540 v3541 v3542 r hF
  rw [F83_l1_1] at hF
  refine cond_some hF (fun h3543 hF => ?_) (fun h3543 hF => ?_)
  ·
   refine cond_some hF (fun h3544 hF => ?_) (fun _ hF => nomatch hF)
   refine bind_some hF (fun x3545 h3546 hF => ?_)
   refine cond_some hF (fun h3547 hF => ?_) (fun _ hF => nomatch hF)
   refine cond_some hF (fun h3548 hF => ?_) (fun _ hF => nomatch hF)
   refine bind_some hF (fun x3549 h3550 hF => ?_)
   refine cond_some hF (fun h3551 hF => ?_) (fun _ hF => nomatch hF)
   have pz : HoldAll E H hn83 [.test (ilt v3542 a3428.N) true, .test (inr v3542 (len a3430.Vals)) true, .sub (flat (eInt .i64) a3430.Vals) (nidx v3542 1) 1 [(.lit (.int .i64 x3545))], .test (leqm [(.lit (.int .i64 x3545))] 1 1) true, .test (apok (len v3540) 1 8) true, .sl (nadd (len v3540) 1) (lapp (flat (eInt .i64) v3540) [(.lit (.int .i64 x3545))]) (len (α := Int) (appL v3540 [x3545])) (flat (eInt .i64) (appL v3540 [x3545])), .test (inr v3542 (len a3430.Rest)) true, .sub (flat eBool a3430.Rest) (nidx v3542 1) 1 [(.lit (.bool x3549))], .test (leqm [(.lit (.bool x3549))] 1 1) true, .test (apok (len v3541) 1 1) true, .sl (nadd (len v3541) 1) (lapp (flat eBool v3541) [(.lit (.bool x3549))]) (len (α := Bool) (appL v3541 [x3549])) (flat eBool (appL v3541 [x3549])), .int (wadd .i64 v3542 a3429.Parts) (wadd .i64 v3542 a3429.Parts)] := ⟨h3543, h3544, ⟨rfl, sub_flat0 (eInt_len _) h3546 1 (by decide)⟩, rfl, h3547, (app_ok (enc := (eInt .i64)) (v3540 : List Int) [x3545]), h3548, ⟨rfl, sub_flat0 eBool_len h3550 1 (by decide)⟩, rfl, h3551, (app_ok (enc := eBool) (v3541 : List Bool) [x3549]), rfl, trivial⟩
   have h0 := ih _ _ _ _ hF
   have hn := fun ex ts' => loop_nextC (h := hn83) (l := 2) (c := c83_1) (ts := F83_l1_1_S a3428 a3429 a3430 v3528 v3529 v3540 v3541 v3542) (ts1 := (F83_l1_1_S a3428 a3429 a3430 v3528 v3529 (appL v3540 [x3545]) (appL v3541 [x3549]) (wadd .i64 v3542 a3429.Parts))) (ex := ex) (ts' := ts') pz (by kernel_rfl)
   exact hn _ _ h0
  obtain rfl := Option.some.inj hF
  have pz : HoldAll E H hn83 [.test (ilt v3542 a3428.N) false] := ⟨h3543, trivial⟩
  exact loop_endC (h := hn83) (l := 2) (c := c83_1) (ts := F83_l1_1_S a3428 a3429 a3430 v3528 v3529 v3540 v3541 v3542) (ts' := F83_l1_1_X0 a3428 a3429 a3430 v3528 v3529 (v3540, v3541)) (ex := (.exit 2)) pz (by kernel_rfl) trivial
def F83_l2_2 (K : Nat) (a3428 : GGraph) (a3429 : GJob) (a3430 : GState) (v3528 : List GPart) (v3529 : Int) (w3557 : List Int × List Bool) : Nat → List GMsg → Int → Option (List GMsg)
 | 0, _, _ => none
 | k + 1, v3567, v3568 =>
  bif (ilt v3568 (nlen (len a3430.In))) then
   (bif (inr v3568 (len a3430.In)) then
   (elAt a3430.In v3568).bind fun x3571 =>
   bif (izero a3429.Parts) then none else
   bif (ieq (wrem x3571.To a3429.Parts) v3529) then
    (bif (apok (len v3567) 1 16) then
    F83_l2_2 K a3428 a3429 a3430 v3528 v3529 w3557 k (appL v3567 [x3571]) (wadd .i64 v3568 1)
    else none)
   else
   F83_l2_2 K a3428 a3429 a3430 v3528 v3529 w3557 k v3567 (wadd .i64 v3568 1)
   else none)
  else
  some v3567
def F83_l2_2_S (a3428 : GGraph) (a3429 : GJob) (a3430 : GState) (v3528 : List GPart) (v3529 : Int) (w3557 : List Int × List Bool) (v3567 : List GMsg) (v3568 : Int) : TS := .on [192, 193, 194, 256, 257, 258, 259, 260, 320, 321, 322, 323, 324, 576, 577, 640, 641, 704, 705, 706, 707, 708, 709, 1728, 1729, 1792, 1793, 4096, 4160, 4161, 4224, 4225, 4288, 4289] [(192, ⟨(.box 62 2), 0, nob⟩), (193, ⟨.im, 0, (.lit (.int .i64 a3428.N))⟩), (194, ⟨.im, 0, (.sl (len a3428.Edges) (flat eGEdge a3428.Edges))⟩), (256, ⟨(.box 64 4), 0, nob⟩), (257, ⟨.im, 0, (.lit (.int .i64 a3429.Prog))⟩), (258, ⟨.im, 0, (.lit (.int .i64 a3429.Source))⟩), (259, ⟨.im, 0, (.lit (.int .i64 a3429.Limit))⟩), (260, ⟨.im, 0, (.lit (.int .i64 a3429.Parts))⟩), (320, ⟨(.box 74 4), 0, nob⟩), (321, ⟨.im, 0, (.lit (.int .i64 a3430.Step))⟩), (322, ⟨.im, 0, (.sl (len a3430.Vals) (flat (eInt .i64) a3430.Vals))⟩), (323, ⟨.im, 0, (.sl (len a3430.Rest) (flat eBool a3430.Rest))⟩), (324, ⟨.im, 0, (.sl (len a3430.In) (flat eGMsg a3430.In))⟩), (576, ⟨.one, 0, nob⟩), (577, ⟨(.own 42), 0, (.sl (len v3528) (flat eGPart v3528))⟩), (640, ⟨.one, 0, nob⟩), (641, ⟨.im, 0, (.lit (.int .i64 v3529))⟩), (704, ⟨(.box 42 5), 0, nob⟩), (705, ⟨.im, 0, (.lit (.int .i64 v3529))⟩), (706, ⟨.im, 0, (.lit (.int .i64 a3430.Step))⟩), (707, ⟨(.own 2), 0, (.sl (len w3557.1) (flat (eInt .i64) w3557.1))⟩), (708, ⟨(.own 4), 0, (.sl (len w3557.2) (flat eBool w3557.2))⟩), (709, ⟨(.own 130), 0, (.sl (len v3567) (flat eGMsg v3567))⟩), (1728, ⟨.one, 0, nob⟩), (1729, ⟨.im, 0, (.lit (.int .i64 a3429.Parts))⟩), (1792, ⟨.one, 0, nob⟩), (1793, ⟨.im, 0, (.lit (.int .i64 v3529))⟩), (4096, ⟨(.ad 5 0 3), 0, nob⟩), (4160, ⟨.one, 0, nob⟩), (4161, ⟨.im, 0, (.sl (len a3430.In) (flat eGMsg a3430.In))⟩), (4224, ⟨.one, 0, nob⟩), (4225, ⟨.im, 0, (.lit (.int .i64 (nlen (len a3430.In))))⟩), (4288, ⟨.one, 0, nob⟩), (4289, ⟨.im, 0, (.lit (.int .i64 v3568))⟩)]
def F83_l2_2_X0 (a3428 : GGraph) (a3429 : GJob) (a3430 : GState) (v3528 : List GPart) (v3529 : Int) (w3557 : List Int × List Bool) (w3576 : List GMsg) : TS := .on [192, 193, 194, 256, 257, 258, 259, 260, 320, 321, 322, 323, 324, 576, 577, 704, 705, 706, 707, 708, 709, 1728, 1729, 1792, 1793] [(192, ⟨(.box 62 2), 0, nob⟩), (193, ⟨.im, 0, (.lit (.int .i64 a3428.N))⟩), (194, ⟨.im, 0, (.sl (len a3428.Edges) (flat eGEdge a3428.Edges))⟩), (256, ⟨(.box 64 4), 0, nob⟩), (257, ⟨.im, 0, (.lit (.int .i64 a3429.Prog))⟩), (258, ⟨.im, 0, (.lit (.int .i64 a3429.Source))⟩), (259, ⟨.im, 0, (.lit (.int .i64 a3429.Limit))⟩), (260, ⟨.im, 0, (.lit (.int .i64 a3429.Parts))⟩), (320, ⟨(.box 74 4), 0, nob⟩), (321, ⟨.im, 0, (.lit (.int .i64 a3430.Step))⟩), (322, ⟨.im, 0, (.sl (len a3430.Vals) (flat (eInt .i64) a3430.Vals))⟩), (323, ⟨.im, 0, (.sl (len a3430.Rest) (flat eBool a3430.Rest))⟩), (324, ⟨.im, 0, (.sl (len a3430.In) (flat eGMsg a3430.In))⟩), (576, ⟨.one, 0, nob⟩), (577, ⟨(.own 42), 0, (.sl (len v3528) (flat eGPart v3528))⟩), (704, ⟨(.box 42 5), 0, nob⟩), (705, ⟨.im, 0, (.lit (.int .i64 v3529))⟩), (706, ⟨.im, 0, (.lit (.int .i64 a3430.Step))⟩), (707, ⟨(.own 2), 0, (.sl (len w3557.1) (flat (eInt .i64) w3557.1))⟩), (708, ⟨(.own 4), 0, (.sl (len w3557.2) (flat eBool w3557.2))⟩), (709, ⟨(.own 130), 0, (.sl (len w3576) (flat eGMsg w3576))⟩), (1728, ⟨.one, 0, nob⟩), (1729, ⟨.im, 0, (.lit (.int .i64 a3429.Parts))⟩), (1792, ⟨.one, 0, nob⟩), (1793, ⟨.im, 0, (.lit (.int .i64 v3529))⟩)]
theorem F83_l2_2_ok (K : Nat) (a3428 : GGraph) (a3429 : GJob) (a3430 : GState) (v3528 : List GPart) (v3529 : Int) (w3557 : List Int × List Bool) : ∀ (k : Nat) (v3567 : List GMsg) (v3568 : Int) (r : List GMsg), F83_l2_2 K a3428 a3429 a3430 v3528 v3529 w3557 k v3567 v3568 = some r → LoopEv E H hn83 4 c83_2 (F83_l2_2_S a3428 a3429 a3430 v3528 v3529 w3557 v3567 v3568) (.exit 4) (F83_l2_2_X0 a3428 a3429 a3430 v3528 v3529 w3557 r) := by
 intro k
 induction k with
 | zero => intro v3567 v3568 r hF; cases hF
 | succ k ih =>
  intro v3567 v3568 r hF
  rw [F83_l2_2] at hF
  refine cond_some hF (fun h3569 hF => ?_) (fun h3569 hF => ?_)
  ·
   refine cond_some hF (fun h3570 hF => ?_) (fun _ hF => nomatch hF)
   refine bind_some hF (fun x3571 h3572 hF => ?_)
   refine cond_some hF (fun _ hF => nomatch hF) (fun h3573 hF => ?_)
   have pq3578 : ∀ {l : List Cond}, HoldAll E H hn83 l → HoldAll E H hn83 (.test (ilt v3568 (nlen (len a3430.In))) true :: .test (inr v3568 (len a3430.In)) true :: .sub (flat eGMsg a3430.In) (nidx v3568 2) 2 [(.lit (.int .i64 x3571.To)), (.lit (.int .i64 x3571.V))] :: .test (izero a3429.Parts) false :: .int (wrem x3571.To a3429.Parts) (wrem x3571.To a3429.Parts) :: l) := fun z => ⟨h3569, h3570, ⟨rfl, sub_flat0 eGMsg_len h3572 2 (by decide)⟩, h3573, rfl, z⟩
   refine cond_some hF (fun h3574 hF => ?_) (fun h3574 hF => ?_)
   ·
    refine cond_some hF (fun h3575 hF => ?_) (fun _ hF => nomatch hF)
    have pz : HoldAll E H hn83 [.test (ieq (wrem x3571.To a3429.Parts) v3529) true, .test (leqm [(.lit (.int .i64 x3571.To)), (.lit (.int .i64 x3571.V))] 1 2) true, .test (apok (len v3567) 1 16) true, .sl (nadd (len v3567) 1) (lapp (flat eGMsg v3567) [(.lit (.int .i64 x3571.To)), (.lit (.int .i64 x3571.V))]) (len (α := GMsg) (appL v3567 [x3571])) (flat eGMsg (appL v3567 [x3571])), .int (wadd .i64 v3568 1) (wadd .i64 v3568 1)] := ⟨h3574, rfl, h3575, (app_ok (enc := eGMsg) (v3567 : List GMsg) [x3571]), rfl, trivial⟩
    have h0 := ih _ _ _ hF
    have hn := fun ex ts' => loop_nextC (h := hn83) (l := 4) (c := c83_2) (ts := F83_l2_2_S a3428 a3429 a3430 v3528 v3529 w3557 v3567 v3568) (ts1 := (F83_l2_2_S a3428 a3429 a3430 v3528 v3529 w3557 (appL v3567 [x3571]) (wadd .i64 v3568 1))) (ex := ex) (ts' := ts') (pq3578 pz) (by kernel_rfl)
    exact hn _ _ h0
   have pz : HoldAll E H hn83 [.test (ieq (wrem x3571.To a3429.Parts) v3529) false, .int (wadd .i64 v3568 1) (wadd .i64 v3568 1)] := ⟨h3574, rfl, trivial⟩
   have h0 := ih _ _ _ hF
   have hn := fun ex ts' => loop_nextC (h := hn83) (l := 4) (c := c83_2) (ts := F83_l2_2_S a3428 a3429 a3430 v3528 v3529 w3557 v3567 v3568) (ts1 := (F83_l2_2_S a3428 a3429 a3430 v3528 v3529 w3557 v3567 (wadd .i64 v3568 1))) (ex := ex) (ts' := ts') (pq3578 pz) (by kernel_rfl)
   exact hn _ _ h0
  obtain rfl := Option.some.inj hF
  have pz : HoldAll E H hn83 [.test (ilt v3568 (nlen (len a3430.In))) false] := ⟨h3569, trivial⟩
  exact loop_endC (h := hn83) (l := 4) (c := c83_2) (ts := F83_l2_2_S a3428 a3429 a3430 v3528 v3529 w3557 v3567 v3568) (ts' := F83_l2_2_X0 a3428 a3429 a3430 v3528 v3529 w3557 v3567) (ex := (.exit 4)) pz (by kernel_rfl) trivial
def F83_l0_0 (K : Nat) (a3428 : GGraph) (a3429 : GJob) (a3430 : GState) : Nat → List GPart → Int → Option (List GPart)
 | 0, _, _ => none
 | k + 1, v3528, v3529 =>
  bif (ilt v3529 a3429.Parts) then
   ((F83_l1_1 K a3428 a3429 a3430 v3528 v3529 K [] [] v3529).bind fun w3557 =>
   (F83_l2_2 K a3428 a3429 a3430 v3528 v3529 w3557 K [] 0).bind fun w3581 =>
   bif (apok (len v3528) 1 88) then
   F83_l0_0 K a3428 a3429 a3430 k (appL v3528 [(GPart.mk v3529 a3430.Step w3557.1 w3557.2 w3581)]) (wadd .i64 v3529 1)
   else none)
  else
  some v3528
def F83_l0_0_S (a3428 : GGraph) (a3429 : GJob) (a3430 : GState) (v3528 : List GPart) (v3529 : Int) : TS := .on [192, 193, 194, 256, 257, 258, 259, 260, 320, 321, 322, 323, 324, 576, 577, 1728, 1729, 1792, 1793] [(192, ⟨(.box 62 2), 0, nob⟩), (193, ⟨.im, 0, (.lit (.int .i64 a3428.N))⟩), (194, ⟨.im, 0, (.sl (len a3428.Edges) (flat eGEdge a3428.Edges))⟩), (256, ⟨(.box 64 4), 0, nob⟩), (257, ⟨.im, 0, (.lit (.int .i64 a3429.Prog))⟩), (258, ⟨.im, 0, (.lit (.int .i64 a3429.Source))⟩), (259, ⟨.im, 0, (.lit (.int .i64 a3429.Limit))⟩), (260, ⟨.im, 0, (.lit (.int .i64 a3429.Parts))⟩), (320, ⟨(.box 74 4), 0, nob⟩), (321, ⟨.im, 0, (.lit (.int .i64 a3430.Step))⟩), (322, ⟨.im, 0, (.sl (len a3430.Vals) (flat (eInt .i64) a3430.Vals))⟩), (323, ⟨.im, 0, (.sl (len a3430.Rest) (flat eBool a3430.Rest))⟩), (324, ⟨.im, 0, (.sl (len a3430.In) (flat eGMsg a3430.In))⟩), (576, ⟨.one, 0, nob⟩), (577, ⟨(.own 42), 0, (.sl (len v3528) (flat eGPart v3528))⟩), (1728, ⟨.one, 0, nob⟩), (1729, ⟨.im, 0, (.lit (.int .i64 a3429.Parts))⟩), (1792, ⟨.one, 0, nob⟩), (1793, ⟨.im, 0, (.lit (.int .i64 v3529))⟩)]
def F83_l0_0_X0 (a3428 : GGraph) (a3429 : GJob) (a3430 : GState) (w3584 : List GPart) : TS := .on [576, 577] [(576, ⟨.one, 0, nob⟩), (577, ⟨(.own 42), 0, (.sl (len w3584) (flat eGPart w3584))⟩)]
theorem F83_l0_0_ok (K : Nat) (a3428 : GGraph) (a3429 : GJob) (a3430 : GState) : ∀ (k : Nat) (v3528 : List GPart) (v3529 : Int) (r : List GPart), F83_l0_0 K a3428 a3429 a3430 k v3528 v3529 = some r → LoopEv E H hn83 0 c83_0 (F83_l0_0_S a3428 a3429 a3430 v3528 v3529) (.exit 0) (F83_l0_0_X0 a3428 a3429 a3430 r) := by
 intro k
 induction k with
 | zero => intro v3528 v3529 r hF; cases hF
 | succ k ih =>
  intro v3528 v3529 r hF
  rw [F83_l0_0] at hF
  refine cond_some hF (fun h3530 hF => ?_) (fun h3530 hF => ?_)
  ·
   refine bind_some hF (fun w3557 h3555 hF => ?_)
   refine bind_some hF (fun w3581 h3579 hF => ?_)
   refine cond_some hF (fun h3583 hF => ?_) (fun _ hF => nomatch hF)
   have pz : HoldAll E H hn83 [.test (ilt v3529 a3429.Parts) true, .loop 2 c83_1 (F83_l1_1_S a3428 a3429 a3430 v3528 v3529 [] [] v3529) (.exit 2) (F83_l1_1_X0 a3428 a3429 a3430 v3528 v3529 w3557), .int (nlen (len a3430.In)) (nlen (len a3430.In)), .loop 4 c83_2 (F83_l2_2_S a3428 a3429 a3430 v3528 v3529 w3557 [] 0) (.exit 4) (F83_l2_2_X0 a3428 a3429 a3430 v3528 v3529 w3557 w3581), .test (leqm [(.lit (.int .i64 v3529)), (.lit (.int .i64 a3430.Step)), (.sl (len w3557.1) (flat (eInt .i64) w3557.1)), (.sl (len w3557.2) (flat eBool w3557.2)), (.sl (len w3581) (flat eGMsg w3581))] 1 5) true, .test (apok (len v3528) 1 88) true, .sl (nadd (len v3528) 1) (lapp (flat eGPart v3528) [(.lit (.int .i64 v3529)), (.lit (.int .i64 a3430.Step)), (.sl (len w3557.1) (flat (eInt .i64) w3557.1)), (.sl (len w3557.2) (flat eBool w3557.2)), (.sl (len w3581) (flat eGMsg w3581))]) (len (α := GPart) (appL v3528 [(GPart.mk v3529 a3430.Step w3557.1 w3557.2 w3581)])) (flat eGPart (appL v3528 [(GPart.mk v3529 a3430.Step w3557.1 w3557.2 w3581)])), .int (wadd .i64 v3529 1) (wadd .i64 v3529 1)] := ⟨h3530, (F83_l1_1_ok K a3428 a3429 a3430 v3528 v3529 K [] [] v3529 _ h3555), rfl, (F83_l2_2_ok K a3428 a3429 a3430 v3528 v3529 w3557 K [] 0 _ h3579), rfl, h3583, (app_ok (enc := eGPart) (v3528 : List GPart) [(GPart.mk v3529 a3430.Step w3557.1 w3557.2 w3581)]), rfl, trivial⟩
   have h0 := ih _ _ _ hF
   have hn := fun ex ts' => loop_nextC (h := hn83) (l := 0) (c := c83_0) (ts := F83_l0_0_S a3428 a3429 a3430 v3528 v3529) (ts1 := (F83_l0_0_S a3428 a3429 a3430 (appL v3528 [(GPart.mk v3529 a3430.Step w3557.1 w3557.2 w3581)]) (wadd .i64 v3529 1))) (ex := ex) (ts' := ts') pz (by kernel_rfl)
   exact hn _ _ h0
  obtain rfl := Option.some.inj hF
  have pz : HoldAll E H hn83 [.test (ilt v3529 a3429.Parts) false] := ⟨h3530, trivial⟩
  exact loop_endC (h := hn83) (l := 0) (c := c83_0) (ts := F83_l0_0_S a3428 a3429 a3430 v3528 v3529) (ts' := F83_l0_0_X0 a3428 a3429 a3430 v3528) (ex := (.exit 0)) pz (by kernel_rfl) trivial
def F83 (K : Nat) (a3428 : GGraph) (a3429 : GJob) (a3430 : GState) : Option (List GPart × Int) :=
 (F94 K a3428 a3429).bind fun r3431 =>
 bif (ieq r3431 0) then
  ((F104 K a3428 a3429 a3430).bind fun r3471 =>
  bif r3471 then
   ((F83_l0_0 K a3428 a3429 a3430 K [] 0).bind fun w3588 =>
   some (w3588, 0))
  else
  some ([], 1))
 else
 some ([], r3431)
theorem F83_ok (K : Nat) (a3428 : GGraph) (a3429 : GJob) (a3430 : GState) (r : List GPart × Int) (hF : F83 K a3428 a3429 a3430 = some r) : Evt E H 83 [.agg (eGGraph a3428), .agg (eGJob a3429), .agg (eGState a3430)] (F83_res r) := by
 rw [F83] at hF
 refine bind_some hF (fun r3431 h3432 hF => ?_)
 refine cond_some hF (fun h3433 hF => ?_) (fun h3433 hF => ?_)
 ·
  refine bind_some hF (fun r3471 h3472 hF => ?_)
  have pq3590 : ∀ {l : List Cond}, HoldAll E H hn83 l → HoldAll E H hn83 (.call 94 [.agg (eGGraph a3428), .agg (eGJob a3429)] (F94_res r3431) :: .test (leadsAny (Res.mk [(.one (.im (.lit (.int .i64 r3431))))] [])) false :: .test (ine r3431 0) false :: .call 104 [.agg (eGGraph a3428), .agg (eGJob a3429), .agg (eGState a3430)] (F104_res r3471) :: .test (leadsAny (Res.mk [(.one (.im (.lit (.bool r3471))))] [])) false :: l) := fun z => ⟨(F94_ok K a3428 a3429 _ h3432), (leads_ok (by simp [leadsAny, RV.leads, RC.leads, leadsT, hasSl_lit, flat_ns eGJob_ns])), (ine_t h3433), (F104_ok K a3428 a3429 a3430 _ h3472), (leads_ok (by simp [leadsAny, RV.leads, RC.leads, leadsT, hasSl_lit, flat_ns eGJob_ns])), z⟩
  refine cond_some hF (fun h3473 hF => ?_) (fun h3473 hF => ?_)
  ·
   refine bind_some hF (fun w3588 h3586 hF => ?_)
   obtain rfl := Option.some.inj hF
   have pz : HoldAll E H hn83 [.test (bnot r3471) false, .loop 0 c83_0 (F83_l0_0_S a3428 a3429 a3430 [] 0) (.exit 0) (F83_l0_0_X0 a3428 a3429 a3430 w3588)] := ⟨(bnot_t h3473), (F83_l0_0_ok K a3428 a3429 a3430 K [] 0 _ h3586), trivial⟩
   exact fn_playC hn83 (r := F83_res (w3588, 0)) (pq3590 pz) (by kernel_rfl) (by kernel_rfl)
  obtain rfl := Option.some.inj hF
  have pz : HoldAll E H hn83 [.test (bnot r3471) true] := ⟨(bnot_f h3473), trivial⟩
  exact fn_playC hn83 (r := F83_res ([], 1)) (pq3590 pz) (by kernel_rfl) (by kernel_rfl)
 obtain rfl := Option.some.inj hF
 have pz : HoldAll E H hn83 [.call 94 [.agg (eGGraph a3428), .agg (eGJob a3429)] (F94_res r3431), .test (leadsAny (Res.mk [(.one (.im (.lit (.int .i64 r3431))))] [])) false, .test (ine r3431 0) true] := ⟨(F94_ok K a3428 a3429 _ h3432), (leads_ok (by simp [leadsAny, RV.leads, RC.leads, leadsT, hasSl_lit, flat_ns eGJob_ns])), (ine_f h3433), trivial⟩
 exact fn_playC hn83 (r := F83_res ([], r3431)) pz (by kernel_rfl) (by kernel_rfl)
def cutS (g : GGraph) (j : GJob) (s : GState) (p : Int) : GPart :=
 GPart.mk p s.Step ((vertsS g j p).map fun v => s.Vals.getD v 0) ((vertsS g j p).map fun v => s.Rest.getD v false) (s.In.filter fun m => ieq (m.To % j.Parts) p)
def splitS (g : GGraph) (j : GJob) (s : GState) : List GPart := (List.range j.Parts.toNat).map fun (p : Nat) => cutS g j s (p : Int)
def splitR (g : GGraph) (j : GJob) (s : GState) : List GPart × Int := bif ieq (jcheck g j) 0 then (bif stRight g j s then (splitS g j s, 0) else ([], 1)) else ([], jcheck g j)
theorem stRight_ok {g : GGraph} {j : GJob} {s : GState} (h : stRight g j s = true) : ieq (jcheck g j) 0 = true ∧ 0 ≤ s.Step ∧ s.Step ≤ 40 ∧ (s.Vals.length : Int) = g.N ∧ (s.Rest.length : Int) = g.N ∧ inSt g.N (-1) s.In = true := by
 simp only [stRight, Bool.and_eq_true, ile_iff, ieq_iff] at h
 obtain ⟨h1, h2, h3, h4, h5, h6⟩ := h
 exact ⟨ieq_iff.2 h1, h2, h3, h4, h5, h6⟩
theorem inSt_ok {n : Int} : ∀ {l : List GMsg} {v : Int}, inSt n v l = true → l.Pairwise (fun a b => a.To < b.To) ∧ (∀ m ∈ l, v < m.To ∧ m.To < n)
 | [], v, _ => ⟨List.Pairwise.nil, fun m h => (nomatch h)⟩
 | m :: l, v, h => by
   simp only [inSt, Bool.and_eq_true, ilt_iff] at h
   obtain ⟨h1, h2, h3⟩ := h
   obtain ⟨a, b⟩ := inSt_ok h3
   refine ⟨List.pairwise_cons.2 ⟨fun x hx => (b x hx).1, a⟩, fun x hx => ?_⟩
   rcases List.mem_cons.1 hx with e | e
   · subst e; exact ⟨h1, h2⟩
   · have := b x e; exact ⟨by omega, this.2⟩
theorem inSt_len {n : Int} : ∀ {l : List GMsg} {v : Int}, inSt n v l = true → v ≤ n → (l.length : Int) ≤ n - v
 | [], v, _, hv => by simp; omega
 | m :: l, v, h, hv => by
   simp only [inSt, Bool.and_eq_true, ilt_iff] at h
   obtain ⟨h1, h2, h3⟩ := h
   have := inSt_len h3 (by omega)
   simp only [List.length_cons]; omega
def progL : Nat → Nat → Nat → Nat → List Nat
 | 0, _, _, _ => []
 | k + 1, n, parts, v => if v < n then v :: progL k n parts (v + parts) else []
theorem prog_all : ∀ parts < 7, 0 < parts → ∀ n < 25, ∀ p < parts, progL 30 n parts p = (List.range n).filter fun v => v % parts == p := by decide +kernel
theorem prog_verts {n parts : Nat} (h1 : 0 < parts) (h2 : parts < 7) (hn : n < 25) {p : Nat} (hp : p < parts) : progL 30 n parts p = vertsN n parts (p : Int) := by
 rw [prog_all parts h2 h1 n hn p hp, vertsN]
 refine List.filter_congr fun v _ => ?_
 rw [Bool.eq_iff_iff, ieq_iff, beq_iff_eq]; omega
theorem getD_at {α : Type} {l : List α} {v : Nat} (d : α) (h : v < l.length) : inr (v : Int) (len l) = true ∧ elAt l (v : Int) = some (l.getD v d) := by
 refine ⟨decide_eq_true ⟨by omega, by show (v : Int) < (l.length : Int); omega⟩, ?_⟩
 rw [elAt_nat]; simp [h, List.getD]
theorem F83_vals {K : Nat} (g : GGraph) (j : GJob) (s : GState) (out : List GPart) (pp : Int) {n m : Nat} (hn : g.N = (n : Int)) (hm : j.Parts = (m : Int)) (hm1 : 1 ≤ m) (hm2 : m ≤ 6) (hn2 : n ≤ 24) (hv : s.Vals.length = n) (hr : s.Rest.length = n) :
   ∀ (f k v : Nat) (a : List Int) (b : List Bool), n < v + f → f < k → v ≤ 100 → a.length + f ≤ 1000 → b.length + f ≤ 1000 →
     F83_l1_1 K g j s out pp k a b (v : Int) = some (a ++ (progL f n m v).map (fun v => s.Vals.getD v 0), b ++ (progL f n m v).map (fun v => s.Rest.getD v false)) := by
 intro f
 induction f with
 | zero =>
   intro k v a b h _ _ _ _
   obtain ⟨k, rfl⟩ : ∃ q, k = q + 1 := ⟨k - 1, by omega⟩
   rw [F83_l1_1, ilt_f.2 (by omega : g.N ≤ (v : Int))]; simp [progL]
 | succ f ih =>
   intro k v a b h hk hv100 ha hb
   obtain ⟨k, rfl⟩ : ∃ q, k = q + 1 := ⟨k - 1, by omega⟩
   rw [F83_l1_1]
   by_cases hlt : v < n
   · obtain ⟨i1, i2⟩ := getD_at (l := s.Vals) 0 (by omega : v < s.Vals.length)
     obtain ⟨i3, i4⟩ := getD_at (l := s.Rest) false (by omega : v < s.Rest.length)
     have a1 : apok (len a) 1 8 = true := decide_eq_true ⟨by show a.length + 1 ≤ _; omega, by show (a.length + 1) * 8 ≤ _; omega⟩
     have a2 : apok (len b) 1 1 = true := decide_eq_true ⟨by show b.length + 1 ≤ _; omega, by show (b.length + 1) * 1 ≤ _; omega⟩
     have ew : wadd .i64 (v : Int) j.Parts = ((v + m : Nat) : Int) := by
       show IntKind.i64.wrap _ = _
       rw [hm, IntKind.wrap_i64]; omega
     rw [ilt_iff.2 (by omega : (v : Int) < g.N), cond_true, i1, cond_true, i2, Option.bind_some, a1, cond_true, i3, cond_true, i4, Option.bind_some, a2, cond_true, ew, ih k (v + m) _ _ (by omega) (by omega) (by omega) (by simp [appL]; omega) (by simp [appL]; omega)]
     simp [progL, hlt, appL]
   · rw [ilt_f.2 (by omega : g.N ≤ (v : Int))]; simp [progL, hlt]
theorem F83_in {K : Nat} (g : GGraph) (j : GJob) (s : GState) (out : List GPart) (pp : Int) (w : List Int × List Bool) (hp : 1 ≤ j.Parts) (hl : s.In.length ≤ 1000) (hK : s.In.length < K) (h0 : ∀ m ∈ s.In, 0 ≤ m.To) :
   F83_l2_2 K g j s out pp w K [] 0 = some (s.In.filter fun m => ieq (m.To % j.Parts) pp) := by
 let step : GMsg → List GMsg → (List GMsg → Option (List GMsg)) → Option (List GMsg) := fun m a c =>
   bif (izero j.Parts) then none else bif (ieq (wrem m.To j.Parts) pp) then (bif (apok (len a) 1 16) then c (appL a [m]) else none) else c a
 have h := scanL (l := s.In) (L := fun k a i => F83_l2_2 K g j s out pp w k a i) step (fun a => some a) (fun k s i _ => rfl) (by omega) (K := K) hK []
 have hz : izero j.Parts = false := decide_eq_false (by omega)
 have hw : ∀ (l : List GMsg) (a : List GMsg), (∀ m ∈ l, 0 ≤ m.To) → a.length + l.length ≤ 1000 → goL step (fun a => some a) l a = some (a ++ l.filter fun m => ieq (m.To % j.Parts) pp) := by
   intro l
   induction l with
   | nil => intro a _ _; simp [goL]
   | cons m l ih =>
     intro a hm ha
     simp only [List.length_cons] at ha
     rw [goL]
     show (bif (izero j.Parts) then none else bif (ieq (wrem m.To j.Parts) pp) then (bif (apok (len a) 1 16) then goL step (fun a => some a) l (appL a [m]) else none) else goL step (fun a => some a) l a) = _
     have ap : apok (len a) 1 16 = true := decide_eq_true ⟨by show a.length + 1 ≤ _; omega, by show (a.length + 1) * 16 ≤ _; omega⟩
     rw [hz, cond_false, wrem_emod (hm m List.mem_cons_self), ap, List.filter_cons]
     cases ieq (m.To % j.Parts) pp
     · rw [cond_false, ih a (fun x hx => hm x (List.mem_cons_of_mem _ hx)) (by omega)]; rfl
     · rw [cond_true, cond_true, ih _ (fun x hx => hm x (List.mem_cons_of_mem _ hx)) (by simp [appL]; omega)]; simp [appL]
 rw [hw s.In [] h0 (by simpa using hl)] at h
 exact h
theorem F83_loop {K : Nat} (hK : 1000 ≤ K) (g : GGraph) (j : GJob) (s : GState) (h : stRight g j s = true) : F83_l0_0 K g j s K [] 0 = some (splitS g j s) := by
 obtain ⟨hc, s1, s2, s3, s4, s5⟩ := stRight_ok h
 obtain ⟨hg, p1, p2, p3, p4, p5, p6, p7, p8⟩ := jcheck_ok hc
 obtain ⟨g1, g2, _, _⟩ := gcheck_ok hg
 obtain ⟨n, hn⟩ := Int.eq_ofNat_of_zero_le (show 0 ≤ g.N by omega)
 obtain ⟨m, hm⟩ := Int.eq_ofNat_of_zero_le (show 0 ≤ j.Parts by omega)
 obtain ⟨q1, q2⟩ := inSt_ok s5
 have hlen := inSt_len s5 (by omega)
 let step : Nat → List GPart → (List GPart → Option (List GPart)) → Option (List GPart) := fun i out c =>
     ((F83_l1_1 K g j s out (i : Int) K [] [] (i : Int)).bind fun w =>
     (F83_l2_2 K g j s out (i : Int) w K [] 0).bind fun w' =>
     bif (apok (len out) 1 88) then c (appL out [(GPart.mk (i : Int) s.Step w.1 w.2 w')]) else none)
 have hs := scanN (N := j.Parts) (L := fun k a i => F83_l0_0 K g j s k a i) step (fun a => some a) (fun k s i _ => rfl) (by omega) (K := K) (by omega) []
 have hw : ∀ (l : List Nat) (out : List GPart), (∀ p ∈ l, p < m) → out.length + l.length ≤ 100 → goL step (fun a => some a) l out = some (out ++ l.map fun (p : Nat) => cutS g j s (p : Int)) := by
   intro l
   induction l with
   | nil => intro out _ _; simp [goL]
   | cons p l ih =>
     intro out hp ho
     simp only [List.length_cons] at ho
     have hpm := hp p List.mem_cons_self
     have ap : apok (len out) 1 88 = true := decide_eq_true ⟨by show out.length + 1 ≤ _; omega, by show (out.length + 1) * 88 ≤ _; omega⟩
     have e1 := F83_vals (K := K) g j s out (p : Int) hn hm (by omega) (by omega) (by omega) (by omega) (by omega) 30 K p [] [] (by omega) (by omega) (by omega) (by simp) (by simp)
     have e2 := F83_in (K := K) g j s out (p : Int) (((progL 30 n m p).map fun v => s.Vals.getD v 0), ((progL 30 n m p).map fun v => s.Rest.getD v false)) p7 (by omega) (by omega) (fun m hm => by have := q2 m hm; omega)
     rw [goL]
     show ((F83_l1_1 K g j s out (p : Int) K [] [] (p : Int)).bind fun w =>
       (F83_l2_2 K g j s out (p : Int) w K [] 0).bind fun w' =>
       bif (apok (len out) 1 88) then goL step (fun a => some a) l (appL out [(GPart.mk (p : Int) s.Step w.1 w.2 w')]) else none) = _
     rw [e1, Option.bind_some, List.nil_append, List.nil_append, e2, Option.bind_some, ap, cond_true, ih _ (fun x hx => hp x (List.mem_cons_of_mem _ hx)) (by simp [appL]; omega)]
     have ec : GPart.mk (p : Int) s.Step ((progL 30 n m p).map fun v => s.Vals.getD v 0) ((progL 30 n m p).map fun v => s.Rest.getD v false) (s.In.filter fun m => ieq (m.To % j.Parts) (p : Int)) = cutS g j s (p : Int) := by
       have a1 : g.N.toNat = n := by omega
       have a2 : j.Parts.toNat = m := by omega
       rw [cutS, vertsS, a1, a2, prog_verts (by omega) (by omega) (by omega) hpm]
     simp only [ec]
     simp [appL]
 have hmt : j.Parts.toNat = m := by omega
 rw [hmt, hw _ [] (fun p hp => List.mem_range.1 hp) (by simp; omega)] at hs
 rw [splitS, hmt]
 exact hs
theorem F83_spec {K : Nat} (hK : 1000 ≤ K) (g : GGraph) (j : GJob) (s : GState) (hl : s.In.length < 1000) : F83 K g j s = some (splitR g j s) := by
 rw [F83, F94_spec (by omega), Option.bind_some, splitR]
 cases hc : ieq (jcheck g j) 0
 · rfl
 · rw [cond_true, cond_true, F104_spec hK g j s (by omega) (by omega), Option.bind_some]
   cases hr : stRight g j s
   · rfl
   · rw [cond_true, cond_true, F83_loop hK g j s hr]; rfl
noncomputable def hn123 : Hint := { H 123 with nt := 19, prot := 0 }
noncomputable def c123_0 : Code := loopOf E 123 0
def F123_res (r653 : Bool) : Res := ⟨[(.one (.im (.lit (.bool r653))))], []⟩
def F123_l0_0 (K : Nat) (a634 : GPart) : Nat → Int → Option ((Unit) ⊕ (Unit))
 | 0, _ => none
 | k + 1, v640 =>
  bif (ilt v640 (nlen (len a634.Rest))) then
   (bif (inr v640 (len a634.Rest)) then
   (elAt a634.Rest v640).bind fun x643 =>
   bif x643 then
    (F123_l0_0 K a634 k (wadd .i64 v640 1))
   else
   some (.inl ())
   else none)
  else
  some (.inr ())
def F123_l0_0_S (a634 : GPart) (v640 : Int) : TS := .on [64, 65, 66, 67, 68, 69, 320, 384, 385, 448, 449, 512, 513] [(64, ⟨(.box 42 5), 0, nob⟩), (65, ⟨.im, 0, (.lit (.int .i64 a634.P))⟩), (66, ⟨.im, 0, (.lit (.int .i64 a634.Step))⟩), (67, ⟨.im, 0, (.sl (len a634.Vals) (flat (eInt .i64) a634.Vals))⟩), (68, ⟨.im, 0, (.sl (len a634.Rest) (flat eBool a634.Rest))⟩), (69, ⟨.im, 0, (.sl (len a634.In) (flat eGMsg a634.In))⟩), (320, ⟨(.ad 1 0 3), 0, nob⟩), (384, ⟨.one, 0, nob⟩), (385, ⟨.im, 0, (.sl (len a634.Rest) (flat eBool a634.Rest))⟩), (448, ⟨.one, 0, nob⟩), (449, ⟨.im, 0, (.lit (.int .i64 (nlen (len a634.Rest))))⟩), (512, ⟨.one, 0, nob⟩), (513, ⟨.im, 0, (.lit (.int .i64 v640))⟩)]
def F123_l0_0_X0 (a634 : GPart) (w646 : Unit) : TS := .on [128, 129] [(128, ⟨.one, 0, nob⟩), (129, ⟨.im, 0, (.lit (.bool false))⟩)]
def F123_l0_0_X1 (a634 : GPart) (w647 : Unit) : TS := .on [64, 65, 66, 67, 68, 69] [(64, ⟨(.box 42 5), 0, nob⟩), (65, ⟨.im, 0, (.lit (.int .i64 a634.P))⟩), (66, ⟨.im, 0, (.lit (.int .i64 a634.Step))⟩), (67, ⟨.im, 0, (.sl (len a634.Vals) (flat (eInt .i64) a634.Vals))⟩), (68, ⟨.im, 0, (.sl (len a634.Rest) (flat eBool a634.Rest))⟩), (69, ⟨.im, 0, (.sl (len a634.In) (flat eGMsg a634.In))⟩)]
theorem F123_l0_0_ok (K : Nat) (a634 : GPart) : ∀ (k : Nat) (v640 : Int) (r : (Unit) ⊕ (Unit)), F123_l0_0 K a634 k v640 = some r → (Sum.elim (fun w => LoopEv E H hn123 0 c123_0 (F123_l0_0_S a634 v640) .ret (F123_l0_0_X0 a634 w)) (fun w => LoopEv E H hn123 0 c123_0 (F123_l0_0_S a634 v640) (.exit 0) (F123_l0_0_X1 a634 w))) r := by
 intro k
 induction k with
 | zero => intro v640 r hF; cases hF
 | succ k ih =>
  intro v640 r hF
  rw [F123_l0_0] at hF
  refine cond_some hF (fun h641 hF => ?_) (fun h641 hF => ?_)
  ·
   refine cond_some hF (fun h642 hF => ?_) (fun _ hF => nomatch hF)
   refine bind_some hF (fun x643 h644 hF => ?_)
   have pq648 : ∀ {l : List Cond}, HoldAll E H hn123 l → HoldAll E H hn123 (.test (ilt v640 (nlen (len a634.Rest))) true :: .test (inr v640 (len a634.Rest)) true :: .sub (flat eBool a634.Rest) (nidx v640 1) 1 [(.lit (.bool x643))] :: l) := fun z => ⟨h641, h642, ⟨rfl, sub_flat0 eBool_len h644 1 (by decide)⟩, z⟩
   refine cond_some hF (fun h645 hF => ?_) (fun h645 hF => ?_)
   ·
    have pz : HoldAll E H hn123 [.test (bnot x643) false, .int (wadd .i64 v640 1) (wadd .i64 v640 1)] := ⟨(bnot_t h645), rfl, trivial⟩
    have h0 := ih _ _ hF
    have hn := fun ex ts' => loop_nextC (h := hn123) (l := 0) (c := c123_0) (ts := F123_l0_0_S a634 v640) (ts1 := (F123_l0_0_S a634 (wadd .i64 v640 1))) (ex := ex) (ts' := ts') (pq648 pz) (by kernel_rfl)
    cases r with
    | inl w => exact hn _ _ h0
    | inr w => exact hn _ _ h0
   obtain rfl := Option.some.inj hF
   have pz : HoldAll E H hn123 [.test (bnot x643) true] := ⟨(bnot_f h645), trivial⟩
   exact loop_endC (h := hn123) (l := 0) (c := c123_0) (ts := F123_l0_0_S a634 v640) (ts' := F123_l0_0_X0 a634 ()) (ex := .ret) (pq648 pz) (by kernel_rfl) trivial
  obtain rfl := Option.some.inj hF
  have pz : HoldAll E H hn123 [.test (ilt v640 (nlen (len a634.Rest))) false] := ⟨h641, trivial⟩
  exact loop_endC (h := hn123) (l := 0) (c := c123_0) (ts := F123_l0_0_S a634 v640) (ts' := F123_l0_0_X1 a634 ()) (ex := (.exit 0)) pz (by kernel_rfl) trivial
def F123 (K : Nat) (a634 : GPart) : Option (Bool) :=
 (F123_l0_0 K a634 K 0).bind fun y650 =>
 Sum.elim (fun w651 =>
  some false)
  (fun w652 =>
  some (ieq (nlen (len a634.In)) 0)) y650
theorem F123_ok (K : Nat) (a634 : GPart) (r : Bool) (hF : F123 K a634 = some r) : Evt E H 123 [.agg (eGPart a634)] (F123_res r) := by
 rw [F123] at hF
 refine bind_some hF (fun y650 h649 hF => ?_)
 refine sum_some hF (fun w651 hx hF => ?_) (fun w652 hx hF => ?_)
 ·
  subst hx
  obtain rfl := Option.some.inj hF
  have pz : HoldAll E H hn123 [.int (nlen (len a634.Rest)) (nlen (len a634.Rest)), .loop 0 c123_0 (F123_l0_0_S a634 0) .ret (F123_l0_0_X0 a634 w651)] := ⟨rfl, (F123_l0_0_ok K a634 K 0 _ h649), trivial⟩
  exact fn_playC hn123 (r := F123_res false) pz (by kernel_rfl) (by kernel_rfl)
 subst hx
 obtain rfl := Option.some.inj hF
 have pz : HoldAll E H hn123 [.int (nlen (len a634.Rest)) (nlen (len a634.Rest)), .loop 0 c123_0 (F123_l0_0_S a634 0) (.exit 0) (F123_l0_0_X1 a634 w652), .int (nlen (len a634.In)) (nlen (len a634.In))] := ⟨rfl, (F123_l0_0_ok K a634 K 0 _ h649), rfl, trivial⟩
 exact fn_playC hn123 (r := F123_res (ieq (nlen (len a634.In)) 0)) pz (by kernel_rfl) (by kernel_rfl)
noncomputable def hn105 : Hint := { H 105 with nt := 19, prot := 0 }
noncomputable def c105_0 : Code := loopOf E 105 0
def F105_res (r5084 : Bool) : Res := ⟨[(.one (.im (.lit (.bool r5084))))], []⟩
def F105_l0_0 (K : Nat) (a5065 : GState) : Nat → Int → Option ((Unit) ⊕ (Unit))
 | 0, _ => none
 | k + 1, v5071 =>
  bif (ilt v5071 (nlen (len a5065.Rest))) then
   (bif (inr v5071 (len a5065.Rest)) then
   (elAt a5065.Rest v5071).bind fun x5074 =>
   bif x5074 then
    (F105_l0_0 K a5065 k (wadd .i64 v5071 1))
   else
   some (.inl ())
   else none)
  else
  some (.inr ())
def F105_l0_0_S (a5065 : GState) (v5071 : Int) : TS := .on [64, 65, 66, 67, 68, 320, 384, 385, 448, 449, 512, 513] [(64, ⟨(.box 74 4), 0, nob⟩), (65, ⟨.im, 0, (.lit (.int .i64 a5065.Step))⟩), (66, ⟨.im, 0, (.sl (len a5065.Vals) (flat (eInt .i64) a5065.Vals))⟩), (67, ⟨.im, 0, (.sl (len a5065.Rest) (flat eBool a5065.Rest))⟩), (68, ⟨.im, 0, (.sl (len a5065.In) (flat eGMsg a5065.In))⟩), (320, ⟨(.ad 1 0 2), 0, nob⟩), (384, ⟨.one, 0, nob⟩), (385, ⟨.im, 0, (.sl (len a5065.Rest) (flat eBool a5065.Rest))⟩), (448, ⟨.one, 0, nob⟩), (449, ⟨.im, 0, (.lit (.int .i64 (nlen (len a5065.Rest))))⟩), (512, ⟨.one, 0, nob⟩), (513, ⟨.im, 0, (.lit (.int .i64 v5071))⟩)]
def F105_l0_0_X0 (a5065 : GState) (w5077 : Unit) : TS := .on [128, 129] [(128, ⟨.one, 0, nob⟩), (129, ⟨.im, 0, (.lit (.bool false))⟩)]
def F105_l0_0_X1 (a5065 : GState) (w5078 : Unit) : TS := .on [64, 65, 66, 67, 68] [(64, ⟨(.box 74 4), 0, nob⟩), (65, ⟨.im, 0, (.lit (.int .i64 a5065.Step))⟩), (66, ⟨.im, 0, (.sl (len a5065.Vals) (flat (eInt .i64) a5065.Vals))⟩), (67, ⟨.im, 0, (.sl (len a5065.Rest) (flat eBool a5065.Rest))⟩), (68, ⟨.im, 0, (.sl (len a5065.In) (flat eGMsg a5065.In))⟩)]
theorem F105_l0_0_ok (K : Nat) (a5065 : GState) : ∀ (k : Nat) (v5071 : Int) (r : (Unit) ⊕ (Unit)), F105_l0_0 K a5065 k v5071 = some r → (Sum.elim (fun w => LoopEv E H hn105 0 c105_0 (F105_l0_0_S a5065 v5071) .ret (F105_l0_0_X0 a5065 w)) (fun w => LoopEv E H hn105 0 c105_0 (F105_l0_0_S a5065 v5071) (.exit 0) (F105_l0_0_X1 a5065 w))) r := by
 intro k
 induction k with
 | zero => intro v5071 r hF; cases hF
 | succ k ih =>
  intro v5071 r hF
  rw [F105_l0_0] at hF
  refine cond_some hF (fun h5072 hF => ?_) (fun h5072 hF => ?_)
  ·
   refine cond_some hF (fun h5073 hF => ?_) (fun _ hF => nomatch hF)
   refine bind_some hF (fun x5074 h5075 hF => ?_)
   have pq5079 : ∀ {l : List Cond}, HoldAll E H hn105 l → HoldAll E H hn105 (.test (ilt v5071 (nlen (len a5065.Rest))) true :: .test (inr v5071 (len a5065.Rest)) true :: .sub (flat eBool a5065.Rest) (nidx v5071 1) 1 [(.lit (.bool x5074))] :: l) := fun z => ⟨h5072, h5073, ⟨rfl, sub_flat0 eBool_len h5075 1 (by decide)⟩, z⟩
   refine cond_some hF (fun h5076 hF => ?_) (fun h5076 hF => ?_)
   ·
    have pz : HoldAll E H hn105 [.test (bnot x5074) false, .int (wadd .i64 v5071 1) (wadd .i64 v5071 1)] := ⟨(bnot_t h5076), rfl, trivial⟩
    have h0 := ih _ _ hF
    have hn := fun ex ts' => loop_nextC (h := hn105) (l := 0) (c := c105_0) (ts := F105_l0_0_S a5065 v5071) (ts1 := (F105_l0_0_S a5065 (wadd .i64 v5071 1))) (ex := ex) (ts' := ts') (pq5079 pz) (by kernel_rfl)
    cases r with
    | inl w => exact hn _ _ h0
    | inr w => exact hn _ _ h0
   obtain rfl := Option.some.inj hF
   have pz : HoldAll E H hn105 [.test (bnot x5074) true] := ⟨(bnot_f h5076), trivial⟩
   exact loop_endC (h := hn105) (l := 0) (c := c105_0) (ts := F105_l0_0_S a5065 v5071) (ts' := F105_l0_0_X0 a5065 ()) (ex := .ret) (pq5079 pz) (by kernel_rfl) trivial
  obtain rfl := Option.some.inj hF
  have pz : HoldAll E H hn105 [.test (ilt v5071 (nlen (len a5065.Rest))) false] := ⟨h5072, trivial⟩
  exact loop_endC (h := hn105) (l := 0) (c := c105_0) (ts := F105_l0_0_S a5065 v5071) (ts' := F105_l0_0_X1 a5065 ()) (ex := (.exit 0)) pz (by kernel_rfl) trivial
def F105 (K : Nat) (a5065 : GState) : Option (Bool) :=
 (F105_l0_0 K a5065 K 0).bind fun y5081 =>
 Sum.elim (fun w5082 =>
  some false)
  (fun w5083 =>
  some (ieq (nlen (len a5065.In)) 0)) y5081
theorem F105_ok (K : Nat) (a5065 : GState) (r : Bool) (hF : F105 K a5065 = some r) : Evt E H 105 [.agg (eGState a5065)] (F105_res r) := by
 rw [F105] at hF
 refine bind_some hF (fun y5081 h5080 hF => ?_)
 refine sum_some hF (fun w5082 hx hF => ?_) (fun w5083 hx hF => ?_)
 ·
  subst hx
  obtain rfl := Option.some.inj hF
  have pz : HoldAll E H hn105 [.int (nlen (len a5065.Rest)) (nlen (len a5065.Rest)), .loop 0 c105_0 (F105_l0_0_S a5065 0) .ret (F105_l0_0_X0 a5065 w5082)] := ⟨rfl, (F105_l0_0_ok K a5065 K 0 _ h5080), trivial⟩
  exact fn_playC hn105 (r := F105_res false) pz (by kernel_rfl) (by kernel_rfl)
 subst hx
 obtain rfl := Option.some.inj hF
 have pz : HoldAll E H hn105 [.int (nlen (len a5065.Rest)) (nlen (len a5065.Rest)), .loop 0 c105_0 (F105_l0_0_S a5065 0) (.exit 0) (F105_l0_0_X1 a5065 w5083), .int (nlen (len a5065.In)) (nlen (len a5065.In))] := ⟨rfl, (F105_l0_0_ok K a5065 K 0 _ h5080), rfl, trivial⟩
 exact fn_playC hn105 (r := F105_res (ieq (nlen (len a5065.In)) 0)) pz (by kernel_rfl) (by kernel_rfl)
def restsS (s : GState) : Bool := s.Rest.all id && ieq (nlen (len s.In)) 0
theorem rest_go (l : List Bool) : goL (fun r (_ : Unit) c => bif r then c () else some (.inl ())) (fun _ => some (.inr ())) l () = (some (sumU (l.all id)) : Option (Unit ⊕ Unit)) := by
 induction l with
 | nil => rfl
 | cons r l ih => cases r <;> simp [goL, ih, sumU]
theorem F105_spec (K : Nat) (x : GState) (h : x.Rest.length < 4611686018427387904) (hK : x.Rest.length < K) : F105 K x = some (restsS x) := by
 have e : F105_l0_0 K x K 0 = _ := scanL (L := fun k (_ : Unit) i => F105_l0_0 K x k i) (fun r _ c => bif r then c () else some (.inl ())) (fun _ => some (.inr ())) (fun k s i _ => rfl) h hK ()
 rw [F105, e, rest_go, restsS]
 cases x.Rest.all id <;> rfl
noncomputable def hn113 : Hint := { H 113 with nt := 7, prot := 0 }
def F113_res (r5876 : Bool) : Res := ⟨[(.one (.im (.lit (.bool r5876))))], []⟩
def F113 (K : Nat) (a5875 : GGraph) : Option (Bool) :=
 some (igt (nlen (len a5875.Edges)) 200)
theorem F113_ok (K : Nat) (a5875 : GGraph) (r : Bool) (hF : F113 K a5875 = some r) : Evt E H 113 [.agg (eGGraph a5875)] (F113_res r) := by
 rw [F113] at hF
 obtain rfl := Option.some.inj hF
 have pz : HoldAll E H hn113 [.int (nlen (len a5875.Edges)) (nlen (len a5875.Edges))] := ⟨rfl, trivial⟩
 exact fn_playC hn113 (r := F113_res (igt (nlen (len a5875.Edges)) 200)) pz (by kernel_rfl) (by kernel_rfl)
noncomputable def hn125 : Hint := { H 125 with nt := 19, prot := 0 }
def F125_res (r6860 : Bool) : Res := ⟨[(.one (.im (.lit (.bool r6860))))], []⟩
def F125 (K : Nat) (a6856 : GState) : Option (Bool) :=
 bif (ilt 100 (nlen (len a6856.Vals))) then
  (some true)
 else
 bif (ilt 100 (nlen (len a6856.Rest))) then
  (some true)
 else
 some (igt (nlen (len a6856.In)) 300)
theorem F125_ok (K : Nat) (a6856 : GState) (r : Bool) (hF : F125 K a6856 = some r) : Evt E H 125 [.agg (eGState a6856)] (F125_res r) := by
 rw [F125] at hF
 refine cond_some hF (fun h6857 hF => ?_) (fun h6857 hF => ?_)
 ·
  obtain rfl := Option.some.inj hF
  have pz : HoldAll E H hn125 [.int (nlen (len a6856.Vals)) (nlen (len a6856.Vals)), .test (beqb (igt (nlen (len a6856.Vals)) 100) false) false, .test (beqb (igt (nlen (len a6856.Vals)) 100) false) false, .test (beqb (igt (nlen (len a6856.Vals)) 100) false) false, .test (beqb (igt (nlen (len a6856.Vals)) 100) false) false, .test (igt (nlen (len a6856.Vals)) 100) true, .test (beqb true false) false, .test (beqb true false) false, .test (beqb true false) false, .test (beqb true false) false, .test true true] := ⟨rfl, (beqb_ft (igt_eq h6857)), (beqb_ft (igt_eq h6857)), (beqb_ft (igt_eq h6857)), (beqb_ft (igt_eq h6857)), (igt_eq h6857), (beqb_ft rfl), (beqb_ft rfl), (beqb_ft rfl), (beqb_ft rfl), rfl, trivial⟩
  exact fn_playC hn125 (r := F125_res true) pz (by kernel_rfl) (by kernel_rfl)
 have pq6859 : ∀ {l : List Cond}, HoldAll E H hn125 l → HoldAll E H hn125 (.int (nlen (len a6856.Vals)) (nlen (len a6856.Vals)) :: .test (beqb (igt (nlen (len a6856.Vals)) 100) false) true :: .test (beqb (igt (nlen (len a6856.Vals)) 100) false) true :: .test (beqb (igt (nlen (len a6856.Vals)) 100) false) true :: .int (nlen (len a6856.Rest)) (nlen (len a6856.Rest)) :: .test (beqb (igt (nlen (len a6856.Vals)) 100) false) true :: .test (igt (nlen (len a6856.Vals)) 100) false :: l) := fun z => ⟨rfl, (beqb_ff (igt_eq h6857)), (beqb_ff (igt_eq h6857)), (beqb_ff (igt_eq h6857)), rfl, (beqb_ff (igt_eq h6857)), (igt_eq h6857), z⟩
 refine cond_some hF (fun h6858 hF => ?_) (fun h6858 hF => ?_)
 ·
  obtain rfl := Option.some.inj hF
  have pz : HoldAll E H hn125 [.test (beqb (igt (nlen (len a6856.Rest)) 100) false) false, .test (beqb (igt (nlen (len a6856.Rest)) 100) false) false, .test (beqb (igt (nlen (len a6856.Rest)) 100) false) false, .test (beqb (igt (nlen (len a6856.Rest)) 100) false) false, .test (igt (nlen (len a6856.Rest)) 100) true] := ⟨(beqb_ft (igt_eq h6858)), (beqb_ft (igt_eq h6858)), (beqb_ft (igt_eq h6858)), (beqb_ft (igt_eq h6858)), (igt_eq h6858), trivial⟩
  exact fn_playC hn125 (r := F125_res true) (pq6859 pz) (by kernel_rfl) (by kernel_rfl)
 obtain rfl := Option.some.inj hF
 have pz : HoldAll E H hn125 [.test (beqb (igt (nlen (len a6856.Rest)) 100) false) true, .test (beqb (igt (nlen (len a6856.Rest)) 100) false) true, .test (beqb (igt (nlen (len a6856.Rest)) 100) false) true, .int (nlen (len a6856.In)) (nlen (len a6856.In)), .test (beqb (igt (nlen (len a6856.Rest)) 100) false) true, .test (igt (nlen (len a6856.Rest)) 100) false] := ⟨(beqb_ff (igt_eq h6858)), (beqb_ff (igt_eq h6858)), (beqb_ff (igt_eq h6858)), rfl, (beqb_ff (igt_eq h6858)), (igt_eq h6858), trivial⟩
 exact fn_playC hn125 (r := F125_res (igt (nlen (len a6856.In)) 300)) (pq6859 pz) (by kernel_rfl) (by kernel_rfl)
theorem F123_spec (K : Nat) (x : GPart) (h : x.Rest.length < 4611686018427387904) (hK : x.Rest.length < K) : F123 K x = some (restsS (GState.mk 0 [] x.Rest x.In)) := by
 have e : F123_l0_0 K x K 0 = _ := scanL (L := fun k (_ : Unit) i => F123_l0_0 K x k i) (fun r _ c => bif r then c () else some (.inl ())) (fun _ => some (.inr ())) (fun k s i _ => rfl) h hK ()
 rw [F123, e, rest_go, restsS]
 cases x.Rest.all id <;> rfl
noncomputable def hn39 : Hint := { H 39 with nt := 55, prot := 0 }
noncomputable def c39_0 : Code := loopOf E 39 0
def F39_res (r6897 : Bool) : Res := ⟨[(.one (.im (.lit (.bool r6897))))], []⟩
def F39_l0_0 (K : Nat) (a6852 : GState) (r6867 : List GPart × Int) : Nat → Bool → Int → Option (Bool)
 | 0, _, _ => none
 | k + 1, v6876, v6877 =>
  bif (ilt v6877 (nlen (len r6867.1))) then
   (bif v6876 then
    (bif (inr v6877 (len r6867.1)) then
    (elAt r6867.1 v6877).bind fun x6881 =>
    (F123 K x6881).bind fun r6883 =>
    F39_l0_0 K a6852 r6867 k r6883 (wadd .i64 v6877 1)
    else none)
   else
   F39_l0_0 K a6852 r6867 k false (wadd .i64 v6877 1))
  else
  some v6876
def F39_l0_0_S (a6852 : GState) (r6867 : List GPart × Int) (v6876 : Bool) (v6877 : Int) : TS := .on [320, 321, 322, 323, 324, 448, 449, 576, 577, 640, 641] [(320, ⟨(.box 74 4), 0, nob⟩), (321, ⟨.im, 0, (.lit (.int .i64 a6852.Step))⟩), (322, ⟨.im, 0, (.sl (len a6852.Vals) (flat (eInt .i64) a6852.Vals))⟩), (323, ⟨.im, 0, (.sl (len a6852.Rest) (flat eBool a6852.Rest))⟩), (324, ⟨.im, 0, (.sl (len a6852.In) (flat eGMsg a6852.In))⟩), (448, ⟨.one, 0, nob⟩), (449, ⟨(.own 42), 0, (.sl (len r6867.1) (flat eGPart r6867.1))⟩), (576, ⟨.one, 0, nob⟩), (577, ⟨.im, 0, (.lit (.bool v6876))⟩), (640, ⟨.one, 0, nob⟩), (641, ⟨.im, 0, (.lit (.int .i64 v6877))⟩)]
def F39_l0_0_X0 (a6852 : GState) (r6867 : List GPart × Int) (w6885 : Bool) : TS := .on [320, 321, 322, 323, 324, 576, 577] [(320, ⟨(.box 74 4), 0, nob⟩), (321, ⟨.im, 0, (.lit (.int .i64 a6852.Step))⟩), (322, ⟨.im, 0, (.sl (len a6852.Vals) (flat (eInt .i64) a6852.Vals))⟩), (323, ⟨.im, 0, (.sl (len a6852.Rest) (flat eBool a6852.Rest))⟩), (324, ⟨.im, 0, (.sl (len a6852.In) (flat eGMsg a6852.In))⟩), (576, ⟨.one, 0, nob⟩), (577, ⟨.im, 0, (.lit (.bool w6885))⟩)]
theorem F39_l0_0_ok (K : Nat) (a6852 : GState) (r6867 : List GPart × Int) : ∀ (k : Nat) (v6876 : Bool) (v6877 : Int) (r : Bool), F39_l0_0 K a6852 r6867 k v6876 v6877 = some r → LoopEv E H hn39 0 c39_0 (F39_l0_0_S a6852 r6867 v6876 v6877) (.exit 0) (F39_l0_0_X0 a6852 r6867 r) := by
 intro k
 induction k with
 | zero => intro v6876 v6877 r hF; cases hF
 | succ k ih =>
  intro v6876 v6877 r hF
  rw [F39_l0_0] at hF
  refine cond_some hF (fun h6878 hF => ?_) (fun h6878 hF => ?_)
  ·
   refine cond_some hF (fun h6879 hF => ?_) (fun h6879 hF => ?_)
   ·
    refine cond_some hF (fun h6880 hF => ?_) (fun _ hF => nomatch hF)
    refine bind_some hF (fun x6881 h6882 hF => ?_)
    refine bind_some hF (fun r6883 h6884 hF => ?_)
    have pz : HoldAll E H hn39 [.int (nlen (len r6867.1)) (nlen (len r6867.1)), .test (ilt v6877 (nlen (len r6867.1))) true, .test (beqb v6876 true) true, .test (beqb v6876 true) true, .test (beqb v6876 true) true, .test (inr v6877 (len r6867.1)) true, .test (beqb v6876 true) true, .sub (flat eGPart r6867.1) (nidx v6877 5) 5 [(.lit (.int .i64 x6881.P)), (.lit (.int .i64 x6881.Step)), (.sl (len x6881.Vals) (flat (eInt .i64) x6881.Vals)), (.sl (len x6881.Rest) (flat eBool x6881.Rest)), (.sl (len x6881.In) (flat eGMsg x6881.In))], .test (beqb v6876 true) true, .call 123 [.agg (eGPart x6881)] (F123_res r6883), .test (leadsAny (Res.mk [(.one (.im (.lit (.bool r6883))))] [])) false, .test v6876 true, .int (wadd .i64 v6877 1) (wadd .i64 v6877 1)] := ⟨rfl, h6878, (beqb_t h6879), (beqb_t h6879), (beqb_t h6879), h6880, (beqb_t h6879), ⟨rfl, sub_flat0 eGPart_len h6882 5 (by decide)⟩, (beqb_t h6879), (F123_ok K x6881 _ h6884), (leads_ok (by simp [leadsAny, RV.leads, RC.leads, leadsT, hasSl_lit, flat_ns (eInt_ns _), flat_ns eBool_ns, flat_ns eGMsg_ns])), h6879, rfl, trivial⟩
    have h0 := ih _ _ _ hF
    have hn := fun ex ts' => loop_nextC (h := hn39) (l := 0) (c := c39_0) (ts := F39_l0_0_S a6852 r6867 v6876 v6877) (ts1 := (F39_l0_0_S a6852 r6867 r6883 (wadd .i64 v6877 1))) (ex := ex) (ts' := ts') pz (by kernel_rfl)
    exact hn _ _ h0
   have pz : HoldAll E H hn39 [.int (nlen (len r6867.1)) (nlen (len r6867.1)), .test (ilt v6877 (nlen (len r6867.1))) true, .test (beqb v6876 true) false, .test (beqb v6876 true) false, .test (beqb v6876 true) false, .test (beqb v6876 true) false, .test (beqb v6876 true) false, .test v6876 false, .int (wadd .i64 v6877 1) (wadd .i64 v6877 1)] := ⟨rfl, h6878, (beqb_t h6879), (beqb_t h6879), (beqb_t h6879), (beqb_t h6879), (beqb_t h6879), h6879, rfl, trivial⟩
   have h0 := ih _ _ _ hF
   have hn := fun ex ts' => loop_nextC (h := hn39) (l := 0) (c := c39_0) (ts := F39_l0_0_S a6852 r6867 v6876 v6877) (ts1 := (F39_l0_0_S a6852 r6867 false (wadd .i64 v6877 1))) (ex := ex) (ts' := ts') pz (by kernel_rfl)
   exact hn _ _ h0
  obtain rfl := Option.some.inj hF
  have pz : HoldAll E H hn39 [.int (nlen (len r6867.1)) (nlen (len r6867.1)), .test (ilt v6877 (nlen (len r6867.1))) false] := ⟨rfl, h6878, trivial⟩
  exact loop_endC (h := hn39) (l := 0) (c := c39_0) (ts := F39_l0_0_S a6852 r6867 v6876 v6877) (ts' := F39_l0_0_X0 a6852 r6867 v6876) (ex := (.exit 0)) pz (by kernel_rfl) trivial
def F39 (K : Nat) (a6850 : GGraph) (a6851 : GJob) (a6852 : GState) : Option (Bool) :=
 (F113 K a6850).bind fun r6853 =>
 bif r6853 then
  (some true)
 else
 (F125 K a6852).bind fun r6861 =>
 bif r6861 then
  (some true)
 else
 (F88 K a6850 a6851 a6852).bind fun r6864 =>
 bif r6864 then
  ((F83 K a6850 a6851 a6852).bind fun r6867 =>
  bif (ieq r6867.2 0) then
   ((F39_l0_0 K a6852 r6867 K true 0).bind fun w6889 =>
   (F105 K a6852).bind fun r6891 =>
   bif (beqb w6889 r6891) then
    (some true)
   else
   some false)
  else
  some false)
 else
 some true
theorem F39_ok (K : Nat) (a6850 : GGraph) (a6851 : GJob) (a6852 : GState) (r : Bool) (hF : F39 K a6850 a6851 a6852 = some r) : Evt E H 39 [.agg (eGGraph a6850), .agg (eGJob a6851), .agg (eGState a6852)] (F39_res r) := by
 rw [F39] at hF
 refine bind_some hF (fun r6853 h6854 hF => ?_)
 refine cond_some hF (fun h6855 hF => ?_) (fun h6855 hF => ?_)
 ·
  obtain rfl := Option.some.inj hF
  have pz : HoldAll E H hn39 [.call 113 [.agg (eGGraph a6850)] (F113_res r6853), .test (leadsAny (Res.mk [(.one (.im (.lit (.bool r6853))))] [])) false, .test (beqb r6853 false) false, .test (beqb r6853 false) false, .test r6853 true, .test (beqb true false) false, .test (beqb true false) false, .test (beqb true false) false, .test (beqb true false) false, .test (beqb true false) false, .test true true, .test true true, .call 115 [] (Res.mk [(.one (.im (.lit (.bool true))))] []), .test (leadsAny (Res.mk [(.one (.im (.lit (.bool true))))] [])) false] := ⟨(F113_ok K a6850 _ h6854), (leads_ok (by simp [leadsAny, RV.leads, RC.leads, leadsT, hasSl_lit])), (beqb_ft h6855), (beqb_ft h6855), h6855, (beqb_ft rfl), (beqb_ft rfl), (beqb_ft rfl), (beqb_ft rfl), (beqb_ft rfl), rfl, rfl, knows115, (leads_ok (by simp [leadsAny, RV.leads, RC.leads, leadsT, hasSl_lit])), trivial⟩
  exact fn_playC hn39 (r := F39_res true) pz (by kernel_rfl) (by kernel_rfl)
 refine bind_some hF (fun r6861 h6862 hF => ?_)
 have pq6894 : ∀ {l : List Cond}, HoldAll E H hn39 l → HoldAll E H hn39 (.call 113 [.agg (eGGraph a6850)] (F113_res r6853) :: .test (leadsAny (Res.mk [(.one (.im (.lit (.bool r6853))))] [])) false :: .test (beqb r6853 false) true :: .test (beqb r6853 false) true :: .call 125 [.agg (eGState a6852)] (F125_res r6861) :: .test (leadsAny (Res.mk [(.one (.im (.lit (.bool r6861))))] [])) false :: .test r6853 false :: l) := fun z => ⟨(F113_ok K a6850 _ h6854), (leads_ok (by simp [leadsAny, RV.leads, RC.leads, leadsT, hasSl_lit])), (beqb_ff h6855), (beqb_ff h6855), (F125_ok K a6852 _ h6862), (leads_ok (by simp [leadsAny, RV.leads, RC.leads, leadsT, hasSl_lit])), h6855, z⟩
 refine cond_some hF (fun h6863 hF => ?_) (fun h6863 hF => ?_)
 ·
  obtain rfl := Option.some.inj hF
  have pz : HoldAll E H hn39 [.test (beqb r6861 false) false, .test (beqb r6861 false) false, .test (beqb r6861 false) false, .test (beqb r6861 false) false, .test (beqb r6861 false) false, .test r6861 true, .test true true, .call 115 [] (Res.mk [(.one (.im (.lit (.bool true))))] []), .test (leadsAny (Res.mk [(.one (.im (.lit (.bool true))))] [])) false] := ⟨(beqb_ft h6863), (beqb_ft h6863), (beqb_ft h6863), (beqb_ft h6863), (beqb_ft h6863), h6863, rfl, knows115, (leads_ok (by simp [leadsAny, RV.leads, RC.leads, leadsT, hasSl_lit])), trivial⟩
  exact fn_playC hn39 (r := F39_res true) (pq6894 pz) (by kernel_rfl) (by kernel_rfl)
 refine bind_some hF (fun r6864 h6865 hF => ?_)
 have pq6895 : ∀ {l : List Cond}, HoldAll E H hn39 l → HoldAll E H hn39 (.test (beqb r6861 false) true :: .test (beqb r6861 false) true :: .test (beqb r6861 false) true :: .test (beqb r6861 false) true :: .call 88 [.agg (eGGraph a6850), .agg (eGJob a6851), .agg (eGState a6852)] (F88_res r6864) :: .test (leadsAny (Res.mk [(.one (.im (.lit (.bool r6864))))] [])) false :: .test (beqb r6861 false) true :: .test r6861 false :: l) := fun z => ⟨(beqb_ff h6863), (beqb_ff h6863), (beqb_ff h6863), (beqb_ff h6863), (F88_ok K a6850 a6851 a6852 _ h6865), (leads_ok (by simp [leadsAny, RV.leads, RC.leads, leadsT, hasSl_lit, flat_ns eGJob_ns])), (beqb_ff h6863), h6863, z⟩
 refine cond_some hF (fun h6866 hF => ?_) (fun h6866 hF => ?_)
 ·
  refine bind_some hF (fun r6867 h6868 hF => ?_)
  refine cond_some hF (fun h6869 hF => ?_) (fun h6869 hF => ?_)
  ·
   refine bind_some hF (fun w6889 h6887 hF => ?_)
   refine bind_some hF (fun r6891 h6892 hF => ?_)
   have pq6896 : ∀ {l : List Cond}, HoldAll E H hn39 l → HoldAll E H hn39 (.test (bnot r6864) false :: .call 83 [.agg (eGGraph a6850), .agg (eGJob a6851), .agg (eGState a6852)] (F83_res r6867) :: .test (ine r6867.2 0) false :: .loop 0 c39_0 (F39_l0_0_S a6852 r6867 true 0) (.exit 0) (F39_l0_0_X0 a6852 r6867 w6889) :: .call 105 [.agg (eGState a6852)] (F105_res r6891) :: .test (leadsAny (Res.mk [(.one (.im (.lit (.bool r6891))))] [])) false :: l) := fun z => ⟨(bnot_t h6866), (F83_ok K a6850 a6851 a6852 _ h6868), (ine_t h6869), (F39_l0_0_ok K a6852 r6867 K true 0 _ h6887), (F105_ok K a6852 _ h6892), (leads_ok (by simp [leadsAny, RV.leads, RC.leads, leadsT, hasSl_lit, flat_ns eGJob_ns])), z⟩
   refine cond_some hF (fun h6893 hF => ?_) (fun h6893 hF => ?_)
   ·
    obtain rfl := Option.some.inj hF
    have pz : HoldAll E H hn39 [.test (beqb (beqb w6889 r6891) true) true, .call 115 [] (Res.mk [(.one (.im (.lit (.bool true))))] []), .test (leadsAny (Res.mk [(.one (.im (.lit (.bool true))))] [])) false, .test (beqb w6889 r6891) true] := ⟨(beqb_t h6893), knows115, (leads_ok (by simp [leadsAny, RV.leads, RC.leads, leadsT, hasSl_lit])), h6893, trivial⟩
    exact fn_playC hn39 (r := F39_res true) (pq6894 (pq6895 (pq6896 pz))) (by kernel_rfl) (by kernel_rfl)
   obtain rfl := Option.some.inj hF
   have pz : HoldAll E H hn39 [.test (beqb (beqb w6889 r6891) true) false, .test (beqb w6889 r6891) false] := ⟨(beqb_t h6893), h6893, trivial⟩
   exact fn_playC hn39 (r := F39_res false) (pq6894 (pq6895 (pq6896 pz))) (by kernel_rfl) (by kernel_rfl)
  obtain rfl := Option.some.inj hF
  have pz : HoldAll E H hn39 [.test (bnot r6864) false, .call 83 [.agg (eGGraph a6850), .agg (eGJob a6851), .agg (eGState a6852)] (F83_res r6867), .test (ine r6867.2 0) true] := ⟨(bnot_t h6866), (F83_ok K a6850 a6851 a6852 _ h6868), (ine_f h6869), trivial⟩
  exact fn_playC hn39 (r := F39_res false) (pq6894 (pq6895 pz)) (by kernel_rfl) (by kernel_rfl)
 obtain rfl := Option.some.inj hF
 have pz : HoldAll E H hn39 [.test (bnot r6864) true, .call 115 [] (Res.mk [(.one (.im (.lit (.bool true))))] []), .test (leadsAny (Res.mk [(.one (.im (.lit (.bool true))))] [])) false] := ⟨(bnot_f h6866), knows115, (leads_ok (by simp [leadsAny, RV.leads, RC.leads, leadsT, hasSl_lit])), trivial⟩
 exact fn_playC hn39 (r := F39_res true) (pq6894 (pq6895 pz)) (by kernel_rfl) (by kernel_rfl)
def wideS8 (s : GState) : Bool := ilt 100 (nlen (len s.Vals)) || (ilt 100 (nlen (len s.Rest)) || ilt 300 (nlen (len s.In)))
theorem F125_spec (K : Nat) (s : GState) : F125 K s = some (wideS8 s) := by
 have : igt (nlen (len s.In)) 300 = ilt 300 (nlen (len s.In)) := rfl
 rw [F125, this, wideS8]
 cases ilt 100 (nlen (len s.Vals)) <;> cases ilt 100 (nlen (len s.Rest)) <;> rfl
theorem wideS8_f {s : GState} (h : wideS8 s = false) : s.Vals.length ≤ 100 ∧ s.Rest.length ≤ 100 ∧ s.In.length ≤ 300 := by
 simp only [wideS8, Bool.or_eq_false_iff, ilt_f, nlen, len] at h
 omega
def partRests (x : GPart) : Bool := restsS (GState.mk 0 [] x.Rest x.In)
theorem partRests_iff {x : GPart} : partRests x = true ↔ (∀ b ∈ x.Rest, b = true) ∧ x.In = [] := by
 rw [partRests, restsS, Bool.and_eq_true, List.all_eq_true, ieq_iff]
 refine and_congr Iff.rfl ?_
 show ((x.In.length : Nat) : Int) = 0 ↔ x.In = []
 rw [← List.length_eq_zero_iff]; omega
theorem restsS_iff {s : GState} : restsS s = true ↔ (∀ b ∈ s.Rest, b = true) ∧ s.In = [] := by
 rw [restsS, Bool.and_eq_true, List.all_eq_true, ieq_iff]
 refine and_congr Iff.rfl ?_
 show ((s.In.length : Nat) : Int) = 0 ↔ s.In = []
 rw [← List.length_eq_zero_iff]; omega
theorem split_rests {g : GGraph} {j : GJob} {s : GState} (h : stRight g j s = true) : (splitS g j s).all partRests = restsS s := by
 obtain ⟨hc, s1, s2, s3, s4, s5⟩ := stRight_ok h
 obtain ⟨hg, p1, p2, p3, p4, p5, p6, p7, p8⟩ := jcheck_ok hc
 obtain ⟨q1, q2⟩ := inSt_ok s5
 rw [Bool.eq_iff_iff, restsS_iff, List.all_eq_true]
 constructor
 · intro hq
   have hp : ∀ p : Nat, p < j.Parts.toNat → partRests (cutS g j s (p : Int)) = true := fun p hp => hq _ (List.mem_map.2 ⟨p, List.mem_range.2 hp, rfl⟩)
   refine ⟨fun b hb => ?_, ?_⟩
   · obtain ⟨v, hv, e⟩ := List.getElem_of_mem hb
     have hm0 : 0 ≤ (v : Int) % j.Parts := Int.emod_nonneg _ (by omega)
     have hm1 : (v : Int) % j.Parts < j.Parts := Int.emod_lt_of_pos _ (by omega)
     have hpp := (partRests_iff.1 (hp ((v : Int) % j.Parts).toNat (by omega))).1
     rw [show (((v : Int) % j.Parts).toNat : Int) = (v : Int) % j.Parts by omega] at hpp
     have hvm : v ∈ vertsS g j ((v : Int) % j.Parts) := (mem_verts p7).2 ⟨by omega, rfl⟩
     have := hpp (s.Rest.getD v false) (List.mem_map.2 ⟨v, hvm, rfl⟩)
     rw [List.getD_eq_getElem?_getD, List.getElem?_eq_getElem hv, Option.getD_some, e] at this
     exact this
   · cases hI : s.In with
     | nil => rfl
     | cons m r =>
       exfalso
       have hm : m ∈ s.In := by rw [hI]; exact List.mem_cons_self
       have hm0 : 0 ≤ m.To % j.Parts := Int.emod_nonneg _ (by omega)
       have hm1 : m.To % j.Parts < j.Parts := Int.emod_lt_of_pos _ (by omega)
       have hpp := (partRests_iff.1 (hp (m.To % j.Parts).toNat (by omega))).2
       rw [show ((m.To % j.Parts).toNat : Int) = m.To % j.Parts by omega] at hpp
       have hin : m ∈ (cutS g j s (m.To % j.Parts)).In := List.mem_filter.2 ⟨hm, ieq_refl _⟩
       rw [hpp] at hin
       exact absurd hin List.not_mem_nil
 · rintro ⟨h1, h2⟩ x hx
   obtain ⟨p, hp, rfl⟩ := List.mem_map.1 hx
   refine partRests_iff.2 ⟨fun b hb => ?_, by simp [cutS, h2]⟩
   obtain ⟨v, hv, rfl⟩ := List.mem_map.1 hb
   have hvl : v < s.Rest.length := by have := ((mem_verts p7).1 hv).1; omega
   rw [List.getD_eq_getElem?_getD, List.getElem?_eq_getElem hvl]
   exact h1 _ (List.getElem_mem hvl)
theorem law39 (g : GGraph) (j : GJob) (s : GState) (_ : WGGraph g) (_ : WGJob j) (_ : WGState s) : F39 1000 g j s = some true := by
 generalize hq : 1000 = K
 have hK : 1000 ≤ K := by omega
 rw [F39, F113, F125_spec, Option.bind_some, Option.bind_some]
 cases igt (nlen (len g.Edges)) 200
 · cases hb : wideS8 s
   · obtain ⟨b1, b2, b3⟩ := wideS8_f hb
     rw [cond_false, cond_false, F88_spec hK g j s (by omega) (by omega), Option.bind_some]
     cases hr : stRight g j s
     · rfl
     · obtain ⟨hc, _, _, _, s4, _⟩ := stRight_ok hr
       obtain ⟨hg, p1, p2, p3, p4, p5, p6, p7, p8⟩ := jcheck_ok hc
       have hsp : splitR g j s = (splitS g j s, 0) := by rw [splitR, hc, hr]; rfl
       have hlen : (splitS g j s).length ≤ 6 := by rw [splitS, List.length_map, List.length_range]; omega
       have hsm : ∀ x ∈ splitS g j s, x.Rest.length ≤ 100 := by
         intro x hx
         obtain ⟨p, hp, rfl⟩ := List.mem_map.1 hx
         obtain ⟨g1, g2, _⟩ := gcheck_ok hg
         have := verts_len g j g2 (p : Int)
         simp only [cutS, List.length_map]; omega
       have h := scanL (l := splitS g j s) (L := fun k b i => F39_l0_0 K s (splitS g j s, 0) k b i) (fun x b c => bif b then (F123 K x).bind fun r => c r else c false) (fun b => some b) (fun k b i _ => by
         show F39_l0_0 K s (splitS g j s, 0) (k + 1) b i = _
         rw [F39_l0_0]
         rcases at_idx (splitS g j s) i with ⟨z, e1, e2, e3, e4⟩ | ⟨e1, e2⟩
         · simp only [e2, e3, e4]; cases b <;> rfl
         · simp only [e2]; rfl) (by omega) (K := K) (by omega) true
       have hw : ∀ (r : List GPart) (b : Bool), (∀ x ∈ r, x.Rest.length ≤ 100) → goL (fun x b c => bif b then (F123 K x).bind fun r => c r else c false) (fun b => some b) r b = some (b && r.all partRests) := by
         intro r
         induction r with
         | nil => intro b _; simp [goL]
         | cons x r ih =>
           intro b hx
           have h1 := hx x List.mem_cons_self
           have h2 := fun b => ih b fun y hy => hx y (List.mem_cons_of_mem _ hy)
           rw [goL, F123_spec K x (by omega) (by omega), List.all_cons]
           cases b
           · rw [cond_false, h2]; rfl
           · rw [cond_true, Option.bind_some, h2]; rfl
       rw [hw _ _ hsm, Bool.true_and, split_rests hr] at h
       have h' : F39_l0_0 K s (splitS g j s, 0) K true 0 = some (restsS s) := h
       rw [cond_true, F83_spec hK g j s (by omega), hsp, Option.bind_some, F105_spec K s (by omega) (by omega), h']
       simp only [Option.bind_some, ieq_refl, cond_true, beqb_refl]
   · rfl
 · rfl
end Go.Proofs.Ytnjanliihnadjaa.Tm

/- What the row of SeqWays leans on: printed functions and plain laws. Conditions: none. -/
import Derived.Test.YtnjanliihnadjaaTy
import Derived.Test.YtnjanliihnadjaaTab
import Derived.Test.YtnjanliihnadjaaKn
import Derived.Test.YtnjanliihnadjaaWf
import Derived.IntWalk
import Derived.KernelRfl
import Derived.OpenShut
set_option linter.unusedVariables false
set_option linter.unusedSimpArgs false
namespace Go.Proofs.Ytnjanliihnadjaa.Tm
open Go
theorem elAt_nat {α : Type} (l : List α) (i : Nat) : elAt l (i : Int) = l[i]? := by simp [elAt]
theorem wadd_ok {a b : Int} (h1 : -9223372036854775808 ≤ a + b) (h2 : a + b < 9223372036854775808) : wadd .i64 a b = a + b := by
 show IntKind.i64.wrap (a + b) = a + b
 rw [IntKind.wrap_i64]
 omega
theorem wadd_nat {i : Nat} (h : i < 4611686018427387904) : wadd .i64 (i : Int) 1 = ((i + 1 : Nat) : Int) := by
 rw [wadd_ok (by omega) (by omega)]; simp
theorem at_idx {α : Type} (l : List α) (i : Nat) :
   (∃ x, l.drop i = x :: l.drop (i + 1) ∧ ilt (i : Int) (nlen (len l)) = true ∧ inr (i : Int) (len l) = true ∧ elAt l (i : Int) = some x) ∨
   (l.drop i = [] ∧ ilt (i : Int) (nlen (len l)) = false) := by
 by_cases h : i < l.length
 · left
   refine ⟨l[i], List.drop_eq_getElem_cons h, ?_, ?_, ?_⟩
   · simp [ilt, nlen, len]; omega
   · simp [inr, len]; omega
   · rw [elAt_nat]; simp [h]
 · right
   refine ⟨List.drop_eq_nil_of_le (by omega), ?_⟩
   simp [ilt, nlen, len]; omega
def goI {α σ β : Type} (step : Nat → α → σ → (σ → Option β) → Option β) (fin : σ → Option β) : Nat → List α → σ → Option β
 | _, [], s => fin s
 | i, x :: r, s => step i x s (goI step fin (i + 1) r)
def goL {α σ β : Type} (step : α → σ → (σ → Option β) → Option β) (fin : σ → Option β) : List α → σ → Option β
 | [], s => fin s
 | x :: r, s => step x s (goL step fin r)
theorem lt_of_drop' {α : Type} {l : List α} {i : Nat} {x : α} {r : List α} (h : l.drop i = x :: r) : i < l.length := by
 rcases Nat.lt_or_ge i l.length with g | g
 · exact g
 · rw [List.drop_eq_nil_of_le g] at h; cases h
theorem scanI {α σ β : Type} {l : List α} {L : Nat → σ → Int → Option β} (step : Nat → α → σ → (σ → Option β) → Option β) (fin : σ → Option β)
   (h : ∀ k s (i : Nat), i ≤ l.length → L (k + 1) s i = bif ilt i (nlen (len l)) then (bif inr i (len l) then (elAt l i).bind fun x => step i x s (fun s' => L k s' (wadd .i64 i 1)) else none) else fin s)
   (hl : l.length < 4611686018427387904) : ∀ (k : Nat) (s : σ) (i : Nat), l.length - i < k → i ≤ l.length → L k s i = goI step fin i (l.drop i) s := by
 intro k
 induction k with
 | zero => intro s i h; omega
 | succ k ih =>
   intro s i hk hi
   rw [h k s i hi]
   rcases at_idx l i with ⟨x, e1, e2, e3, e4⟩ | ⟨e1, e2⟩
   · have hlt := lt_of_drop' e1
     rw [e1, e2, e3, e4]
     simp only [cond_true, Option.bind_some, goI]
     congr 1
     funext s'
     rw [wadd_nat (by omega)]
     exact ih s' (i + 1) (by omega) (by omega)
   · rw [e1, e2]; rfl
theorem scanL {α σ β : Type} {l : List α} {L : Nat → σ → Int → Option β} (step : α → σ → (σ → Option β) → Option β) (fin : σ → Option β)
   (h : ∀ k s (i : Nat), i ≤ l.length → L (k + 1) s i = bif ilt i (nlen (len l)) then (bif inr i (len l) then (elAt l i).bind fun x => step x s (fun s' => L k s' (wadd .i64 i 1)) else none) else fin s)
   (hl : l.length < 4611686018427387904) {K : Nat} (hK : l.length < K) (s : σ) : L K s 0 = goL step fin l s := by
 have e : ∀ (i : Nat) (r : List α) (s : σ), goI (fun _ => step) fin i r s = goL step fin r s := by
   intro i r
   induction r generalizing i with
   | nil => intro s; rfl
   | cons x r ih =>
     intro s
     simp only [goI, goL]
     congr 1
     funext s'
     exact ih (i + 1) s'
 have := scanI (fun _ => step) fin h hl K s 0 (by omega) (by omega)
 rw [e, List.drop_zero] at this
 exact this
theorem ilt_not' (a b : Int) : ilt a b = !(ile b a) := by
 unfold ilt ile
 by_cases h : a < b <;> simp [h] <;> omega
theorem ieq_refl (a : Int) : ieq a a = true := by simp [ieq]
theorem ile_iff {a b : Int} : ile a b = true ↔ a ≤ b := decide_eq_true_iff
theorem ilt_iff {a b : Int} : ilt a b = true ↔ a < b := decide_eq_true_iff
theorem ieq_iff {a b : Int} : ieq a b = true ↔ a = b := by simp [ieq]
theorem ile_f {a b : Int} : ile a b = false ↔ b < a := by simp [ile]
theorem ilt_f {a b : Int} : ilt a b = false ↔ b ≤ a := by simp [ilt]
theorem ieq_f {a b : Int} : ieq a b = false ↔ a ≠ b := by simp [ieq]
def leM (a b : GMsg) : Bool := ilt a.To b.To || (ieq a.To b.To && ile a.V b.V)
theorem leM_iff {a b : GMsg} : leM a b = true ↔ a.To < b.To ∨ a.To = b.To ∧ a.V ≤ b.V := by simp [leM, ilt, ieq, ile]
theorem leM_f {a b : GMsg} : leM a b = false ↔ ¬ (a.To < b.To ∨ a.To = b.To ∧ a.V ≤ b.V) := by rw [← leM_iff]; simp
theorem leM_trans {a b c : GMsg} (h : leM a b = true) (g : leM b c = true) : leM a c = true := by rw [leM_iff] at *; omega
theorem leM_anti {a b : GMsg} (h : leM a b = true) (g : leM b a = true) : a = b := by
 rw [leM_iff] at h g
 cases a; cases b
 simp only [GMsg.mk.injEq]
 dsimp only at h g
 omega
theorem leM_total {a b : GMsg} (h : leM a b = false) : leM b a = true := by rw [leM_f] at h; rw [leM_iff]; omega
def srtM (l : List GMsg) : Prop := l.Pairwise fun a b => leM a b = true
theorem srtM_eq {l l' : List GMsg} (h : srtM l) (h' : srtM l') (hp : l.Perm l') : l = l' :=
 List.Perm.eq_of_pairwise (fun a b _ _ h1 h2 => leM_anti h1 h2) h h' hp
def bubR : List GMsg → GMsg → List GMsg → List GMsg
 | [], x, Q => x :: Q
 | y :: R, x, Q => bif leM y x then (y :: R).reverse ++ x :: Q else bubR R x (y :: Q)
def sortM (l : List GMsg) : List GMsg := l.foldl (fun acc x => bubR acc.reverse x []) []
theorem bubR_perm (x : GMsg) : ∀ (R Q : List GMsg), (bubR R x Q).Perm (R.reverse ++ x :: Q)
 | [], Q => List.Perm.refl _
 | y :: R, Q => by
   rw [bubR]
   cases leM y x
   · refine (bubR_perm x R (y :: Q)).trans ?_
     rw [List.reverse_cons, List.append_assoc]
     exact List.Perm.append_left _ (List.Perm.swap y x Q)
   · exact List.Perm.refl _
theorem bubR_srt (x : GMsg) : ∀ (R Q : List GMsg), srtM (R.reverse ++ Q) → (∀ q ∈ Q, leM x q = true) → srtM (bubR R x Q)
 | [], Q, h, hx => List.pairwise_cons.2 ⟨hx, h⟩
 | y :: R, Q, h, hx => by
   rw [bubR]
   cases hy : leM y x
   · refine bubR_srt x R (y :: Q) ?_ fun q hq => ?_
     · rw [List.reverse_cons, List.append_assoc] at h; exact h
     · rcases List.mem_cons.1 hq with e | e
       · subst e; exact leM_total hy
       · exact hx q e
   · obtain ⟨h1, h2, h3⟩ := List.pairwise_append.1 h
     refine List.pairwise_append.2 ⟨h1, List.pairwise_cons.2 ⟨hx, h2⟩, fun a ha b hb => ?_⟩
     have hay : a = y ∨ leM a y = true := by
       rw [List.reverse_cons] at ha h1
       obtain ⟨_, _, h6⟩ := List.pairwise_append.1 h1
       rcases List.mem_append.1 ha with e | e
       · exact .inr (h6 a e y (by simp))
       · exact .inl (List.mem_singleton.1 e)
     rcases List.mem_cons.1 hb with e | e
     · subst e
       rcases hay with e | e
       · subst e; exact hy
       · exact leM_trans e hy
     · exact h3 a ha b e
theorem sort_go : ∀ (l acc : List GMsg), srtM acc → srtM (l.foldl (fun acc x => bubR acc.reverse x []) acc) ∧ (l.foldl (fun acc x => bubR acc.reverse x []) acc).Perm (acc ++ l)
 | [], acc, h => ⟨h, by simp⟩
 | x :: l, acc, h => by
   have h1 : srtM (bubR acc.reverse x []) := bubR_srt x acc.reverse [] (by simpa using h) (fun q hq => (nomatch hq))
   have h2 : (bubR acc.reverse x []).Perm (acc ++ [x]) := by simpa using bubR_perm x acc.reverse []
   obtain ⟨a, b⟩ := sort_go l _ h1
   refine ⟨a, b.trans ?_⟩
   have := h2.append_right l
   simpa using this
theorem sortM_srt (l : List GMsg) : srtM (sortM l) := (sort_go l [] List.Pairwise.nil).1
theorem sortM_perm (l : List GMsg) : (sortM l).Perm l := by
 have := (sort_go l [] List.Pairwise.nil).2
 rwa [List.nil_append] at this
theorem sortM_len (l : List GMsg) : (sortM l).length = l.length := (sortM_perm l).length_eq
theorem sortM_eq {l r : List GMsg} (h : srtM r) (hp : r.Perm l) : sortM l = r := srtM_eq (sortM_srt l) h ((sortM_perm l).trans hp.symm)
noncomputable def hn132 : Hint := { H 132 with nt := 35, prot := 0 }
def F132_res (r2404 : Int) : Res := ⟨[(.one (.im (.lit (.int .i64 r2404))))], []⟩
def F132 (K : Nat) (a2392 : GEdge) (a2393 : Int) : Option (Int) :=
 bif (ilt a2392.From 0) then
  (some 4)
 else
 bif (ile a2393 a2392.From) then
  (some 4)
 else
 bif (ilt a2392.To 0) then
  (some 4)
 else
 bif (ile a2393 a2392.To) then
  (some 4)
 else
 bif (ilt a2392.W 0) then
  (some 1)
 else
 bif (ilt 4611686018427387904 a2392.W) then
  (some 1)
 else
 some 0
theorem F132_ok (K : Nat) (a2392 : GEdge) (a2393 : Int) (r : Int) (hF : F132 K a2392 a2393 = some r) : Evt E H 132 [.agg (eGEdge a2392), .one (.lit (.int .i64 a2393))] (F132_res r) := by
 rw [F132] at hF
 refine cond_some hF (fun h2394 hF => ?_) (fun h2394 hF => ?_)
 ·
  obtain rfl := Option.some.inj hF
  have pz : HoldAll E H hn132 [.test (beqb (ilt a2392.From 0) false) false, .test (beqb (ilt a2392.From 0) false) false, .test (beqb (ilt a2392.From 0) false) false, .test (beqb (ilt a2392.From 0) false) false, .test (ilt a2392.From 0) true, .test (beqb true false) false, .test (beqb true false) false, .test (beqb true false) false, .test true true, .test (beqb true false) false, .test (beqb true false) false, .test (beqb true false) false, .test (beqb true false) false, .test true true, .test true true] := ⟨(beqb_ft h2394), (beqb_ft h2394), (beqb_ft h2394), (beqb_ft h2394), h2394, (beqb_ft rfl), (beqb_ft rfl), (beqb_ft rfl), rfl, (beqb_ft rfl), (beqb_ft rfl), (beqb_ft rfl), (beqb_ft rfl), rfl, rfl, trivial⟩
  exact fn_playC hn132 (r := F132_res 4) pz (by kernel_rfl) (by kernel_rfl)
 have pq2400 : ∀ {l : List Cond}, HoldAll E H hn132 l → HoldAll E H hn132 (.test (beqb (ilt a2392.From 0) false) true :: .test (beqb (ilt a2392.From 0) false) true :: .test (beqb (ilt a2392.From 0) false) true :: .test (beqb (ilt a2392.From 0) false) true :: .test (ilt a2392.From 0) false :: l) := fun z => ⟨(beqb_ff h2394), (beqb_ff h2394), (beqb_ff h2394), (beqb_ff h2394), h2394, z⟩
 refine cond_some hF (fun h2395 hF => ?_) (fun h2395 hF => ?_)
 ·
  obtain rfl := Option.some.inj hF
  have pz : HoldAll E H hn132 [.test (beqb (ige a2392.From a2393) false) false, .test (beqb (ige a2392.From a2393) false) false, .test (beqb (ige a2392.From a2393) false) false, .test (ige a2392.From a2393) true, .test (beqb true false) false, .test (beqb true false) false, .test (beqb true false) false, .test (beqb true false) false, .test true true, .test true true] := ⟨(beqb_ft (ige_eq h2395)), (beqb_ft (ige_eq h2395)), (beqb_ft (ige_eq h2395)), (ige_eq h2395), (beqb_ft rfl), (beqb_ft rfl), (beqb_ft rfl), (beqb_ft rfl), rfl, rfl, trivial⟩
  exact fn_playC hn132 (r := F132_res 4) (pq2400 pz) (by kernel_rfl) (by kernel_rfl)
 have pq2401 : ∀ {l : List Cond}, HoldAll E H hn132 l → HoldAll E H hn132 (.test (beqb (ige a2392.From a2393) false) true :: .test (beqb (ige a2392.From a2393) false) true :: .test (beqb (ige a2392.From a2393) false) true :: .test (ige a2392.From a2393) false :: l) := fun z => ⟨(beqb_ff (ige_eq h2395)), (beqb_ff (ige_eq h2395)), (beqb_ff (ige_eq h2395)), (ige_eq h2395), z⟩
 refine cond_some hF (fun h2396 hF => ?_) (fun h2396 hF => ?_)
 ·
  obtain rfl := Option.some.inj hF
  have pz : HoldAll E H hn132 [.test (beqb (ilt a2392.To 0) false) false, .test (beqb (ilt a2392.To 0) false) false, .test (beqb (ilt a2392.To 0) false) false, .test (beqb (ilt a2392.To 0) false) false, .test (ilt a2392.To 0) true, .test true true] := ⟨(beqb_ft h2396), (beqb_ft h2396), (beqb_ft h2396), (beqb_ft h2396), h2396, rfl, trivial⟩
  exact fn_playC hn132 (r := F132_res 4) (pq2400 (pq2401 pz)) (by kernel_rfl) (by kernel_rfl)
 have pq2402 : ∀ {l : List Cond}, HoldAll E H hn132 l → HoldAll E H hn132 (.test (beqb (ilt a2392.To 0) false) true :: .test (beqb (ilt a2392.To 0) false) true :: .test (beqb (ilt a2392.To 0) false) true :: .test (beqb (ilt a2392.To 0) false) true :: .test (ilt a2392.To 0) false :: l) := fun z => ⟨(beqb_ff h2396), (beqb_ff h2396), (beqb_ff h2396), (beqb_ff h2396), h2396, z⟩
 refine cond_some hF (fun h2397 hF => ?_) (fun h2397 hF => ?_)
 ·
  obtain rfl := Option.some.inj hF
  have pz : HoldAll E H hn132 [.test (ige a2392.To a2393) true] := ⟨(ige_eq h2397), trivial⟩
  exact fn_playC hn132 (r := F132_res 4) (pq2400 (pq2401 (pq2402 pz))) (by kernel_rfl) (by kernel_rfl)
 refine cond_some hF (fun h2398 hF => ?_) (fun h2398 hF => ?_)
 ·
  obtain rfl := Option.some.inj hF
  have pz : HoldAll E H hn132 [.test (ige a2392.To a2393) false, .test (beqb (ilt a2392.W 0) false) false, .test (beqb (ilt a2392.W 0) false) false, .test (beqb (ilt a2392.W 0) false) false, .test (ilt a2392.W 0) true, .test true true] := ⟨(ige_eq h2397), (beqb_ft h2398), (beqb_ft h2398), (beqb_ft h2398), h2398, rfl, trivial⟩
  exact fn_playC hn132 (r := F132_res 1) (pq2400 (pq2401 (pq2402 pz))) (by kernel_rfl) (by kernel_rfl)
 have pq2403 : ∀ {l : List Cond}, HoldAll E H hn132 l → HoldAll E H hn132 (.test (ige a2392.To a2393) false :: .test (beqb (ilt a2392.W 0) false) true :: .test (beqb (ilt a2392.W 0) false) true :: .test (beqb (ilt a2392.W 0) false) true :: .test (ilt a2392.W 0) false :: l) := fun z => ⟨(ige_eq h2397), (beqb_ff h2398), (beqb_ff h2398), (beqb_ff h2398), h2398, z⟩
 refine cond_some hF (fun h2399 hF => ?_) (fun h2399 hF => ?_)
 ·
  obtain rfl := Option.some.inj hF
  have pz : HoldAll E H hn132 [.test (igt a2392.W 4611686018427387904) true] := ⟨(igt_eq h2399), trivial⟩
  exact fn_playC hn132 (r := F132_res 1) (pq2400 (pq2401 (pq2402 (pq2403 pz)))) (by kernel_rfl) (by kernel_rfl)
 obtain rfl := Option.some.inj hF
 have pz : HoldAll E H hn132 [.test (igt a2392.W 4611686018427387904) false] := ⟨(igt_eq h2399), trivial⟩
 exact fn_playC hn132 (r := F132_res 0) (pq2400 (pq2401 (pq2402 (pq2403 pz)))) (by kernel_rfl) (by kernel_rfl)
noncomputable def hn133 : Hint := { H 133 with nt := 20, prot := 0 }
def F133_res (r2423 : Int) : Res := ⟨[(.one (.im (.lit (.int .i64 r2423))))], []⟩
def F133 (K : Nat) (a2420 : GEdge) (a2421 : GEdge) : Option (Int) :=
 bif (ieq a2420.From a2421.From) then
  (some (wsub .i64 a2420.To a2421.To))
 else
 some (wsub .i64 a2420.From a2421.From)
theorem F133_ok (K : Nat) (a2420 : GEdge) (a2421 : GEdge) (r : Int) (hF : F133 K a2420 a2421 = some r) : Evt E H 133 [.agg (eGEdge a2420), .agg (eGEdge a2421)] (F133_res r) := by
 rw [F133] at hF
 refine cond_some hF (fun h2422 hF => ?_) (fun h2422 hF => ?_)
 ·
  obtain rfl := Option.some.inj hF
  have pz : HoldAll E H hn133 [.test (ine a2420.From a2421.From) false, .int (wsub .i64 a2420.To a2421.To) (wsub .i64 a2420.To a2421.To)] := ⟨(ine_t h2422), rfl, trivial⟩
  exact fn_playC hn133 (r := F133_res (wsub .i64 a2420.To a2421.To)) pz (by kernel_rfl) (by kernel_rfl)
 obtain rfl := Option.some.inj hF
 have pz : HoldAll E H hn133 [.test (ine a2420.From a2421.From) true, .int (wsub .i64 a2420.From a2421.From) (wsub .i64 a2420.From a2421.From)] := ⟨(ine_f h2422), rfl, trivial⟩
 exact fn_playC hn133 (r := F133_res (wsub .i64 a2420.From a2421.From)) pz (by kernel_rfl) (by kernel_rfl)
noncomputable def hn64 : Hint := { H 64 with nt := 51, prot := 0 }
noncomputable def c64_0 : Code := loopOf E 64 0
def F64_res (r2440 : Int) : Res := ⟨[(.one (.im (.lit (.int .i64 r2440))))], []⟩
def F64_l0_0 (K : Nat) (a2384 : GGraph) : Nat → Int → Option ((Int) ⊕ (Unit))
 | 0, _ => none
 | k + 1, v2408 =>
  bif (ilt v2408 (nlen (len a2384.Edges))) then
   (bif (inr v2408 (len a2384.Edges)) then
   (elAt a2384.Edges v2408).bind fun x2411 =>
   (F132 K x2411 a2384.N).bind fun r2413 =>
   bif (ieq r2413 0) then
    (bif (ieq v2408 0) then
     (F64_l0_0 K a2384 k (wadd .i64 v2408 1))
    else
    bif (inr (wsub .i64 v2408 1) (len a2384.Edges)) then
    (elAt a2384.Edges (wsub .i64 v2408 1)).bind fun x2418 =>
    (F133 K x2418 x2411).bind fun r2424 =>
    bif (ieq r2424 0) then
     (some (.inl 5))
    else
    bif (ilt 0 r2424) then
     (some (.inl 6))
    else
    F64_l0_0 K a2384 k (wadd .i64 v2408 1)
    else none)
   else
   some (.inl r2413)
   else none)
  else
  some (.inr ())
def F64_l0_0_S (a2384 : GGraph) (v2408 : Int) : TS := .on [64, 65, 66, 1216, 1280, 1281, 1344, 1345, 1408, 1409] [(64, ⟨(.box 62 2), 0, nob⟩), (65, ⟨.im, 0, (.lit (.int .i64 a2384.N))⟩), (66, ⟨.im, 0, (.sl (len a2384.Edges) (flat eGEdge a2384.Edges))⟩), (1216, ⟨(.ad 1 0 1), 0, nob⟩), (1280, ⟨.one, 0, nob⟩), (1281, ⟨.im, 0, (.sl (len a2384.Edges) (flat eGEdge a2384.Edges))⟩), (1344, ⟨.one, 0, nob⟩), (1345, ⟨.im, 0, (.lit (.int .i64 (nlen (len a2384.Edges))))⟩), (1408, ⟨.one, 0, nob⟩), (1409, ⟨.im, 0, (.lit (.int .i64 v2408))⟩)]
def F64_l0_0_X0 (a2384 : GGraph) (w2428 : Int) : TS := .on [128, 129] [(128, ⟨.one, 0, nob⟩), (129, ⟨.im, 0, (.lit (.int .i64 w2428))⟩)]
def F64_l0_0_X1 (a2384 : GGraph) (w2430 : Unit) : TS := .on [] []
theorem F64_l0_0_ok (K : Nat) (a2384 : GGraph) : ∀ (k : Nat) (v2408 : Int) (r : (Int) ⊕ (Unit)), F64_l0_0 K a2384 k v2408 = some r → (Sum.elim (fun w => LoopEv E H hn64 0 c64_0 (F64_l0_0_S a2384 v2408) .ret (F64_l0_0_X0 a2384 w)) (fun w => LoopEv E H hn64 0 c64_0 (F64_l0_0_S a2384 v2408) (.exit 0) (F64_l0_0_X1 a2384 w))) r := by
 intro k
 induction k with
 | zero => intro v2408 r hF; cases hF
 | succ k ih =>
  intro v2408 r hF
  rw [F64_l0_0] at hF
  refine cond_some hF (fun h2409 hF => ?_) (fun h2409 hF => ?_)
  ·
   refine cond_some hF (fun h2410 hF => ?_) (fun _ hF => nomatch hF)
   refine bind_some hF (fun x2411 h2412 hF => ?_)
   refine bind_some hF (fun r2413 h2414 hF => ?_)
   have pq2431 : ∀ {l : List Cond}, HoldAll E H hn64 l → HoldAll E H hn64 (.test (ilt v2408 (nlen (len a2384.Edges))) true :: .test (inr v2408 (len a2384.Edges)) true :: .sub (flat eGEdge a2384.Edges) (nidx v2408 3) 3 [(.lit (.int .i64 x2411.From)), (.lit (.int .i64 x2411.To)), (.lit (.int .i64 x2411.W))] :: .call 132 [.agg (eGEdge x2411), .one (.lit (.int .i64 a2384.N))] (F132_res r2413) :: .test (leadsAny (Res.mk [(.one (.im (.lit (.int .i64 r2413))))] [])) false :: l) := fun z => ⟨h2409, h2410, ⟨rfl, sub_flat0 eGEdge_len h2412 3 (by decide)⟩, (F132_ok K x2411 a2384.N _ h2414), (leads_ok (by simp [leadsAny, RV.leads, RC.leads, leadsT, hasSl_lit, flat_ns eGEdge_ns])), z⟩
   refine cond_some hF (fun h2415 hF => ?_) (fun h2415 hF => ?_)
   ·
    refine cond_some hF (fun h2416 hF => ?_) (fun h2416 hF => ?_)
    ·
     have pz : HoldAll E H hn64 [.test (ine r2413 0) false, .test (ieq v2408 0) true, .int (wadd .i64 v2408 1) (wadd .i64 v2408 1)] := ⟨(ine_t h2415), h2416, rfl, trivial⟩
     have h0 := ih _ _ hF
     have hn := fun ex ts' => loop_nextC (h := hn64) (l := 0) (c := c64_0) (ts := F64_l0_0_S a2384 v2408) (ts1 := (F64_l0_0_S a2384 (wadd .i64 v2408 1))) (ex := ex) (ts' := ts') (pq2431 pz) (by kernel_rfl)
     cases r with
     | inl w => exact hn _ _ h0
     | inr w => exact hn _ _ h0
    refine cond_some hF (fun h2417 hF => ?_) (fun _ hF => nomatch hF)
    refine bind_some hF (fun x2418 h2419 hF => ?_)
    refine bind_some hF (fun r2424 h2425 hF => ?_)
    have pq2432 : ∀ {l : List Cond}, HoldAll E H hn64 l → HoldAll E H hn64 (.test (ine r2413 0) false :: .test (ieq v2408 0) false :: .int (wsub .i64 v2408 1) (wsub .i64 v2408 1) :: .test (inr (wsub .i64 v2408 1) (len a2384.Edges)) true :: .sub (flat eGEdge a2384.Edges) (nidx (wsub .i64 v2408 1) 3) 3 [(.lit (.int .i64 x2418.From)), (.lit (.int .i64 x2418.To)), (.lit (.int .i64 x2418.W))] :: .call 133 [.agg (eGEdge x2418), .agg (eGEdge x2411)] (F133_res r2424) :: .test (leadsAny (Res.mk [(.one (.im (.lit (.int .i64 r2424))))] [])) false :: l) := fun z => ⟨(ine_t h2415), h2416, rfl, h2417, ⟨rfl, sub_flat0 eGEdge_len h2419 3 (by decide)⟩, (F133_ok K x2418 x2411 _ h2425), (leads_ok (by simp [leadsAny, RV.leads, RC.leads, leadsT, hasSl_lit, flat_ns eGEdge_ns])), z⟩
    refine cond_some hF (fun h2426 hF => ?_) (fun h2426 hF => ?_)
    ·
     obtain rfl := Option.some.inj hF
     have pz : HoldAll E H hn64 [.test (ieq r2424 0) true] := ⟨h2426, trivial⟩
     exact loop_endC (h := hn64) (l := 0) (c := c64_0) (ts := F64_l0_0_S a2384 v2408) (ts' := F64_l0_0_X0 a2384 5) (ex := .ret) (pq2431 (pq2432 pz)) (by kernel_rfl) trivial
    refine cond_some hF (fun h2427 hF => ?_) (fun h2427 hF => ?_)
    ·
     obtain rfl := Option.some.inj hF
     have pz : HoldAll E H hn64 [.test (ieq r2424 0) false, .test (igt r2424 0) true] := ⟨h2426, (igt_eq h2427), trivial⟩
     exact loop_endC (h := hn64) (l := 0) (c := c64_0) (ts := F64_l0_0_S a2384 v2408) (ts' := F64_l0_0_X0 a2384 6) (ex := .ret) (pq2431 (pq2432 pz)) (by kernel_rfl) trivial
    have pz : HoldAll E H hn64 [.test (ieq r2424 0) false, .test (igt r2424 0) false, .int (wadd .i64 v2408 1) (wadd .i64 v2408 1)] := ⟨h2426, (igt_eq h2427), rfl, trivial⟩
    have h0 := ih _ _ hF
    have hn := fun ex ts' => loop_nextC (h := hn64) (l := 0) (c := c64_0) (ts := F64_l0_0_S a2384 v2408) (ts1 := (F64_l0_0_S a2384 (wadd .i64 v2408 1))) (ex := ex) (ts' := ts') (pq2431 (pq2432 pz)) (by kernel_rfl)
    cases r with
    | inl w => exact hn _ _ h0
    | inr w => exact hn _ _ h0
   obtain rfl := Option.some.inj hF
   have pz : HoldAll E H hn64 [.test (ine r2413 0) true] := ⟨(ine_f h2415), trivial⟩
   exact loop_endC (h := hn64) (l := 0) (c := c64_0) (ts := F64_l0_0_S a2384 v2408) (ts' := F64_l0_0_X0 a2384 r2413) (ex := .ret) (pq2431 pz) (by kernel_rfl) trivial
  obtain rfl := Option.some.inj hF
  have pz : HoldAll E H hn64 [.test (ilt v2408 (nlen (len a2384.Edges))) false] := ⟨h2409, trivial⟩
  exact loop_endC (h := hn64) (l := 0) (c := c64_0) (ts := F64_l0_0_S a2384 v2408) (ts' := F64_l0_0_X1 a2384 ()) (ex := (.exit 0)) pz (by kernel_rfl) trivial
def F64 (K : Nat) (a2384 : GGraph) : Option (Int) :=
 bif (ilt a2384.N 1) then
  (some 1)
 else
 bif (ilt 24 a2384.N) then
  (some 1)
 else
 bif (ilt 80 (nlen (len a2384.Edges))) then
  (some 3)
 else
 (F64_l0_0 K a2384 K 0).bind fun y2434 =>
 Sum.elim (fun w2435 =>
  some w2435)
  (fun w2437 =>
  some 0) y2434
theorem F64_ok (K : Nat) (a2384 : GGraph) (r : Int) (hF : F64 K a2384 = some r) : Evt E H 64 [.agg (eGGraph a2384)] (F64_res r) := by
 rw [F64] at hF
 refine cond_some hF (fun h2385 hF => ?_) (fun h2385 hF => ?_)
 ·
  obtain rfl := Option.some.inj hF
  have pz : HoldAll E H hn64 [.test (beqb (ilt a2384.N 1) false) false, .test (beqb (ilt a2384.N 1) false) false, .test (beqb (ilt a2384.N 1) false) false, .test (ilt a2384.N 1) true, .test true true] := ⟨(beqb_ft h2385), (beqb_ft h2385), (beqb_ft h2385), h2385, rfl, trivial⟩
  exact fn_playC hn64 (r := F64_res 1) pz (by kernel_rfl) (by kernel_rfl)
 have pq2438 : ∀ {l : List Cond}, HoldAll E H hn64 l → HoldAll E H hn64 (.test (beqb (ilt a2384.N 1) false) true :: .test (beqb (ilt a2384.N 1) false) true :: .test (beqb (ilt a2384.N 1) false) true :: .test (ilt a2384.N 1) false :: l) := fun z => ⟨(beqb_ff h2385), (beqb_ff h2385), (beqb_ff h2385), h2385, z⟩
 refine cond_some hF (fun h2386 hF => ?_) (fun h2386 hF => ?_)
 ·
  obtain rfl := Option.some.inj hF
  have pz : HoldAll E H hn64 [.test (igt a2384.N 24) true] := ⟨(igt_eq h2386), trivial⟩
  exact fn_playC hn64 (r := F64_res 1) (pq2438 pz) (by kernel_rfl) (by kernel_rfl)
 refine cond_some hF (fun h2387 hF => ?_) (fun h2387 hF => ?_)
 ·
  obtain rfl := Option.some.inj hF
  have pz : HoldAll E H hn64 [.test (igt a2384.N 24) false, .int (nlen (len a2384.Edges)) (nlen (len a2384.Edges)), .test (igt (nlen (len a2384.Edges)) 80) true] := ⟨(igt_eq h2386), rfl, (igt_eq h2387), trivial⟩
  exact fn_playC hn64 (r := F64_res 3) (pq2438 pz) (by kernel_rfl) (by kernel_rfl)
 have pq2439 : ∀ {l : List Cond}, HoldAll E H hn64 l → HoldAll E H hn64 (.test (igt a2384.N 24) false :: .int (nlen (len a2384.Edges)) (nlen (len a2384.Edges)) :: .test (igt (nlen (len a2384.Edges)) 80) false :: .int (nlen (len a2384.Edges)) (nlen (len a2384.Edges)) :: l) := fun z => ⟨(igt_eq h2386), rfl, (igt_eq h2387), rfl, z⟩
 refine bind_some hF (fun y2434 h2433 hF => ?_)
 refine sum_some hF (fun w2435 hx hF => ?_) (fun w2437 hx hF => ?_)
 ·
  subst hx
  obtain rfl := Option.some.inj hF
  have pz : HoldAll E H hn64 [.loop 0 c64_0 (F64_l0_0_S a2384 0) .ret (F64_l0_0_X0 a2384 w2435)] := ⟨(F64_l0_0_ok K a2384 K 0 _ h2433), trivial⟩
  exact fn_playC hn64 (r := F64_res w2435) (pq2438 (pq2439 pz)) (by kernel_rfl) (by kernel_rfl)
 subst hx
 obtain rfl := Option.some.inj hF
 have pz : HoldAll E H hn64 [.loop 0 c64_0 (F64_l0_0_S a2384 0) (.exit 0) (F64_l0_0_X1 a2384 w2437)] := ⟨(F64_l0_0_ok K a2384 K 0 _ h2433), trivial⟩
 exact fn_playC hn64 (r := F64_res 0) (pq2438 (pq2439 pz)) (by kernel_rfl) (by kernel_rfl)
def badE (n : Int) (e : GEdge) : Int :=
 bif ilt e.From 0 || ile n e.From || ilt e.To 0 || ile n e.To then 4 else bif ilt e.W 0 || ilt 4611686018427387904 e.W then 1 else 0
def ordE (d e : GEdge) : Int := bif ieq d.From e.From && ieq d.To e.To then 5 else bif ilt e.From d.From || (ieq d.From e.From && ilt e.To d.To) then 6 else 0
def gchk (n : Int) : Option GEdge → List GEdge → Int
 | _, [] => 0
 | prev, e :: r => bif ieq (badE n e) 0 then (match prev with
   | none => gchk n (some e) r
   | some d => bif ieq (ordE d e) 0 then gchk n (some e) r else ordE d e) else badE n e
def gcheck (g : GGraph) : Int := bif ilt g.N 1 || ilt 24 g.N then 1 else bif ilt 80 (nlen (len g.Edges)) then 3 else gchk g.N none g.Edges
def prevOf {α : Type} (l : List α) : Nat → Option α
 | 0 => none
 | i + 1 => l[i]?
theorem wsub_one {i : Nat} (h0 : 0 < i) (h : i < 4611686018427387904) : wsub .i64 (i : Int) 1 = ((i - 1 : Nat) : Int) := by
 show IntKind.i64.wrap ((i : Int) - 1) = _
 rw [IntKind.wrap_i64]; omega
theorem prev_at {α : Type} {l : List α} {i : Nat} (h0 : 0 < i) (hi : i < l.length) (hl : l.length < 4611686018427387904) :
   ∃ d, prevOf l i = some d ∧ wsub .i64 (i : Int) 1 = ((i - 1 : Nat) : Int) ∧ inr ((i - 1 : Nat) : Int) (len l) = true ∧ elAt l ((i - 1 : Nat) : Int) = some d := by
 obtain ⟨j, rfl⟩ : ∃ j, i = j + 1 := ⟨i - 1, by omega⟩
 refine ⟨l[j], by simp [prevOf], wsub_one h0 (by omega), decide_eq_true ⟨by omega, by show ((j + 1 - 1 : Nat) : Int) < (l.length : Int); omega⟩, ?_⟩
 rw [elAt_nat]
 simp
theorem prev_next {α : Type} {l : List α} {i : Nat} {x : α} {r : List α} (h : l.drop i = x :: r) : prevOf l (i + 1) = some x ∧ l.drop (i + 1) = r ∧ i < l.length := by
 have hi := lt_of_drop' h
 have := List.drop_eq_getElem_cons hi
 rw [h] at this
 injection this with a b
 exact ⟨by simp [prevOf, hi, a], b.symm, hi⟩
def sumI (v : Int) : Int ⊕ Unit := bif ieq v 0 then .inr () else .inl v
theorem F132_spec (K : Nat) (e : GEdge) (n : Int) : F132 K e n = some (badE n e) := by
 rw [F132, badE]
 cases ilt e.From 0 <;> cases ile n e.From <;> cases ilt e.To 0 <;> cases ile n e.To <;> cases ilt e.W 0 <;> cases ilt 4611686018427387904 e.W <;> rfl
theorem badE_ok {n : Int} {e : GEdge} (h : ieq (badE n e) 0 = true) : 0 ≤ e.From ∧ e.From < n ∧ 0 ≤ e.To ∧ e.To < n ∧ 0 ≤ e.W ∧ e.W ≤ 4611686018427387904 := by
 rw [badE] at h
 cases h1 : ilt e.From 0 || ile n e.From || ilt e.To 0 || ile n e.To
 · cases h2 : ilt e.W 0 || ilt 4611686018427387904 e.W
   · simp only [Bool.or_eq_false_iff, ilt_f, ile_f] at h1 h2
     omega
   · rw [h1, h2] at h; cases h
 · rw [h1] at h; cases h
theorem F133_spec (K : Nat) {n : Int} {d e : GEdge} (hn : n ≤ 24) (hd : ieq (badE n d) 0 = true) (he : ieq (badE n e) 0 = true) :
   F133 K d e = some (bif ieq d.From e.From then d.To - e.To else d.From - e.From) := by
 have h1 := badE_ok hd
 have h2 := badE_ok he
 rw [F133]
 have e1 : wsub .i64 d.To e.To = d.To - e.To := by show IntKind.i64.wrap _ = _; rw [IntKind.wrap_i64]; omega
 have e2 : wsub .i64 d.From e.From = d.From - e.From := by show IntKind.i64.wrap _ = _; rw [IntKind.wrap_i64]; omega
 rw [e1, e2]
 cases ieq d.From e.From <;> rfl
theorem F64_loop {K : Nat} (hK : 100 ≤ K) (g : GGraph) (hl : g.Edges.length ≤ 80) (hn : g.N ≤ 24) : F64_l0_0 K g K 0 = some (sumI (gchk g.N none g.Edges)) := by
 let step : Nat → GEdge → Unit → (Unit → Option (Int ⊕ Unit)) → Option (Int ⊕ Unit) := fun i x _ c =>
   (F132 K x g.N).bind fun r => bif (ieq r 0) then (bif (ieq (i : Int) 0) then c () else bif (inr (wsub .i64 (i : Int) 1) (len g.Edges)) then
       (elAt g.Edges (wsub .i64 (i : Int) 1)).bind fun d => (F133 K d x).bind fun r => bif (ieq r 0) then (some (.inl 5)) else bif (ilt 0 r) then (some (.inl 6)) else c ()
       else none) else some (.inl r)
 let fin : Unit → Option (Int ⊕ Unit) := fun _ => some (.inr ())
 have h := scanI (l := g.Edges) (L := fun k (_ : Unit) i => F64_l0_0 K g k i) step fin (fun k st i hi => rfl) (by omega) K () 0 (by omega) (by omega)
 have hw : ∀ (r : List GEdge) (i : Nat), g.Edges.drop i = r → (∀ d, prevOf g.Edges i = some d → ieq (badE g.N d) 0 = true) → (i = 0 ∨ i ≤ g.Edges.length) → goI step fin i r () = some (sumI (gchk g.N (prevOf g.Edges i) r)) := by
   intro r
   induction r with
   | nil => intro i _ _ _; rfl
   | cons x r ih =>
     intro i hr hp _
     obtain ⟨n1, n2, hi⟩ := prev_next hr
     rw [goI]
     show ((F132 K x g.N).bind fun r' => bif (ieq r' 0) then (bif (ieq (i : Int) 0) then goI step fin (i + 1) r () else bif (inr (wsub .i64 (i : Int) 1) (len g.Edges)) then
       (elAt g.Edges (wsub .i64 (i : Int) 1)).bind fun d => (F133 K d x).bind fun r' => bif (ieq r' 0) then (some (.inl 5)) else bif (ilt 0 r') then (some (.inl 6)) else goI step fin (i + 1) r ()
       else none) else some (.inl r')) = _
     rw [F132_spec, Option.bind_some]
     cases hb : ieq (badE g.N x) 0
     · have hne : badE g.N x ≠ 0 := ieq_f.1 hb
       cases prevOf g.Edges i <;> simp only [gchk, hb, cond_false, sumI]
     · have nx : goI step fin (i + 1) r () = some (sumI (gchk g.N (some x) r)) := by
         have := ih (i + 1) n2 (fun d hd => by rw [n1] at hd; cases hd; exact hb) (.inr (by omega))
         rw [n1] at this; exact this
       rw [cond_true, nx]
       cases i with
       | zero =>
         have : ieq ((0 : Nat) : Int) 0 = true := rfl
         rw [this, cond_true]
         show _ = some (sumI (gchk g.N none (x :: r)))
         rw [gchk, hb]; rfl
       | succ j =>
         obtain ⟨d, p1, p2, p3, p4⟩ := prev_at (l := g.Edges) (i := j + 1) (by omega) hi (by omega)
         have hd := hp d p1
         have : ieq ((j + 1 : Nat) : Int) 0 = false := ieq_f.2 (by omega)
         rw [this, cond_false, p2, p3, cond_true, p4, Option.bind_some, F133_spec K hn hd hb, Option.bind_some, p1, gchk, hb, cond_true]
         have b1 := badE_ok hd
         have b2 := badE_ok hb
         by_cases q1 : d.From = x.From
         · have i1 : ieq d.From x.From = true := ieq_iff.2 q1
           rw [i1, cond_true]
           by_cases q2 : d.To = x.To
           · have o5 : ordE d x = 5 := by simp [ordE, ieq_iff.2 q1, ieq_iff.2 q2]
             have : ieq (d.To - x.To) 0 = true := ieq_iff.2 (by omega)
             rw [this, cond_true, o5]; rfl
           · have : ieq (d.To - x.To) 0 = false := ieq_f.2 (by omega)
             rw [this, cond_false]
             have j2 : ieq d.To x.To = false := ieq_f.2 q2
             by_cases q3 : x.To < d.To
             · have o6 : ordE d x = 6 := by simp [ordE, i1, j2, ilt_iff.2 q3]
               have : ilt 0 (d.To - x.To) = true := ilt_iff.2 (by omega)
               rw [this, cond_true, o6]; rfl
             · have o0 : ordE d x = 0 := by simp [ordE, i1, j2, ilt_f.2 (show d.To ≤ x.To by omega), ilt_f.2 (show d.From ≤ x.From by omega)]
               have : ilt 0 (d.To - x.To) = false := ilt_f.2 (by omega)
               rw [this, cond_false, o0]; rfl
         · have i1 : ieq d.From x.From = false := ieq_f.2 q1
           rw [i1, cond_false]
           have : ieq (d.From - x.From) 0 = false := ieq_f.2 (by omega)
           rw [this, cond_false]
           by_cases q3 : x.From < d.From
           · have o6 : ordE d x = 6 := by simp [ordE, i1, ilt_iff.2 q3]
             have : ilt 0 (d.From - x.From) = true := ilt_iff.2 (by omega)
             rw [this, cond_true, o6]; rfl
           · have o0 : ordE d x = 0 := by simp [ordE, i1, ilt_f.2 (show d.From ≤ x.From by omega)]
             have : ilt 0 (d.From - x.From) = false := ilt_f.2 (by omega)
             rw [this, cond_false, o0]; rfl
 have := hw g.Edges 0 rfl (fun d hd => by cases hd) (.inl rfl)
 rw [List.drop_zero, this] at h
 exact h
theorem sumI_elim (v : Int) : (some (sumI v)).bind (fun y => Sum.elim (fun w => some w) (fun w => some 0) y) = some v := by
 unfold sumI
 cases h : ieq v 0
 · rfl
 · have : v = 0 := ieq_iff.1 h
   subst this; rfl
theorem F64_spec {K : Nat} (hK : 100 ≤ K) (g : GGraph) : F64 K g = some (gcheck g) := by
 rw [F64, gcheck]
 cases ilt g.N 1
 · cases h2 : ilt 24 g.N
   · cases h3 : ilt 80 (nlen (len g.Edges))
     · have hl : g.Edges.length ≤ 80 := by have := ilt_f.1 h3; simp only [nlen, len] at this; omega
       have hn := ilt_f.1 h2
       rw [F64_loop hK g hl hn]
       exact sumI_elim _
     · rfl
   · rfl
 · rfl
theorem gcheck_ok {g : GGraph} (h : ieq (gcheck g) 0 = true) : 1 ≤ g.N ∧ g.N ≤ 24 ∧ g.Edges.length ≤ 80 ∧ gchk g.N none g.Edges = 0 := by
 rw [gcheck] at h
 cases h1 : ilt g.N 1 || ilt 24 g.N
 · rw [h1, cond_false] at h
   cases h2 : ilt 80 (nlen (len g.Edges))
   · rw [h2, cond_false] at h
     simp only [Bool.or_eq_false_iff, ilt_f] at h1
     have := ilt_f.1 h2
     simp only [nlen, len] at this
     exact ⟨by omega, by omega, by omega, ieq_iff.1 h⟩
   · rw [h2] at h; cases h
 · rw [h1] at h; cases h
theorem gchk_mem {n : Int} : ∀ {l : List GEdge} {p : Option GEdge}, gchk n p l = 0 → ∀ e ∈ l, ieq (badE n e) 0 = true
 | [], _, _, e, h => by cases h
 | x :: l, p, h, e, he => by
   unfold gchk at h
   cases hb : ieq (badE n x) 0
   · rw [hb, cond_false] at h; rw [h] at hb; cases hb
   · rw [hb, cond_true] at h
     rcases List.mem_cons.1 he with q | q
     · subst q; exact hb
     · cases p with
       | none => exact gchk_mem h e q
       | some d =>
         dsimp only at h
         cases ho : ieq (ordE d x) 0
         · rw [ho, cond_false] at h; rw [h] at ho; cases ho
         · rw [ho, cond_true] at h; exact gchk_mem h e q
noncomputable def hn143 : Hint := { H 143 with nt := 21, prot := 0 }
def F143_res (r3142 : Grule × Bool) : Res := ⟨[(.agg [(.im (.lit r3142.1.start_)), (.im (.lit r3142.1.better_)), (.im (.lit (.bool r3142.1.only_))), (.im (.lit r3142.1.send_))]), (.one (.im (.lit (.bool r3142.2))))], []⟩
def F143_res0 (r3142 : Grule × Bool) : Res := ⟨[(.agg [(.im (.lit (fnV 158))), (.im (.lit (fnV 159))), (.im (.lit (.bool r3142.1.only_))), (.im (.lit (fnV 160)))]), (.one (.im (.lit (.bool r3142.2))))], []⟩
def F143_res1 (r3142 : Grule × Bool) : Res := ⟨[(.agg [(.im (.lit (fnV 158))), (.im (.lit (fnV 159))), (.im (.lit (.bool r3142.1.only_))), (.im (.lit (fnV 161)))]), (.one (.im (.lit (.bool r3142.2))))], []⟩
def F143_res2 (r3142 : Grule × Bool) : Res := ⟨[(.agg [(.im (.lit (fnV 162))), (.im (.lit (fnV 159))), (.im (.lit (.bool r3142.1.only_))), (.im (.lit (fnV 163)))]), (.one (.im (.lit (.bool r3142.2))))], []⟩
def F143_res3 (r3142 : Grule × Bool) : Res := ⟨[(.agg [(.im (.lit (fnV 164))), (.im (.lit (fnV 165))), (.im (.lit (.bool r3142.1.only_))), (.im (.lit (fnV 163)))]), (.one (.im (.lit (.bool r3142.2))))], []⟩
def F143_res4 (r3142 : Grule × Bool) : Res := ⟨[(.agg [(.im (.lit (fnV 166))), (.im (.lit .nilFunc)), (.im (.lit (.bool r3142.1.only_))), (.im (.lit (fnV 163)))]), (.one (.im (.lit (.bool r3142.2))))], []⟩
def F143_res5 (r3142 : Grule × Bool) : Res := ⟨[(.agg [(.im (.lit .nilFunc)), (.im (.lit .nilFunc)), (.im (.lit (.bool r3142.1.only_))), (.im (.lit .nilFunc))]), (.one (.im (.lit (.bool r3142.2))))], []⟩
def F143 (K : Nat) (a3135 : Int) : Option (Grule × Bool) :=
 bif (ieq a3135 1) then
  (some ((Grule.mk (fnV 158) (fnV 159) true (fnV 160)), true))
 else
 bif (ieq a3135 3) then
  (some ((Grule.mk (fnV 158) (fnV 159) true (fnV 161)), true))
 else
 bif (ieq a3135 2) then
  (some ((Grule.mk (fnV 162) (fnV 159) false (fnV 163)), true))
 else
 bif (ieq a3135 4) then
  (some ((Grule.mk (fnV 164) (fnV 165) false (fnV 163)), true))
 else
 bif (ieq a3135 5) then
  (some ((Grule.mk (fnV 166) .nilFunc false (fnV 163)), true))
 else
 some ((Grule.mk .nilFunc .nilFunc false .nilFunc), false)
theorem F143_ok (K : Nat) (a3135 : Int) (r : Grule × Bool) (hF : F143 K a3135 = some r) : Evt E H 143 [.one (.lit (.int .i64 a3135))] (F143_res r) := by
 rw [F143] at hF
 refine cond_some hF (fun h3136 hF => ?_) (fun h3136 hF => ?_)
 ·
  obtain rfl := Option.some.inj hF
  have pz : HoldAll E H hn143 [.test (ieq a3135 1) true] := ⟨h3136, trivial⟩
  exact fn_playC hn143 (r := F143_res ((Grule.mk (fnV 158) (fnV 159) true (fnV 160)), true)) pz (by kernel_rfl) (by kernel_rfl)
 refine cond_some hF (fun h3137 hF => ?_) (fun h3137 hF => ?_)
 ·
  obtain rfl := Option.some.inj hF
  have pz : HoldAll E H hn143 [.test (ieq a3135 1) false, .test (ieq a3135 3) true] := ⟨h3136, h3137, trivial⟩
  exact fn_playC hn143 (r := F143_res ((Grule.mk (fnV 158) (fnV 159) true (fnV 161)), true)) pz (by kernel_rfl) (by kernel_rfl)
 refine cond_some hF (fun h3138 hF => ?_) (fun h3138 hF => ?_)
 ·
  obtain rfl := Option.some.inj hF
  have pz : HoldAll E H hn143 [.test (ieq a3135 1) false, .test (ieq a3135 3) false, .test (ieq a3135 2) true] := ⟨h3136, h3137, h3138, trivial⟩
  exact fn_playC hn143 (r := F143_res ((Grule.mk (fnV 162) (fnV 159) false (fnV 163)), true)) pz (by kernel_rfl) (by kernel_rfl)
 have pq3141 : ∀ {l : List Cond}, HoldAll E H hn143 l → HoldAll E H hn143 (.test (ieq a3135 1) false :: .test (ieq a3135 3) false :: .test (ieq a3135 2) false :: l) := fun z => ⟨h3136, h3137, h3138, z⟩
 refine cond_some hF (fun h3139 hF => ?_) (fun h3139 hF => ?_)
 ·
  obtain rfl := Option.some.inj hF
  have pz : HoldAll E H hn143 [.test (ieq a3135 4) true] := ⟨h3139, trivial⟩
  exact fn_playC hn143 (r := F143_res ((Grule.mk (fnV 164) (fnV 165) false (fnV 163)), true)) (pq3141 pz) (by kernel_rfl) (by kernel_rfl)
 refine cond_some hF (fun h3140 hF => ?_) (fun h3140 hF => ?_)
 ·
  obtain rfl := Option.some.inj hF
  have pz : HoldAll E H hn143 [.test (ieq a3135 4) false, .test (ieq a3135 5) true] := ⟨h3139, h3140, trivial⟩
  exact fn_playC hn143 (r := F143_res ((Grule.mk (fnV 166) .nilFunc false (fnV 163)), true)) (pq3141 pz) (by kernel_rfl) (by kernel_rfl)
 obtain rfl := Option.some.inj hF
 have pz : HoldAll E H hn143 [.test (ieq a3135 4) false, .test (ieq a3135 5) false] := ⟨h3139, h3140, trivial⟩
 exact fn_playC hn143 (r := F143_res ((Grule.mk .nilFunc .nilFunc false .nilFunc), false)) (pq3141 pz) (by kernel_rfl) (by kernel_rfl)
theorem F143_ok0 {ads : List AD} (r3142 : Grule × Bool) (e : areFns [r3142.1.start_, r3142.1.better_, r3142.1.send_] [158, 159, 160] = true) (h : Evt E H 143 ads (F143_res r3142)) : Evt E H 143 ads (F143_res0 r3142) := by
 obtain ⟨q0, e⟩ := areFns_cons e
 obtain ⟨q1, e⟩ := areFns_cons e
 obtain ⟨q2, e⟩ := areFns_cons e
 unfold F143_res at h
 rw [q0, q1, q2] at h
 exact h
theorem F143_ok1 {ads : List AD} (r3142 : Grule × Bool) (e : areFns [r3142.1.start_, r3142.1.better_, r3142.1.send_] [158, 159, 161] = true) (h : Evt E H 143 ads (F143_res r3142)) : Evt E H 143 ads (F143_res1 r3142) := by
 obtain ⟨q0, e⟩ := areFns_cons e
 obtain ⟨q1, e⟩ := areFns_cons e
 obtain ⟨q2, e⟩ := areFns_cons e
 unfold F143_res at h
 rw [q0, q1, q2] at h
 exact h
theorem F143_ok2 {ads : List AD} (r3142 : Grule × Bool) (e : areFns [r3142.1.start_, r3142.1.better_, r3142.1.send_] [162, 159, 163] = true) (h : Evt E H 143 ads (F143_res r3142)) : Evt E H 143 ads (F143_res2 r3142) := by
 obtain ⟨q0, e⟩ := areFns_cons e
 obtain ⟨q1, e⟩ := areFns_cons e
 obtain ⟨q2, e⟩ := areFns_cons e
 unfold F143_res at h
 rw [q0, q1, q2] at h
 exact h
theorem F143_ok3 {ads : List AD} (r3142 : Grule × Bool) (e : areFns [r3142.1.start_, r3142.1.better_, r3142.1.send_] [164, 165, 163] = true) (h : Evt E H 143 ads (F143_res r3142)) : Evt E H 143 ads (F143_res3 r3142) := by
 obtain ⟨q0, e⟩ := areFns_cons e
 obtain ⟨q1, e⟩ := areFns_cons e
 obtain ⟨q2, e⟩ := areFns_cons e
 unfold F143_res at h
 rw [q0, q1, q2] at h
 exact h
theorem F143_ok4 {ads : List AD} (r3142 : Grule × Bool) (e : areFns [r3142.1.start_, r3142.1.better_, r3142.1.send_] [166, 0, 163] = true) (h : Evt E H 143 ads (F143_res r3142)) : Evt E H 143 ads (F143_res4 r3142) := by
 obtain ⟨q0, e⟩ := areFns_cons e
 obtain ⟨q1, e⟩ := areFns_cons e
 obtain ⟨q2, e⟩ := areFns_cons e
 unfold F143_res at h
 rw [q0, q1, q2] at h
 exact h
theorem F143_ok5 {ads : List AD} (r3142 : Grule × Bool) (e : areFns [r3142.1.start_, r3142.1.better_, r3142.1.send_] [0, 0, 0] = true) (h : Evt E H 143 ads (F143_res r3142)) : Evt E H 143 ads (F143_res5 r3142) := by
 obtain ⟨q0, e⟩ := areFns_cons e
 obtain ⟨q1, e⟩ := areFns_cons e
 obtain ⟨q2, e⟩ := areFns_cons e
 unfold F143_res at h
 rw [q0, q1, q2] at h
 exact h
noncomputable def hn94 : Hint := { H 94 with nt := 53, prot := 0 }
def F94_res (r3230 : Int) : Res := ⟨[(.one (.im (.lit (.int .i64 r3230))))], []⟩
def F94 (K : Nat) (a3130 : GGraph) (a3131 : GJob) : Option (Int) :=
 (F64 K a3130).bind fun r3132 =>
 bif (ieq r3132 0) then
  ((F143 K a3131.Prog).bind fun r3143 =>
  bif (areFns [r3143.1.start_, r3143.1.better_, r3143.1.send_] [158, 159, 160]) then
   (bif r3143.2 then
    (bif (ilt a3131.Source 0) then
     (some 1)
    else
    bif (ile a3130.N a3131.Source) then
     (some 1)
    else
    bif (ilt a3131.Limit 0) then
     (some 1)
    else
    bif (ilt 40 a3131.Limit) then
     (some 1)
    else
    bif (ilt a3131.Parts 1) then
     (some 1)
    else
    bif (ilt 6 a3131.Parts) then
     (some 1)
    else
    some 0)
   else
   some 1)
  else
  bif (areFns [r3143.1.start_, r3143.1.better_, r3143.1.send_] [158, 159, 161]) then
   (bif r3143.2 then
    (bif (ilt a3131.Source 0) then
     (some 1)
    else
    bif (ile a3130.N a3131.Source) then
     (some 1)
    else
    bif (ilt a3131.Limit 0) then
     (some 1)
    else
    bif (ilt 40 a3131.Limit) then
     (some 1)
    else
    bif (ilt a3131.Parts 1) then
     (some 1)
    else
    bif (ilt 6 a3131.Parts) then
     (some 1)
    else
    some 0)
   else
   some 1)
  else
  bif (areFns [r3143.1.start_, r3143.1.better_, r3143.1.send_] [162, 159, 163]) then
   (bif r3143.2 then
    (bif (ilt a3131.Source 0) then
     (some 1)
    else
    bif (ile a3130.N a3131.Source) then
     (some 1)
    else
    bif (ilt a3131.Limit 0) then
     (some 1)
    else
    bif (ilt 40 a3131.Limit) then
     (some 1)
    else
    bif (ilt a3131.Parts 1) then
     (some 1)
    else
    bif (ilt 6 a3131.Parts) then
     (some 1)
    else
    some 0)
   else
   some 1)
  else
  bif (areFns [r3143.1.start_, r3143.1.better_, r3143.1.send_] [164, 165, 163]) then
   (bif r3143.2 then
    (bif (ilt a3131.Source 0) then
     (some 1)
    else
    bif (ile a3130.N a3131.Source) then
     (some 1)
    else
    bif (ilt a3131.Limit 0) then
     (some 1)
    else
    bif (ilt 40 a3131.Limit) then
     (some 1)
    else
    bif (ilt a3131.Parts 1) then
     (some 1)
    else
    bif (ilt 6 a3131.Parts) then
     (some 1)
    else
    some 0)
   else
   some 1)
  else
  bif (areFns [r3143.1.start_, r3143.1.better_, r3143.1.send_] [166, 0, 163]) then
   (bif r3143.2 then
    (bif (ilt a3131.Source 0) then
     (some 1)
    else
    bif (ile a3130.N a3131.Source) then
     (some 1)
    else
    bif (ilt a3131.Limit 0) then
     (some 1)
    else
    bif (ilt 40 a3131.Limit) then
     (some 1)
    else
    bif (ilt a3131.Parts 1) then
     (some 1)
    else
    bif (ilt 6 a3131.Parts) then
     (some 1)
    else
    some 0)
   else
   some 1)
  else
  bif (areFns [r3143.1.start_, r3143.1.better_, r3143.1.send_] [0, 0, 0]) then
  bif r3143.2 then
   (bif (ilt a3131.Source 0) then
    (some 1)
   else
   bif (ile a3130.N a3131.Source) then
    (some 1)
   else
   bif (ilt a3131.Limit 0) then
    (some 1)
   else
   bif (ilt 40 a3131.Limit) then
    (some 1)
   else
   bif (ilt a3131.Parts 1) then
    (some 1)
   else
   bif (ilt 6 a3131.Parts) then
    (some 1)
   else
   some 0)
  else
  some 1
  else none)
 else
 some r3132
theorem F94_ok (K : Nat) (a3130 : GGraph) (a3131 : GJob) (r : Int) (hF : F94 K a3130 a3131 = some r) : Evt E H 94 [.agg (eGGraph a3130), .agg (eGJob a3131)] (F94_res r) := by
 rw [F94] at hF
 refine bind_some hF (fun r3132 h3133 hF => ?_)
 refine cond_some hF (fun h3134 hF => ?_) (fun h3134 hF => ?_)
 ·
  refine bind_some hF (fun r3143 h3144 hF => ?_)
  have pq3193 : ∀ {l : List Cond}, HoldAll E H hn94 l → HoldAll E H hn94 (.call 64 [.agg (eGGraph a3130)] (F64_res r3132) :: .test (leadsAny (Res.mk [(.one (.im (.lit (.int .i64 r3132))))] [])) false :: .test (ine r3132 0) false :: l) := fun z => ⟨(F64_ok K a3130 _ h3133), (leads_ok (by simp [leadsAny, RV.leads, RC.leads, leadsT, hasSl_lit])), (ine_t h3134), z⟩
  refine cond_some hF (fun h3145 hF => ?_) (fun h3145 hF => ?_)
  ·
   refine cond_some hF (fun h3146 hF => ?_) (fun h3146 hF => ?_)
   ·
    have pq3194 : ∀ {l : List Cond}, HoldAll E H hn94 l → HoldAll E H hn94 (.call 143 [.one (.lit (.int .i64 a3131.Prog))] (F143_res0 r3143) :: .test (leadsAny (Res.mk [(.agg [(.im (.lit (fnV 158))), (.im (.lit (fnV 159))), (.im (.lit (.bool r3143.1.only_))), (.im (.lit (fnV 160)))]), (.one (.im (.lit (.bool r3143.2))))] [])) false :: .test (beqb (bnot r3143.2) false) true :: .test (beqb (bnot r3143.2) false) true :: .test (beqb (bnot r3143.2) false) true :: .test (bnot r3143.2) false :: l) := fun z => ⟨(F143_ok0 _ h3145 (F143_ok K a3131.Prog _ h3144)), (leads_ok (by simp [leadsAny, RV.leads, RC.leads, leadsT, hasSl_lit])), (beqb_ff (bnot_t h3146)), (beqb_ff (bnot_t h3146)), (beqb_ff (bnot_t h3146)), (bnot_t h3146), z⟩
    refine cond_some hF (fun h3147 hF => ?_) (fun h3147 hF => ?_)
    ·
     obtain rfl := Option.some.inj hF
     have pz : HoldAll E H hn94 [.test (beqb (ilt a3131.Source 0) false) false, .test (beqb (ilt a3131.Source 0) false) false, .test (beqb (ilt a3131.Source 0) false) false, .test (beqb (ilt a3131.Source 0) false) false, .test (beqb (ilt a3131.Source 0) false) false, .test (ilt a3131.Source 0) true, .test (beqb true false) false, .test (beqb true false) false, .test (beqb true false) false, .test true true, .test (beqb true false) false, .test (beqb true false) false, .test (beqb true false) false, .test true true, .test (beqb true false) false, .test (beqb true false) false, .test (beqb true false) false, .test true true, .test (beqb true false) false, .test (beqb true false) false, .test (beqb true false) false, .test true true, .test true true] := ⟨(beqb_ft h3147), (beqb_ft h3147), (beqb_ft h3147), (beqb_ft h3147), (beqb_ft h3147), h3147, (beqb_ft rfl), (beqb_ft rfl), (beqb_ft rfl), rfl, (beqb_ft rfl), (beqb_ft rfl), (beqb_ft rfl), rfl, (beqb_ft rfl), (beqb_ft rfl), (beqb_ft rfl), rfl, (beqb_ft rfl), (beqb_ft rfl), (beqb_ft rfl), rfl, rfl, trivial⟩
     exact fn_playC hn94 (r := F94_res 1) (pq3193 (pq3194 pz)) (by kernel_rfl) (by kernel_rfl)
    have pq3195 : ∀ {l : List Cond}, HoldAll E H hn94 l → HoldAll E H hn94 (.test (beqb (ilt a3131.Source 0) false) true :: .test (beqb (ilt a3131.Source 0) false) true :: .test (beqb (ilt a3131.Source 0) false) true :: .test (beqb (ilt a3131.Source 0) false) true :: .test (beqb (ilt a3131.Source 0) false) true :: .test (ilt a3131.Source 0) false :: l) := fun z => ⟨(beqb_ff h3147), (beqb_ff h3147), (beqb_ff h3147), (beqb_ff h3147), (beqb_ff h3147), h3147, z⟩
    refine cond_some hF (fun h3148 hF => ?_) (fun h3148 hF => ?_)
    ·
     obtain rfl := Option.some.inj hF
     have pz : HoldAll E H hn94 [.test (beqb (ige a3131.Source a3130.N) false) false, .test (beqb (ige a3131.Source a3130.N) false) false, .test (beqb (ige a3131.Source a3130.N) false) false, .test (ige a3131.Source a3130.N) true, .test (beqb true false) false, .test (beqb true false) false, .test (beqb true false) false, .test true true, .test (beqb true false) false, .test (beqb true false) false, .test (beqb true false) false, .test true true, .test (beqb true false) false, .test (beqb true false) false, .test (beqb true false) false, .test true true, .test true true] := ⟨(beqb_ft (ige_eq h3148)), (beqb_ft (ige_eq h3148)), (beqb_ft (ige_eq h3148)), (ige_eq h3148), (beqb_ft rfl), (beqb_ft rfl), (beqb_ft rfl), rfl, (beqb_ft rfl), (beqb_ft rfl), (beqb_ft rfl), rfl, (beqb_ft rfl), (beqb_ft rfl), (beqb_ft rfl), rfl, rfl, trivial⟩
     exact fn_playC hn94 (r := F94_res 1) (pq3193 (pq3194 (pq3195 pz))) (by kernel_rfl) (by kernel_rfl)
    have pq3196 : ∀ {l : List Cond}, HoldAll E H hn94 l → HoldAll E H hn94 (.test (beqb (ige a3131.Source a3130.N) false) true :: .test (beqb (ige a3131.Source a3130.N) false) true :: .test (beqb (ige a3131.Source a3130.N) false) true :: .test (ige a3131.Source a3130.N) false :: l) := fun z => ⟨(beqb_ff (ige_eq h3148)), (beqb_ff (ige_eq h3148)), (beqb_ff (ige_eq h3148)), (ige_eq h3148), z⟩
    refine cond_some hF (fun h3149 hF => ?_) (fun h3149 hF => ?_)
    ·
     obtain rfl := Option.some.inj hF
     have pz : HoldAll E H hn94 [.test (beqb (ilt a3131.Limit 0) false) false, .test (beqb (ilt a3131.Limit 0) false) false, .test (beqb (ilt a3131.Limit 0) false) false, .test (ilt a3131.Limit 0) true, .test (beqb true false) false, .test (beqb true false) false, .test (beqb true false) false, .test true true, .test (beqb true false) false, .test (beqb true false) false, .test (beqb true false) false, .test true true, .test true true] := ⟨(beqb_ft h3149), (beqb_ft h3149), (beqb_ft h3149), h3149, (beqb_ft rfl), (beqb_ft rfl), (beqb_ft rfl), rfl, (beqb_ft rfl), (beqb_ft rfl), (beqb_ft rfl), rfl, rfl, trivial⟩
     exact fn_playC hn94 (r := F94_res 1) (pq3193 (pq3194 (pq3195 (pq3196 pz)))) (by kernel_rfl) (by kernel_rfl)
    have pq3197 : ∀ {l : List Cond}, HoldAll E H hn94 l → HoldAll E H hn94 (.test (beqb (ilt a3131.Limit 0) false) true :: .test (beqb (ilt a3131.Limit 0) false) true :: .test (beqb (ilt a3131.Limit 0) false) true :: .test (ilt a3131.Limit 0) false :: l) := fun z => ⟨(beqb_ff h3149), (beqb_ff h3149), (beqb_ff h3149), h3149, z⟩
    refine cond_some hF (fun h3150 hF => ?_) (fun h3150 hF => ?_)
    ·
     obtain rfl := Option.some.inj hF
     have pz : HoldAll E H hn94 [.test (beqb (igt a3131.Limit 40) false) false, .test (beqb (igt a3131.Limit 40) false) false, .test (beqb (igt a3131.Limit 40) false) false, .test (igt a3131.Limit 40) true, .test (beqb true false) false, .test (beqb true false) false, .test (beqb true false) false, .test true true, .test true true] := ⟨(beqb_ft (igt_eq h3150)), (beqb_ft (igt_eq h3150)), (beqb_ft (igt_eq h3150)), (igt_eq h3150), (beqb_ft rfl), (beqb_ft rfl), (beqb_ft rfl), rfl, rfl, trivial⟩
     exact fn_playC hn94 (r := F94_res 1) (pq3193 (pq3194 (pq3195 (pq3196 (pq3197 pz))))) (by kernel_rfl) (by kernel_rfl)
    have pq3198 : ∀ {l : List Cond}, HoldAll E H hn94 l → HoldAll E H hn94 (.test (beqb (igt a3131.Limit 40) false) true :: .test (beqb (igt a3131.Limit 40) false) true :: .test (beqb (igt a3131.Limit 40) false) true :: .test (igt a3131.Limit 40) false :: l) := fun z => ⟨(beqb_ff (igt_eq h3150)), (beqb_ff (igt_eq h3150)), (beqb_ff (igt_eq h3150)), (igt_eq h3150), z⟩
    refine cond_some hF (fun h3151 hF => ?_) (fun h3151 hF => ?_)
    ·
     obtain rfl := Option.some.inj hF
     have pz : HoldAll E H hn94 [.test (beqb (ilt a3131.Parts 1) false) false, .test (beqb (ilt a3131.Parts 1) false) false, .test (beqb (ilt a3131.Parts 1) false) false, .test (ilt a3131.Parts 1) true, .test true true] := ⟨(beqb_ft h3151), (beqb_ft h3151), (beqb_ft h3151), h3151, rfl, trivial⟩
     exact fn_playC hn94 (r := F94_res 1) (pq3193 (pq3194 (pq3195 (pq3196 (pq3197 (pq3198 pz)))))) (by kernel_rfl) (by kernel_rfl)
    have pq3199 : ∀ {l : List Cond}, HoldAll E H hn94 l → HoldAll E H hn94 (.test (beqb (ilt a3131.Parts 1) false) true :: .test (beqb (ilt a3131.Parts 1) false) true :: .test (beqb (ilt a3131.Parts 1) false) true :: .test (ilt a3131.Parts 1) false :: l) := fun z => ⟨(beqb_ff h3151), (beqb_ff h3151), (beqb_ff h3151), h3151, z⟩
    refine cond_some hF (fun h3152 hF => ?_) (fun h3152 hF => ?_)
    ·
     obtain rfl := Option.some.inj hF
     have pz : HoldAll E H hn94 [.test (igt a3131.Parts 6) true] := ⟨(igt_eq h3152), trivial⟩
     exact fn_playC hn94 (r := F94_res 1) (pq3193 (pq3194 (pq3195 (pq3196 (pq3197 (pq3198 (pq3199 pz))))))) (by kernel_rfl) (by kernel_rfl)
    obtain rfl := Option.some.inj hF
    have pz : HoldAll E H hn94 [.test (igt a3131.Parts 6) false] := ⟨(igt_eq h3152), trivial⟩
    exact fn_playC hn94 (r := F94_res 0) (pq3193 (pq3194 (pq3195 (pq3196 (pq3197 (pq3198 (pq3199 pz))))))) (by kernel_rfl) (by kernel_rfl)
   obtain rfl := Option.some.inj hF
   have pz : HoldAll E H hn94 [.call 143 [.one (.lit (.int .i64 a3131.Prog))] (F143_res0 r3143), .test (leadsAny (Res.mk [(.agg [(.im (.lit (fnV 158))), (.im (.lit (fnV 159))), (.im (.lit (.bool r3143.1.only_))), (.im (.lit (fnV 160)))]), (.one (.im (.lit (.bool r3143.2))))] [])) false, .test (beqb (bnot r3143.2) false) false, .test (beqb (bnot r3143.2) false) false, .test (beqb (bnot r3143.2) false) false, .test (bnot r3143.2) true, .test (beqb true false) false, .test (beqb true false) false, .test (beqb true false) false, .test (beqb true false) false, .test (beqb true false) false, .test true true, .test (beqb true false) false, .test (beqb true false) false, .test (beqb true false) false, .test true true, .test (beqb true false) false, .test (beqb true false) false, .test (beqb true false) false, .test true true, .test (beqb true false) false, .test (beqb true false) false, .test (beqb true false) false, .test true true, .test (beqb true false) false, .test (beqb true false) false, .test (beqb true false) false, .test true true, .test true true] := ⟨(F143_ok0 _ h3145 (F143_ok K a3131.Prog _ h3144)), (leads_ok (by simp [leadsAny, RV.leads, RC.leads, leadsT, hasSl_lit])), (beqb_ft (bnot_f h3146)), (beqb_ft (bnot_f h3146)), (beqb_ft (bnot_f h3146)), (bnot_f h3146), (beqb_ft rfl), (beqb_ft rfl), (beqb_ft rfl), (beqb_ft rfl), (beqb_ft rfl), rfl, (beqb_ft rfl), (beqb_ft rfl), (beqb_ft rfl), rfl, (beqb_ft rfl), (beqb_ft rfl), (beqb_ft rfl), rfl, (beqb_ft rfl), (beqb_ft rfl), (beqb_ft rfl), rfl, (beqb_ft rfl), (beqb_ft rfl), (beqb_ft rfl), rfl, rfl, trivial⟩
   exact fn_playC hn94 (r := F94_res 1) (pq3193 pz) (by kernel_rfl) (by kernel_rfl)
  refine cond_some hF (fun h3153 hF => ?_) (fun h3153 hF => ?_)
  ·
   refine cond_some hF (fun h3154 hF => ?_) (fun h3154 hF => ?_)
   ·
    have pq3200 : ∀ {l : List Cond}, HoldAll E H hn94 l → HoldAll E H hn94 (.call 143 [.one (.lit (.int .i64 a3131.Prog))] (F143_res1 r3143) :: .test (leadsAny (Res.mk [(.agg [(.im (.lit (fnV 158))), (.im (.lit (fnV 159))), (.im (.lit (.bool r3143.1.only_))), (.im (.lit (fnV 161)))]), (.one (.im (.lit (.bool r3143.2))))] [])) false :: .test (beqb (bnot r3143.2) false) true :: .test (beqb (bnot r3143.2) false) true :: .test (beqb (bnot r3143.2) false) true :: .test (bnot r3143.2) false :: l) := fun z => ⟨(F143_ok1 _ h3153 (F143_ok K a3131.Prog _ h3144)), (leads_ok (by simp [leadsAny, RV.leads, RC.leads, leadsT, hasSl_lit])), (beqb_ff (bnot_t h3154)), (beqb_ff (bnot_t h3154)), (beqb_ff (bnot_t h3154)), (bnot_t h3154), z⟩
    refine cond_some hF (fun h3155 hF => ?_) (fun h3155 hF => ?_)
    ·
     obtain rfl := Option.some.inj hF
     have pz : HoldAll E H hn94 [.test (beqb (ilt a3131.Source 0) false) false, .test (beqb (ilt a3131.Source 0) false) false, .test (beqb (ilt a3131.Source 0) false) false, .test (beqb (ilt a3131.Source 0) false) false, .test (beqb (ilt a3131.Source 0) false) false, .test (ilt a3131.Source 0) true, .test (beqb true false) false, .test (beqb true false) false, .test (beqb true false) false, .test true true, .test (beqb true false) false, .test (beqb true false) false, .test (beqb true false) false, .test true true, .test (beqb true false) false, .test (beqb true false) false, .test (beqb true false) false, .test true true, .test (beqb true false) false, .test (beqb true false) false, .test (beqb true false) false, .test true true, .test true true] := ⟨(beqb_ft h3155), (beqb_ft h3155), (beqb_ft h3155), (beqb_ft h3155), (beqb_ft h3155), h3155, (beqb_ft rfl), (beqb_ft rfl), (beqb_ft rfl), rfl, (beqb_ft rfl), (beqb_ft rfl), (beqb_ft rfl), rfl, (beqb_ft rfl), (beqb_ft rfl), (beqb_ft rfl), rfl, (beqb_ft rfl), (beqb_ft rfl), (beqb_ft rfl), rfl, rfl, trivial⟩
     exact fn_playC hn94 (r := F94_res 1) (pq3193 (pq3200 pz)) (by kernel_rfl) (by kernel_rfl)
    have pq3201 : ∀ {l : List Cond}, HoldAll E H hn94 l → HoldAll E H hn94 (.test (beqb (ilt a3131.Source 0) false) true :: .test (beqb (ilt a3131.Source 0) false) true :: .test (beqb (ilt a3131.Source 0) false) true :: .test (beqb (ilt a3131.Source 0) false) true :: .test (beqb (ilt a3131.Source 0) false) true :: .test (ilt a3131.Source 0) false :: l) := fun z => ⟨(beqb_ff h3155), (beqb_ff h3155), (beqb_ff h3155), (beqb_ff h3155), (beqb_ff h3155), h3155, z⟩
    refine cond_some hF (fun h3156 hF => ?_) (fun h3156 hF => ?_)
    ·
     obtain rfl := Option.some.inj hF
     have pz : HoldAll E H hn94 [.test (beqb (ige a3131.Source a3130.N) false) false, .test (beqb (ige a3131.Source a3130.N) false) false, .test (beqb (ige a3131.Source a3130.N) false) false, .test (ige a3131.Source a3130.N) true, .test (beqb true false) false, .test (beqb true false) false, .test (beqb true false) false, .test true true, .test (beqb true false) false, .test (beqb true false) false, .test (beqb true false) false, .test true true, .test (beqb true false) false, .test (beqb true false) false, .test (beqb true false) false, .test true true, .test true true] := ⟨(beqb_ft (ige_eq h3156)), (beqb_ft (ige_eq h3156)), (beqb_ft (ige_eq h3156)), (ige_eq h3156), (beqb_ft rfl), (beqb_ft rfl), (beqb_ft rfl), rfl, (beqb_ft rfl), (beqb_ft rfl), (beqb_ft rfl), rfl, (beqb_ft rfl), (beqb_ft rfl), (beqb_ft rfl), rfl, rfl, trivial⟩
     exact fn_playC hn94 (r := F94_res 1) (pq3193 (pq3200 (pq3201 pz))) (by kernel_rfl) (by kernel_rfl)
    have pq3202 : ∀ {l : List Cond}, HoldAll E H hn94 l → HoldAll E H hn94 (.test (beqb (ige a3131.Source a3130.N) false) true :: .test (beqb (ige a3131.Source a3130.N) false) true :: .test (beqb (ige a3131.Source a3130.N) false) true :: .test (ige a3131.Source a3130.N) false :: l) := fun z => ⟨(beqb_ff (ige_eq h3156)), (beqb_ff (ige_eq h3156)), (beqb_ff (ige_eq h3156)), (ige_eq h3156), z⟩
    refine cond_some hF (fun h3157 hF => ?_) (fun h3157 hF => ?_)
    ·
     obtain rfl := Option.some.inj hF
     have pz : HoldAll E H hn94 [.test (beqb (ilt a3131.Limit 0) false) false, .test (beqb (ilt a3131.Limit 0) false) false, .test (beqb (ilt a3131.Limit 0) false) false, .test (ilt a3131.Limit 0) true, .test (beqb true false) false, .test (beqb true false) false, .test (beqb true false) false, .test true true, .test (beqb true false) false, .test (beqb true false) false, .test (beqb true false) false, .test true true, .test true true] := ⟨(beqb_ft h3157), (beqb_ft h3157), (beqb_ft h3157), h3157, (beqb_ft rfl), (beqb_ft rfl), (beqb_ft rfl), rfl, (beqb_ft rfl), (beqb_ft rfl), (beqb_ft rfl), rfl, rfl, trivial⟩
     exact fn_playC hn94 (r := F94_res 1) (pq3193 (pq3200 (pq3201 (pq3202 pz)))) (by kernel_rfl) (by kernel_rfl)
    have pq3203 : ∀ {l : List Cond}, HoldAll E H hn94 l → HoldAll E H hn94 (.test (beqb (ilt a3131.Limit 0) false) true :: .test (beqb (ilt a3131.Limit 0) false) true :: .test (beqb (ilt a3131.Limit 0) false) true :: .test (ilt a3131.Limit 0) false :: l) := fun z => ⟨(beqb_ff h3157), (beqb_ff h3157), (beqb_ff h3157), h3157, z⟩
    refine cond_some hF (fun h3158 hF => ?_) (fun h3158 hF => ?_)
    ·
     obtain rfl := Option.some.inj hF
     have pz : HoldAll E H hn94 [.test (beqb (igt a3131.Limit 40) false) false, .test (beqb (igt a3131.Limit 40) false) false, .test (beqb (igt a3131.Limit 40) false) false, .test (igt a3131.Limit 40) true, .test (beqb true false) false, .test (beqb true false) false, .test (beqb true false) false, .test true true, .test true true] := ⟨(beqb_ft (igt_eq h3158)), (beqb_ft (igt_eq h3158)), (beqb_ft (igt_eq h3158)), (igt_eq h3158), (beqb_ft rfl), (beqb_ft rfl), (beqb_ft rfl), rfl, rfl, trivial⟩
     exact fn_playC hn94 (r := F94_res 1) (pq3193 (pq3200 (pq3201 (pq3202 (pq3203 pz))))) (by kernel_rfl) (by kernel_rfl)
    have pq3204 : ∀ {l : List Cond}, HoldAll E H hn94 l → HoldAll E H hn94 (.test (beqb (igt a3131.Limit 40) false) true :: .test (beqb (igt a3131.Limit 40) false) true :: .test (beqb (igt a3131.Limit 40) false) true :: .test (igt a3131.Limit 40) false :: l) := fun z => ⟨(beqb_ff (igt_eq h3158)), (beqb_ff (igt_eq h3158)), (beqb_ff (igt_eq h3158)), (igt_eq h3158), z⟩
    refine cond_some hF (fun h3159 hF => ?_) (fun h3159 hF => ?_)
    ·
     obtain rfl := Option.some.inj hF
     have pz : HoldAll E H hn94 [.test (beqb (ilt a3131.Parts 1) false) false, .test (beqb (ilt a3131.Parts 1) false) false, .test (beqb (ilt a3131.Parts 1) false) false, .test (ilt a3131.Parts 1) true, .test true true] := ⟨(beqb_ft h3159), (beqb_ft h3159), (beqb_ft h3159), h3159, rfl, trivial⟩
     exact fn_playC hn94 (r := F94_res 1) (pq3193 (pq3200 (pq3201 (pq3202 (pq3203 (pq3204 pz)))))) (by kernel_rfl) (by kernel_rfl)
    have pq3205 : ∀ {l : List Cond}, HoldAll E H hn94 l → HoldAll E H hn94 (.test (beqb (ilt a3131.Parts 1) false) true :: .test (beqb (ilt a3131.Parts 1) false) true :: .test (beqb (ilt a3131.Parts 1) false) true :: .test (ilt a3131.Parts 1) false :: l) := fun z => ⟨(beqb_ff h3159), (beqb_ff h3159), (beqb_ff h3159), h3159, z⟩
    refine cond_some hF (fun h3160 hF => ?_) (fun h3160 hF => ?_)
    ·
     obtain rfl := Option.some.inj hF
     have pz : HoldAll E H hn94 [.test (igt a3131.Parts 6) true] := ⟨(igt_eq h3160), trivial⟩
     exact fn_playC hn94 (r := F94_res 1) (pq3193 (pq3200 (pq3201 (pq3202 (pq3203 (pq3204 (pq3205 pz))))))) (by kernel_rfl) (by kernel_rfl)
    obtain rfl := Option.some.inj hF
    have pz : HoldAll E H hn94 [.test (igt a3131.Parts 6) false] := ⟨(igt_eq h3160), trivial⟩
    exact fn_playC hn94 (r := F94_res 0) (pq3193 (pq3200 (pq3201 (pq3202 (pq3203 (pq3204 (pq3205 pz))))))) (by kernel_rfl) (by kernel_rfl)
   obtain rfl := Option.some.inj hF
   have pz : HoldAll E H hn94 [.call 143 [.one (.lit (.int .i64 a3131.Prog))] (F143_res1 r3143), .test (leadsAny (Res.mk [(.agg [(.im (.lit (fnV 158))), (.im (.lit (fnV 159))), (.im (.lit (.bool r3143.1.only_))), (.im (.lit (fnV 161)))]), (.one (.im (.lit (.bool r3143.2))))] [])) false, .test (beqb (bnot r3143.2) false) false, .test (beqb (bnot r3143.2) false) false, .test (beqb (bnot r3143.2) false) false, .test (bnot r3143.2) true, .test (beqb true false) false, .test (beqb true false) false, .test (beqb true false) false, .test (beqb true false) false, .test (beqb true false) false, .test true true, .test (beqb true false) false, .test (beqb true false) false, .test (beqb true false) false, .test true true, .test (beqb true false) false, .test (beqb true false) false, .test (beqb true false) false, .test true true, .test (beqb true false) false, .test (beqb true false) false, .test (beqb true false) false, .test true true, .test (beqb true false) false, .test (beqb true false) false, .test (beqb true false) false, .test true true, .test true true] := ⟨(F143_ok1 _ h3153 (F143_ok K a3131.Prog _ h3144)), (leads_ok (by simp [leadsAny, RV.leads, RC.leads, leadsT, hasSl_lit])), (beqb_ft (bnot_f h3154)), (beqb_ft (bnot_f h3154)), (beqb_ft (bnot_f h3154)), (bnot_f h3154), (beqb_ft rfl), (beqb_ft rfl), (beqb_ft rfl), (beqb_ft rfl), (beqb_ft rfl), rfl, (beqb_ft rfl), (beqb_ft rfl), (beqb_ft rfl), rfl, (beqb_ft rfl), (beqb_ft rfl), (beqb_ft rfl), rfl, (beqb_ft rfl), (beqb_ft rfl), (beqb_ft rfl), rfl, (beqb_ft rfl), (beqb_ft rfl), (beqb_ft rfl), rfl, rfl, trivial⟩
   exact fn_playC hn94 (r := F94_res 1) (pq3193 pz) (by kernel_rfl) (by kernel_rfl)
  refine cond_some hF (fun h3161 hF => ?_) (fun h3161 hF => ?_)
  ·
   refine cond_some hF (fun h3162 hF => ?_) (fun h3162 hF => ?_)
   ·
    have pq3206 : ∀ {l : List Cond}, HoldAll E H hn94 l → HoldAll E H hn94 (.call 143 [.one (.lit (.int .i64 a3131.Prog))] (F143_res2 r3143) :: .test (leadsAny (Res.mk [(.agg [(.im (.lit (fnV 162))), (.im (.lit (fnV 159))), (.im (.lit (.bool r3143.1.only_))), (.im (.lit (fnV 163)))]), (.one (.im (.lit (.bool r3143.2))))] [])) false :: .test (beqb (bnot r3143.2) false) true :: .test (beqb (bnot r3143.2) false) true :: .test (beqb (bnot r3143.2) false) true :: .test (bnot r3143.2) false :: l) := fun z => ⟨(F143_ok2 _ h3161 (F143_ok K a3131.Prog _ h3144)), (leads_ok (by simp [leadsAny, RV.leads, RC.leads, leadsT, hasSl_lit])), (beqb_ff (bnot_t h3162)), (beqb_ff (bnot_t h3162)), (beqb_ff (bnot_t h3162)), (bnot_t h3162), z⟩
    refine cond_some hF (fun h3163 hF => ?_) (fun h3163 hF => ?_)
    ·
     obtain rfl := Option.some.inj hF
     have pz : HoldAll E H hn94 [.test (beqb (ilt a3131.Source 0) false) false, .test (beqb (ilt a3131.Source 0) false) false, .test (beqb (ilt a3131.Source 0) false) false, .test (beqb (ilt a3131.Source 0) false) false, .test (beqb (ilt a3131.Source 0) false) false, .test (ilt a3131.Source 0) true, .test (beqb true false) false, .test (beqb true false) false, .test (beqb true false) false, .test true true, .test (beqb true false) false, .test (beqb true false) false, .test (beqb true false) false, .test true true, .test (beqb true false) false, .test (beqb true false) false, .test (beqb true false) false, .test true true, .test (beqb true false) false, .test (beqb true false) false, .test (beqb true false) false, .test true true, .test true true] := ⟨(beqb_ft h3163), (beqb_ft h3163), (beqb_ft h3163), (beqb_ft h3163), (beqb_ft h3163), h3163, (beqb_ft rfl), (beqb_ft rfl), (beqb_ft rfl), rfl, (beqb_ft rfl), (beqb_ft rfl), (beqb_ft rfl), rfl, (beqb_ft rfl), (beqb_ft rfl), (beqb_ft rfl), rfl, (beqb_ft rfl), (beqb_ft rfl), (beqb_ft rfl), rfl, rfl, trivial⟩
     exact fn_playC hn94 (r := F94_res 1) (pq3193 (pq3206 pz)) (by kernel_rfl) (by kernel_rfl)
    have pq3207 : ∀ {l : List Cond}, HoldAll E H hn94 l → HoldAll E H hn94 (.test (beqb (ilt a3131.Source 0) false) true :: .test (beqb (ilt a3131.Source 0) false) true :: .test (beqb (ilt a3131.Source 0) false) true :: .test (beqb (ilt a3131.Source 0) false) true :: .test (beqb (ilt a3131.Source 0) false) true :: .test (ilt a3131.Source 0) false :: l) := fun z => ⟨(beqb_ff h3163), (beqb_ff h3163), (beqb_ff h3163), (beqb_ff h3163), (beqb_ff h3163), h3163, z⟩
    refine cond_some hF (fun h3164 hF => ?_) (fun h3164 hF => ?_)
    ·
     obtain rfl := Option.some.inj hF
     have pz : HoldAll E H hn94 [.test (beqb (ige a3131.Source a3130.N) false) false, .test (beqb (ige a3131.Source a3130.N) false) false, .test (beqb (ige a3131.Source a3130.N) false) false, .test (ige a3131.Source a3130.N) true, .test (beqb true false) false, .test (beqb true false) false, .test (beqb true false) false, .test true true, .test (beqb true false) false, .test (beqb true false) false, .test (beqb true false) false, .test true true, .test (beqb true false) false, .test (beqb true false) false, .test (beqb true false) false, .test true true, .test true true] := ⟨(beqb_ft (ige_eq h3164)), (beqb_ft (ige_eq h3164)), (beqb_ft (ige_eq h3164)), (ige_eq h3164), (beqb_ft rfl), (beqb_ft rfl), (beqb_ft rfl), rfl, (beqb_ft rfl), (beqb_ft rfl), (beqb_ft rfl), rfl, (beqb_ft rfl), (beqb_ft rfl), (beqb_ft rfl), rfl, rfl, trivial⟩
     exact fn_playC hn94 (r := F94_res 1) (pq3193 (pq3206 (pq3207 pz))) (by kernel_rfl) (by kernel_rfl)
    have pq3208 : ∀ {l : List Cond}, HoldAll E H hn94 l → HoldAll E H hn94 (.test (beqb (ige a3131.Source a3130.N) false) true :: .test (beqb (ige a3131.Source a3130.N) false) true :: .test (beqb (ige a3131.Source a3130.N) false) true :: .test (ige a3131.Source a3130.N) false :: l) := fun z => ⟨(beqb_ff (ige_eq h3164)), (beqb_ff (ige_eq h3164)), (beqb_ff (ige_eq h3164)), (ige_eq h3164), z⟩
    refine cond_some hF (fun h3165 hF => ?_) (fun h3165 hF => ?_)
    ·
     obtain rfl := Option.some.inj hF
     have pz : HoldAll E H hn94 [.test (beqb (ilt a3131.Limit 0) false) false, .test (beqb (ilt a3131.Limit 0) false) false, .test (beqb (ilt a3131.Limit 0) false) false, .test (ilt a3131.Limit 0) true, .test (beqb true false) false, .test (beqb true false) false, .test (beqb true false) false, .test true true, .test (beqb true false) false, .test (beqb true false) false, .test (beqb true false) false, .test true true, .test true true] := ⟨(beqb_ft h3165), (beqb_ft h3165), (beqb_ft h3165), h3165, (beqb_ft rfl), (beqb_ft rfl), (beqb_ft rfl), rfl, (beqb_ft rfl), (beqb_ft rfl), (beqb_ft rfl), rfl, rfl, trivial⟩
     exact fn_playC hn94 (r := F94_res 1) (pq3193 (pq3206 (pq3207 (pq3208 pz)))) (by kernel_rfl) (by kernel_rfl)
    have pq3209 : ∀ {l : List Cond}, HoldAll E H hn94 l → HoldAll E H hn94 (.test (beqb (ilt a3131.Limit 0) false) true :: .test (beqb (ilt a3131.Limit 0) false) true :: .test (beqb (ilt a3131.Limit 0) false) true :: .test (ilt a3131.Limit 0) false :: l) := fun z => ⟨(beqb_ff h3165), (beqb_ff h3165), (beqb_ff h3165), h3165, z⟩
    refine cond_some hF (fun h3166 hF => ?_) (fun h3166 hF => ?_)
    ·
     obtain rfl := Option.some.inj hF
     have pz : HoldAll E H hn94 [.test (beqb (igt a3131.Limit 40) false) false, .test (beqb (igt a3131.Limit 40) false) false, .test (beqb (igt a3131.Limit 40) false) false, .test (igt a3131.Limit 40) true, .test (beqb true false) false, .test (beqb true false) false, .test (beqb true false) false, .test true true, .test true true] := ⟨(beqb_ft (igt_eq h3166)), (beqb_ft (igt_eq h3166)), (beqb_ft (igt_eq h3166)), (igt_eq h3166), (beqb_ft rfl), (beqb_ft rfl), (beqb_ft rfl), rfl, rfl, trivial⟩
     exact fn_playC hn94 (r := F94_res 1) (pq3193 (pq3206 (pq3207 (pq3208 (pq3209 pz))))) (by kernel_rfl) (by kernel_rfl)
    have pq3210 : ∀ {l : List Cond}, HoldAll E H hn94 l → HoldAll E H hn94 (.test (beqb (igt a3131.Limit 40) false) true :: .test (beqb (igt a3131.Limit 40) false) true :: .test (beqb (igt a3131.Limit 40) false) true :: .test (igt a3131.Limit 40) false :: l) := fun z => ⟨(beqb_ff (igt_eq h3166)), (beqb_ff (igt_eq h3166)), (beqb_ff (igt_eq h3166)), (igt_eq h3166), z⟩
    refine cond_some hF (fun h3167 hF => ?_) (fun h3167 hF => ?_)
    ·
     obtain rfl := Option.some.inj hF
     have pz : HoldAll E H hn94 [.test (beqb (ilt a3131.Parts 1) false) false, .test (beqb (ilt a3131.Parts 1) false) false, .test (beqb (ilt a3131.Parts 1) false) false, .test (ilt a3131.Parts 1) true, .test true true] := ⟨(beqb_ft h3167), (beqb_ft h3167), (beqb_ft h3167), h3167, rfl, trivial⟩
     exact fn_playC hn94 (r := F94_res 1) (pq3193 (pq3206 (pq3207 (pq3208 (pq3209 (pq3210 pz)))))) (by kernel_rfl) (by kernel_rfl)
    have pq3211 : ∀ {l : List Cond}, HoldAll E H hn94 l → HoldAll E H hn94 (.test (beqb (ilt a3131.Parts 1) false) true :: .test (beqb (ilt a3131.Parts 1) false) true :: .test (beqb (ilt a3131.Parts 1) false) true :: .test (ilt a3131.Parts 1) false :: l) := fun z => ⟨(beqb_ff h3167), (beqb_ff h3167), (beqb_ff h3167), h3167, z⟩
    refine cond_some hF (fun h3168 hF => ?_) (fun h3168 hF => ?_)
    ·
     obtain rfl := Option.some.inj hF
     have pz : HoldAll E H hn94 [.test (igt a3131.Parts 6) true] := ⟨(igt_eq h3168), trivial⟩
     exact fn_playC hn94 (r := F94_res 1) (pq3193 (pq3206 (pq3207 (pq3208 (pq3209 (pq3210 (pq3211 pz))))))) (by kernel_rfl) (by kernel_rfl)
    obtain rfl := Option.some.inj hF
    have pz : HoldAll E H hn94 [.test (igt a3131.Parts 6) false] := ⟨(igt_eq h3168), trivial⟩
    exact fn_playC hn94 (r := F94_res 0) (pq3193 (pq3206 (pq3207 (pq3208 (pq3209 (pq3210 (pq3211 pz))))))) (by kernel_rfl) (by kernel_rfl)
   obtain rfl := Option.some.inj hF
   have pz : HoldAll E H hn94 [.call 143 [.one (.lit (.int .i64 a3131.Prog))] (F143_res2 r3143), .test (leadsAny (Res.mk [(.agg [(.im (.lit (fnV 162))), (.im (.lit (fnV 159))), (.im (.lit (.bool r3143.1.only_))), (.im (.lit (fnV 163)))]), (.one (.im (.lit (.bool r3143.2))))] [])) false, .test (beqb (bnot r3143.2) false) false, .test (beqb (bnot r3143.2) false) false, .test (beqb (bnot r3143.2) false) false, .test (bnot r3143.2) true, .test (beqb true false) false, .test (beqb true false) false, .test (beqb true false) false, .test (beqb true false) false, .test (beqb true false) false, .test true true, .test (beqb true false) false, .test (beqb true false) false, .test (beqb true false) false, .test true true, .test (beqb true false) false, .test (beqb true false) false, .test (beqb true false) false, .test true true, .test (beqb true false) false, .test (beqb true false) false, .test (beqb true false) false, .test true true, .test (beqb true false) false, .test (beqb true false) false, .test (beqb true false) false, .test true true, .test true true] := ⟨(F143_ok2 _ h3161 (F143_ok K a3131.Prog _ h3144)), (leads_ok (by simp [leadsAny, RV.leads, RC.leads, leadsT, hasSl_lit])), (beqb_ft (bnot_f h3162)), (beqb_ft (bnot_f h3162)), (beqb_ft (bnot_f h3162)), (bnot_f h3162), (beqb_ft rfl), (beqb_ft rfl), (beqb_ft rfl), (beqb_ft rfl), (beqb_ft rfl), rfl, (beqb_ft rfl), (beqb_ft rfl), (beqb_ft rfl), rfl, (beqb_ft rfl), (beqb_ft rfl), (beqb_ft rfl), rfl, (beqb_ft rfl), (beqb_ft rfl), (beqb_ft rfl), rfl, (beqb_ft rfl), (beqb_ft rfl), (beqb_ft rfl), rfl, rfl, trivial⟩
   exact fn_playC hn94 (r := F94_res 1) (pq3193 pz) (by kernel_rfl) (by kernel_rfl)
  refine cond_some hF (fun h3169 hF => ?_) (fun h3169 hF => ?_)
  ·
   refine cond_some hF (fun h3170 hF => ?_) (fun h3170 hF => ?_)
   ·
    have pq3212 : ∀ {l : List Cond}, HoldAll E H hn94 l → HoldAll E H hn94 (.call 143 [.one (.lit (.int .i64 a3131.Prog))] (F143_res3 r3143) :: .test (leadsAny (Res.mk [(.agg [(.im (.lit (fnV 164))), (.im (.lit (fnV 165))), (.im (.lit (.bool r3143.1.only_))), (.im (.lit (fnV 163)))]), (.one (.im (.lit (.bool r3143.2))))] [])) false :: .test (beqb (bnot r3143.2) false) true :: .test (beqb (bnot r3143.2) false) true :: .test (beqb (bnot r3143.2) false) true :: .test (bnot r3143.2) false :: l) := fun z => ⟨(F143_ok3 _ h3169 (F143_ok K a3131.Prog _ h3144)), (leads_ok (by simp [leadsAny, RV.leads, RC.leads, leadsT, hasSl_lit])), (beqb_ff (bnot_t h3170)), (beqb_ff (bnot_t h3170)), (beqb_ff (bnot_t h3170)), (bnot_t h3170), z⟩
    refine cond_some hF (fun h3171 hF => ?_) (fun h3171 hF => ?_)
    ·
     obtain rfl := Option.some.inj hF
     have pz : HoldAll E H hn94 [.test (beqb (ilt a3131.Source 0) false) false, .test (beqb (ilt a3131.Source 0) false) false, .test (beqb (ilt a3131.Source 0) false) false, .test (beqb (ilt a3131.Source 0) false) false, .test (beqb (ilt a3131.Source 0) false) false, .test (ilt a3131.Source 0) true, .test (beqb true false) false, .test (beqb true false) false, .test (beqb true false) false, .test true true, .test (beqb true false) false, .test (beqb true false) false, .test (beqb true false) false, .test true true, .test (beqb true false) false, .test (beqb true false) false, .test (beqb true false) false, .test true true, .test (beqb true false) false, .test (beqb true false) false, .test (beqb true false) false, .test true true, .test true true] := ⟨(beqb_ft h3171), (beqb_ft h3171), (beqb_ft h3171), (beqb_ft h3171), (beqb_ft h3171), h3171, (beqb_ft rfl), (beqb_ft rfl), (beqb_ft rfl), rfl, (beqb_ft rfl), (beqb_ft rfl), (beqb_ft rfl), rfl, (beqb_ft rfl), (beqb_ft rfl), (beqb_ft rfl), rfl, (beqb_ft rfl), (beqb_ft rfl), (beqb_ft rfl), rfl, rfl, trivial⟩
     exact fn_playC hn94 (r := F94_res 1) (pq3193 (pq3212 pz)) (by kernel_rfl) (by kernel_rfl)
    have pq3213 : ∀ {l : List Cond}, HoldAll E H hn94 l → HoldAll E H hn94 (.test (beqb (ilt a3131.Source 0) false) true :: .test (beqb (ilt a3131.Source 0) false) true :: .test (beqb (ilt a3131.Source 0) false) true :: .test (beqb (ilt a3131.Source 0) false) true :: .test (beqb (ilt a3131.Source 0) false) true :: .test (ilt a3131.Source 0) false :: l) := fun z => ⟨(beqb_ff h3171), (beqb_ff h3171), (beqb_ff h3171), (beqb_ff h3171), (beqb_ff h3171), h3171, z⟩
    refine cond_some hF (fun h3172 hF => ?_) (fun h3172 hF => ?_)
    ·
     obtain rfl := Option.some.inj hF
     have pz : HoldAll E H hn94 [.test (beqb (ige a3131.Source a3130.N) false) false, .test (beqb (ige a3131.Source a3130.N) false) false, .test (beqb (ige a3131.Source a3130.N) false) false, .test (ige a3131.Source a3130.N) true, .test (beqb true false) false, .test (beqb true false) false, .test (beqb true false) false, .test true true, .test (beqb true false) false, .test (beqb true false) false, .test (beqb true false) false, .test true true, .test (beqb true false) false, .test (beqb true false) false, .test (beqb true false) false, .test true true, .test true true] := ⟨(beqb_ft (ige_eq h3172)), (beqb_ft (ige_eq h3172)), (beqb_ft (ige_eq h3172)), (ige_eq h3172), (beqb_ft rfl), (beqb_ft rfl), (beqb_ft rfl), rfl, (beqb_ft rfl), (beqb_ft rfl), (beqb_ft rfl), rfl, (beqb_ft rfl), (beqb_ft rfl), (beqb_ft rfl), rfl, rfl, trivial⟩
     exact fn_playC hn94 (r := F94_res 1) (pq3193 (pq3212 (pq3213 pz))) (by kernel_rfl) (by kernel_rfl)
    have pq3214 : ∀ {l : List Cond}, HoldAll E H hn94 l → HoldAll E H hn94 (.test (beqb (ige a3131.Source a3130.N) false) true :: .test (beqb (ige a3131.Source a3130.N) false) true :: .test (beqb (ige a3131.Source a3130.N) false) true :: .test (ige a3131.Source a3130.N) false :: l) := fun z => ⟨(beqb_ff (ige_eq h3172)), (beqb_ff (ige_eq h3172)), (beqb_ff (ige_eq h3172)), (ige_eq h3172), z⟩
    refine cond_some hF (fun h3173 hF => ?_) (fun h3173 hF => ?_)
    ·
     obtain rfl := Option.some.inj hF
     have pz : HoldAll E H hn94 [.test (beqb (ilt a3131.Limit 0) false) false, .test (beqb (ilt a3131.Limit 0) false) false, .test (beqb (ilt a3131.Limit 0) false) false, .test (ilt a3131.Limit 0) true, .test (beqb true false) false, .test (beqb true false) false, .test (beqb true false) false, .test true true, .test (beqb true false) false, .test (beqb true false) false, .test (beqb true false) false, .test true true, .test true true] := ⟨(beqb_ft h3173), (beqb_ft h3173), (beqb_ft h3173), h3173, (beqb_ft rfl), (beqb_ft rfl), (beqb_ft rfl), rfl, (beqb_ft rfl), (beqb_ft rfl), (beqb_ft rfl), rfl, rfl, trivial⟩
     exact fn_playC hn94 (r := F94_res 1) (pq3193 (pq3212 (pq3213 (pq3214 pz)))) (by kernel_rfl) (by kernel_rfl)
    have pq3215 : ∀ {l : List Cond}, HoldAll E H hn94 l → HoldAll E H hn94 (.test (beqb (ilt a3131.Limit 0) false) true :: .test (beqb (ilt a3131.Limit 0) false) true :: .test (beqb (ilt a3131.Limit 0) false) true :: .test (ilt a3131.Limit 0) false :: l) := fun z => ⟨(beqb_ff h3173), (beqb_ff h3173), (beqb_ff h3173), h3173, z⟩
    refine cond_some hF (fun h3174 hF => ?_) (fun h3174 hF => ?_)
    ·
     obtain rfl := Option.some.inj hF
     have pz : HoldAll E H hn94 [.test (beqb (igt a3131.Limit 40) false) false, .test (beqb (igt a3131.Limit 40) false) false, .test (beqb (igt a3131.Limit 40) false) false, .test (igt a3131.Limit 40) true, .test (beqb true false) false, .test (beqb true false) false, .test (beqb true false) false, .test true true, .test true true] := ⟨(beqb_ft (igt_eq h3174)), (beqb_ft (igt_eq h3174)), (beqb_ft (igt_eq h3174)), (igt_eq h3174), (beqb_ft rfl), (beqb_ft rfl), (beqb_ft rfl), rfl, rfl, trivial⟩
     exact fn_playC hn94 (r := F94_res 1) (pq3193 (pq3212 (pq3213 (pq3214 (pq3215 pz))))) (by kernel_rfl) (by kernel_rfl)
    have pq3216 : ∀ {l : List Cond}, HoldAll E H hn94 l → HoldAll E H hn94 (.test (beqb (igt a3131.Limit 40) false) true :: .test (beqb (igt a3131.Limit 40) false) true :: .test (beqb (igt a3131.Limit 40) false) true :: .test (igt a3131.Limit 40) false :: l) := fun z => ⟨(beqb_ff (igt_eq h3174)), (beqb_ff (igt_eq h3174)), (beqb_ff (igt_eq h3174)), (igt_eq h3174), z⟩
    refine cond_some hF (fun h3175 hF => ?_) (fun h3175 hF => ?_)
    ·
     obtain rfl := Option.some.inj hF
     have pz : HoldAll E H hn94 [.test (beqb (ilt a3131.Parts 1) false) false, .test (beqb (ilt a3131.Parts 1) false) false, .test (beqb (ilt a3131.Parts 1) false) false, .test (ilt a3131.Parts 1) true, .test true true] := ⟨(beqb_ft h3175), (beqb_ft h3175), (beqb_ft h3175), h3175, rfl, trivial⟩
     exact fn_playC hn94 (r := F94_res 1) (pq3193 (pq3212 (pq3213 (pq3214 (pq3215 (pq3216 pz)))))) (by kernel_rfl) (by kernel_rfl)
    have pq3217 : ∀ {l : List Cond}, HoldAll E H hn94 l → HoldAll E H hn94 (.test (beqb (ilt a3131.Parts 1) false) true :: .test (beqb (ilt a3131.Parts 1) false) true :: .test (beqb (ilt a3131.Parts 1) false) true :: .test (ilt a3131.Parts 1) false :: l) := fun z => ⟨(beqb_ff h3175), (beqb_ff h3175), (beqb_ff h3175), h3175, z⟩
    refine cond_some hF (fun h3176 hF => ?_) (fun h3176 hF => ?_)
    ·
     obtain rfl := Option.some.inj hF
     have pz : HoldAll E H hn94 [.test (igt a3131.Parts 6) true] := ⟨(igt_eq h3176), trivial⟩
     exact fn_playC hn94 (r := F94_res 1) (pq3193 (pq3212 (pq3213 (pq3214 (pq3215 (pq3216 (pq3217 pz))))))) (by kernel_rfl) (by kernel_rfl)
    obtain rfl := Option.some.inj hF
    have pz : HoldAll E H hn94 [.test (igt a3131.Parts 6) false] := ⟨(igt_eq h3176), trivial⟩
    exact fn_playC hn94 (r := F94_res 0) (pq3193 (pq3212 (pq3213 (pq3214 (pq3215 (pq3216 (pq3217 pz))))))) (by kernel_rfl) (by kernel_rfl)
   obtain rfl := Option.some.inj hF
   have pz : HoldAll E H hn94 [.call 143 [.one (.lit (.int .i64 a3131.Prog))] (F143_res3 r3143), .test (leadsAny (Res.mk [(.agg [(.im (.lit (fnV 164))), (.im (.lit (fnV 165))), (.im (.lit (.bool r3143.1.only_))), (.im (.lit (fnV 163)))]), (.one (.im (.lit (.bool r3143.2))))] [])) false, .test (beqb (bnot r3143.2) false) false, .test (beqb (bnot r3143.2) false) false, .test (beqb (bnot r3143.2) false) false, .test (bnot r3143.2) true, .test (beqb true false) false, .test (beqb true false) false, .test (beqb true false) false, .test (beqb true false) false, .test (beqb true false) false, .test true true, .test (beqb true false) false, .test (beqb true false) false, .test (beqb true false) false, .test true true, .test (beqb true false) false, .test (beqb true false) false, .test (beqb true false) false, .test true true, .test (beqb true false) false, .test (beqb true false) false, .test (beqb true false) false, .test true true, .test (beqb true false) false, .test (beqb true false) false, .test (beqb true false) false, .test true true, .test true true] := ⟨(F143_ok3 _ h3169 (F143_ok K a3131.Prog _ h3144)), (leads_ok (by simp [leadsAny, RV.leads, RC.leads, leadsT, hasSl_lit])), (beqb_ft (bnot_f h3170)), (beqb_ft (bnot_f h3170)), (beqb_ft (bnot_f h3170)), (bnot_f h3170), (beqb_ft rfl), (beqb_ft rfl), (beqb_ft rfl), (beqb_ft rfl), (beqb_ft rfl), rfl, (beqb_ft rfl), (beqb_ft rfl), (beqb_ft rfl), rfl, (beqb_ft rfl), (beqb_ft rfl), (beqb_ft rfl), rfl, (beqb_ft rfl), (beqb_ft rfl), (beqb_ft rfl), rfl, (beqb_ft rfl), (beqb_ft rfl), (beqb_ft rfl), rfl, rfl, trivial⟩
   exact fn_playC hn94 (r := F94_res 1) (pq3193 pz) (by kernel_rfl) (by kernel_rfl)
  refine cond_some hF (fun h3177 hF => ?_) (fun h3177 hF => ?_)
  ·
   refine cond_some hF (fun h3178 hF => ?_) (fun h3178 hF => ?_)
   ·
    have pq3218 : ∀ {l : List Cond}, HoldAll E H hn94 l → HoldAll E H hn94 (.call 143 [.one (.lit (.int .i64 a3131.Prog))] (F143_res4 r3143) :: .test (leadsAny (Res.mk [(.agg [(.im (.lit (fnV 166))), (.im (.lit .nilFunc)), (.im (.lit (.bool r3143.1.only_))), (.im (.lit (fnV 163)))]), (.one (.im (.lit (.bool r3143.2))))] [])) false :: .test (beqb (bnot r3143.2) false) true :: .test (beqb (bnot r3143.2) false) true :: .test (beqb (bnot r3143.2) false) true :: .test (bnot r3143.2) false :: l) := fun z => ⟨(F143_ok4 _ h3177 (F143_ok K a3131.Prog _ h3144)), (leads_ok (by simp [leadsAny, RV.leads, RC.leads, leadsT, hasSl_lit])), (beqb_ff (bnot_t h3178)), (beqb_ff (bnot_t h3178)), (beqb_ff (bnot_t h3178)), (bnot_t h3178), z⟩
    refine cond_some hF (fun h3179 hF => ?_) (fun h3179 hF => ?_)
    ·
     obtain rfl := Option.some.inj hF
     have pz : HoldAll E H hn94 [.test (beqb (ilt a3131.Source 0) false) false, .test (beqb (ilt a3131.Source 0) false) false, .test (beqb (ilt a3131.Source 0) false) false, .test (beqb (ilt a3131.Source 0) false) false, .test (beqb (ilt a3131.Source 0) false) false, .test (ilt a3131.Source 0) true, .test (beqb true false) false, .test (beqb true false) false, .test (beqb true false) false, .test true true, .test (beqb true false) false, .test (beqb true false) false, .test (beqb true false) false, .test true true, .test (beqb true false) false, .test (beqb true false) false, .test (beqb true false) false, .test true true, .test (beqb true false) false, .test (beqb true false) false, .test (beqb true false) false, .test true true, .test true true] := ⟨(beqb_ft h3179), (beqb_ft h3179), (beqb_ft h3179), (beqb_ft h3179), (beqb_ft h3179), h3179, (beqb_ft rfl), (beqb_ft rfl), (beqb_ft rfl), rfl, (beqb_ft rfl), (beqb_ft rfl), (beqb_ft rfl), rfl, (beqb_ft rfl), (beqb_ft rfl), (beqb_ft rfl), rfl, (beqb_ft rfl), (beqb_ft rfl), (beqb_ft rfl), rfl, rfl, trivial⟩
     exact fn_playC hn94 (r := F94_res 1) (pq3193 (pq3218 pz)) (by kernel_rfl) (by kernel_rfl)
    have pq3219 : ∀ {l : List Cond}, HoldAll E H hn94 l → HoldAll E H hn94 (.test (beqb (ilt a3131.Source 0) false) true :: .test (beqb (ilt a3131.Source 0) false) true :: .test (beqb (ilt a3131.Source 0) false) true :: .test (beqb (ilt a3131.Source 0) false) true :: .test (beqb (ilt a3131.Source 0) false) true :: .test (ilt a3131.Source 0) false :: l) := fun z => ⟨(beqb_ff h3179), (beqb_ff h3179), (beqb_ff h3179), (beqb_ff h3179), (beqb_ff h3179), h3179, z⟩
    refine cond_some hF (fun h3180 hF => ?_) (fun h3180 hF => ?_)
    ·
     obtain rfl := Option.some.inj hF
     have pz : HoldAll E H hn94 [.test (beqb (ige a3131.Source a3130.N) false) false, .test (beqb (ige a3131.Source a3130.N) false) false, .test (beqb (ige a3131.Source a3130.N) false) false, .test (ige a3131.Source a3130.N) true, .test (beqb true false) false, .test (beqb true false) false, .test (beqb true false) false, .test true true, .test (beqb true false) false, .test (beqb true false) false, .test (beqb true false) false, .test true true, .test (beqb true false) false, .test (beqb true false) false, .test (beqb true false) false, .test true true, .test true true] := ⟨(beqb_ft (ige_eq h3180)), (beqb_ft (ige_eq h3180)), (beqb_ft (ige_eq h3180)), (ige_eq h3180), (beqb_ft rfl), (beqb_ft rfl), (beqb_ft rfl), rfl, (beqb_ft rfl), (beqb_ft rfl), (beqb_ft rfl), rfl, (beqb_ft rfl), (beqb_ft rfl), (beqb_ft rfl), rfl, rfl, trivial⟩
     exact fn_playC hn94 (r := F94_res 1) (pq3193 (pq3218 (pq3219 pz))) (by kernel_rfl) (by kernel_rfl)
    have pq3220 : ∀ {l : List Cond}, HoldAll E H hn94 l → HoldAll E H hn94 (.test (beqb (ige a3131.Source a3130.N) false) true :: .test (beqb (ige a3131.Source a3130.N) false) true :: .test (beqb (ige a3131.Source a3130.N) false) true :: .test (ige a3131.Source a3130.N) false :: l) := fun z => ⟨(beqb_ff (ige_eq h3180)), (beqb_ff (ige_eq h3180)), (beqb_ff (ige_eq h3180)), (ige_eq h3180), z⟩
    refine cond_some hF (fun h3181 hF => ?_) (fun h3181 hF => ?_)
    ·
     obtain rfl := Option.some.inj hF
     have pz : HoldAll E H hn94 [.test (beqb (ilt a3131.Limit 0) false) false, .test (beqb (ilt a3131.Limit 0) false) false, .test (beqb (ilt a3131.Limit 0) false) false, .test (ilt a3131.Limit 0) true, .test (beqb true false) false, .test (beqb true false) false, .test (beqb true false) false, .test true true, .test (beqb true false) false, .test (beqb true false) false, .test (beqb true false) false, .test true true, .test true true] := ⟨(beqb_ft h3181), (beqb_ft h3181), (beqb_ft h3181), h3181, (beqb_ft rfl), (beqb_ft rfl), (beqb_ft rfl), rfl, (beqb_ft rfl), (beqb_ft rfl), (beqb_ft rfl), rfl, rfl, trivial⟩
     exact fn_playC hn94 (r := F94_res 1) (pq3193 (pq3218 (pq3219 (pq3220 pz)))) (by kernel_rfl) (by kernel_rfl)
    have pq3221 : ∀ {l : List Cond}, HoldAll E H hn94 l → HoldAll E H hn94 (.test (beqb (ilt a3131.Limit 0) false) true :: .test (beqb (ilt a3131.Limit 0) false) true :: .test (beqb (ilt a3131.Limit 0) false) true :: .test (ilt a3131.Limit 0) false :: l) := fun z => ⟨(beqb_ff h3181), (beqb_ff h3181), (beqb_ff h3181), h3181, z⟩
    refine cond_some hF (fun h3182 hF => ?_) (fun h3182 hF => ?_)
    ·
     obtain rfl := Option.some.inj hF
     have pz : HoldAll E H hn94 [.test (beqb (igt a3131.Limit 40) false) false, .test (beqb (igt a3131.Limit 40) false) false, .test (beqb (igt a3131.Limit 40) false) false, .test (igt a3131.Limit 40) true, .test (beqb true false) false, .test (beqb true false) false, .test (beqb true false) false, .test true true, .test true true] := ⟨(beqb_ft (igt_eq h3182)), (beqb_ft (igt_eq h3182)), (beqb_ft (igt_eq h3182)), (igt_eq h3182), (beqb_ft rfl), (beqb_ft rfl), (beqb_ft rfl), rfl, rfl, trivial⟩
     exact fn_playC hn94 (r := F94_res 1) (pq3193 (pq3218 (pq3219 (pq3220 (pq3221 pz))))) (by kernel_rfl) (by kernel_rfl)
    have pq3222 : ∀ {l : List Cond}, HoldAll E H hn94 l → HoldAll E H hn94 (.test (beqb (igt a3131.Limit 40) false) true :: .test (beqb (igt a3131.Limit 40) false) true :: .test (beqb (igt a3131.Limit 40) false) true :: .test (igt a3131.Limit 40) false :: l) := fun z => ⟨(beqb_ff (igt_eq h3182)), (beqb_ff (igt_eq h3182)), (beqb_ff (igt_eq h3182)), (igt_eq h3182), z⟩
    refine cond_some hF (fun h3183 hF => ?_) (fun h3183 hF => ?_)
    ·
     obtain rfl := Option.some.inj hF
     have pz : HoldAll E H hn94 [.test (beqb (ilt a3131.Parts 1) false) false, .test (beqb (ilt a3131.Parts 1) false) false, .test (beqb (ilt a3131.Parts 1) false) false, .test (ilt a3131.Parts 1) true, .test true true] := ⟨(beqb_ft h3183), (beqb_ft h3183), (beqb_ft h3183), h3183, rfl, trivial⟩
     exact fn_playC hn94 (r := F94_res 1) (pq3193 (pq3218 (pq3219 (pq3220 (pq3221 (pq3222 pz)))))) (by kernel_rfl) (by kernel_rfl)
    have pq3223 : ∀ {l : List Cond}, HoldAll E H hn94 l → HoldAll E H hn94 (.test (beqb (ilt a3131.Parts 1) false) true :: .test (beqb (ilt a3131.Parts 1) false) true :: .test (beqb (ilt a3131.Parts 1) false) true :: .test (ilt a3131.Parts 1) false :: l) := fun z => ⟨(beqb_ff h3183), (beqb_ff h3183), (beqb_ff h3183), h3183, z⟩
    refine cond_some hF (fun h3184 hF => ?_) (fun h3184 hF => ?_)
    ·
     obtain rfl := Option.some.inj hF
     have pz : HoldAll E H hn94 [.test (igt a3131.Parts 6) true] := ⟨(igt_eq h3184), trivial⟩
     exact fn_playC hn94 (r := F94_res 1) (pq3193 (pq3218 (pq3219 (pq3220 (pq3221 (pq3222 (pq3223 pz))))))) (by kernel_rfl) (by kernel_rfl)
    obtain rfl := Option.some.inj hF
    have pz : HoldAll E H hn94 [.test (igt a3131.Parts 6) false] := ⟨(igt_eq h3184), trivial⟩
    exact fn_playC hn94 (r := F94_res 0) (pq3193 (pq3218 (pq3219 (pq3220 (pq3221 (pq3222 (pq3223 pz))))))) (by kernel_rfl) (by kernel_rfl)
   obtain rfl := Option.some.inj hF
   have pz : HoldAll E H hn94 [.call 143 [.one (.lit (.int .i64 a3131.Prog))] (F143_res4 r3143), .test (leadsAny (Res.mk [(.agg [(.im (.lit (fnV 166))), (.im (.lit .nilFunc)), (.im (.lit (.bool r3143.1.only_))), (.im (.lit (fnV 163)))]), (.one (.im (.lit (.bool r3143.2))))] [])) false, .test (beqb (bnot r3143.2) false) false, .test (beqb (bnot r3143.2) false) false, .test (beqb (bnot r3143.2) false) false, .test (bnot r3143.2) true, .test (beqb true false) false, .test (beqb true false) false, .test (beqb true false) false, .test (beqb true false) false, .test (beqb true false) false, .test true true, .test (beqb true false) false, .test (beqb true false) false, .test (beqb true false) false, .test true true, .test (beqb true false) false, .test (beqb true false) false, .test (beqb true false) false, .test true true, .test (beqb true false) false, .test (beqb true false) false, .test (beqb true false) false, .test true true, .test (beqb true false) false, .test (beqb true false) false, .test (beqb true false) false, .test true true, .test true true] := ⟨(F143_ok4 _ h3177 (F143_ok K a3131.Prog _ h3144)), (leads_ok (by simp [leadsAny, RV.leads, RC.leads, leadsT, hasSl_lit])), (beqb_ft (bnot_f h3178)), (beqb_ft (bnot_f h3178)), (beqb_ft (bnot_f h3178)), (bnot_f h3178), (beqb_ft rfl), (beqb_ft rfl), (beqb_ft rfl), (beqb_ft rfl), (beqb_ft rfl), rfl, (beqb_ft rfl), (beqb_ft rfl), (beqb_ft rfl), rfl, (beqb_ft rfl), (beqb_ft rfl), (beqb_ft rfl), rfl, (beqb_ft rfl), (beqb_ft rfl), (beqb_ft rfl), rfl, (beqb_ft rfl), (beqb_ft rfl), (beqb_ft rfl), rfl, rfl, trivial⟩
   exact fn_playC hn94 (r := F94_res 1) (pq3193 pz) (by kernel_rfl) (by kernel_rfl)
  refine cond_some hF (fun h3185 hF => ?_) (fun _ hF => nomatch hF)
  refine cond_some hF (fun h3186 hF => ?_) (fun h3186 hF => ?_)
  ·
   have pq3224 : ∀ {l : List Cond}, HoldAll E H hn94 l → HoldAll E H hn94 (.call 143 [.one (.lit (.int .i64 a3131.Prog))] (F143_res5 r3143) :: .test (leadsAny (Res.mk [(.agg [(.im (.lit .nilFunc)), (.im (.lit .nilFunc)), (.im (.lit (.bool r3143.1.only_))), (.im (.lit .nilFunc))]), (.one (.im (.lit (.bool r3143.2))))] [])) false :: .test (beqb (bnot r3143.2) false) true :: .test (beqb (bnot r3143.2) false) true :: .test (beqb (bnot r3143.2) false) true :: .test (bnot r3143.2) false :: l) := fun z => ⟨(F143_ok5 _ h3185 (F143_ok K a3131.Prog _ h3144)), (leads_ok (by simp [leadsAny, RV.leads, RC.leads, leadsT, hasSl_lit])), (beqb_ff (bnot_t h3186)), (beqb_ff (bnot_t h3186)), (beqb_ff (bnot_t h3186)), (bnot_t h3186), z⟩
   refine cond_some hF (fun h3187 hF => ?_) (fun h3187 hF => ?_)
   ·
    obtain rfl := Option.some.inj hF
    have pz : HoldAll E H hn94 [.test (beqb (ilt a3131.Source 0) false) false, .test (beqb (ilt a3131.Source 0) false) false, .test (beqb (ilt a3131.Source 0) false) false, .test (beqb (ilt a3131.Source 0) false) false, .test (beqb (ilt a3131.Source 0) false) false, .test (ilt a3131.Source 0) true, .test (beqb true false) false, .test (beqb true false) false, .test (beqb true false) false, .test true true, .test (beqb true false) false, .test (beqb true false) false, .test (beqb true false) false, .test true true, .test (beqb true false) false, .test (beqb true false) false, .test (beqb true false) false, .test true true, .test (beqb true false) false, .test (beqb true false) false, .test (beqb true false) false, .test true true, .test true true] := ⟨(beqb_ft h3187), (beqb_ft h3187), (beqb_ft h3187), (beqb_ft h3187), (beqb_ft h3187), h3187, (beqb_ft rfl), (beqb_ft rfl), (beqb_ft rfl), rfl, (beqb_ft rfl), (beqb_ft rfl), (beqb_ft rfl), rfl, (beqb_ft rfl), (beqb_ft rfl), (beqb_ft rfl), rfl, (beqb_ft rfl), (beqb_ft rfl), (beqb_ft rfl), rfl, rfl, trivial⟩
    exact fn_playC hn94 (r := F94_res 1) (pq3193 (pq3224 pz)) (by kernel_rfl) (by kernel_rfl)
   have pq3225 : ∀ {l : List Cond}, HoldAll E H hn94 l → HoldAll E H hn94 (.test (beqb (ilt a3131.Source 0) false) true :: .test (beqb (ilt a3131.Source 0) false) true :: .test (beqb (ilt a3131.Source 0) false) true :: .test (beqb (ilt a3131.Source 0) false) true :: .test (beqb (ilt a3131.Source 0) false) true :: .test (ilt a3131.Source 0) false :: l) := fun z => ⟨(beqb_ff h3187), (beqb_ff h3187), (beqb_ff h3187), (beqb_ff h3187), (beqb_ff h3187), h3187, z⟩
   refine cond_some hF (fun h3188 hF => ?_) (fun h3188 hF => ?_)
   ·
    obtain rfl := Option.some.inj hF
    have pz : HoldAll E H hn94 [.test (beqb (ige a3131.Source a3130.N) false) false, .test (beqb (ige a3131.Source a3130.N) false) false, .test (beqb (ige a3131.Source a3130.N) false) false, .test (ige a3131.Source a3130.N) true, .test (beqb true false) false, .test (beqb true false) false, .test (beqb true false) false, .test true true, .test (beqb true false) false, .test (beqb true false) false, .test (beqb true false) false, .test true true, .test (beqb true false) false, .test (beqb true false) false, .test (beqb true false) false, .test true true, .test true true] := ⟨(beqb_ft (ige_eq h3188)), (beqb_ft (ige_eq h3188)), (beqb_ft (ige_eq h3188)), (ige_eq h3188), (beqb_ft rfl), (beqb_ft rfl), (beqb_ft rfl), rfl, (beqb_ft rfl), (beqb_ft rfl), (beqb_ft rfl), rfl, (beqb_ft rfl), (beqb_ft rfl), (beqb_ft rfl), rfl, rfl, trivial⟩
    exact fn_playC hn94 (r := F94_res 1) (pq3193 (pq3224 (pq3225 pz))) (by kernel_rfl) (by kernel_rfl)
   have pq3226 : ∀ {l : List Cond}, HoldAll E H hn94 l → HoldAll E H hn94 (.test (beqb (ige a3131.Source a3130.N) false) true :: .test (beqb (ige a3131.Source a3130.N) false) true :: .test (beqb (ige a3131.Source a3130.N) false) true :: .test (ige a3131.Source a3130.N) false :: l) := fun z => ⟨(beqb_ff (ige_eq h3188)), (beqb_ff (ige_eq h3188)), (beqb_ff (ige_eq h3188)), (ige_eq h3188), z⟩
   refine cond_some hF (fun h3189 hF => ?_) (fun h3189 hF => ?_)
   ·
    obtain rfl := Option.some.inj hF
    have pz : HoldAll E H hn94 [.test (beqb (ilt a3131.Limit 0) false) false, .test (beqb (ilt a3131.Limit 0) false) false, .test (beqb (ilt a3131.Limit 0) false) false, .test (ilt a3131.Limit 0) true, .test (beqb true false) false, .test (beqb true false) false, .test (beqb true false) false, .test true true, .test (beqb true false) false, .test (beqb true false) false, .test (beqb true false) false, .test true true, .test true true] := ⟨(beqb_ft h3189), (beqb_ft h3189), (beqb_ft h3189), h3189, (beqb_ft rfl), (beqb_ft rfl), (beqb_ft rfl), rfl, (beqb_ft rfl), (beqb_ft rfl), (beqb_ft rfl), rfl, rfl, trivial⟩
    exact fn_playC hn94 (r := F94_res 1) (pq3193 (pq3224 (pq3225 (pq3226 pz)))) (by kernel_rfl) (by kernel_rfl)
   have pq3227 : ∀ {l : List Cond}, HoldAll E H hn94 l → HoldAll E H hn94 (.test (beqb (ilt a3131.Limit 0) false) true :: .test (beqb (ilt a3131.Limit 0) false) true :: .test (beqb (ilt a3131.Limit 0) false) true :: .test (ilt a3131.Limit 0) false :: l) := fun z => ⟨(beqb_ff h3189), (beqb_ff h3189), (beqb_ff h3189), h3189, z⟩
   refine cond_some hF (fun h3190 hF => ?_) (fun h3190 hF => ?_)
   ·
    obtain rfl := Option.some.inj hF
    have pz : HoldAll E H hn94 [.test (beqb (igt a3131.Limit 40) false) false, .test (beqb (igt a3131.Limit 40) false) false, .test (beqb (igt a3131.Limit 40) false) false, .test (igt a3131.Limit 40) true, .test (beqb true false) false, .test (beqb true false) false, .test (beqb true false) false, .test true true, .test true true] := ⟨(beqb_ft (igt_eq h3190)), (beqb_ft (igt_eq h3190)), (beqb_ft (igt_eq h3190)), (igt_eq h3190), (beqb_ft rfl), (beqb_ft rfl), (beqb_ft rfl), rfl, rfl, trivial⟩
    exact fn_playC hn94 (r := F94_res 1) (pq3193 (pq3224 (pq3225 (pq3226 (pq3227 pz))))) (by kernel_rfl) (by kernel_rfl)
   have pq3228 : ∀ {l : List Cond}, HoldAll E H hn94 l → HoldAll E H hn94 (.test (beqb (igt a3131.Limit 40) false) true :: .test (beqb (igt a3131.Limit 40) false) true :: .test (beqb (igt a3131.Limit 40) false) true :: .test (igt a3131.Limit 40) false :: l) := fun z => ⟨(beqb_ff (igt_eq h3190)), (beqb_ff (igt_eq h3190)), (beqb_ff (igt_eq h3190)), (igt_eq h3190), z⟩
   refine cond_some hF (fun h3191 hF => ?_) (fun h3191 hF => ?_)
   ·
    obtain rfl := Option.some.inj hF
    have pz : HoldAll E H hn94 [.test (beqb (ilt a3131.Parts 1) false) false, .test (beqb (ilt a3131.Parts 1) false) false, .test (beqb (ilt a3131.Parts 1) false) false, .test (ilt a3131.Parts 1) true, .test true true] := ⟨(beqb_ft h3191), (beqb_ft h3191), (beqb_ft h3191), h3191, rfl, trivial⟩
    exact fn_playC hn94 (r := F94_res 1) (pq3193 (pq3224 (pq3225 (pq3226 (pq3227 (pq3228 pz)))))) (by kernel_rfl) (by kernel_rfl)
   have pq3229 : ∀ {l : List Cond}, HoldAll E H hn94 l → HoldAll E H hn94 (.test (beqb (ilt a3131.Parts 1) false) true :: .test (beqb (ilt a3131.Parts 1) false) true :: .test (beqb (ilt a3131.Parts 1) false) true :: .test (ilt a3131.Parts 1) false :: l) := fun z => ⟨(beqb_ff h3191), (beqb_ff h3191), (beqb_ff h3191), h3191, z⟩
   refine cond_some hF (fun h3192 hF => ?_) (fun h3192 hF => ?_)
   ·
    obtain rfl := Option.some.inj hF
    have pz : HoldAll E H hn94 [.test (igt a3131.Parts 6) true] := ⟨(igt_eq h3192), trivial⟩
    exact fn_playC hn94 (r := F94_res 1) (pq3193 (pq3224 (pq3225 (pq3226 (pq3227 (pq3228 (pq3229 pz))))))) (by kernel_rfl) (by kernel_rfl)
   obtain rfl := Option.some.inj hF
   have pz : HoldAll E H hn94 [.test (igt a3131.Parts 6) false] := ⟨(igt_eq h3192), trivial⟩
   exact fn_playC hn94 (r := F94_res 0) (pq3193 (pq3224 (pq3225 (pq3226 (pq3227 (pq3228 (pq3229 pz))))))) (by kernel_rfl) (by kernel_rfl)
  obtain rfl := Option.some.inj hF
  have pz : HoldAll E H hn94 [.call 143 [.one (.lit (.int .i64 a3131.Prog))] (F143_res5 r3143), .test (leadsAny (Res.mk [(.agg [(.im (.lit .nilFunc)), (.im (.lit .nilFunc)), (.im (.lit (.bool r3143.1.only_))), (.im (.lit .nilFunc))]), (.one (.im (.lit (.bool r3143.2))))] [])) false, .test (beqb (bnot r3143.2) false) false, .test (beqb (bnot r3143.2) false) false, .test (beqb (bnot r3143.2) false) false, .test (bnot r3143.2) true, .test (beqb true false) false, .test (beqb true false) false, .test (beqb true false) false, .test (beqb true false) false, .test (beqb true false) false, .test true true, .test (beqb true false) false, .test (beqb true false) false, .test (beqb true false) false, .test true true, .test (beqb true false) false, .test (beqb true false) false, .test (beqb true false) false, .test true true, .test (beqb true false) false, .test (beqb true false) false, .test (beqb true false) false, .test true true, .test (beqb true false) false, .test (beqb true false) false, .test (beqb true false) false, .test true true, .test true true] := ⟨(F143_ok5 _ h3185 (F143_ok K a3131.Prog _ h3144)), (leads_ok (by simp [leadsAny, RV.leads, RC.leads, leadsT, hasSl_lit])), (beqb_ft (bnot_f h3186)), (beqb_ft (bnot_f h3186)), (beqb_ft (bnot_f h3186)), (bnot_f h3186), (beqb_ft rfl), (beqb_ft rfl), (beqb_ft rfl), (beqb_ft rfl), (beqb_ft rfl), rfl, (beqb_ft rfl), (beqb_ft rfl), (beqb_ft rfl), rfl, (beqb_ft rfl), (beqb_ft rfl), (beqb_ft rfl), rfl, (beqb_ft rfl), (beqb_ft rfl), (beqb_ft rfl), rfl, (beqb_ft rfl), (beqb_ft rfl), (beqb_ft rfl), rfl, rfl, trivial⟩
  exact fn_playC hn94 (r := F94_res 1) (pq3193 pz) (by kernel_rfl) (by kernel_rfl)
 obtain rfl := Option.some.inj hF
 have pz : HoldAll E H hn94 [.call 64 [.agg (eGGraph a3130)] (F64_res r3132), .test (leadsAny (Res.mk [(.one (.im (.lit (.int .i64 r3132))))] [])) false, .test (ine r3132 0) true] := ⟨(F64_ok K a3130 _ h3133), (leads_ok (by simp [leadsAny, RV.leads, RC.leads, leadsT, hasSl_lit])), (ine_f h3134), trivial⟩
 exact fn_playC hn94 (r := F94_res r3132) pz (by kernel_rfl) (by kernel_rfl)
theorem af_1_1 : areFns [(fnV 158), (fnV 159), (fnV 160)] [158, 159, 160] = true := rfl
theorem af_1_3 : areFns [(fnV 158), (fnV 159), (fnV 160)] [158, 159, 161] = false := rfl
theorem af_1_2 : areFns [(fnV 158), (fnV 159), (fnV 160)] [162, 159, 163] = false := rfl
theorem af_1_4 : areFns [(fnV 158), (fnV 159), (fnV 160)] [164, 165, 163] = false := rfl
theorem af_1_5 : areFns [(fnV 158), (fnV 159), (fnV 160)] [166, 0, 163] = false := rfl
theorem af_1_0 : areFns [(fnV 158), (fnV 159), (fnV 160)] [0, 0, 0] = false := rfl
theorem af_3_1 : areFns [(fnV 158), (fnV 159), (fnV 161)] [158, 159, 160] = false := rfl
theorem af_3_3 : areFns [(fnV 158), (fnV 159), (fnV 161)] [158, 159, 161] = true := rfl
theorem af_3_2 : areFns [(fnV 158), (fnV 159), (fnV 161)] [162, 159, 163] = false := rfl
theorem af_3_4 : areFns [(fnV 158), (fnV 159), (fnV 161)] [164, 165, 163] = false := rfl
theorem af_3_5 : areFns [(fnV 158), (fnV 159), (fnV 161)] [166, 0, 163] = false := rfl
theorem af_3_0 : areFns [(fnV 158), (fnV 159), (fnV 161)] [0, 0, 0] = false := rfl
theorem af_2_1 : areFns [(fnV 162), (fnV 159), (fnV 163)] [158, 159, 160] = false := rfl
theorem af_2_3 : areFns [(fnV 162), (fnV 159), (fnV 163)] [158, 159, 161] = false := rfl
theorem af_2_2 : areFns [(fnV 162), (fnV 159), (fnV 163)] [162, 159, 163] = true := rfl
theorem af_2_4 : areFns [(fnV 162), (fnV 159), (fnV 163)] [164, 165, 163] = false := rfl
theorem af_2_5 : areFns [(fnV 162), (fnV 159), (fnV 163)] [166, 0, 163] = false := rfl
theorem af_2_0 : areFns [(fnV 162), (fnV 159), (fnV 163)] [0, 0, 0] = false := rfl
theorem af_4_1 : areFns [(fnV 164), (fnV 165), (fnV 163)] [158, 159, 160] = false := rfl
theorem af_4_3 : areFns [(fnV 164), (fnV 165), (fnV 163)] [158, 159, 161] = false := rfl
theorem af_4_2 : areFns [(fnV 164), (fnV 165), (fnV 163)] [162, 159, 163] = false := rfl
theorem af_4_4 : areFns [(fnV 164), (fnV 165), (fnV 163)] [164, 165, 163] = true := rfl
theorem af_4_5 : areFns [(fnV 164), (fnV 165), (fnV 163)] [166, 0, 163] = false := rfl
theorem af_4_0 : areFns [(fnV 164), (fnV 165), (fnV 163)] [0, 0, 0] = false := rfl
theorem af_5_1 : areFns [(fnV 166), .nilFunc, (fnV 163)] [158, 159, 160] = false := rfl
theorem af_5_3 : areFns [(fnV 166), .nilFunc, (fnV 163)] [158, 159, 161] = false := rfl
theorem af_5_2 : areFns [(fnV 166), .nilFunc, (fnV 163)] [162, 159, 163] = false := rfl
theorem af_5_4 : areFns [(fnV 166), .nilFunc, (fnV 163)] [164, 165, 163] = false := rfl
theorem af_5_5 : areFns [(fnV 166), .nilFunc, (fnV 163)] [166, 0, 163] = true := rfl
theorem af_5_0 : areFns [(fnV 166), .nilFunc, (fnV 163)] [0, 0, 0] = false := rfl
theorem af_0_1 : areFns [.nilFunc, .nilFunc, .nilFunc] [158, 159, 160] = false := rfl
theorem af_0_3 : areFns [.nilFunc, .nilFunc, .nilFunc] [158, 159, 161] = false := rfl
theorem af_0_2 : areFns [.nilFunc, .nilFunc, .nilFunc] [162, 159, 163] = false := rfl
theorem af_0_4 : areFns [.nilFunc, .nilFunc, .nilFunc] [164, 165, 163] = false := rfl
theorem af_0_5 : areFns [.nilFunc, .nilFunc, .nilFunc] [166, 0, 163] = false := rfl
theorem af_0_0 : areFns [.nilFunc, .nilFunc, .nilFunc] [0, 0, 0] = true := rfl
theorem F143_1 (K : Nat) : F143 K 1 = some (Grule.mk (fnV 158) (fnV 159) true (fnV 160), true) := rfl
theorem F143_2 (K : Nat) : F143 K 2 = some (Grule.mk (fnV 162) (fnV 159) false (fnV 163), true) := rfl
theorem F143_3 (K : Nat) : F143 K 3 = some (Grule.mk (fnV 158) (fnV 159) true (fnV 161), true) := rfl
theorem F143_4 (K : Nat) : F143 K 4 = some (Grule.mk (fnV 164) (fnV 165) false (fnV 163), true) := rfl
theorem F143_5 (K : Nat) : F143 K 5 = some (Grule.mk (fnV 166) .nilFunc false (fnV 163), true) := rfl
theorem F143_0 (K : Nat) {p : Int} (h : p < 1 ∨ 5 < p) : F143 K p = some (Grule.mk .nilFunc .nilFunc false .nilFunc, false) := by
 rw [F143, ieq_f.2 (by omega : p ≠ 1), ieq_f.2 (by omega : p ≠ 3), ieq_f.2 (by omega : p ≠ 2), ieq_f.2 (by omega : p ≠ 4), ieq_f.2 (by omega : p ≠ 5)]; rfl
theorem prog_cases (p : Int) : p = 1 ∨ p = 2 ∨ p = 3 ∨ p = 4 ∨ p = 5 ∨ (p < 1 ∨ 5 < p) := by omega
def jbad (n : Int) (j : GJob) : Bool := ilt j.Source 0 || (ile n j.Source || (ilt j.Limit 0 || (ilt 40 j.Limit || (ilt j.Parts 1 || ilt 6 j.Parts))))
def pbad (p : Int) : Bool := ilt p 1 || ilt 5 p
def jcheck (g : GGraph) (j : GJob) : Int := bif ieq (gcheck g) 0 then (bif pbad j.Prog || jbad g.N j then 1 else 0) else gcheck g
theorem jtail (n : Int) (j : GJob) : (bif (ilt j.Source 0) then (some 1) else bif (ile n j.Source) then (some 1) else bif (ilt j.Limit 0) then (some 1) else bif (ilt 40 j.Limit) then (some 1) else bif (ilt j.Parts 1) then (some 1) else bif (ilt 6 j.Parts) then (some 1) else some 0) = some (bif jbad n j then 1 else 0 : Int) := by
 unfold jbad
 cases ilt j.Source 0 <;> cases ile n j.Source <;> cases ilt j.Limit 0 <;> cases ilt 40 j.Limit <;> cases ilt j.Parts 1 <;> cases ilt 6 j.Parts <;> rfl
theorem F94_spec {K : Nat} (hK : 100 ≤ K) (g : GGraph) (j : GJob) : F94 K g j = some (jcheck g j) := by
 rw [F94, F64_spec hK, Option.bind_some, jcheck]
 cases ieq (gcheck g) 0
 · rfl
 · rw [cond_true, cond_true]
   rcases prog_cases j.Prog with h | h | h | h | h | h
   · have hb : pbad j.Prog = false := by rw [h]; rfl
     rw [hb, Bool.false_or, h, F143_1]
     simp only [Option.bind_some, cond_true, cond_false, af_1_1, af_1_3, af_1_2, af_1_4, af_1_5, af_1_0, af_3_1, af_3_3, af_3_2, af_3_4, af_3_5, af_3_0, af_2_1, af_2_3, af_2_2, af_2_4, af_2_5, af_2_0, af_4_1, af_4_3, af_4_2, af_4_4, af_4_5, af_4_0, af_5_1, af_5_3, af_5_2, af_5_4, af_5_5, af_5_0, af_0_1, af_0_3, af_0_2, af_0_4, af_0_5, af_0_0, jtail]
   · have hb : pbad j.Prog = false := by rw [h]; rfl
     rw [hb, Bool.false_or, h, F143_2]
     simp only [Option.bind_some, cond_true, cond_false, af_1_1, af_1_3, af_1_2, af_1_4, af_1_5, af_1_0, af_3_1, af_3_3, af_3_2, af_3_4, af_3_5, af_3_0, af_2_1, af_2_3, af_2_2, af_2_4, af_2_5, af_2_0, af_4_1, af_4_3, af_4_2, af_4_4, af_4_5, af_4_0, af_5_1, af_5_3, af_5_2, af_5_4, af_5_5, af_5_0, af_0_1, af_0_3, af_0_2, af_0_4, af_0_5, af_0_0, jtail]
   · have hb : pbad j.Prog = false := by rw [h]; rfl
     rw [hb, Bool.false_or, h, F143_3]
     simp only [Option.bind_some, cond_true, cond_false, af_1_1, af_1_3, af_1_2, af_1_4, af_1_5, af_1_0, af_3_1, af_3_3, af_3_2, af_3_4, af_3_5, af_3_0, af_2_1, af_2_3, af_2_2, af_2_4, af_2_5, af_2_0, af_4_1, af_4_3, af_4_2, af_4_4, af_4_5, af_4_0, af_5_1, af_5_3, af_5_2, af_5_4, af_5_5, af_5_0, af_0_1, af_0_3, af_0_2, af_0_4, af_0_5, af_0_0, jtail]
   · have hb : pbad j.Prog = false := by rw [h]; rfl
     rw [hb, Bool.false_or, h, F143_4]
     simp only [Option.bind_some, cond_true, cond_false, af_1_1, af_1_3, af_1_2, af_1_4, af_1_5, af_1_0, af_3_1, af_3_3, af_3_2, af_3_4, af_3_5, af_3_0, af_2_1, af_2_3, af_2_2, af_2_4, af_2_5, af_2_0, af_4_1, af_4_3, af_4_2, af_4_4, af_4_5, af_4_0, af_5_1, af_5_3, af_5_2, af_5_4, af_5_5, af_5_0, af_0_1, af_0_3, af_0_2, af_0_4, af_0_5, af_0_0, jtail]
   · have hb : pbad j.Prog = false := by rw [h]; rfl
     rw [hb, Bool.false_or, h, F143_5]
     simp only [Option.bind_some, cond_true, cond_false, af_1_1, af_1_3, af_1_2, af_1_4, af_1_5, af_1_0, af_3_1, af_3_3, af_3_2, af_3_4, af_3_5, af_3_0, af_2_1, af_2_3, af_2_2, af_2_4, af_2_5, af_2_0, af_4_1, af_4_3, af_4_2, af_4_4, af_4_5, af_4_0, af_5_1, af_5_3, af_5_2, af_5_4, af_5_5, af_5_0, af_0_1, af_0_3, af_0_2, af_0_4, af_0_5, af_0_0, jtail]
   · have hb : pbad j.Prog = true := by
       unfold pbad
       rcases h with h | h
       · rw [ilt_iff.2 h]; rfl
       · rw [ilt_iff.2 h, Bool.or_true]
     rw [hb, Bool.true_or, F143_0 K h]
     simp only [Option.bind_some, cond_true, cond_false, af_1_1, af_1_3, af_1_2, af_1_4, af_1_5, af_1_0, af_3_1, af_3_3, af_3_2, af_3_4, af_3_5, af_3_0, af_2_1, af_2_3, af_2_2, af_2_4, af_2_5, af_2_0, af_4_1, af_4_3, af_4_2, af_4_4, af_4_5, af_4_0, af_5_1, af_5_3, af_5_2, af_5_4, af_5_5, af_5_0, af_0_1, af_0_3, af_0_2, af_0_4, af_0_5, af_0_0]
theorem jcheck_ok {g : GGraph} {j : GJob} (h : ieq (jcheck g j) 0 = true) : ieq (gcheck g) 0 = true ∧ 1 ≤ j.Prog ∧ j.Prog ≤ 5 ∧ 0 ≤ j.Source ∧ j.Source < g.N ∧ 0 ≤ j.Limit ∧ j.Limit ≤ 40 ∧ 1 ≤ j.Parts ∧ j.Parts ≤ 6 := by
 rw [jcheck] at h
 cases hg : ieq (gcheck g) 0
 · rw [hg, cond_false] at h; rw [h] at hg; cases hg
 · rw [hg, cond_true] at h
   cases hb : pbad j.Prog || jbad g.N j
   · simp only [pbad, jbad, Bool.or_eq_false_iff, ilt_f, ile_f] at hb
     obtain ⟨⟨h1, h2⟩, h3, h4, h5, h6, h7, h8⟩ := hb
     exact ⟨rfl, h1, h2, h3, h4, h5, h6, h7, h8⟩
   · rw [hb] at h; cases h
noncomputable def hn158 : Hint := { H 158 with nt := 9, prot := 0 }
def F158_res (r4091 : Int) : Res := ⟨[(.one (.im (.lit (.int .i64 r4091))))], []⟩
def F158 (K : Nat) (a4088 : GJob) (a4089 : Int) : Option (Int) :=
 bif (ieq a4089 a4088.Source) then
  (some 0)
 else
 some 9223372036854775807
theorem F158_ok (K : Nat) (a4088 : GJob) (a4089 : Int) (r : Int) (hF : F158 K a4088 a4089 = some r) : Evt E H 158 [.agg (eGJob a4088), .one (.lit (.int .i64 a4089))] (F158_res r) := by
 rw [F158] at hF
 refine cond_some hF (fun h4090 hF => ?_) (fun h4090 hF => ?_)
 ·
  obtain rfl := Option.some.inj hF
  have pz : HoldAll E H hn158 [.test (ieq a4089 a4088.Source) true] := ⟨h4090, trivial⟩
  exact fn_playC hn158 (r := F158_res 0) pz (by kernel_rfl) (by kernel_rfl)
 obtain rfl := Option.some.inj hF
 have pz : HoldAll E H hn158 [.test (ieq a4089 a4088.Source) false] := ⟨h4090, trivial⟩
 exact fn_playC hn158 (r := F158_res 9223372036854775807) pz (by kernel_rfl) (by kernel_rfl)
noncomputable def hn162 : Hint := { H 162 with nt := 6, prot := 0 }
def F162_res (r4100 : Int) : Res := ⟨[(.one (.im (.lit (.int .i64 r4100))))], []⟩
def F162 (K : Nat) (a4098 : GJob) (a4099 : Int) : Option (Int) :=
 some a4099
theorem F162_ok (K : Nat) (a4098 : GJob) (a4099 : Int) (r : Int) (hF : F162 K a4098 a4099 = some r) : Evt E H 162 [.agg (eGJob a4098), .one (.lit (.int .i64 a4099))] (F162_res r) := by
 rw [F162] at hF
 obtain rfl := Option.some.inj hF
 have pz : HoldAll E H hn162 [] := trivial
 exact fn_playC hn162 (r := F162_res a4099) pz (by kernel_rfl) (by kernel_rfl)
noncomputable def hn164 : Hint := { H 164 with nt := 11, prot := 0 }
def F164_res (r4106 : Int) : Res := ⟨[(.one (.im (.lit (.int .i64 r4106))))], []⟩
def F164 (K : Nat) (a4104 : GJob) (a4105 : Int) : Option (Int) :=
 some (wrem (wadd .i64 (wmul .i64 (wmul .i64 31 a4105) a4105) 7) 1009)
theorem F164_ok (K : Nat) (a4104 : GJob) (a4105 : Int) (r : Int) (hF : F164 K a4104 a4105 = some r) : Evt E H 164 [.agg (eGJob a4104), .one (.lit (.int .i64 a4105))] (F164_res r) := by
 rw [F164] at hF
 obtain rfl := Option.some.inj hF
 have pz : HoldAll E H hn164 [.int (wmul .i64 31 a4105) (wmul .i64 31 a4105), .int (wmul .i64 (wmul .i64 31 a4105) a4105) (wmul .i64 (wmul .i64 31 a4105) a4105), .int (wadd .i64 (wmul .i64 (wmul .i64 31 a4105) a4105) 7) (wadd .i64 (wmul .i64 (wmul .i64 31 a4105) a4105) 7), .test (izero 1009) false, .int (wrem (wadd .i64 (wmul .i64 (wmul .i64 31 a4105) a4105) 7) 1009) (wrem (wadd .i64 (wmul .i64 (wmul .i64 31 a4105) a4105) 7) 1009)] := ⟨rfl, rfl, rfl, (by first | exact rfl | (unfold Cond.Holds; decide)), rfl, trivial⟩
 exact fn_playC hn164 (r := F164_res (wrem (wadd .i64 (wmul .i64 (wmul .i64 31 a4105) a4105) 7) 1009)) pz (by kernel_rfl) (by kernel_rfl)
noncomputable def hn166 : Hint := { H 166 with nt := 5, prot := 0 }
def F166_res (r4112 : Int) : Res := ⟨[(.one (.im (.lit (.int .i64 r4112))))], []⟩
def F166 (K : Nat) (a4110 : GJob) (a4111 : Int) : Option (Int) :=
 some 1000000
theorem F166_ok (K : Nat) (a4110 : GJob) (a4111 : Int) (r : Int) (hF : F166 K a4110 a4111 = some r) : Evt E H 166 [.agg (eGJob a4110), .one (.lit (.int .i64 a4111))] (F166_res r) := by
 rw [F166] at hF
 obtain rfl := Option.some.inj hF
 have pz : HoldAll E H hn166 [] := trivial
 exact fn_playC hn166 (r := F166_res 1000000) pz (by kernel_rfl) (by kernel_rfl)
noncomputable def hn95 : Hint := { H 95 with nt := 36, prot := 0 }
def F95_res (r4118 : Int × Int) : Res := ⟨[(.one (.im (.lit (.int .i64 r4118.1)))), (.one (.im (.lit (.int .i64 r4118.2))))], []⟩
def F95 (K : Nat) (a4077 : GGraph) (a4078 : GJob) (a4079 : Int) : Option (Int × Int) :=
 (F94 K a4077 a4078).bind fun r4080 =>
 bif (ieq r4080 0) then
  (bif (ilt a4079 0) then
   (some (0, 4))
  else
  bif (ile a4077.N a4079) then
   (some (0, 4))
  else
  (F143 K a4078.Prog).bind fun r4085 =>
  bif (areFns [r4085.1.start_, r4085.1.better_, r4085.1.send_] [158, 159, 160]) then
   ((F158 K a4078 a4079).bind fun r4092 =>
   some (r4092, 0))
  else
  bif (areFns [r4085.1.start_, r4085.1.better_, r4085.1.send_] [158, 159, 161]) then
   ((F158 K a4078 a4079).bind fun r4095 =>
   some (r4095, 0))
  else
  bif (areFns [r4085.1.start_, r4085.1.better_, r4085.1.send_] [162, 159, 163]) then
   ((F162 K a4078 a4079).bind fun r4101 =>
   some (r4101, 0))
  else
  bif (areFns [r4085.1.start_, r4085.1.better_, r4085.1.send_] [164, 165, 163]) then
   ((F164 K a4078 a4079).bind fun r4107 =>
   some (r4107, 0))
  else
  bif (areFns [r4085.1.start_, r4085.1.better_, r4085.1.send_] [166, 0, 163]) then
   ((F166 K a4078 a4079).bind fun r4113 =>
   some (r4113, 0))
  else
  bif (areFns [r4085.1.start_, r4085.1.better_, r4085.1.send_] [0, 0, 0]) then
  none
  else none)
 else
 some (0, r4080)
theorem F95_ok (K : Nat) (a4077 : GGraph) (a4078 : GJob) (a4079 : Int) (r : Int × Int) (hF : F95 K a4077 a4078 a4079 = some r) : Evt E H 95 [.agg (eGGraph a4077), .agg (eGJob a4078), .one (.lit (.int .i64 a4079))] (F95_res r) := by
 rw [F95] at hF
 refine bind_some hF (fun r4080 h4081 hF => ?_)
 refine cond_some hF (fun h4082 hF => ?_) (fun h4082 hF => ?_)
 ·
  have pq4116 : ∀ {l : List Cond}, HoldAll E H hn95 l → HoldAll E H hn95 (.call 94 [.agg (eGGraph a4077), .agg (eGJob a4078)] (F94_res r4080) :: .test (leadsAny (Res.mk [(.one (.im (.lit (.int .i64 r4080))))] [])) false :: .test (ine r4080 0) false :: l) := fun z => ⟨(F94_ok K a4077 a4078 _ h4081), (leads_ok (by simp [leadsAny, RV.leads, RC.leads, leadsT, hasSl_lit, flat_ns eGJob_ns])), (ine_t h4082), z⟩
  refine cond_some hF (fun h4083 hF => ?_) (fun h4083 hF => ?_)
  ·
   obtain rfl := Option.some.inj hF
   have pz : HoldAll E H hn95 [.test (beqb (ilt a4079 0) false) false, .test (beqb (ilt a4079 0) false) false, .test (beqb (ilt a4079 0) false) false, .test (beqb (ilt a4079 0) false) false, .test (ilt a4079 0) true, .test true true] := ⟨(beqb_ft h4083), (beqb_ft h4083), (beqb_ft h4083), (beqb_ft h4083), h4083, rfl, trivial⟩
   exact fn_playC hn95 (r := F95_res (0, 4)) (pq4116 pz) (by kernel_rfl) (by kernel_rfl)
  have pq4117 : ∀ {l : List Cond}, HoldAll E H hn95 l → HoldAll E H hn95 (.test (beqb (ilt a4079 0) false) true :: .test (beqb (ilt a4079 0) false) true :: .test (beqb (ilt a4079 0) false) true :: .test (beqb (ilt a4079 0) false) true :: .test (ilt a4079 0) false :: l) := fun z => ⟨(beqb_ff h4083), (beqb_ff h4083), (beqb_ff h4083), (beqb_ff h4083), h4083, z⟩
  refine cond_some hF (fun h4084 hF => ?_) (fun h4084 hF => ?_)
  ·
   obtain rfl := Option.some.inj hF
   have pz : HoldAll E H hn95 [.test (ige a4079 a4077.N) true] := ⟨(ige_eq h4084), trivial⟩
   exact fn_playC hn95 (r := F95_res (0, 4)) (pq4116 (pq4117 pz)) (by kernel_rfl) (by kernel_rfl)
  refine bind_some hF (fun r4085 h4086 hF => ?_)
  refine cond_some hF (fun h4087 hF => ?_) (fun h4087 hF => ?_)
  ·
   refine bind_some hF (fun r4092 h4093 hF => ?_)
   obtain rfl := Option.some.inj hF
   have pz : HoldAll E H hn95 [.test (ige a4079 a4077.N) false, .call 143 [.one (.lit (.int .i64 a4078.Prog))] (F143_res0 r4085), .test (leadsAny (Res.mk [(.agg [(.im (.lit (fnV 158))), (.im (.lit (fnV 159))), (.im (.lit (.bool r4085.1.only_))), (.im (.lit (fnV 160)))]), (.one (.im (.lit (.bool r4085.2))))] [])) false, .call 158 [.agg (eGJob a4078), .one (.lit (.int .i64 a4079))] (F158_res r4092), .test (leadsAny (Res.mk [(.one (.im (.lit (.int .i64 r4092))))] [])) false] := ⟨(ige_eq h4084), (F143_ok0 _ h4087 (F143_ok K a4078.Prog _ h4086)), (leads_ok (by simp [leadsAny, RV.leads, RC.leads, leadsT, hasSl_lit, flat_ns eGJob_ns])), (F158_ok K a4078 a4079 _ h4093), (leads_ok (by simp [leadsAny, RV.leads, RC.leads, leadsT, hasSl_lit, flat_ns eGJob_ns])), trivial⟩
   exact fn_playC hn95 (r := F95_res (r4092, 0)) (pq4116 (pq4117 pz)) (by kernel_rfl) (by kernel_rfl)
  refine cond_some hF (fun h4094 hF => ?_) (fun h4094 hF => ?_)
  ·
   refine bind_some hF (fun r4095 h4096 hF => ?_)
   obtain rfl := Option.some.inj hF
   have pz : HoldAll E H hn95 [.test (ige a4079 a4077.N) false, .call 143 [.one (.lit (.int .i64 a4078.Prog))] (F143_res1 r4085), .test (leadsAny (Res.mk [(.agg [(.im (.lit (fnV 158))), (.im (.lit (fnV 159))), (.im (.lit (.bool r4085.1.only_))), (.im (.lit (fnV 161)))]), (.one (.im (.lit (.bool r4085.2))))] [])) false, .call 158 [.agg (eGJob a4078), .one (.lit (.int .i64 a4079))] (F158_res r4095), .test (leadsAny (Res.mk [(.one (.im (.lit (.int .i64 r4095))))] [])) false] := ⟨(ige_eq h4084), (F143_ok1 _ h4094 (F143_ok K a4078.Prog _ h4086)), (leads_ok (by simp [leadsAny, RV.leads, RC.leads, leadsT, hasSl_lit, flat_ns eGJob_ns])), (F158_ok K a4078 a4079 _ h4096), (leads_ok (by simp [leadsAny, RV.leads, RC.leads, leadsT, hasSl_lit, flat_ns eGJob_ns])), trivial⟩
   exact fn_playC hn95 (r := F95_res (r4095, 0)) (pq4116 (pq4117 pz)) (by kernel_rfl) (by kernel_rfl)
  refine cond_some hF (fun h4097 hF => ?_) (fun h4097 hF => ?_)
  ·
   refine bind_some hF (fun r4101 h4102 hF => ?_)
   obtain rfl := Option.some.inj hF
   have pz : HoldAll E H hn95 [.test (ige a4079 a4077.N) false, .call 143 [.one (.lit (.int .i64 a4078.Prog))] (F143_res2 r4085), .test (leadsAny (Res.mk [(.agg [(.im (.lit (fnV 162))), (.im (.lit (fnV 159))), (.im (.lit (.bool r4085.1.only_))), (.im (.lit (fnV 163)))]), (.one (.im (.lit (.bool r4085.2))))] [])) false, .call 162 [.agg (eGJob a4078), .one (.lit (.int .i64 a4079))] (F162_res r4101), .test (leadsAny (Res.mk [(.one (.im (.lit (.int .i64 r4101))))] [])) false] := ⟨(ige_eq h4084), (F143_ok2 _ h4097 (F143_ok K a4078.Prog _ h4086)), (leads_ok (by simp [leadsAny, RV.leads, RC.leads, leadsT, hasSl_lit, flat_ns eGJob_ns])), (F162_ok K a4078 a4079 _ h4102), (leads_ok (by simp [leadsAny, RV.leads, RC.leads, leadsT, hasSl_lit, flat_ns eGJob_ns])), trivial⟩
   exact fn_playC hn95 (r := F95_res (r4101, 0)) (pq4116 (pq4117 pz)) (by kernel_rfl) (by kernel_rfl)
  refine cond_some hF (fun h4103 hF => ?_) (fun h4103 hF => ?_)
  ·
   refine bind_some hF (fun r4107 h4108 hF => ?_)
   obtain rfl := Option.some.inj hF
   have pz : HoldAll E H hn95 [.test (ige a4079 a4077.N) false, .call 143 [.one (.lit (.int .i64 a4078.Prog))] (F143_res3 r4085), .test (leadsAny (Res.mk [(.agg [(.im (.lit (fnV 164))), (.im (.lit (fnV 165))), (.im (.lit (.bool r4085.1.only_))), (.im (.lit (fnV 163)))]), (.one (.im (.lit (.bool r4085.2))))] [])) false, .call 164 [.agg (eGJob a4078), .one (.lit (.int .i64 a4079))] (F164_res r4107), .test (leadsAny (Res.mk [(.one (.im (.lit (.int .i64 r4107))))] [])) false] := ⟨(ige_eq h4084), (F143_ok3 _ h4103 (F143_ok K a4078.Prog _ h4086)), (leads_ok (by simp [leadsAny, RV.leads, RC.leads, leadsT, hasSl_lit, flat_ns eGJob_ns])), (F164_ok K a4078 a4079 _ h4108), (leads_ok (by simp [leadsAny, RV.leads, RC.leads, leadsT, hasSl_lit, flat_ns eGJob_ns])), trivial⟩
   exact fn_playC hn95 (r := F95_res (r4107, 0)) (pq4116 (pq4117 pz)) (by kernel_rfl) (by kernel_rfl)
  refine cond_some hF (fun h4109 hF => ?_) (fun h4109 hF => ?_)
  ·
   refine bind_some hF (fun r4113 h4114 hF => ?_)
   obtain rfl := Option.some.inj hF
   have pz : HoldAll E H hn95 [.test (ige a4079 a4077.N) false, .call 143 [.one (.lit (.int .i64 a4078.Prog))] (F143_res4 r4085), .test (leadsAny (Res.mk [(.agg [(.im (.lit (fnV 166))), (.im (.lit .nilFunc)), (.im (.lit (.bool r4085.1.only_))), (.im (.lit (fnV 163)))]), (.one (.im (.lit (.bool r4085.2))))] [])) false, .call 166 [.agg (eGJob a4078), .one (.lit (.int .i64 a4079))] (F166_res r4113), .test (leadsAny (Res.mk [(.one (.im (.lit (.int .i64 r4113))))] [])) false] := ⟨(ige_eq h4084), (F143_ok4 _ h4109 (F143_ok K a4078.Prog _ h4086)), (leads_ok (by simp [leadsAny, RV.leads, RC.leads, leadsT, hasSl_lit, flat_ns eGJob_ns])), (F166_ok K a4078 a4079 _ h4114), (leads_ok (by simp [leadsAny, RV.leads, RC.leads, leadsT, hasSl_lit, flat_ns eGJob_ns])), trivial⟩
   exact fn_playC hn95 (r := F95_res (r4113, 0)) (pq4116 (pq4117 pz)) (by kernel_rfl) (by kernel_rfl)
  refine cond_some hF (fun h4115 hF => ?_) (fun _ hF => nomatch hF)
  cases hF
 obtain rfl := Option.some.inj hF
 have pz : HoldAll E H hn95 [.call 94 [.agg (eGGraph a4077), .agg (eGJob a4078)] (F94_res r4080), .test (leadsAny (Res.mk [(.one (.im (.lit (.int .i64 r4080))))] [])) false, .test (ine r4080 0) true] := ⟨(F94_ok K a4077 a4078 _ h4081), (leads_ok (by simp [leadsAny, RV.leads, RC.leads, leadsT, hasSl_lit, flat_ns eGJob_ns])), (ine_f h4082), trivial⟩
 exact fn_playC hn95 (r := F95_res (0, r4080)) pz (by kernel_rfl) (by kernel_rfl)
noncomputable def hn159 : Hint := { H 159 with nt := 8, prot := 0 }
def F159_res (r4157 : Bool) : Res := ⟨[(.one (.im (.lit (.bool r4157))))], []⟩
def F159 (K : Nat) (a4155 : Int) (a4156 : Int) : Option (Bool) :=
 some (ilt a4155 a4156)
theorem F159_ok (K : Nat) (a4155 : Int) (a4156 : Int) (r : Bool) (hF : F159 K a4155 a4156 = some r) : Evt E H 159 [.one (.lit (.int .i64 a4155)), .one (.lit (.int .i64 a4156))] (F159_res r) := by
 rw [F159] at hF
 obtain rfl := Option.some.inj hF
 have pz : HoldAll E H hn159 [] := trivial
 exact fn_playC hn159 (r := F159_res (ilt a4155 a4156)) pz (by kernel_rfl) (by kernel_rfl)
noncomputable def hn165 : Hint := { H 165 with nt := 8, prot := 0 }
def F165_res (r4175 : Bool) : Res := ⟨[(.one (.im (.lit (.bool r4175))))], []⟩
def F165 (K : Nat) (a4173 : Int) (a4174 : Int) : Option (Bool) :=
 some (igt a4173 a4174)
theorem F165_ok (K : Nat) (a4173 : Int) (a4174 : Int) (r : Bool) (hF : F165 K a4173 a4174 = some r) : Evt E H 165 [.one (.lit (.int .i64 a4173)), .one (.lit (.int .i64 a4174))] (F165_res r) := by
 rw [F165] at hF
 obtain rfl := Option.some.inj hF
 have pz : HoldAll E H hn165 [] := trivial
 exact fn_playC hn165 (r := F165_res (igt a4173 a4174)) pz (by kernel_rfl) (by kernel_rfl)
noncomputable def hn144 : Hint := { H 144 with nt := 23, prot := 0 }
def F144_res (r4186 : Int × Bool) : Res := ⟨[(.one (.im (.lit (.int .i64 r4186.1)))), (.one (.im (.lit (.bool r4186.2))))], []⟩
def F144 (K : Nat) (a4181 : Int) (a4182 : Int) : Option (Int × Bool) :=
 bif (beqb (ige a4181 0) (ige a4182 0)) then
  (bif (beqb (ige (wadd .i64 a4181 a4182) 0) (ige a4181 0)) then
   (some ((wadd .i64 a4181 a4182), true))
  else
  some (0, false))
 else
 some ((wadd .i64 a4181 a4182), true)
theorem F144_ok (K : Nat) (a4181 : Int) (a4182 : Int) (r : Int × Bool) (hF : F144 K a4181 a4182 = some r) : Evt E H 144 [.one (.lit (.int .i64 a4181)), .one (.lit (.int .i64 a4182))] (F144_res r) := by
 rw [F144] at hF
 refine cond_some hF (fun h4183 hF => ?_) (fun h4183 hF => ?_)
 ·
  have pq4185 : ∀ {l : List Cond}, HoldAll E H hn144 l → HoldAll E H hn144 (.int (wadd .i64 a4181 a4182) (wadd .i64 a4181 a4182) :: .test (beqb (beqb (ige a4181 0) (ige a4182 0)) true) true :: .test (beqb (beqb (ige a4181 0) (ige a4182 0)) true) true :: .test (beqb (beqb (ige a4181 0) (ige a4182 0)) true) true :: .test (beqb (beqb (ige a4181 0) (ige a4182 0)) true) true :: .test (beqb (beqb (ige a4181 0) (ige a4182 0)) true) true :: .test (beqb (ige a4181 0) (ige a4182 0)) true :: l) := fun z => ⟨rfl, (beqb_t h4183), (beqb_t h4183), (beqb_t h4183), (beqb_t h4183), (beqb_t h4183), h4183, z⟩
  refine cond_some hF (fun h4184 hF => ?_) (fun h4184 hF => ?_)
  ·
   obtain rfl := Option.some.inj hF
   have pz : HoldAll E H hn144 [.test (bnot (beqb (ige (wadd .i64 a4181 a4182) 0) (ige a4181 0))) false] := ⟨(bnot_t h4184), trivial⟩
   exact fn_playC hn144 (r := F144_res ((wadd .i64 a4181 a4182), true)) (pq4185 pz) (by kernel_rfl) (by kernel_rfl)
  obtain rfl := Option.some.inj hF
  have pz : HoldAll E H hn144 [.test (bnot (beqb (ige (wadd .i64 a4181 a4182) 0) (ige a4181 0))) true] := ⟨(bnot_f h4184), trivial⟩
  exact fn_playC hn144 (r := F144_res (0, false)) (pq4185 pz) (by kernel_rfl) (by kernel_rfl)
 obtain rfl := Option.some.inj hF
 have pz : HoldAll E H hn144 [.int (wadd .i64 a4181 a4182) (wadd .i64 a4181 a4182), .test (beqb (beqb (ige a4181 0) (ige a4182 0)) true) false, .test (beqb (beqb (ige a4181 0) (ige a4182 0)) true) false, .test (beqb (beqb (ige a4181 0) (ige a4182 0)) true) false, .test (beqb (beqb (ige a4181 0) (ige a4182 0)) true) false, .test (beqb (beqb (ige a4181 0) (ige a4182 0)) true) false, .test (beqb (ige a4181 0) (ige a4182 0)) false, .test false false] := ⟨rfl, (beqb_t h4183), (beqb_t h4183), (beqb_t h4183), (beqb_t h4183), (beqb_t h4183), h4183, rfl, trivial⟩
 exact fn_playC hn144 (r := F144_res ((wadd .i64 a4181 a4182), true)) pz (by kernel_rfl) (by kernel_rfl)
noncomputable def hn97 : Hint := { H 97 with nt := 41, prot := 0 }
def F97_res (r4201 : Int × Int) : Res := ⟨[(.one (.im (.lit (.int .i64 r4201.1)))), (.one (.im (.lit (.int .i64 r4201.2))))], []⟩
def F97 (K : Nat) (a4148 : Int) (a4149 : Int) (a4150 : Int) : Option (Int × Int) :=
 (F143 K a4148).bind fun r4151 =>
 bif (areFns [r4151.1.start_, r4151.1.better_, r4151.1.send_] [158, 159, 160]) then
  (bif r4151.2 then
   ((F159 K a4150 a4149).bind fun r4158 =>
   bif r4158 then
    (some (a4150, 0))
   else
   some (a4149, 0))
  else
  some (0, 1))
 else
 bif (areFns [r4151.1.start_, r4151.1.better_, r4151.1.send_] [158, 159, 161]) then
  (bif r4151.2 then
   ((F159 K a4150 a4149).bind fun r4163 =>
   bif r4163 then
    (some (a4150, 0))
   else
   some (a4149, 0))
  else
  some (0, 1))
 else
 bif (areFns [r4151.1.start_, r4151.1.better_, r4151.1.send_] [162, 159, 163]) then
  (bif r4151.2 then
   ((F159 K a4150 a4149).bind fun r4168 =>
   bif r4168 then
    (some (a4150, 0))
   else
   some (a4149, 0))
  else
  some (0, 1))
 else
 bif (areFns [r4151.1.start_, r4151.1.better_, r4151.1.send_] [164, 165, 163]) then
  (bif r4151.2 then
   ((F165 K a4150 a4149).bind fun r4176 =>
   bif r4176 then
    (some (a4150, 0))
   else
   some (a4149, 0))
  else
  some (0, 1))
 else
 bif (areFns [r4151.1.start_, r4151.1.better_, r4151.1.send_] [166, 0, 163]) then
  (bif r4151.2 then
   ((F144 K a4149 a4150).bind fun r4187 =>
   bif r4187.2 then
    (some (r4187.1, 0))
   else
   some (0, 8))
  else
  some (0, 1))
 else
 bif (areFns [r4151.1.start_, r4151.1.better_, r4151.1.send_] [0, 0, 0]) then
 bif r4151.2 then
  ((F144 K a4149 a4150).bind fun r4192 =>
  bif r4192.2 then
   (some (r4192.1, 0))
  else
  some (0, 8))
 else
 some (0, 1)
 else none
theorem F97_ok (K : Nat) (a4148 : Int) (a4149 : Int) (a4150 : Int) (r : Int × Int) (hF : F97 K a4148 a4149 a4150 = some r) : Evt E H 97 [.one (.lit (.int .i64 a4148)), .one (.lit (.int .i64 a4149)), .one (.lit (.int .i64 a4150))] (F97_res r) := by
 rw [F97] at hF
 refine bind_some hF (fun r4151 h4152 hF => ?_)
 refine cond_some hF (fun h4153 hF => ?_) (fun h4153 hF => ?_)
 ·
  refine cond_some hF (fun h4154 hF => ?_) (fun h4154 hF => ?_)
  ·
   refine bind_some hF (fun r4158 h4159 hF => ?_)
   have pq4195 : ∀ {l : List Cond}, HoldAll E H hn97 l → HoldAll E H hn97 (.call 143 [.one (.lit (.int .i64 a4148))] (F143_res0 r4151) :: .test (leadsAny (Res.mk [(.agg [(.im (.lit (fnV 158))), (.im (.lit (fnV 159))), (.im (.lit (.bool r4151.1.only_))), (.im (.lit (fnV 160)))]), (.one (.im (.lit (.bool r4151.2))))] [])) false :: .test (bnot r4151.2) false :: .test false false :: .call 159 [.one (.lit (.int .i64 a4150)), .one (.lit (.int .i64 a4149))] (F159_res r4158) :: .test (leadsAny (Res.mk [(.one (.im (.lit (.bool r4158))))] [])) false :: l) := fun z => ⟨(F143_ok0 _ h4153 (F143_ok K a4148 _ h4152)), (leads_ok (by simp [leadsAny, RV.leads, RC.leads, leadsT, hasSl_lit])), (bnot_t h4154), rfl, (F159_ok K a4150 a4149 _ h4159), (leads_ok (by simp [leadsAny, RV.leads, RC.leads, leadsT, hasSl_lit])), z⟩
   refine cond_some hF (fun h4160 hF => ?_) (fun h4160 hF => ?_)
   ·
    obtain rfl := Option.some.inj hF
    have pz : HoldAll E H hn97 [.test r4158 true] := ⟨h4160, trivial⟩
    exact fn_playC hn97 (r := F97_res (a4150, 0)) (pq4195 pz) (by kernel_rfl) (by kernel_rfl)
   obtain rfl := Option.some.inj hF
   have pz : HoldAll E H hn97 [.test r4158 false] := ⟨h4160, trivial⟩
   exact fn_playC hn97 (r := F97_res (a4149, 0)) (pq4195 pz) (by kernel_rfl) (by kernel_rfl)
  obtain rfl := Option.some.inj hF
  have pz : HoldAll E H hn97 [.call 143 [.one (.lit (.int .i64 a4148))] (F143_res0 r4151), .test (leadsAny (Res.mk [(.agg [(.im (.lit (fnV 158))), (.im (.lit (fnV 159))), (.im (.lit (.bool r4151.1.only_))), (.im (.lit (fnV 160)))]), (.one (.im (.lit (.bool r4151.2))))] [])) false, .test (bnot r4151.2) true] := ⟨(F143_ok0 _ h4153 (F143_ok K a4148 _ h4152)), (leads_ok (by simp [leadsAny, RV.leads, RC.leads, leadsT, hasSl_lit])), (bnot_f h4154), trivial⟩
  exact fn_playC hn97 (r := F97_res (0, 1)) pz (by kernel_rfl) (by kernel_rfl)
 refine cond_some hF (fun h4161 hF => ?_) (fun h4161 hF => ?_)
 ·
  refine cond_some hF (fun h4162 hF => ?_) (fun h4162 hF => ?_)
  ·
   refine bind_some hF (fun r4163 h4164 hF => ?_)
   have pq4196 : ∀ {l : List Cond}, HoldAll E H hn97 l → HoldAll E H hn97 (.call 143 [.one (.lit (.int .i64 a4148))] (F143_res1 r4151) :: .test (leadsAny (Res.mk [(.agg [(.im (.lit (fnV 158))), (.im (.lit (fnV 159))), (.im (.lit (.bool r4151.1.only_))), (.im (.lit (fnV 161)))]), (.one (.im (.lit (.bool r4151.2))))] [])) false :: .test (bnot r4151.2) false :: .test false false :: .call 159 [.one (.lit (.int .i64 a4150)), .one (.lit (.int .i64 a4149))] (F159_res r4163) :: .test (leadsAny (Res.mk [(.one (.im (.lit (.bool r4163))))] [])) false :: l) := fun z => ⟨(F143_ok1 _ h4161 (F143_ok K a4148 _ h4152)), (leads_ok (by simp [leadsAny, RV.leads, RC.leads, leadsT, hasSl_lit])), (bnot_t h4162), rfl, (F159_ok K a4150 a4149 _ h4164), (leads_ok (by simp [leadsAny, RV.leads, RC.leads, leadsT, hasSl_lit])), z⟩
   refine cond_some hF (fun h4165 hF => ?_) (fun h4165 hF => ?_)
   ·
    obtain rfl := Option.some.inj hF
    have pz : HoldAll E H hn97 [.test r4163 true] := ⟨h4165, trivial⟩
    exact fn_playC hn97 (r := F97_res (a4150, 0)) (pq4196 pz) (by kernel_rfl) (by kernel_rfl)
   obtain rfl := Option.some.inj hF
   have pz : HoldAll E H hn97 [.test r4163 false] := ⟨h4165, trivial⟩
   exact fn_playC hn97 (r := F97_res (a4149, 0)) (pq4196 pz) (by kernel_rfl) (by kernel_rfl)
  obtain rfl := Option.some.inj hF
  have pz : HoldAll E H hn97 [.call 143 [.one (.lit (.int .i64 a4148))] (F143_res1 r4151), .test (leadsAny (Res.mk [(.agg [(.im (.lit (fnV 158))), (.im (.lit (fnV 159))), (.im (.lit (.bool r4151.1.only_))), (.im (.lit (fnV 161)))]), (.one (.im (.lit (.bool r4151.2))))] [])) false, .test (bnot r4151.2) true] := ⟨(F143_ok1 _ h4161 (F143_ok K a4148 _ h4152)), (leads_ok (by simp [leadsAny, RV.leads, RC.leads, leadsT, hasSl_lit])), (bnot_f h4162), trivial⟩
  exact fn_playC hn97 (r := F97_res (0, 1)) pz (by kernel_rfl) (by kernel_rfl)
 refine cond_some hF (fun h4166 hF => ?_) (fun h4166 hF => ?_)
 ·
  refine cond_some hF (fun h4167 hF => ?_) (fun h4167 hF => ?_)
  ·
   refine bind_some hF (fun r4168 h4169 hF => ?_)
   have pq4197 : ∀ {l : List Cond}, HoldAll E H hn97 l → HoldAll E H hn97 (.call 143 [.one (.lit (.int .i64 a4148))] (F143_res2 r4151) :: .test (leadsAny (Res.mk [(.agg [(.im (.lit (fnV 162))), (.im (.lit (fnV 159))), (.im (.lit (.bool r4151.1.only_))), (.im (.lit (fnV 163)))]), (.one (.im (.lit (.bool r4151.2))))] [])) false :: .test (bnot r4151.2) false :: .test false false :: .call 159 [.one (.lit (.int .i64 a4150)), .one (.lit (.int .i64 a4149))] (F159_res r4168) :: .test (leadsAny (Res.mk [(.one (.im (.lit (.bool r4168))))] [])) false :: l) := fun z => ⟨(F143_ok2 _ h4166 (F143_ok K a4148 _ h4152)), (leads_ok (by simp [leadsAny, RV.leads, RC.leads, leadsT, hasSl_lit])), (bnot_t h4167), rfl, (F159_ok K a4150 a4149 _ h4169), (leads_ok (by simp [leadsAny, RV.leads, RC.leads, leadsT, hasSl_lit])), z⟩
   refine cond_some hF (fun h4170 hF => ?_) (fun h4170 hF => ?_)
   ·
    obtain rfl := Option.some.inj hF
    have pz : HoldAll E H hn97 [.test r4168 true] := ⟨h4170, trivial⟩
    exact fn_playC hn97 (r := F97_res (a4150, 0)) (pq4197 pz) (by kernel_rfl) (by kernel_rfl)
   obtain rfl := Option.some.inj hF
   have pz : HoldAll E H hn97 [.test r4168 false] := ⟨h4170, trivial⟩
   exact fn_playC hn97 (r := F97_res (a4149, 0)) (pq4197 pz) (by kernel_rfl) (by kernel_rfl)
  obtain rfl := Option.some.inj hF
  have pz : HoldAll E H hn97 [.call 143 [.one (.lit (.int .i64 a4148))] (F143_res2 r4151), .test (leadsAny (Res.mk [(.agg [(.im (.lit (fnV 162))), (.im (.lit (fnV 159))), (.im (.lit (.bool r4151.1.only_))), (.im (.lit (fnV 163)))]), (.one (.im (.lit (.bool r4151.2))))] [])) false, .test (bnot r4151.2) true] := ⟨(F143_ok2 _ h4166 (F143_ok K a4148 _ h4152)), (leads_ok (by simp [leadsAny, RV.leads, RC.leads, leadsT, hasSl_lit])), (bnot_f h4167), trivial⟩
  exact fn_playC hn97 (r := F97_res (0, 1)) pz (by kernel_rfl) (by kernel_rfl)
 refine cond_some hF (fun h4171 hF => ?_) (fun h4171 hF => ?_)
 ·
  refine cond_some hF (fun h4172 hF => ?_) (fun h4172 hF => ?_)
  ·
   refine bind_some hF (fun r4176 h4177 hF => ?_)
   have pq4198 : ∀ {l : List Cond}, HoldAll E H hn97 l → HoldAll E H hn97 (.call 143 [.one (.lit (.int .i64 a4148))] (F143_res3 r4151) :: .test (leadsAny (Res.mk [(.agg [(.im (.lit (fnV 164))), (.im (.lit (fnV 165))), (.im (.lit (.bool r4151.1.only_))), (.im (.lit (fnV 163)))]), (.one (.im (.lit (.bool r4151.2))))] [])) false :: .test (bnot r4151.2) false :: .test false false :: .call 165 [.one (.lit (.int .i64 a4150)), .one (.lit (.int .i64 a4149))] (F165_res r4176) :: .test (leadsAny (Res.mk [(.one (.im (.lit (.bool r4176))))] [])) false :: l) := fun z => ⟨(F143_ok3 _ h4171 (F143_ok K a4148 _ h4152)), (leads_ok (by simp [leadsAny, RV.leads, RC.leads, leadsT, hasSl_lit])), (bnot_t h4172), rfl, (F165_ok K a4150 a4149 _ h4177), (leads_ok (by simp [leadsAny, RV.leads, RC.leads, leadsT, hasSl_lit])), z⟩
   refine cond_some hF (fun h4178 hF => ?_) (fun h4178 hF => ?_)
   ·
    obtain rfl := Option.some.inj hF
    have pz : HoldAll E H hn97 [.test r4176 true] := ⟨h4178, trivial⟩
    exact fn_playC hn97 (r := F97_res (a4150, 0)) (pq4198 pz) (by kernel_rfl) (by kernel_rfl)
   obtain rfl := Option.some.inj hF
   have pz : HoldAll E H hn97 [.test r4176 false] := ⟨h4178, trivial⟩
   exact fn_playC hn97 (r := F97_res (a4149, 0)) (pq4198 pz) (by kernel_rfl) (by kernel_rfl)
  obtain rfl := Option.some.inj hF
  have pz : HoldAll E H hn97 [.call 143 [.one (.lit (.int .i64 a4148))] (F143_res3 r4151), .test (leadsAny (Res.mk [(.agg [(.im (.lit (fnV 164))), (.im (.lit (fnV 165))), (.im (.lit (.bool r4151.1.only_))), (.im (.lit (fnV 163)))]), (.one (.im (.lit (.bool r4151.2))))] [])) false, .test (bnot r4151.2) true] := ⟨(F143_ok3 _ h4171 (F143_ok K a4148 _ h4152)), (leads_ok (by simp [leadsAny, RV.leads, RC.leads, leadsT, hasSl_lit])), (bnot_f h4172), trivial⟩
  exact fn_playC hn97 (r := F97_res (0, 1)) pz (by kernel_rfl) (by kernel_rfl)
 refine cond_some hF (fun h4179 hF => ?_) (fun h4179 hF => ?_)
 ·
  refine cond_some hF (fun h4180 hF => ?_) (fun h4180 hF => ?_)
  ·
   refine bind_some hF (fun r4187 h4188 hF => ?_)
   have pq4199 : ∀ {l : List Cond}, HoldAll E H hn97 l → HoldAll E H hn97 (.call 143 [.one (.lit (.int .i64 a4148))] (F143_res4 r4151) :: .test (leadsAny (Res.mk [(.agg [(.im (.lit (fnV 166))), (.im (.lit .nilFunc)), (.im (.lit (.bool r4151.1.only_))), (.im (.lit (fnV 163)))]), (.one (.im (.lit (.bool r4151.2))))] [])) false :: .test (bnot r4151.2) false :: .test true true :: .call 144 [.one (.lit (.int .i64 a4149)), .one (.lit (.int .i64 a4150))] (F144_res r4187) :: .test (leadsAny (Res.mk [(.one (.im (.lit (.int .i64 r4187.1)))), (.one (.im (.lit (.bool r4187.2))))] [])) false :: l) := fun z => ⟨(F143_ok4 _ h4179 (F143_ok K a4148 _ h4152)), (leads_ok (by simp [leadsAny, RV.leads, RC.leads, leadsT, hasSl_lit])), (bnot_t h4180), rfl, (F144_ok K a4149 a4150 _ h4188), (leads_ok (by simp [leadsAny, RV.leads, RC.leads, leadsT, hasSl_lit])), z⟩
   refine cond_some hF (fun h4189 hF => ?_) (fun h4189 hF => ?_)
   ·
    obtain rfl := Option.some.inj hF
    have pz : HoldAll E H hn97 [.test (bnot r4187.2) false] := ⟨(bnot_t h4189), trivial⟩
    exact fn_playC hn97 (r := F97_res (r4187.1, 0)) (pq4199 pz) (by kernel_rfl) (by kernel_rfl)
   obtain rfl := Option.some.inj hF
   have pz : HoldAll E H hn97 [.test (bnot r4187.2) true] := ⟨(bnot_f h4189), trivial⟩
   exact fn_playC hn97 (r := F97_res (0, 8)) (pq4199 pz) (by kernel_rfl) (by kernel_rfl)
  obtain rfl := Option.some.inj hF
  have pz : HoldAll E H hn97 [.call 143 [.one (.lit (.int .i64 a4148))] (F143_res4 r4151), .test (leadsAny (Res.mk [(.agg [(.im (.lit (fnV 166))), (.im (.lit .nilFunc)), (.im (.lit (.bool r4151.1.only_))), (.im (.lit (fnV 163)))]), (.one (.im (.lit (.bool r4151.2))))] [])) false, .test (bnot r4151.2) true] := ⟨(F143_ok4 _ h4179 (F143_ok K a4148 _ h4152)), (leads_ok (by simp [leadsAny, RV.leads, RC.leads, leadsT, hasSl_lit])), (bnot_f h4180), trivial⟩
  exact fn_playC hn97 (r := F97_res (0, 1)) pz (by kernel_rfl) (by kernel_rfl)
 refine cond_some hF (fun h4190 hF => ?_) (fun _ hF => nomatch hF)
 refine cond_some hF (fun h4191 hF => ?_) (fun h4191 hF => ?_)
 ·
  refine bind_some hF (fun r4192 h4193 hF => ?_)
  have pq4200 : ∀ {l : List Cond}, HoldAll E H hn97 l → HoldAll E H hn97 (.call 143 [.one (.lit (.int .i64 a4148))] (F143_res5 r4151) :: .test (leadsAny (Res.mk [(.agg [(.im (.lit .nilFunc)), (.im (.lit .nilFunc)), (.im (.lit (.bool r4151.1.only_))), (.im (.lit .nilFunc))]), (.one (.im (.lit (.bool r4151.2))))] [])) false :: .test (bnot r4151.2) false :: .test true true :: .call 144 [.one (.lit (.int .i64 a4149)), .one (.lit (.int .i64 a4150))] (F144_res r4192) :: .test (leadsAny (Res.mk [(.one (.im (.lit (.int .i64 r4192.1)))), (.one (.im (.lit (.bool r4192.2))))] [])) false :: l) := fun z => ⟨(F143_ok5 _ h4190 (F143_ok K a4148 _ h4152)), (leads_ok (by simp [leadsAny, RV.leads, RC.leads, leadsT, hasSl_lit])), (bnot_t h4191), rfl, (F144_ok K a4149 a4150 _ h4193), (leads_ok (by simp [leadsAny, RV.leads, RC.leads, leadsT, hasSl_lit])), z⟩
  refine cond_some hF (fun h4194 hF => ?_) (fun h4194 hF => ?_)
  ·
   obtain rfl := Option.some.inj hF
   have pz : HoldAll E H hn97 [.test (bnot r4192.2) false] := ⟨(bnot_t h4194), trivial⟩
   exact fn_playC hn97 (r := F97_res (r4192.1, 0)) (pq4200 pz) (by kernel_rfl) (by kernel_rfl)
  obtain rfl := Option.some.inj hF
  have pz : HoldAll E H hn97 [.test (bnot r4192.2) true] := ⟨(bnot_f h4194), trivial⟩
  exact fn_playC hn97 (r := F97_res (0, 8)) (pq4200 pz) (by kernel_rfl) (by kernel_rfl)
 obtain rfl := Option.some.inj hF
 have pz : HoldAll E H hn97 [.call 143 [.one (.lit (.int .i64 a4148))] (F143_res5 r4151), .test (leadsAny (Res.mk [(.agg [(.im (.lit .nilFunc)), (.im (.lit .nilFunc)), (.im (.lit (.bool r4151.1.only_))), (.im (.lit .nilFunc))]), (.one (.im (.lit (.bool r4151.2))))] [])) false, .test (bnot r4151.2) true] := ⟨(F143_ok5 _ h4190 (F143_ok K a4148 _ h4152)), (leads_ok (by simp [leadsAny, RV.leads, RC.leads, leadsT, hasSl_lit])), (bnot_f h4191), trivial⟩
 exact fn_playC hn97 (r := F97_res (0, 1)) pz (by kernel_rfl) (by kernel_rfl)
def F145 (K : Nat) (a1312 : Int) (a1313 : Int) : Option (Int × Bool) :=
 bif (ilt 0 a1313) then
  (bif (ilt (wsub .i64 9223372036854775807 a1313) a1312) then
   (some (0, false))
  else
  bif (ilt a1313 0) then
   (bif (ilt a1312 (wsub .i64 (-9223372036854775808) a1313)) then
    (some (0, false))
   else
   some ((wadd .i64 a1312 a1313), true))
  else
  some ((wadd .i64 a1312 a1313), true))
 else
 bif (ilt a1313 0) then
  (bif (ilt a1312 (wsub .i64 (-9223372036854775808) a1313)) then
   (some (0, false))
  else
  some ((wadd .i64 a1312 a1313), true))
 else
 some ((wadd .i64 a1312 a1313), true)
def i64 (n : Int) : Prop := -9223372036854775808 ≤ n ∧ n ≤ 9223372036854775807
def startS (j : GJob) (v : Int) : Int := bif ieq j.Prog 2 then v else bif ieq j.Prog 4 then (31 * v * v + 7) % 1009 else bif ieq j.Prog 5 then 1000000 else bif ieq v j.Source then 0 else 9223372036854775807
theorem wmul_ok {a b : Int} (h : i64 (a * b)) : wmul .i64 a b = a * b := by
 show IntKind.i64.wrap (a * b) = _
 rw [IntKind.wrap_i64]; unfold i64 at h; omega
theorem wadd_i64 {a b : Int} (h : i64 (a + b)) : wadd .i64 a b = a + b := by
 show IntKind.i64.wrap (a + b) = _
 rw [IntKind.wrap_i64]; unfold i64 at h; omega
theorem most_ok {v : Int} (h0 : 0 ≤ v) (h : v ≤ 1000) : wrem (wadd .i64 (wmul .i64 (wmul .i64 31 v) v) 7) 1009 = (31 * v * v + 7) % 1009 ∧ wrem (wadd .i64 (wmul .i64 (wmul .i64 v v) 31) 7) 1009 = (31 * v * v + 7) % 1009 := by
 have hvv : 0 ≤ v * v ∧ v * v ≤ 1000000 := ⟨Int.mul_nonneg h0 h0, by have := Int.mul_le_mul h h h0 (by omega : (0 : Int) ≤ 1000); omega⟩
 have e1 : 31 * v * v = 31 * (v * v) := Int.mul_assoc _ _ _
 have e2 : wmul .i64 31 v = 31 * v := wmul_ok ⟨by omega, by omega⟩
 have e3 : wmul .i64 (31 * v) v = 31 * v * v := wmul_ok ⟨by omega, by omega⟩
 have e4 : wmul .i64 v v = v * v := wmul_ok ⟨by omega, by omega⟩
 have e5 : wmul .i64 (v * v) 31 = v * v * 31 := wmul_ok ⟨by omega, by omega⟩
 have e6 : wadd .i64 (31 * v * v) 7 = 31 * v * v + 7 := wadd_i64 ⟨by omega, by omega⟩
 have e7 : v * v * 31 = 31 * v * v := by omega
 rw [e2, e3, e4, e5, e7, e6]
 have : wrem (31 * v * v + 7) 1009 = (31 * v * v + 7) % 1009 := by
   show Int.tmod _ _ = _
   exact Int.tmod_eq_emod_of_nonneg (by omega)
 exact ⟨this, this⟩
theorem F95_spec {K : Nat} (hK : 100 ≤ K) (g : GGraph) (j : GJob) (v : Int) : F95 K g j v = some (bif ieq (jcheck g j) 0 then (bif ilt v 0 || ile g.N v then (0, 4) else (startS j v, 0)) else (0, jcheck g j)) := by
 rw [F95, F94_spec hK, Option.bind_some]
 cases hc : ieq (jcheck g j) 0
 · rfl
 · obtain ⟨hg, p1, p2, p3, p4, p5, p6, p7, p8⟩ := jcheck_ok hc
   obtain ⟨g1, g2, _, _⟩ := gcheck_ok hg
   rw [cond_true, cond_true]
   cases h0 : ilt v 0
   · rw [Bool.false_or]
     cases hN : ile g.N v
     · have v0 := ilt_f.1 h0
       have v1 := ile_f.1 hN
       rw [cond_false, cond_false, cond_false, startS]
       rcases prog_cases j.Prog with q | q | q | q | q | q
       · rw [q, F143_1]
         simp only [Option.bind_some, cond_true, cond_false, af_1_1, af_1_3, af_1_2, af_1_4, af_1_5, af_1_0, af_3_1, af_3_3, af_3_2, af_3_4, af_3_5, af_3_0, af_2_1, af_2_3, af_2_2, af_2_4, af_2_5, af_2_0, af_4_1, af_4_3, af_4_2, af_4_4, af_4_5, af_4_0, af_5_1, af_5_3, af_5_2, af_5_4, af_5_5, af_5_0, af_0_1, af_0_3, af_0_2, af_0_4, af_0_5, af_0_0, F158]
         cases ieq v j.Source <;> rfl
       · rw [q, F143_2]
         simp only [Option.bind_some, cond_true, cond_false, af_1_1, af_1_3, af_1_2, af_1_4, af_1_5, af_1_0, af_3_1, af_3_3, af_3_2, af_3_4, af_3_5, af_3_0, af_2_1, af_2_3, af_2_2, af_2_4, af_2_5, af_2_0, af_4_1, af_4_3, af_4_2, af_4_4, af_4_5, af_4_0, af_5_1, af_5_3, af_5_2, af_5_4, af_5_5, af_5_0, af_0_1, af_0_3, af_0_2, af_0_4, af_0_5, af_0_0, F162]
         rfl
       · rw [q, F143_3]
         simp only [Option.bind_some, cond_true, cond_false, af_1_1, af_1_3, af_1_2, af_1_4, af_1_5, af_1_0, af_3_1, af_3_3, af_3_2, af_3_4, af_3_5, af_3_0, af_2_1, af_2_3, af_2_2, af_2_4, af_2_5, af_2_0, af_4_1, af_4_3, af_4_2, af_4_4, af_4_5, af_4_0, af_5_1, af_5_3, af_5_2, af_5_4, af_5_5, af_5_0, af_0_1, af_0_3, af_0_2, af_0_4, af_0_5, af_0_0, F158]
         cases ieq v j.Source <;> rfl
       · rw [q, F143_4]
         simp only [Option.bind_some, cond_true, cond_false, af_1_1, af_1_3, af_1_2, af_1_4, af_1_5, af_1_0, af_3_1, af_3_3, af_3_2, af_3_4, af_3_5, af_3_0, af_2_1, af_2_3, af_2_2, af_2_4, af_2_5, af_2_0, af_4_1, af_4_3, af_4_2, af_4_4, af_4_5, af_4_0, af_5_1, af_5_3, af_5_2, af_5_4, af_5_5, af_5_0, af_0_1, af_0_3, af_0_2, af_0_4, af_0_5, af_0_0, F164, (most_ok v0 (show v ≤ 1000 by omega)).1]
         rfl
       · rw [q, F143_5]
         simp only [Option.bind_some, cond_true, cond_false, af_1_1, af_1_3, af_1_2, af_1_4, af_1_5, af_1_0, af_3_1, af_3_3, af_3_2, af_3_4, af_3_5, af_3_0, af_2_1, af_2_3, af_2_2, af_2_4, af_2_5, af_2_0, af_4_1, af_4_3, af_4_2, af_4_4, af_4_5, af_4_0, af_5_1, af_5_3, af_5_2, af_5_4, af_5_5, af_5_0, af_0_1, af_0_3, af_0_2, af_0_4, af_0_5, af_0_0, F166]
         rfl
       · omega
     · rfl
   · rfl
def fitsB (n : Int) : Bool := decide (-9223372036854775808 ≤ n) && decide (n ≤ 9223372036854775807)
theorem fitsB_iff {n : Int} : fitsB n = true ↔ i64 n := by simp [fitsB, i64]
theorem fitsB_f {n : Int} : fitsB n = false ↔ n < -9223372036854775808 ∨ 9223372036854775807 < n := by
 cases h : fitsB n
 · have : ¬ i64 n := fun q => by rw [fitsB_iff.2 q] at h; cases h
   unfold i64 at this
   simp only [true_iff]; omega
 · have := fitsB_iff.1 h
   unfold i64 at this
   simp only [Bool.true_eq_false, false_iff]; omega
def addS (a b : Int) : Int × Bool := bif fitsB (a + b) then (a + b, true) else (0, false)
theorem F145_spec (K : Nat) {a b : Int} (ha : i64 a) (hb : i64 b) : F145 K a b = some (addS a b) := by
 unfold i64 at ha hb
 rw [F145, addS]
 cases h1 : ilt 0 b
 · have b1 := ilt_f.1 h1
   cases h2 : ilt b 0
   · have b2 := ilt_f.1 h2
     have : b = 0 := by omega
     rw [fitsB_iff.2 (by unfold i64; omega), wadd_i64 (by unfold i64; omega)]; rfl
   · have b2 := ilt_iff.1 h2
     have ew : wsub .i64 (-9223372036854775808) b = -9223372036854775808 - b := by
       show IntKind.i64.wrap _ = _
       rw [IntKind.wrap_i64]; omega
     rw [cond_false, cond_true, ew]
     cases h3 : ilt a (-9223372036854775808 - b)
     · have := ilt_f.1 h3
       rw [fitsB_iff.2 (by unfold i64; omega), wadd_i64 (by unfold i64; omega)]; rfl
     · have := ilt_iff.1 h3
       rw [fitsB_f.2 (by omega)]; rfl
 · have b1 := ilt_iff.1 h1
   have ew : wsub .i64 9223372036854775807 b = 9223372036854775807 - b := by
     show IntKind.i64.wrap _ = _
     rw [IntKind.wrap_i64]; omega
   rw [cond_true, ew, ilt_f.2 (by omega : (0 : Int) ≤ b), cond_false]
   cases h3 : ilt (9223372036854775807 - b) a
   · have := ilt_f.1 h3
     rw [fitsB_iff.2 (by unfold i64; omega), wadd_i64 (by unfold i64; omega)]; rfl
   · have := ilt_iff.1 h3
     rw [fitsB_f.2 (by omega)]; rfl
theorem F144_spec (K : Nat) {a b : Int} (ha : i64 a) (hb : i64 b) : F144 K a b = some (addS a b) := by
 unfold i64 at ha hb
 have ew : wadd .i64 a b = bif fitsB (a + b) then a + b else bif ilt (a + b) 0 then a + b + 18446744073709551616 else a + b - 18446744073709551616 := by
   show IntKind.i64.wrap (a + b) = _
   rw [IntKind.wrap_i64]
   cases h : fitsB (a + b)
   · have := fitsB_f.1 h
     cases h2 : ilt (a + b) 0
     · have := ilt_f.1 h2; simp only [cond_false]; omega
     · have := ilt_iff.1 h2; simp only [cond_false, cond_true]; omega
   · have := fitsB_iff.1 h; unfold i64 at this; simp only [cond_true]; omega
 have eg : ∀ x : Int, ige x 0 = !(ilt x 0) := fun x => by
   unfold ige ilt
   by_cases h : x < 0 <;> simp [h] <;> omega
 rw [F144, addS, eg, eg, eg, ew]
 cases h : fitsB (a + b)
 · have h' := fitsB_f.1 h
   rcases h' with h' | h'
   · rw [ilt_iff.2 (by omega : a < 0), ilt_iff.2 (by omega : b < 0), ilt_iff.2 (by omega : a + b < 0)]
     simp only [cond_false, cond_true]
     rw [ilt_f.2 (by omega : 0 ≤ a + b + 18446744073709551616)]; rfl
   · rw [ilt_f.2 (by omega : 0 ≤ a), ilt_f.2 (by omega : 0 ≤ b), ilt_f.2 (by omega : 0 ≤ a + b)]
     simp only [cond_false, cond_true]
     rw [ilt_iff.2 (by omega : a + b - 18446744073709551616 < 0)]; rfl
 · simp only [cond_true]
   cases h1 : ilt a 0 <;> cases h2 : ilt b 0
   · rw [ilt_f.2 (by have := ilt_f.1 h1; have := ilt_f.1 h2; omega : 0 ≤ a + b)]; rfl
   · rfl
   · rfl
   · rw [ilt_iff.2 (by have := ilt_iff.1 h1; have := ilt_iff.1 h2; omega : a + b < 0)]; rfl
def foldS (p a b : Int) : Int × Int := bif pbad p then (0, 1) else bif ieq p 5 then (bif (addS a b).2 then ((addS a b).1, 0) else (0, 8)) else bif ieq p 4 then (bif ilt a b then (b, 0) else (a, 0)) else bif ilt b a then (b, 0) else (a, 0)
theorem F97_spec (K : Nat) (p : Int) {a b : Int} (ha : i64 a) (hb : i64 b) : F97 K p a b = some (foldS p a b) := by
 rw [F97]
 rcases prog_cases p with q | q | q | q | q | q
 · subst q
   have e5 : ieq 1 5 = false := rfl
   have e4 : ieq 1 4 = false := rfl
   have eb : pbad 1 = false := rfl
   rw [F143_1, foldS, e5, e4, eb]
   simp only [Option.bind_some, cond_true, cond_false, af_1_1, af_1_3, af_1_2, af_1_4, af_1_5, af_1_0, af_3_1, af_3_3, af_3_2, af_3_4, af_3_5, af_3_0, af_2_1, af_2_3, af_2_2, af_2_4, af_2_5, af_2_0, af_4_1, af_4_3, af_4_2, af_4_4, af_4_5, af_4_0, af_5_1, af_5_3, af_5_2, af_5_4, af_5_5, af_5_0, af_0_1, af_0_3, af_0_2, af_0_4, af_0_5, af_0_0, F159]
   cases ilt b a <;> rfl
 · subst q
   have e5 : ieq 2 5 = false := rfl
   have e4 : ieq 2 4 = false := rfl
   have eb : pbad 2 = false := rfl
   rw [F143_2, foldS, e5, e4, eb]
   simp only [Option.bind_some, cond_true, cond_false, af_1_1, af_1_3, af_1_2, af_1_4, af_1_5, af_1_0, af_3_1, af_3_3, af_3_2, af_3_4, af_3_5, af_3_0, af_2_1, af_2_3, af_2_2, af_2_4, af_2_5, af_2_0, af_4_1, af_4_3, af_4_2, af_4_4, af_4_5, af_4_0, af_5_1, af_5_3, af_5_2, af_5_4, af_5_5, af_5_0, af_0_1, af_0_3, af_0_2, af_0_4, af_0_5, af_0_0, F159]
   cases ilt b a <;> rfl
 · subst q
   have e5 : ieq 3 5 = false := rfl
   have e4 : ieq 3 4 = false := rfl
   have eb : pbad 3 = false := rfl
   rw [F143_3, foldS, e5, e4, eb]
   simp only [Option.bind_some, cond_true, cond_false, af_1_1, af_1_3, af_1_2, af_1_4, af_1_5, af_1_0, af_3_1, af_3_3, af_3_2, af_3_4, af_3_5, af_3_0, af_2_1, af_2_3, af_2_2, af_2_4, af_2_5, af_2_0, af_4_1, af_4_3, af_4_2, af_4_4, af_4_5, af_4_0, af_5_1, af_5_3, af_5_2, af_5_4, af_5_5, af_5_0, af_0_1, af_0_3, af_0_2, af_0_4, af_0_5, af_0_0, F159]
   cases ilt b a <;> rfl
 · subst q
   have e5 : ieq 4 5 = false := rfl
   have e4 : ieq 4 4 = true := rfl
   have eb : pbad 4 = false := rfl
   rw [F143_4, foldS, e5, e4, eb]
   simp only [Option.bind_some, cond_true, cond_false, af_1_1, af_1_3, af_1_2, af_1_4, af_1_5, af_1_0, af_3_1, af_3_3, af_3_2, af_3_4, af_3_5, af_3_0, af_2_1, af_2_3, af_2_2, af_2_4, af_2_5, af_2_0, af_4_1, af_4_3, af_4_2, af_4_4, af_4_5, af_4_0, af_5_1, af_5_3, af_5_2, af_5_4, af_5_5, af_5_0, af_0_1, af_0_3, af_0_2, af_0_4, af_0_5, af_0_0, F165, igt]
   have : decide (b > a) = ilt a b := rfl
   rw [this]
   cases ilt a b <;> rfl
 · subst q
   have e5 : ieq 5 5 = true := rfl
   have e4 : ieq 5 4 = false := rfl
   have eb : pbad 5 = false := rfl
   rw [F143_5, foldS, e5, e4, eb]
   simp only [Option.bind_some, cond_true, cond_false, af_1_1, af_1_3, af_1_2, af_1_4, af_1_5, af_1_0, af_3_1, af_3_3, af_3_2, af_3_4, af_3_5, af_3_0, af_2_1, af_2_3, af_2_2, af_2_4, af_2_5, af_2_0, af_4_1, af_4_3, af_4_2, af_4_4, af_4_5, af_4_0, af_5_1, af_5_3, af_5_2, af_5_4, af_5_5, af_5_0, af_0_1, af_0_3, af_0_2, af_0_4, af_0_5, af_0_0, F144_spec K ha hb]
   cases (addS a b).2 <;> rfl
 · have eb : pbad p = true := by
     unfold pbad
     rcases q with q | q
     · rw [ilt_iff.2 q]; rfl
     · rw [ilt_iff.2 q, Bool.or_true]
   rw [F143_0 K q, foldS, eb]
   simp only [Option.bind_some, cond_true, cond_false, af_1_1, af_1_3, af_1_2, af_1_4, af_1_5, af_1_0, af_3_1, af_3_3, af_3_2, af_3_4, af_3_5, af_3_0, af_2_1, af_2_3, af_2_2, af_2_4, af_2_5, af_2_0, af_4_1, af_4_3, af_4_2, af_4_4, af_4_5, af_4_0, af_5_1, af_5_3, af_5_2, af_5_4, af_5_5, af_5_0, af_0_1, af_0_3, af_0_2, af_0_4, af_0_5, af_0_0]
theorem foldS_i64 {p a b : Int} (ha : i64 a) (hb : i64 b) : i64 (foldS p a b).1 := by
 have h0 : i64 0 := by unfold i64; omega
 rw [foldS]
 cases pbad p
 · cases ieq p 5
   · cases ieq p 4
     · simp only [cond_false]
       cases ilt b a
       · exact ha
       · exact hb
     · simp only [cond_false, cond_true]
       cases ilt a b
       · exact ha
       · exact hb
   · simp only [cond_false, cond_true]
     unfold addS
     cases h : fitsB (a + b)
     · exact h0
     · exact fitsB_iff.1 h
 · exact h0
noncomputable def hn149 : Hint := { H 149 with nt := 21, prot := 0 }
noncomputable def c149_0 : Code := loopOf E 149 0
def F149_res (r5192 : Int × Bool) : Res := ⟨[(.one (.im (.lit (.int .i64 r5192.1)))), (.one (.im (.lit (.bool r5192.2))))], []⟩
def F149_l0_0 (K : Nat) (a5170 : List GMsg) (a5171 : Int) : Nat → Int → Option ((Int) ⊕ (Unit))
 | 0, _ => none
 | k + 1, v5177 =>
  bif (ilt v5177 (nlen (len a5170))) then
   (bif (inr v5177 (len a5170)) then
   (elAt a5170 v5177).bind fun x5180 =>
   bif (ieq x5180.To a5171) then
    (some (.inl x5180.V))
   else
   F149_l0_0 K a5170 a5171 k (wadd .i64 v5177 1)
   else none)
  else
  some (.inr ())
def F149_l0_0_S (a5170 : List GMsg) (a5171 : Int) (v5177 : Int) : TS := .on [0, 1, 64, 65, 512, 513, 576, 577, 640, 641] [(0, ⟨.one, 0, nob⟩), (1, ⟨.im, 0, (.sl (len a5170) (flat eGMsg a5170))⟩), (64, ⟨.one, 0, nob⟩), (65, ⟨.im, 0, (.lit (.int .i64 a5171))⟩), (512, ⟨.one, 0, nob⟩), (513, ⟨.im, 0, (.sl (len a5170) (flat eGMsg a5170))⟩), (576, ⟨.one, 0, nob⟩), (577, ⟨.im, 0, (.lit (.int .i64 (nlen (len a5170))))⟩), (640, ⟨.one, 0, nob⟩), (641, ⟨.im, 0, (.lit (.int .i64 v5177))⟩)]
def F149_l0_0_X0 (a5170 : List GMsg) (a5171 : Int) (w5183 : Int) : TS := .on [256, 257, 320, 321] [(256, ⟨.one, 0, nob⟩), (257, ⟨.im, 0, (.lit (.int .i64 w5183))⟩), (320, ⟨.one, 0, nob⟩), (321, ⟨.im, 0, (.lit (.bool true))⟩)]
def F149_l0_0_X1 (a5170 : List GMsg) (a5171 : Int) (w5185 : Unit) : TS := .on [] []
theorem F149_l0_0_ok (K : Nat) (a5170 : List GMsg) (a5171 : Int) : ∀ (k : Nat) (v5177 : Int) (r : (Int) ⊕ (Unit)), F149_l0_0 K a5170 a5171 k v5177 = some r → (Sum.elim (fun w => LoopEv E H hn149 0 c149_0 (F149_l0_0_S a5170 a5171 v5177) .ret (F149_l0_0_X0 a5170 a5171 w)) (fun w => LoopEv E H hn149 0 c149_0 (F149_l0_0_S a5170 a5171 v5177) (.exit 0) (F149_l0_0_X1 a5170 a5171 w))) r := by
 intro k
 induction k with
 | zero => intro v5177 r hF; cases hF
 | succ k ih =>
  intro v5177 r hF
  rw [F149_l0_0] at hF
  refine cond_some hF (fun h5178 hF => ?_) (fun h5178 hF => ?_)
  ·
   refine cond_some hF (fun h5179 hF => ?_) (fun _ hF => nomatch hF)
   refine bind_some hF (fun x5180 h5181 hF => ?_)
   have pq5186 : ∀ {l : List Cond}, HoldAll E H hn149 l → HoldAll E H hn149 (.test (ilt v5177 (nlen (len a5170))) true :: .test (inr v5177 (len a5170)) true :: .sub (flat eGMsg a5170) (nidx v5177 2) 2 [(.lit (.int .i64 x5180.To)), (.lit (.int .i64 x5180.V))] :: l) := fun z => ⟨h5178, h5179, ⟨rfl, sub_flat0 eGMsg_len h5181 2 (by decide)⟩, z⟩
   refine cond_some hF (fun h5182 hF => ?_) (fun h5182 hF => ?_)
   ·
    obtain rfl := Option.some.inj hF
    have pz : HoldAll E H hn149 [.test (ieq x5180.To a5171) true] := ⟨h5182, trivial⟩
    exact loop_endC (h := hn149) (l := 0) (c := c149_0) (ts := F149_l0_0_S a5170 a5171 v5177) (ts' := F149_l0_0_X0 a5170 a5171 x5180.V) (ex := .ret) (pq5186 pz) (by kernel_rfl) trivial
   have pz : HoldAll E H hn149 [.test (ieq x5180.To a5171) false, .int (wadd .i64 v5177 1) (wadd .i64 v5177 1)] := ⟨h5182, rfl, trivial⟩
   have h0 := ih _ _ hF
   have hn := fun ex ts' => loop_nextC (h := hn149) (l := 0) (c := c149_0) (ts := F149_l0_0_S a5170 a5171 v5177) (ts1 := (F149_l0_0_S a5170 a5171 (wadd .i64 v5177 1))) (ex := ex) (ts' := ts') (pq5186 pz) (by kernel_rfl)
   cases r with
   | inl w => exact hn _ _ h0
   | inr w => exact hn _ _ h0
  obtain rfl := Option.some.inj hF
  have pz : HoldAll E H hn149 [.test (ilt v5177 (nlen (len a5170))) false] := ⟨h5178, trivial⟩
  exact loop_endC (h := hn149) (l := 0) (c := c149_0) (ts := F149_l0_0_S a5170 a5171 v5177) (ts' := F149_l0_0_X1 a5170 a5171 ()) (ex := (.exit 0)) pz (by kernel_rfl) trivial
def F149 (K : Nat) (a5170 : List GMsg) (a5171 : Int) : Option (Int × Bool) :=
 (F149_l0_0 K a5170 a5171 K 0).bind fun y5188 =>
 Sum.elim (fun w5189 =>
  some (w5189, true))
  (fun w5191 =>
  some (0, false)) y5188
theorem F149_ok (K : Nat) (a5170 : List GMsg) (a5171 : Int) (r : Int × Bool) (hF : F149 K a5170 a5171 = some r) : Evt E H 149 [.one (.sl (len a5170) (flat eGMsg a5170)), .one (.lit (.int .i64 a5171))] (F149_res r) := by
 rw [F149] at hF
 refine bind_some hF (fun y5188 h5187 hF => ?_)
 refine sum_some hF (fun w5189 hx hF => ?_) (fun w5191 hx hF => ?_)
 ·
  subst hx
  obtain rfl := Option.some.inj hF
  have pz : HoldAll E H hn149 [.int (nlen (len a5170)) (nlen (len a5170)), .loop 0 c149_0 (F149_l0_0_S a5170 a5171 0) .ret (F149_l0_0_X0 a5170 a5171 w5189)] := ⟨rfl, (F149_l0_0_ok K a5170 a5171 K 0 _ h5187), trivial⟩
  exact fn_playC hn149 (r := F149_res (w5189, true)) pz (by kernel_rfl) (by kernel_rfl)
 subst hx
 obtain rfl := Option.some.inj hF
 have pz : HoldAll E H hn149 [.int (nlen (len a5170)) (nlen (len a5170)), .loop 0 c149_0 (F149_l0_0_S a5170 a5171 0) (.exit 0) (F149_l0_0_X1 a5170 a5171 w5191)] := ⟨rfl, (F149_l0_0_ok K a5170 a5171 K 0 _ h5187), trivial⟩
 exact fn_playC hn149 (r := F149_res (0, false)) pz (by kernel_rfl) (by kernel_rfl)
noncomputable def hn173 : Hint := { H 173 with nt := 24, prot := 0 }
def F173_res (r5317 : Bool) : Res := ⟨[(.one (.im (.lit (.bool r5317))))], []⟩
def F173 (K : Nat) (a5312 : GMsg) (a5313 : GMsg) : Option (Bool) :=
 bif (ilt a5312.To a5313.To) then
  (some true)
 else
 bif (ieq a5312.To a5313.To) then
  (some (ilt a5312.V a5313.V))
 else
 some false
theorem F173_ok (K : Nat) (a5312 : GMsg) (a5313 : GMsg) (r : Bool) (hF : F173 K a5312 a5313 = some r) : Evt E H 173 [.agg (eGMsg a5312), .agg (eGMsg a5313)] (F173_res r) := by
 rw [F173] at hF
 refine cond_some hF (fun h5314 hF => ?_) (fun h5314 hF => ?_)
 ·
  obtain rfl := Option.some.inj hF
  have pz : HoldAll E H hn173 [.test (beqb (ilt a5312.To a5313.To) false) false, .test (beqb (ilt a5312.To a5313.To) false) false, .test (beqb (ilt a5312.To a5313.To) false) false, .test (beqb (ilt a5312.To a5313.To) false) false, .test (beqb (ilt a5312.To a5313.To) false) false, .test (beqb (ilt a5312.To a5313.To) false) false, .test (beqb (ilt a5312.To a5313.To) false) false, .test (ilt a5312.To a5313.To) true] := ⟨(beqb_ft h5314), (beqb_ft h5314), (beqb_ft h5314), (beqb_ft h5314), (beqb_ft h5314), (beqb_ft h5314), (beqb_ft h5314), h5314, trivial⟩
  exact fn_playC hn173 (r := F173_res true) pz (by kernel_rfl) (by kernel_rfl)
 have pq5316 : ∀ {l : List Cond}, HoldAll E H hn173 l → HoldAll E H hn173 (.test (beqb (ilt a5312.To a5313.To) false) true :: .test (beqb (ilt a5312.To a5313.To) false) true :: .test (beqb (ilt a5312.To a5313.To) false) true :: .test (beqb (ilt a5312.To a5313.To) false) true :: .test (beqb (ilt a5312.To a5313.To) false) true :: .test (beqb (ilt a5312.To a5313.To) false) true :: l) := fun z => ⟨(beqb_ff h5314), (beqb_ff h5314), (beqb_ff h5314), (beqb_ff h5314), (beqb_ff h5314), (beqb_ff h5314), z⟩
 refine cond_some hF (fun h5315 hF => ?_) (fun h5315 hF => ?_)
 ·
  obtain rfl := Option.some.inj hF
  have pz : HoldAll E H hn173 [.test (beqb (ieq a5312.To a5313.To) true) true, .test (beqb (ieq a5312.To a5313.To) true) true, .test (beqb (ieq a5312.To a5313.To) true) true, .test (beqb (ieq a5312.To a5313.To) true) true, .test (beqb (ieq a5312.To a5313.To) true) true, .test (beqb (ilt a5312.To a5313.To) false) true, .test (ieq a5312.To a5313.To) true, .test (ilt a5312.To a5313.To) false] := ⟨(beqb_t h5315), (beqb_t h5315), (beqb_t h5315), (beqb_t h5315), (beqb_t h5315), (beqb_ff h5314), h5315, h5314, trivial⟩
  exact fn_playC hn173 (r := F173_res (ilt a5312.V a5313.V)) (pq5316 pz) (by kernel_rfl) (by kernel_rfl)
 obtain rfl := Option.some.inj hF
 have pz : HoldAll E H hn173 [.test (beqb (ieq a5312.To a5313.To) true) false, .test (beqb (ieq a5312.To a5313.To) true) false, .test (beqb (ieq a5312.To a5313.To) true) false, .test (beqb (ieq a5312.To a5313.To) true) false, .test (beqb (ieq a5312.To a5313.To) true) false, .test (beqb (ilt a5312.To a5313.To) false) true, .test (ieq a5312.To a5313.To) false, .test (ilt a5312.To a5313.To) false] := ⟨(beqb_t h5315), (beqb_t h5315), (beqb_t h5315), (beqb_t h5315), (beqb_t h5315), (beqb_ff h5314), h5315, h5314, trivial⟩
 exact fn_playC hn173 (r := F173_res false) (pq5316 pz) (by kernel_rfl) (by kernel_rfl)
noncomputable def hn172_173 : Hint := { H 172 with nt := 68, prot := 0 }
noncomputable def c172_173_0 : Code := loopOf E 172 0
def F172_173_res (r5357 : List GMsg) : Res := ⟨[(.one (.own 130 (.sl (len r5357) (flat eGMsg r5357))))], []⟩
def F172_173_l0_0 (K : Nat)  : Nat → List GMsg → List GMsg → List GMsg → Option (List GMsg × List GMsg × List GMsg)
 | 0, _, _, _ => none
 | k + 1, v5325, v5326, v5327 =>
  bif (ilt 0 (nlen (len v5325))) then
   (bif (ilt 0 (nlen (len v5326))) then
    (bif (inr 0 (len v5326)) then
    (elAt v5326 0).bind fun x5331 =>
    bif (inr 0 (len v5325)) then
    (elAt v5325 0).bind fun x5334 =>
    (F173 K x5331 x5334).bind fun r5336 =>
    bif r5336 then
     (bif (apok (len v5327) 1 16) then
     bif (bnd 1 (nlen (len v5326)) (len v5326)) then
     F172_173_l0_0 K  k v5325 (subL v5326 1 (nlen (len v5326))) (appL v5327 [x5331])
     else none
     else none)
    else
    bif (apok (len v5327) 1 16) then
    bif (bnd 1 (nlen (len v5325)) (len v5325)) then
    F172_173_l0_0 K  k (subL v5325 1 (nlen (len v5325))) v5326 (appL v5327 [x5334])
    else none
    else none
    else none
    else none)
   else
   some (v5325, (v5326, v5327)))
  else
  some (v5325, (v5326, v5327))
def F172_173_l0_0_S  (v5325 : List GMsg) (v5326 : List GMsg) (v5327 : List GMsg) : TS := .on [64, 65, 384, 385, 448, 449, 512, 513] [(64, ⟨.one, 0, nob⟩), (65, ⟨.im, 0, (.lit (fnV 173))⟩), (384, ⟨.one, 0, nob⟩), (385, ⟨.im, 0, (.sl (len v5325) (flat eGMsg v5325))⟩), (448, ⟨.one, 0, nob⟩), (449, ⟨.im, 0, (.sl (len v5326) (flat eGMsg v5326))⟩), (512, ⟨.one, 0, nob⟩), (513, ⟨(.own 130), 0, (.sl (len v5327) (flat eGMsg v5327))⟩)]
def F172_173_l0_0_X0  (w5343 : List GMsg × List GMsg × List GMsg) : TS := .on [384, 385, 448, 449, 512, 513] [(384, ⟨.one, 0, nob⟩), (385, ⟨.im, 0, (.sl (len w5343.1) (flat eGMsg w5343.1))⟩), (448, ⟨.one, 0, nob⟩), (449, ⟨.im, 0, (.sl (len w5343.2.1) (flat eGMsg w5343.2.1))⟩), (512, ⟨.one, 0, nob⟩), (513, ⟨(.own 130), 0, (.sl (len w5343.2.2) (flat eGMsg w5343.2.2))⟩)]
theorem F172_173_l0_0_ok (K : Nat)  : ∀ (k : Nat) (v5325 : List GMsg) (v5326 : List GMsg) (v5327 : List GMsg) (r : List GMsg × List GMsg × List GMsg), F172_173_l0_0 K  k v5325 v5326 v5327 = some r → LoopEv E H hn172_173 0 c172_173_0 (F172_173_l0_0_S  v5325 v5326 v5327) (.exit 0) (F172_173_l0_0_X0  r) := by
 intro k
 induction k with
 | zero => intro v5325 v5326 v5327 r hF; cases hF
 | succ k ih =>
  intro v5325 v5326 v5327 r hF
  rw [F172_173_l0_0] at hF
  refine cond_some hF (fun h5328 hF => ?_) (fun h5328 hF => ?_)
  ·
   have pq5347 : ∀ {l : List Cond}, HoldAll E H hn172_173 l → HoldAll E H hn172_173 (.int (nlen (len v5325)) (nlen (len v5325)) :: .test (beqb (igt (nlen (len v5325)) 0) true) true :: .test (beqb (igt (nlen (len v5325)) 0) true) true :: .int (nlen (len v5326)) (nlen (len v5326)) :: .test (beqb (igt (nlen (len v5325)) 0) true) true :: .test (igt (nlen (len v5325)) 0) true :: l) := fun z => ⟨rfl, (beqb_t (igt_eq h5328)), (beqb_t (igt_eq h5328)), rfl, (beqb_t (igt_eq h5328)), (igt_eq h5328), z⟩
   refine cond_some hF (fun h5329 hF => ?_) (fun h5329 hF => ?_)
   ·
    refine cond_some hF (fun h5330 hF => ?_) (fun _ hF => nomatch hF)
    refine bind_some hF (fun x5331 h5332 hF => ?_)
    refine cond_some hF (fun h5333 hF => ?_) (fun _ hF => nomatch hF)
    refine bind_some hF (fun x5334 h5335 hF => ?_)
    refine bind_some hF (fun r5336 h5337 hF => ?_)
    have pq5348 : ∀ {l : List Cond}, HoldAll E H hn172_173 l → HoldAll E H hn172_173 (.test (igt (nlen (len v5326)) 0) true :: .test (inr 0 (len v5326)) true :: .sub (flat eGMsg v5326) (nidx 0 2) 2 [(.lit (.int .i64 x5331.To)), (.lit (.int .i64 x5331.V))] :: .test (inr 0 (len v5325)) true :: .sub (flat eGMsg v5325) (nidx 0 2) 2 [(.lit (.int .i64 x5334.To)), (.lit (.int .i64 x5334.V))] :: .call 173 [.agg (eGMsg x5331), .agg (eGMsg x5334)] (F173_res r5336) :: .test (leadsAny (Res.mk [(.one (.im (.lit (.bool r5336))))] [])) false :: l) := fun z => ⟨(igt_eq h5329), h5330, ⟨rfl, sub_flat0 eGMsg_len h5332 2 (by decide)⟩, h5333, ⟨rfl, sub_flat0 eGMsg_len h5335 2 (by decide)⟩, (F173_ok K x5331 x5334 _ h5337), (leads_ok (by simp [leadsAny, RV.leads, RC.leads, leadsT, hasSl_lit, flat_ns eGMsg_ns])), z⟩
    refine cond_some hF (fun h5338 hF => ?_) (fun h5338 hF => ?_)
    ·
     refine cond_some hF (fun h5339 hF => ?_) (fun _ hF => nomatch hF)
     refine cond_some hF (fun h5340 hF => ?_) (fun _ hF => nomatch hF)
     have pz : HoldAll E H hn172_173 [.test r5336 true, .test (inr 0 (len v5326)) true, .sub (flat eGMsg v5326) (nidx 0 2) 2 [(.lit (.int .i64 x5331.To)), (.lit (.int .i64 x5331.V))], .test (leqm [(.lit (.int .i64 x5331.To)), (.lit (.int .i64 x5331.V))] 1 2) true, .test (apok (len v5327) 1 16) true, .sl (nadd (len v5327) 1) (lapp (flat eGMsg v5327) [(.lit (.int .i64 x5331.To)), (.lit (.int .i64 x5331.V))]) (len (α := GMsg) (appL v5327 [x5331])) (flat eGMsg (appL v5327 [x5331])), .test (bnd 1 (nlen (len v5326)) (len v5326)) true, .sl (nsub 1 (nlen (len v5326))) (lsub (flat eGMsg v5326) 1 (nlen (len v5326)) 2) (len (α := GMsg) (subL v5326 1 (nlen (len v5326)))) (flat eGMsg (subL v5326 1 (nlen (len v5326))))] := ⟨h5338, h5330, ⟨rfl, sub_flat0 eGMsg_len h5332 2 (by decide)⟩, rfl, h5339, (app_ok (enc := eGMsg) (v5327 : List GMsg) [x5331]), h5340, (sub_ok eGMsg_len h5340), trivial⟩
     have h0 := ih _ _ _ _ hF
     have hn := fun ex ts' => loop_nextC (h := hn172_173) (l := 0) (c := c172_173_0) (ts := F172_173_l0_0_S  v5325 v5326 v5327) (ts1 := (F172_173_l0_0_S  v5325 (subL v5326 1 (nlen (len v5326))) (appL v5327 [x5331]))) (ex := ex) (ts' := ts') (pq5347 (pq5348 pz)) (by kernel_rfl)
     exact hn _ _ h0
    refine cond_some hF (fun h5341 hF => ?_) (fun _ hF => nomatch hF)
    refine cond_some hF (fun h5342 hF => ?_) (fun _ hF => nomatch hF)
    have pz : HoldAll E H hn172_173 [.test r5336 false, .test (inr 0 (len v5325)) true, .sub (flat eGMsg v5325) (nidx 0 2) 2 [(.lit (.int .i64 x5334.To)), (.lit (.int .i64 x5334.V))], .test (leqm [(.lit (.int .i64 x5334.To)), (.lit (.int .i64 x5334.V))] 1 2) true, .test (apok (len v5327) 1 16) true, .sl (nadd (len v5327) 1) (lapp (flat eGMsg v5327) [(.lit (.int .i64 x5334.To)), (.lit (.int .i64 x5334.V))]) (len (α := GMsg) (appL v5327 [x5334])) (flat eGMsg (appL v5327 [x5334])), .test (bnd 1 (nlen (len v5325)) (len v5325)) true, .sl (nsub 1 (nlen (len v5325))) (lsub (flat eGMsg v5325) 1 (nlen (len v5325)) 2) (len (α := GMsg) (subL v5325 1 (nlen (len v5325)))) (flat eGMsg (subL v5325 1 (nlen (len v5325))))] := ⟨h5338, h5333, ⟨rfl, sub_flat0 eGMsg_len h5335 2 (by decide)⟩, rfl, h5341, (app_ok (enc := eGMsg) (v5327 : List GMsg) [x5334]), h5342, (sub_ok eGMsg_len h5342), trivial⟩
    have h0 := ih _ _ _ _ hF
    have hn := fun ex ts' => loop_nextC (h := hn172_173) (l := 0) (c := c172_173_0) (ts := F172_173_l0_0_S  v5325 v5326 v5327) (ts1 := (F172_173_l0_0_S  (subL v5325 1 (nlen (len v5325))) v5326 (appL v5327 [x5334]))) (ex := ex) (ts' := ts') (pq5347 (pq5348 pz)) (by kernel_rfl)
    exact hn _ _ h0
   obtain rfl := Option.some.inj hF
   have pz : HoldAll E H hn172_173 [.test (igt (nlen (len v5326)) 0) false] := ⟨(igt_eq h5329), trivial⟩
   exact loop_endC (h := hn172_173) (l := 0) (c := c172_173_0) (ts := F172_173_l0_0_S  v5325 v5326 v5327) (ts' := F172_173_l0_0_X0  (v5325, (v5326, v5327))) (ex := (.exit 0)) (pq5347 pz) (by kernel_rfl) trivial
  obtain rfl := Option.some.inj hF
  have pz : HoldAll E H hn172_173 [.int (nlen (len v5325)) (nlen (len v5325)), .test (beqb (igt (nlen (len v5325)) 0) true) false, .test (beqb (igt (nlen (len v5325)) 0) true) false, .test (beqb (igt (nlen (len v5325)) 0) true) false, .test (igt (nlen (len v5325)) 0) false, .test false false] := ⟨rfl, (beqb_t (igt_eq h5328)), (beqb_t (igt_eq h5328)), (beqb_t (igt_eq h5328)), (igt_eq h5328), rfl, trivial⟩
  exact loop_endC (h := hn172_173) (l := 0) (c := c172_173_0) (ts := F172_173_l0_0_S  v5325 v5326 v5327) (ts' := F172_173_l0_0_X0  (v5325, (v5326, v5327))) (ex := (.exit 0)) pz (by kernel_rfl) trivial
def F172_173 (K : Nat) : Nat → List GMsg → Option (List GMsg)
 | 0, _ => none
 | d + 1, a5294 =>
 bif (ilt (nlen (len a5294)) 2) then
  (bif (apok 0 (len a5294) 16) then
  some (appL [] a5294)
  else none)
 else
 bif (bnd 0 (wquo .i64 (nlen (len a5294)) 2) (len a5294)) then
 (F172_173 K d (subL a5294 0 (wquo .i64 (nlen (len a5294)) 2))).bind fun r5298 =>
 bif (bnd (wquo .i64 (nlen (len a5294)) 2) (nlen (len a5294)) (len a5294)) then
 (F172_173 K d (subL a5294 (wquo .i64 (nlen (len a5294)) 2) (nlen (len a5294)))).bind fun r5301 =>
 bif (mkok 0 (nlen (len a5294)) 16) then
 (F172_173_l0_0 K  K r5298 r5301 (repL (α := GMsg) 0 (GMsg.mk 0 0))).bind fun w5351 =>
 bif (apok (len w5351.2.2) (len w5351.1) 16) then
 bif (apok (len (α := GMsg) (appL w5351.2.2 w5351.1)) (len w5351.2.1) 16) then
 some (appL (appL w5351.2.2 w5351.1) w5351.2.1)
 else none
 else none
 else none
 else none
 else none
theorem F172_173_ok (K : Nat) : ∀ (d : Nat) (a5294 : List GMsg) (r : List GMsg), F172_173 K d a5294 = some r → Evt E H 172 [.one (.sl (len a5294) (flat eGMsg a5294)), .one (.lit (fnV 173))] (F172_173_res r) := by
 intro d
 induction d with
 | zero => intro a5294 r hF; cases hF
 | succ d ih =>
  intro a5294 r hF
  rw [F172_173] at hF
  refine cond_some hF (fun h5295 hF => ?_) (fun h5295 hF => ?_)
  ·
   refine cond_some hF (fun h5296 hF => ?_) (fun _ hF => nomatch hF)
   obtain rfl := Option.some.inj hF
   have pz : HoldAll E H hn172_173 [.int (nlen (len a5294)) (nlen (len a5294)), .test (ilt (nlen (len a5294)) 2) true, .test (leqm (flat eGMsg a5294) (len a5294) 2) true, .test (apok 0 (len a5294) 16) true, .sl (nadd 0 (len a5294)) (lapp [] (flat eGMsg a5294)) (len (α := GMsg) (appL [] a5294)) (flat eGMsg (appL [] a5294))] := ⟨rfl, h5295, (leqm_flat eGMsg_len _), h5296, (app_ok (enc := eGMsg) ([] : List GMsg) a5294), trivial⟩
   exact fn_playC hn172_173 (r := F172_173_res (appL [] a5294)) pz (by kernel_rfl) (by kernel_rfl)
  refine cond_some hF (fun h5297 hF => ?_) (fun _ hF => nomatch hF)
  refine bind_some hF (fun r5298 h5299 hF => ?_)
  refine cond_some hF (fun h5300 hF => ?_) (fun _ hF => nomatch hF)
  refine bind_some hF (fun r5301 h5302 hF => ?_)
  refine cond_some hF (fun h5303 hF => ?_) (fun _ hF => nomatch hF)
  refine bind_some hF (fun w5351 h5349 hF => ?_)
  refine cond_some hF (fun h5355 hF => ?_) (fun _ hF => nomatch hF)
  refine cond_some hF (fun h5356 hF => ?_) (fun _ hF => nomatch hF)
  obtain rfl := Option.some.inj hF
  have pz : HoldAll E H hn172_173 [.int (nlen (len a5294)) (nlen (len a5294)), .test (ilt (nlen (len a5294)) 2) false, .int (nlen (len a5294)) (nlen (len a5294)), .test (izero 2) false, .int (wquo .i64 (nlen (len a5294)) 2) (wquo .i64 (nlen (len a5294)) 2), .test (bnd 0 (wquo .i64 (nlen (len a5294)) 2) (len a5294)) true, .sl (nsub 0 (wquo .i64 (nlen (len a5294)) 2)) (lsub (flat eGMsg a5294) 0 (wquo .i64 (nlen (len a5294)) 2) 2) (len (α := GMsg) (subL a5294 0 (wquo .i64 (nlen (len a5294)) 2))) (flat eGMsg (subL a5294 0 (wquo .i64 (nlen (len a5294)) 2))), .call 172 [.one (.sl (len (α := GMsg) (subL a5294 0 (wquo .i64 (nlen (len a5294)) 2))) (flat eGMsg (subL a5294 0 (wquo .i64 (nlen (len a5294)) 2)))), .one (.lit (fnV 173))] (F172_173_res r5298), .test (leadsAny (Res.mk [(.one (.own 130 (.sl (len r5298) (flat eGMsg r5298))))] [])) false, .test (bnd (wquo .i64 (nlen (len a5294)) 2) (nlen (len a5294)) (len a5294)) true, .sl (nsub (wquo .i64 (nlen (len a5294)) 2) (nlen (len a5294))) (lsub (flat eGMsg a5294) (wquo .i64 (nlen (len a5294)) 2) (nlen (len a5294)) 2) (len (α := GMsg) (subL a5294 (wquo .i64 (nlen (len a5294)) 2) (nlen (len a5294)))) (flat eGMsg (subL a5294 (wquo .i64 (nlen (len a5294)) 2) (nlen (len a5294)))), .call 172 [.one (.sl (len (α := GMsg) (subL a5294 (wquo .i64 (nlen (len a5294)) 2) (nlen (len a5294)))) (flat eGMsg (subL a5294 (wquo .i64 (nlen (len a5294)) 2) (nlen (len a5294))))), .one (.lit (fnV 173))] (F172_173_res r5301), .test (leadsAny (Res.mk [(.one (.own 130 (.sl (len r5301) (flat eGMsg r5301))))] [])) false, .int (nlen (len a5294)) (nlen (len a5294)), .test (mkok 0 (nlen (len a5294)) 16) true, .sl (nint 0) (lrep 0 [(.lit (.int .i64 0)), (.lit (.int .i64 0))]) (len (α := GMsg) (repL (α := GMsg) 0 (GMsg.mk 0 0))) (flat eGMsg (repL (α := GMsg) 0 (GMsg.mk 0 0))), .loop 0 c172_173_0 (F172_173_l0_0_S  r5298 r5301 (repL (α := GMsg) 0 (GMsg.mk 0 0))) (.exit 0) (F172_173_l0_0_X0  w5351), .test (leqm (flat eGMsg w5351.1) (len w5351.1) 2) true, .test (apok (len w5351.2.2) (len w5351.1) 16) true, .sl (nadd (len w5351.2.2) (len w5351.1)) (lapp (flat eGMsg w5351.2.2) (flat eGMsg w5351.1)) (len (α := GMsg) (appL w5351.2.2 w5351.1)) (flat eGMsg (appL w5351.2.2 w5351.1)), .test (leqm (flat eGMsg w5351.2.1) (len w5351.2.1) 2) true, .test (apok (len (α := GMsg) (appL w5351.2.2 w5351.1)) (len w5351.2.1) 16) true, .sl (nadd (len (α := GMsg) (appL w5351.2.2 w5351.1)) (len w5351.2.1)) (lapp (flat eGMsg (appL w5351.2.2 w5351.1)) (flat eGMsg w5351.2.1)) (len (α := GMsg) (appL (appL w5351.2.2 w5351.1) w5351.2.1)) (flat eGMsg (appL (appL w5351.2.2 w5351.1) w5351.2.1))] := ⟨rfl, h5295, rfl, (by first | exact rfl | (unfold Cond.Holds; decide)), rfl, h5297, (sub_ok eGMsg_len h5297), (ih (subL a5294 0 (wquo .i64 (nlen (len a5294)) 2)) _ h5299), (leads_ok (by simp [leadsAny, RV.leads, RC.leads, leadsT, hasSl_lit, flat_ns eGMsg_ns])), h5300, (sub_ok eGMsg_len h5300), (ih (subL a5294 (wquo .i64 (nlen (len a5294)) 2) (nlen (len a5294))) _ h5302), (leads_ok (by simp [leadsAny, RV.leads, RC.leads, leadsT, hasSl_lit, flat_ns eGMsg_ns])), rfl, h5303, (rep_okC (enc := eGMsg) (n := 0) (x := (GMsg.mk 0 0)) rfl), (F172_173_l0_0_ok K  K r5298 r5301 (repL (α := GMsg) 0 (GMsg.mk 0 0)) _ h5349), (leqm_flat eGMsg_len _), h5355, (app_ok (enc := eGMsg) (w5351.2.2 : List GMsg) w5351.1), (leqm_flat eGMsg_len _), h5356, (app_ok (enc := eGMsg) ((appL w5351.2.2 w5351.1) : List GMsg) w5351.2.1), trivial⟩
  exact fn_playC hn172_173 (r := F172_173_res (appL (appL w5351.2.2 w5351.1) w5351.2.1)) pz (by kernel_rfl) (by kernel_rfl)
noncomputable def hn169 : Hint := { H 169 with nt := 5, prot := 0 }
def F169_res (r5360 : List GMsg) : Res := ⟨[(.one (.own 130 (.sl (len r5360) (flat eGMsg r5360))))], []⟩
def F169 (K : Nat) (a5293 : List GMsg) : Option (List GMsg) :=
 (F172_173 K K a5293).bind fun r5358 =>
 some r5358
theorem F169_ok (K : Nat) (a5293 : List GMsg) (r : List GMsg) (hF : F169 K a5293 = some r) : Evt E H 169 [.one (.sl (len a5293) (flat eGMsg a5293))] (F169_res r) := by
 rw [F169] at hF
 refine bind_some hF (fun r5358 h5359 hF => ?_)
 obtain rfl := Option.some.inj hF
 have pz : HoldAll E H hn169 [.call 172 [.one (.sl (len a5293) (flat eGMsg a5293)), .one (.lit (fnV 173))] (F172_173_res r5358), .test (leadsAny (Res.mk [(.one (.own 130 (.sl (len r5358) (flat eGMsg r5358))))] [])) false] := ⟨(F172_173_ok K K a5293 _ h5359), (leads_ok (by simp [leadsAny, RV.leads, RC.leads, leadsT, hasSl_lit, flat_ns eGMsg_ns])), trivial⟩
 exact fn_playC hn169 (r := F169_res r5358) pz (by kernel_rfl) (by kernel_rfl)
noncomputable def hn150 : Hint := { H 150 with nt := 72, prot := 0 }
noncomputable def c150_0 : Code := loopOf E 150 0
def F150_res (r5414 : List GMsg × Int) : Res := ⟨[(.one (.own 130 (.sl (len r5414.1) (flat eGMsg r5414.1)))), (.one (.im (.lit (.int .i64 r5414.2))))], []⟩
def F150_l0_0 (K : Nat) (a5288 : Int) (r5361 : List GMsg) : Nat → List GMsg → Int → Option ((Int) ⊕ (List GMsg))
 | 0, _, _ => none
 | k + 1, v5384, v5385 =>
  bif (ilt v5385 (nlen (len r5361))) then
   (bif (inr v5385 (len r5361)) then
   (elAt r5361 v5385).bind fun x5388 =>
   bif (ilt 0 (nlen (len v5384))) then
    (bif (inr (wsub .i64 (nlen (len v5384)) 1) (len v5384)) then
    (elAt v5384 (wsub .i64 (nlen (len v5384)) 1)).bind fun x5392 =>
    bif (ieq x5392.To x5388.To) then
     ((F97 K a5288 x5392.V x5388.V).bind fun r5395 =>
     bif (ieq r5395.2 0) then
      (F150_l0_0 K a5288 r5361 k (putAt v5384 (wsub .i64 (nlen (len v5384)) 1) (GMsg.mk x5392.To r5395.1)) (wadd .i64 v5385 1))
     else
     some (.inl r5395.2))
    else
    bif (apok (len v5384) 1 16) then
    F150_l0_0 K a5288 r5361 k (appL v5384 [x5388]) (wadd .i64 v5385 1)
    else none
    else none)
   else
   bif (apok (len v5384) 1 16) then
   F150_l0_0 K a5288 r5361 k (appL v5384 [x5388]) (wadd .i64 v5385 1)
   else none
   else none)
  else
  some (.inr v5384)
def F150_l0_0_S (a5288 : Int) (r5361 : List GMsg) (v5384 : List GMsg) (v5385 : Int) : TS := .on [0, 1, 512, 513, 1472, 1473, 1536, 1537, 1600, 1601] [(0, ⟨.one, 0, nob⟩), (1, ⟨.im, 0, (.lit (.int .i64 a5288))⟩), (512, ⟨.one, 0, nob⟩), (513, ⟨(.own 130), 0, (.sl (len v5384) (flat eGMsg v5384))⟩), (1472, ⟨.one, 0, nob⟩), (1473, ⟨(.own 130), 0, (.sl (len r5361) (flat eGMsg r5361))⟩), (1536, ⟨.one, 0, nob⟩), (1537, ⟨.im, 0, (.lit (.int .i64 (nlen (len r5361))))⟩), (1600, ⟨.one, 0, nob⟩), (1601, ⟨.im, 0, (.lit (.int .i64 v5385))⟩)]
def F150_l0_0_X0 (a5288 : Int) (r5361 : List GMsg) (w5400 : Int) : TS := .on [256, 257, 320, 321] [(256, ⟨.one, 0, nob⟩), (257, ⟨(.own 130), 0, (.sl 0 [])⟩), (320, ⟨.one, 0, nob⟩), (321, ⟨.im, 0, (.lit (.int .i64 w5400))⟩)]
def F150_l0_0_X1 (a5288 : Int) (r5361 : List GMsg) (w5402 : List GMsg) : TS := .on [512, 513] [(512, ⟨.one, 0, nob⟩), (513, ⟨(.own 130), 0, (.sl (len w5402) (flat eGMsg w5402))⟩)]
theorem F150_l0_0_ok (K : Nat) (a5288 : Int) (r5361 : List GMsg) : ∀ (k : Nat) (v5384 : List GMsg) (v5385 : Int) (r : (Int) ⊕ (List GMsg)), F150_l0_0 K a5288 r5361 k v5384 v5385 = some r → (Sum.elim (fun w => LoopEv E H hn150 0 c150_0 (F150_l0_0_S a5288 r5361 v5384 v5385) .ret (F150_l0_0_X0 a5288 r5361 w)) (fun w => LoopEv E H hn150 0 c150_0 (F150_l0_0_S a5288 r5361 v5384 v5385) (.exit 0) (F150_l0_0_X1 a5288 r5361 w))) r := by
 intro k
 induction k with
 | zero => intro v5384 v5385 r hF; cases hF
 | succ k ih =>
  intro v5384 v5385 r hF
  rw [F150_l0_0] at hF
  refine cond_some hF (fun h5386 hF => ?_) (fun h5386 hF => ?_)
  ·
   refine cond_some hF (fun h5387 hF => ?_) (fun _ hF => nomatch hF)
   refine bind_some hF (fun x5388 h5389 hF => ?_)
   have pq5404 : ∀ {l : List Cond}, HoldAll E H hn150 l → HoldAll E H hn150 (.test (ilt v5385 (nlen (len r5361))) true :: .test (inr v5385 (len r5361)) true :: .sub (flat eGMsg r5361) (nidx v5385 2) 2 [(.lit (.int .i64 x5388.To)), (.lit (.int .i64 x5388.V))] :: .int (nlen (len v5384)) (nlen (len v5384)) :: l) := fun z => ⟨h5386, h5387, ⟨rfl, sub_flat0 eGMsg_len h5389 2 (by decide)⟩, rfl, z⟩
   refine cond_some hF (fun h5390 hF => ?_) (fun h5390 hF => ?_)
   ·
    refine cond_some hF (fun h5391 hF => ?_) (fun _ hF => nomatch hF)
    refine bind_some hF (fun x5392 h5393 hF => ?_)
    have pq5405 : ∀ {l : List Cond}, HoldAll E H hn150 l → HoldAll E H hn150 (.test (beqb (igt (nlen (len v5384)) 0) true) true :: .test (beqb (igt (nlen (len v5384)) 0) true) true :: .test (beqb (igt (nlen (len v5384)) 0) true) true :: .int (wsub .i64 (nlen (len v5384)) 1) (wsub .i64 (nlen (len v5384)) 1) :: .test (beqb (igt (nlen (len v5384)) 0) true) true :: .test (inr (wsub .i64 (nlen (len v5384)) 1) (len v5384)) true :: .test (beqb (igt (nlen (len v5384)) 0) true) true :: .test (beqb (igt (nlen (len v5384)) 0) true) true :: .sub (flat eGMsg v5384) (nadd (nidx (wsub .i64 (nlen (len v5384)) 1) 2) 0) 1 [(.lit (.int .i64 x5392.To))] :: .test (beqb (igt (nlen (len v5384)) 0) true) true :: .test (beqb (igt (nlen (len v5384)) 0) true) true :: .test (beqb (igt (nlen (len v5384)) 0) true) true :: .test (igt (nlen (len v5384)) 0) true :: l) := fun z => ⟨(beqb_t (igt_eq h5390)), (beqb_t (igt_eq h5390)), (beqb_t (igt_eq h5390)), rfl, (beqb_t (igt_eq h5390)), h5391, (beqb_t (igt_eq h5390)), (beqb_t (igt_eq h5390)), ⟨rfl, sub_flat eGMsg_len h5393 0 1 (by decide)⟩, (beqb_t (igt_eq h5390)), (beqb_t (igt_eq h5390)), (beqb_t (igt_eq h5390)), (igt_eq h5390), z⟩
    refine cond_some hF (fun h5394 hF => ?_) (fun h5394 hF => ?_)
    ·
     refine bind_some hF (fun r5395 h5396 hF => ?_)
     have pq5406 : ∀ {l : List Cond}, HoldAll E H hn150 l → HoldAll E H hn150 (.test (ieq x5392.To x5388.To) true :: .int (wsub .i64 (nlen (len v5384)) 1) (wsub .i64 (nlen (len v5384)) 1) :: .test (inr (wsub .i64 (nlen (len v5384)) 1) (len v5384)) true :: .sub (flat eGMsg v5384) (nadd (nidx (wsub .i64 (nlen (len v5384)) 1) 2) 1) 1 [(.lit (.int .i64 x5392.V))] :: .call 97 [.one (.lit (.int .i64 a5288)), .one (.lit (.int .i64 x5392.V)), .one (.lit (.int .i64 x5388.V))] (F97_res r5395) :: .test (leadsAny (Res.mk [(.one (.im (.lit (.int .i64 r5395.1)))), (.one (.im (.lit (.int .i64 r5395.2))))] [])) false :: l) := fun z => ⟨h5394, rfl, h5391, ⟨rfl, sub_flat eGMsg_len h5393 1 1 (by decide)⟩, (F97_ok K a5288 x5392.V x5388.V _ h5396), (leads_ok (by simp [leadsAny, RV.leads, RC.leads, leadsT, hasSl_lit, flat_ns eGMsg_ns])), z⟩
     refine cond_some hF (fun h5397 hF => ?_) (fun h5397 hF => ?_)
     ·
      have pz : HoldAll E H hn150 [.test (ine r5395.2 0) false, .int (wsub .i64 (nlen (len v5384)) 1) (wsub .i64 (nlen (len v5384)) 1), .test (inr (wsub .i64 (nlen (len v5384)) 1) (len v5384)) true, .test (lfits (nadd (nidx (wsub .i64 (nlen (len v5384)) 1) 2) 1) 1 (flat eGMsg v5384)) true, .sl (len v5384) (lset (flat eGMsg v5384) (nadd (nidx (wsub .i64 (nlen (len v5384)) 1) 2) 1) [(.lit (.int .i64 r5395.1))]) (len (α := GMsg) (putAt v5384 (wsub .i64 (nlen (len v5384)) 1) (GMsg.mk x5392.To r5395.1))) (flat eGMsg (putAt v5384 (wsub .i64 (nlen (len v5384)) 1) (GMsg.mk x5392.To r5395.1))), .int (wadd .i64 v5385 1) (wadd .i64 v5385 1)] := ⟨(ine_t h5397), rfl, h5391, (lfits_flat eGMsg_len h5393 1 _ (by decide)), (set_ok eGMsg_len h5393 1 _ (by simp) rfl), rfl, trivial⟩
      have h0 := ih _ _ _ hF
      have hn := fun ex ts' => loop_nextC (h := hn150) (l := 0) (c := c150_0) (ts := F150_l0_0_S a5288 r5361 v5384 v5385) (ts1 := (F150_l0_0_S a5288 r5361 (putAt v5384 (wsub .i64 (nlen (len v5384)) 1) (GMsg.mk x5392.To r5395.1)) (wadd .i64 v5385 1))) (ex := ex) (ts' := ts') (pq5404 (pq5405 (pq5406 pz))) (by kernel_rfl)
      cases r with
      | inl w => exact hn _ _ h0
      | inr w => exact hn _ _ h0
     obtain rfl := Option.some.inj hF
     have pz : HoldAll E H hn150 [.test (ine r5395.2 0) true] := ⟨(ine_f h5397), trivial⟩
     exact loop_endC (h := hn150) (l := 0) (c := c150_0) (ts := F150_l0_0_S a5288 r5361 v5384 v5385) (ts' := F150_l0_0_X0 a5288 r5361 r5395.2) (ex := .ret) (pq5404 (pq5405 (pq5406 pz))) (by kernel_rfl) trivial
    refine cond_some hF (fun h5398 hF => ?_) (fun _ hF => nomatch hF)
    have pz : HoldAll E H hn150 [.test (ieq x5392.To x5388.To) false, .test (leqm [(.lit (.int .i64 x5388.To)), (.lit (.int .i64 x5388.V))] 1 2) true, .test (apok (len v5384) 1 16) true, .sl (nadd (len v5384) 1) (lapp (flat eGMsg v5384) [(.lit (.int .i64 x5388.To)), (.lit (.int .i64 x5388.V))]) (len (α := GMsg) (appL v5384 [x5388])) (flat eGMsg (appL v5384 [x5388])), .int (wadd .i64 v5385 1) (wadd .i64 v5385 1)] := ⟨h5394, rfl, h5398, (app_ok (enc := eGMsg) (v5384 : List GMsg) [x5388]), rfl, trivial⟩
    have h0 := ih _ _ _ hF
    have hn := fun ex ts' => loop_nextC (h := hn150) (l := 0) (c := c150_0) (ts := F150_l0_0_S a5288 r5361 v5384 v5385) (ts1 := (F150_l0_0_S a5288 r5361 (appL v5384 [x5388]) (wadd .i64 v5385 1))) (ex := ex) (ts' := ts') (pq5404 (pq5405 pz)) (by kernel_rfl)
    cases r with
    | inl w => exact hn _ _ h0
    | inr w => exact hn _ _ h0
   refine cond_some hF (fun h5399 hF => ?_) (fun _ hF => nomatch hF)
   have pz : HoldAll E H hn150 [.test (beqb (igt (nlen (len v5384)) 0) true) false, .test (beqb (igt (nlen (len v5384)) 0) true) false, .test (beqb (igt (nlen (len v5384)) 0) true) false, .test (beqb (igt (nlen (len v5384)) 0) true) false, .test (beqb (igt (nlen (len v5384)) 0) true) false, .test (beqb (igt (nlen (len v5384)) 0) true) false, .test (beqb (igt (nlen (len v5384)) 0) true) false, .test (beqb (igt (nlen (len v5384)) 0) true) false, .test (beqb (igt (nlen (len v5384)) 0) true) false, .test (igt (nlen (len v5384)) 0) false, .test false false, .test (leqm [(.lit (.int .i64 x5388.To)), (.lit (.int .i64 x5388.V))] 1 2) true, .test (apok (len v5384) 1 16) true, .sl (nadd (len v5384) 1) (lapp (flat eGMsg v5384) [(.lit (.int .i64 x5388.To)), (.lit (.int .i64 x5388.V))]) (len (α := GMsg) (appL v5384 [x5388])) (flat eGMsg (appL v5384 [x5388])), .int (wadd .i64 v5385 1) (wadd .i64 v5385 1)] := ⟨(beqb_t (igt_eq h5390)), (beqb_t (igt_eq h5390)), (beqb_t (igt_eq h5390)), (beqb_t (igt_eq h5390)), (beqb_t (igt_eq h5390)), (beqb_t (igt_eq h5390)), (beqb_t (igt_eq h5390)), (beqb_t (igt_eq h5390)), (beqb_t (igt_eq h5390)), (igt_eq h5390), rfl, rfl, h5399, (app_ok (enc := eGMsg) (v5384 : List GMsg) [x5388]), rfl, trivial⟩
   have h0 := ih _ _ _ hF
   have hn := fun ex ts' => loop_nextC (h := hn150) (l := 0) (c := c150_0) (ts := F150_l0_0_S a5288 r5361 v5384 v5385) (ts1 := (F150_l0_0_S a5288 r5361 (appL v5384 [x5388]) (wadd .i64 v5385 1))) (ex := ex) (ts' := ts') (pq5404 pz) (by kernel_rfl)
   cases r with
   | inl w => exact hn _ _ h0
   | inr w => exact hn _ _ h0
  obtain rfl := Option.some.inj hF
  have pz : HoldAll E H hn150 [.test (ilt v5385 (nlen (len r5361))) false] := ⟨h5386, trivial⟩
  exact loop_endC (h := hn150) (l := 0) (c := c150_0) (ts := F150_l0_0_S a5288 r5361 v5384 v5385) (ts' := F150_l0_0_X1 a5288 r5361 v5384) (ex := (.exit 0)) pz (by kernel_rfl) trivial
def F150 (K : Nat) (a5288 : Int) (a5289 : List GMsg) : Option (List GMsg × Int) :=
 (F97 K a5288 0 0).bind fun r5290 =>
 bif (ieq r5290.2 0) then
  ((F169 K a5289).bind fun r5361 =>
  (F150_l0_0 K a5288 r5361 K [] 0).bind fun y5408 =>
  Sum.elim (fun w5409 =>
   some ([], w5409))
   (fun w5411 =>
   some (w5411, 0)) y5408)
 else
 some ([], r5290.2)
theorem F150_ok (K : Nat) (a5288 : Int) (a5289 : List GMsg) (r : List GMsg × Int) (hF : F150 K a5288 a5289 = some r) : Evt E H 150 [.one (.lit (.int .i64 a5288)), .one (.sl (len a5289) (flat eGMsg a5289))] (F150_res r) := by
 rw [F150] at hF
 refine bind_some hF (fun r5290 h5291 hF => ?_)
 refine cond_some hF (fun h5292 hF => ?_) (fun h5292 hF => ?_)
 ·
  refine bind_some hF (fun r5361 h5362 hF => ?_)
  have pq5413 : ∀ {l : List Cond}, HoldAll E H hn150 l → HoldAll E H hn150 (.call 97 [.one (.lit (.int .i64 a5288)), .one (.lit (.int .i64 0)), .one (.lit (.int .i64 0))] (F97_res r5290) :: .test (leadsAny (Res.mk [(.one (.im (.lit (.int .i64 r5290.1)))), (.one (.im (.lit (.int .i64 r5290.2))))] [])) false :: .test (ine r5290.2 0) false :: .call 169 [.one (.sl (len a5289) (flat eGMsg a5289))] (F169_res r5361) :: .test (leadsAny (Res.mk [(.one (.own 130 (.sl (len r5361) (flat eGMsg r5361))))] [])) false :: .int (nlen (len r5361)) (nlen (len r5361)) :: l) := fun z => ⟨(F97_ok K a5288 0 0 _ h5291), (leads_ok (by simp [leadsAny, RV.leads, RC.leads, leadsT, hasSl_lit, flat_ns eGMsg_ns])), (ine_t h5292), (F169_ok K a5289 _ h5362), (leads_ok (by simp [leadsAny, RV.leads, RC.leads, leadsT, hasSl_lit, flat_ns eGMsg_ns])), rfl, z⟩
  refine bind_some hF (fun y5408 h5407 hF => ?_)
  refine sum_some hF (fun w5409 hx hF => ?_) (fun w5411 hx hF => ?_)
  ·
   subst hx
   obtain rfl := Option.some.inj hF
   have pz : HoldAll E H hn150 [.loop 0 c150_0 (F150_l0_0_S a5288 r5361 [] 0) .ret (F150_l0_0_X0 a5288 r5361 w5409)] := ⟨(F150_l0_0_ok K a5288 r5361 K [] 0 _ h5407), trivial⟩
   exact fn_playC hn150 (r := F150_res ([], w5409)) (pq5413 pz) (by kernel_rfl) (by kernel_rfl)
  subst hx
  obtain rfl := Option.some.inj hF
  have pz : HoldAll E H hn150 [.loop 0 c150_0 (F150_l0_0_S a5288 r5361 [] 0) (.exit 0) (F150_l0_0_X1 a5288 r5361 w5411)] := ⟨(F150_l0_0_ok K a5288 r5361 K [] 0 _ h5407), trivial⟩
  exact fn_playC hn150 (r := F150_res (w5411, 0)) (pq5413 pz) (by kernel_rfl) (by kernel_rfl)
 obtain rfl := Option.some.inj hF
 have pz : HoldAll E H hn150 [.call 97 [.one (.lit (.int .i64 a5288)), .one (.lit (.int .i64 0)), .one (.lit (.int .i64 0))] (F97_res r5290), .test (leadsAny (Res.mk [(.one (.im (.lit (.int .i64 r5290.1)))), (.one (.im (.lit (.int .i64 r5290.2))))] [])) false, .test (ine r5290.2 0) true] := ⟨(F97_ok K a5288 0 0 _ h5291), (leads_ok (by simp [leadsAny, RV.leads, RC.leads, leadsT, hasSl_lit])), (ine_f h5292), trivial⟩
 exact fn_playC hn150 (r := F150_res ([], r5290.2)) pz (by kernel_rfl) (by kernel_rfl)
theorem F173_spec (K : Nat) (y x : GMsg) : F173 K y x = some (!(leM x y)) := by
 rw [F173, leM]
 cases h1 : ilt y.To x.To
 · cases h2 : ieq y.To x.To
   · have := ilt_f.1 h1; have := ieq_f.1 h2
     rw [ilt_iff.2 (by omega : x.To < y.To)]; rfl
   · have e := ieq_iff.1 h2
     rw [ilt_f.2 (by omega : y.To ≤ x.To), ieq_iff.2 e.symm]
     simp only [cond_false, cond_true, Bool.false_or, Bool.true_and]
     congr 1
     cases h3 : ilt y.V x.V
     · rw [ile_iff.2 (by have := ilt_f.1 h3; omega)]; rfl
     · rw [ile_f.2 (by have := ilt_iff.1 h3; omega)]; rfl
 · have := ilt_iff.1 h1
   rw [ilt_f.2 (by omega : y.To ≤ x.To), ieq_f.2 (by omega : x.To ≠ y.To)]; rfl
theorem merge_ok {K : Nat} : ∀ (k : Nat) (a b c : List GMsg), a.length + b.length < k → a.length + b.length + c.length < 100000 → srtM (c ++ a) → srtM (c ++ b) →
   ∃ a' b' c', F172_173_l0_0 K k a b c = some (a', (b', c')) ∧ (c' ++ a' ++ b').Perm (c ++ a ++ b) ∧ srtM (c' ++ a' ++ b') := by
 intro k
 induction k with
 | zero => intro a b c h; omega
 | succ k ih =>
   intro a b c hk hl ha hb
   rw [F172_173_l0_0]
   cases a with
   | nil => exact ⟨[], b, c, rfl, List.Perm.refl _, by simpa using hb⟩
   | cons x a =>
     cases b with
     | nil =>
       refine ⟨x :: a, [], c, ?_, List.Perm.refl _, by simpa using ha⟩
       rw [ilt_iff.2 (show (0 : Int) < nlen (len (x :: a)) by show (0 : Int) < ((a.length + 1 : Nat) : Int); omega)]; rfl
     | cons y b =>
       simp only [List.length_cons] at hk hl
       have i1 : ilt 0 (nlen (len (x :: a))) = true := ilt_iff.2 (by show (0 : Int) < ((a.length + 1 : Nat) : Int); omega)
       have i2 : ilt 0 (nlen (len (y :: b))) = true := ilt_iff.2 (by show (0 : Int) < ((b.length + 1 : Nat) : Int); omega)
       have r1 : inr 0 (len (x :: a)) = true := decide_eq_true ⟨by omega, by show (0 : Int) < (((a.length + 1 : Nat)) : Int); omega⟩
       have r2 : inr 0 (len (y :: b)) = true := decide_eq_true ⟨by omega, by show (0 : Int) < (((b.length + 1 : Nat)) : Int); omega⟩
       have g1 : elAt (x :: a) 0 = some x := rfl
       have g2 : elAt (y :: b) 0 = some y := rfl
       have ap : apok (len c) 1 16 = true := decide_eq_true ⟨by show c.length + 1 ≤ _; omega, by show (c.length + 1) * 16 ≤ _; omega⟩
       have b1 : bnd 1 (nlen (len (x :: a))) (len (x :: a)) = true := by simp [bnd, nlen, len]; omega
       have b2 : bnd 1 (nlen (len (y :: b))) (len (y :: b)) = true := by simp [bnd, nlen, len]; omega
       have s1 : subL (x :: a) 1 (nlen (len (x :: a))) = a := by simp [subL, nlen, len]
       have s2 : subL (y :: b) 1 (nlen (len (y :: b))) = b := by simp [subL, nlen, len]
       rw [i1, i2, r1, r2, g1, g2, ap, b1, b2, s1, s2]
       simp only [cond_true, Option.bind_some, F173_spec]
       have ha' := List.pairwise_append.1 ha
       have hb' := List.pairwise_append.1 hb
       have hxa := List.pairwise_cons.1 ha'.2.1
       have hyb := List.pairwise_cons.1 hb'.2.1
       cases hxy : leM x y
       · have hyx := leM_total hxy
         obtain ⟨a', b', c', e, p, q⟩ := ih (x :: a) b (c ++ [y]) (by simp; omega) (by simp; omega)
           (by
             refine List.pairwise_append.2 ⟨List.pairwise_append.2 ⟨hb'.1, List.pairwise_singleton _ _, fun u hu w hw => ?_⟩, ha'.2.1, fun u hu w hw => ?_⟩
             · rw [List.mem_singleton.1 hw]; exact hb'.2.2 u hu y List.mem_cons_self
             · rcases List.mem_append.1 hu with hu | hu
               · exact ha'.2.2 u hu w hw
               · rw [List.mem_singleton.1 hu]
                 rcases List.mem_cons.1 hw with rfl | hw
                 · exact hyx
                 · exact leM_trans hyx (hxa.1 w hw))
           (by rw [List.append_assoc]; exact hb)
         refine ⟨a', b', c', e, p.trans ?_, q⟩
         have : (c ++ [y] ++ (x :: a) ++ b) = c ++ (y :: (x :: a)) ++ b := by simp
         rw [this, List.append_assoc, List.append_assoc]
         exact List.Perm.append_left c (List.perm_middle (l₁ := x :: a) (a := y) (l₂ := b)).symm
       · obtain ⟨a', b', c', e, p, q⟩ := ih a (y :: b) (c ++ [x]) (by simp; omega) (by simp; omega)
           (by rw [List.append_assoc]; exact ha)
           (by
             refine List.pairwise_append.2 ⟨List.pairwise_append.2 ⟨hb'.1, List.pairwise_singleton _ _, fun u hu w hw => ?_⟩, hb'.2.1, fun u hu w hw => ?_⟩
             · rw [List.mem_singleton.1 hw]; exact ha'.2.2 u hu x List.mem_cons_self
             · rcases List.mem_append.1 hu with hu | hu
               · exact hb'.2.2 u hu w hw
               · rw [List.mem_singleton.1 hu]
                 rcases List.mem_cons.1 hw with rfl | hw
                 · exact hxy
                 · exact leM_trans hxy (hyb.1 w hw))
         refine ⟨a', b', c', e, p.trans ?_, q⟩
         have : (c ++ [x] ++ a ++ (y :: b)) = c ++ (x :: a) ++ (y :: b) := by simp
         rw [this]
theorem F172_spec {K : Nat} : ∀ (d : Nat) (l : List GMsg), l.length < d → l.length < K → l.length < 10000 → F172_173 K d l = some (sortM l) := by
 intro d
 induction d with
 | zero => intro l h; omega
 | succ d ih =>
   intro l hd hK hl
   rw [F172_173]
   cases h2 : ilt (nlen (len l)) 2
   · have h2' : 2 ≤ l.length := by have := ilt_f.1 h2; simp only [nlen, len] at this; omega
     have hq : wquo .i64 (nlen (len l)) 2 = ((l.length / 2 : Nat) : Int) := by
       show IntKind.i64.wrap (((l.length : Nat) : Int).tdiv 2) = _
       rw [Int.tdiv_eq_ediv_of_nonneg (by omega), IntKind.wrap_i64]; omega
     have b1 : bnd 0 ((l.length / 2 : Nat) : Int) (len l) = true := by simp [bnd, len]; omega
     have b2 : bnd ((l.length / 2 : Nat) : Int) (nlen (len l)) (len l) = true := by simp [bnd, len, nlen]; omega
     have s1 : subL l 0 ((l.length / 2 : Nat) : Int) = l.take (l.length / 2) := by simp [subL]; omega
     have s2 : subL l ((l.length / 2 : Nat) : Int) (nlen (len l)) = l.drop (l.length / 2) := by
       simp only [subL, nlen, len, Int.toNat_natCast]
       exact List.take_of_length_le (by rw [List.length_drop]; omega)
     have l1 : (l.take (l.length / 2)).length ≤ l.length / 2 := by rw [List.length_take]; omega
     have l2 : (l.drop (l.length / 2)).length = l.length - l.length / 2 := List.length_drop
     have mk : mkok 0 (nlen (len l)) 16 = true := by simp [mkok, nlen, len]; omega
     obtain ⟨a', b', c', e, p, q⟩ := merge_ok (K := K) K (sortM (l.take (l.length / 2))) (sortM (l.drop (l.length / 2))) [] (by rw [sortM_len, sortM_len]; omega) (by rw [sortM_len, sortM_len]; simp only [List.length_nil]; omega) (by simpa using sortM_srt _) (by simpa using sortM_srt _)
     have er : repL (α := GMsg) 0 (GMsg.mk 0 0) = [] := rfl
     have pl : (c' ++ a' ++ b').Perm l := p.trans (by
       rw [List.nil_append]
       have := (sortM_perm (l.take (l.length / 2))).append (sortM_perm (l.drop (l.length / 2)))
       rwa [List.take_append_drop] at this)
     have ln := pl.length_eq
     rw [List.length_append, List.length_append] at ln
     have a1 : apok (len c') (len a') 16 = true := decide_eq_true ⟨by show c'.length + a'.length ≤ _; omega, by show (c'.length + a'.length) * 16 ≤ _; omega⟩
     have a2 : apok (len (appL c' a')) (len b') 16 = true := decide_eq_true ⟨by show (c' ++ a').length + b'.length ≤ _; rw [List.length_append]; omega, by show ((c' ++ a').length + b'.length) * 16 ≤ _; rw [List.length_append]; omega⟩
     rw [cond_false, hq, b1, b2, s1, s2, ih _ (by omega) (by omega) (by omega), ih _ (by omega) (by omega) (by omega), mk, er]
     simp only [cond_true, Option.bind_some, e, a1, a2]
     rw [sortM_eq q pl]; rfl
   · have h2' : l.length < 2 := by have := ilt_iff.1 h2; simp only [nlen, len] at this; omega
     have ap : apok 0 (len l) 16 = true := decide_eq_true ⟨by show 0 + l.length ≤ _; omega, by show (0 + l.length) * 16 ≤ _; omega⟩
     rw [cond_true, ap, cond_true]
     congr 1
     rw [sortM_eq (l := l) (r := l) ?_ (List.Perm.refl l)]; rfl
     match l, h2' with
     | [], _ => exact List.Pairwise.nil
     | [x], _ => exact List.pairwise_singleton _ _
theorem F169_spec {K : Nat} (l : List GMsg) (hK : l.length < K) (hl : l.length < 10000) : F169 K l = some (sortM l) := by
 rw [F169, F172_spec K l hK hK hl]; rfl
def foldC (p : Int) : List GMsg → GMsg → List GMsg → Int ⊕ List GMsg
 | [], cur, done => .inr (done ++ [cur])
 | x :: r, cur, done => bif ieq cur.To x.To then (bif ieq (foldS p cur.V x.V).2 0 then foldC p r (GMsg.mk cur.To (foldS p cur.V x.V).1) done else .inl (foldS p cur.V x.V).2) else foldC p r x (done ++ [cur])
def foldO (p : Int) : List GMsg → List GMsg → Int ⊕ List GMsg
 | [], done => .inr done
 | x :: r, done => foldC p r x done
def boxO : Int ⊕ List GMsg → List GMsg × Int
 | .inl e => ([], e)
 | .inr s => (s, 0)
def boxS (p : Int) (l : List GMsg) : List GMsg × Int := bif pbad p then ([], 1) else boxO (foldO p (sortM l) [])
theorem put_last {α : Type} (d : List α) (c x : α) : inr (wsub .i64 (nlen (len (d ++ [c]))) 1) (len (d ++ [c])) = true ∧ (d.length < 1000000 → elAt (d ++ [c]) (wsub .i64 (nlen (len (d ++ [c]))) 1) = some c ∧ putAt (d ++ [c]) (wsub .i64 (nlen (len (d ++ [c]))) 1) x = d ++ [x]) ∨ ¬ d.length < 1000000 := by
 by_cases h : d.length < 1000000
 · left
   have w : wsub .i64 (nlen (len (d ++ [c]))) 1 = ((d.length : Nat) : Int) := by
     show IntKind.i64.wrap (((d ++ [c]).length : Int) - 1) = _
     rw [List.length_append, IntKind.wrap_i64]; simp; omega
   rw [w]
   refine ⟨decide_eq_true ⟨by omega, by show (d.length : Int) < ((d ++ [c]).length : Int); simp; omega⟩, fun _ => ⟨by rw [elAt_nat]; simp, ?_⟩⟩
   unfold putAt
   rw [Int.toNat_natCast, List.set_append_right (h := by omega)]; simp
 · right; exact h
theorem F150_spec {K : Nat} (p : Int) (l : List GMsg) (hv : ∀ x ∈ l, i64 x.V) (hK : l.length < K) (hl : l.length < 10000) : F150 K p l = some (boxS p l) := by
 have i0 : i64 0 := by unfold i64; omega
 have hz : (foldS p 0 0).2 = bif pbad p then 1 else 0 := by
   rw [foldS]
   cases pbad p
   · have : addS 0 0 = (0, true) := rfl
     have e : ilt 0 0 = false := rfl
     rw [this, e]
     cases ieq p 5 <;> cases ieq p 4 <;> rfl
   · rfl
 rw [F150, F97_spec K p i0 i0, Option.bind_some, hz, boxS, F169_spec l hK hl]
 cases hb : pbad p
 · let step : GMsg → List GMsg → (List GMsg → Option (Int ⊕ List GMsg)) → Option (Int ⊕ List GMsg) := fun x s c =>
     bif (ilt 0 (nlen (len s))) then
       (bif (inr (wsub .i64 (nlen (len s)) 1) (len s)) then
       (elAt s (wsub .i64 (nlen (len s)) 1)).bind fun y =>
       bif (ieq y.To x.To) then
         ((F97 K p y.V x.V).bind fun r =>
         bif (ieq r.2 0) then
           (c (putAt s (wsub .i64 (nlen (len s)) 1) (GMsg.mk y.To r.1)))
         else
         some (.inl r.2))
       else
       bif (apok (len s) 1 16) then
       c (appL s [x])
       else none
       else none)
     else
     bif (apok (len s) 1 16) then
     c (appL s [x])
     else none
   have hsl : (sortM l).length = l.length := sortM_len l
   have h := scanL (l := sortM l) (L := fun k s i => F150_l0_0 K p (sortM l) k s i) step (fun s => some (.inr s)) (fun k s i _ => rfl) (by omega) (K := K) (by omega) []
   have hw : ∀ (r : List GMsg) (d : List GMsg) (c : GMsg), d.length + r.length < 100000 → i64 c.V → (∀ x ∈ r, i64 x.V) → goL step (fun s => some (.inr s)) r (d ++ [c]) = some (foldC p r c d) := by
     intro r
     induction r with
     | nil => intro d c _ _ _; rfl
     | cons x r ih =>
       intro d c hd hc hr
       simp only [List.length_cons] at hd
       have hx := hr x List.mem_cons_self
       have hr' := fun y hy => hr y (List.mem_cons_of_mem _ hy)
       rw [goL]
       show (bif (ilt 0 (nlen (len (d ++ [c])))) then
         (bif (inr (wsub .i64 (nlen (len (d ++ [c]))) 1) (len (d ++ [c]))) then
         (elAt (d ++ [c]) (wsub .i64 (nlen (len (d ++ [c]))) 1)).bind fun y =>
         bif (ieq y.To x.To) then
           ((F97 K p y.V x.V).bind fun q =>
           bif (ieq q.2 0) then
             (goL step (fun s => some (.inr s)) r (putAt (d ++ [c]) (wsub .i64 (nlen (len (d ++ [c]))) 1) (GMsg.mk y.To q.1)))
           else
           some (.inl q.2))
         else
         bif (apok (len (d ++ [c])) 1 16) then
         goL step (fun s => some (.inr s)) r (appL (d ++ [c]) [x])
         else none
         else none)
       else
       bif (apok (len (d ++ [c])) 1 16) then
       goL step (fun s => some (.inr s)) r (appL (d ++ [c]) [x])
       else none) = _
       have i1 : ilt 0 (nlen (len (d ++ [c]))) = true := ilt_iff.2 (by show (0 : Int) < ((d ++ [c]).length : Int); rw [List.length_append]; simp only [List.length_singleton]; omega)
       have ap : apok (len (d ++ [c])) 1 16 = true := decide_eq_true ⟨by show (d ++ [c]).length + 1 ≤ _; rw [List.length_append]; simp only [List.length_singleton]; omega, by show ((d ++ [c]).length + 1) * 16 ≤ _; rw [List.length_append]; simp only [List.length_singleton]; omega⟩
       rcases put_last d c (GMsg.mk c.To (foldS p c.V x.V).1) with ⟨q1, q2⟩ | q
       · obtain ⟨q2, q3⟩ := q2 (by omega)
         rw [i1, q1, q2, ap]
         simp only [cond_true, Option.bind_some, F97_spec K p hc hx, q3]
         rw [foldC]
         cases ieq c.To x.To
         · rw [cond_false, cond_false]
           exact ih (d ++ [c]) x (by rw [List.length_append]; simp only [List.length_singleton]; omega) hx hr'
         · rw [cond_true, cond_true]
           cases ieq (foldS p c.V x.V).2 0
           · rfl
           · rw [cond_true, cond_true]
             exact ih d _ (by omega) (foldS_i64 hc hx) hr'
       · omega
   have h' : F150_l0_0 K p (sortM l) K [] 0 = some (foldO p (sortM l) []) := by
     rw [show F150_l0_0 K p (sortM l) K [] 0 = _ from h]
     have hs : ∀ x ∈ sortM l, i64 x.V := fun x hx => hv x ((sortM_perm l).mem_iff.1 hx)
     generalize sortM l = m at *
     cases m with
     | nil => rfl
     | cons x r =>
       rw [goL]
       show goL step (fun s => some (.inr s)) r (appL [] [x]) = _
       simp only [List.length_cons] at hsl
       exact hw r [] x (by simp only [List.length_nil]; omega) (hs x List.mem_cons_self) (fun y hy => hs y (List.mem_cons_of_mem _ hy))
   have z0 : ieq (bif false then 1 else 0) 0 = true := rfl
   rw [z0, cond_true, Option.bind_some, h', Option.bind_some]
   cases foldO p (sortM l) [] <;> rfl
 · rfl
def atS (l : List GMsg) (v : Int) : Int × Bool := match l.find? (fun m => ieq m.To v) with
 | some m => (m.V, true)
 | none => (0, false)
def sumF : Option GMsg → Int ⊕ Unit
 | some m => .inl m.V
 | none => .inr ()
theorem at_go (l : List GMsg) (v : Int) : goL (fun (x : GMsg) (_ : Unit) c => bif ieq x.To v then some (.inl x.V) else c ()) (fun _ => some (.inr ())) l () = (some (sumF (l.find? fun m => ieq m.To v)) : Option (Int ⊕ Unit)) := by
 induction l with
 | nil => rfl
 | cons x l ih =>
   rw [goL, List.find?_cons]
   cases h : ieq x.To v
   · exact ih
   · rfl
theorem F149_spec {K : Nat} (l : List GMsg) (v : Int) (hl : l.length < 100000) (hK : l.length < K) : F149 K l v = some (atS l v) := by
 have e : F149_l0_0 K l v K 0 = _ := scanL (l := l) (L := fun k (_ : Unit) i => F149_l0_0 K l v k i) (fun x _ c => bif ieq x.To v then some (.inl x.V) else c ()) (fun _ => some (.inr ())) (fun k s i _ => rfl) (by omega) hK ()
 rw [F149, e, at_go, atS]
 cases l.find? fun m => ieq m.To v <;> rfl
theorem atS_i64 {l : List GMsg} {v : Int} (h : ∀ x ∈ l, i64 x.V) : i64 (atS l v).1 := by
 rw [atS]
 cases hq : l.find? fun m => ieq m.To v with
 | none => show i64 0; unfold i64; omega
 | some m => exact h m (List.mem_of_find?_eq_some hq)
noncomputable def hn68 : Hint := { H 68 with nt := 28, prot := 0 }
noncomputable def c68_0 : Code := loopOf E 68 0
def F68_res (r2619 : List GEdge) : Res := ⟨[(.one (.own 89 (.sl (len r2619) (flat eGEdge r2619))))], []⟩
def F68_l0_0 (K : Nat) (a2593 : GGraph) (a2594 : Int) : Nat → List GEdge → Int → Option (List GEdge)
 | 0, _, _ => none
 | k + 1, v2604, v2605 =>
  bif (ilt v2605 (nlen (len a2593.Edges))) then
   (bif (inr v2605 (len a2593.Edges)) then
   (elAt a2593.Edges v2605).bind fun x2608 =>
   bif (ieq x2608.From a2594) then
    (bif (apok (len v2604) 1 24) then
    F68_l0_0 K a2593 a2594 k (appL v2604 [x2608]) (wadd .i64 v2605 1)
    else none)
   else
   F68_l0_0 K a2593 a2594 k v2604 (wadd .i64 v2605 1)
   else none)
  else
  some v2604
def F68_l0_0_S (a2593 : GGraph) (a2594 : Int) (v2604 : List GEdge) (v2605 : Int) : TS := .on [64, 65, 128, 129, 130, 320, 321, 704, 768, 769, 832, 833, 896, 897] [(64, ⟨.one, 0, nob⟩), (65, ⟨.im, 0, (.lit (.int .i64 a2594))⟩), (128, ⟨(.box 62 2), 0, nob⟩), (129, ⟨.im, 0, (.lit (.int .i64 a2593.N))⟩), (130, ⟨.im, 0, (.sl (len a2593.Edges) (flat eGEdge a2593.Edges))⟩), (320, ⟨.one, 0, nob⟩), (321, ⟨(.own 89), 0, (.sl (len v2604) (flat eGEdge v2604))⟩), (704, ⟨(.ad 2 0 1), 0, nob⟩), (768, ⟨.one, 0, nob⟩), (769, ⟨.im, 0, (.sl (len a2593.Edges) (flat eGEdge a2593.Edges))⟩), (832, ⟨.one, 0, nob⟩), (833, ⟨.im, 0, (.lit (.int .i64 (nlen (len a2593.Edges))))⟩), (896, ⟨.one, 0, nob⟩), (897, ⟨.im, 0, (.lit (.int .i64 v2605))⟩)]
def F68_l0_0_X0 (a2593 : GGraph) (a2594 : Int) (w2612 : List GEdge) : TS := .on [320, 321] [(320, ⟨.one, 0, nob⟩), (321, ⟨(.own 89), 0, (.sl (len w2612) (flat eGEdge w2612))⟩)]
theorem F68_l0_0_ok (K : Nat) (a2593 : GGraph) (a2594 : Int) : ∀ (k : Nat) (v2604 : List GEdge) (v2605 : Int) (r : List GEdge), F68_l0_0 K a2593 a2594 k v2604 v2605 = some r → LoopEv E H hn68 0 c68_0 (F68_l0_0_S a2593 a2594 v2604 v2605) (.exit 0) (F68_l0_0_X0 a2593 a2594 r) := by
 intro k
 induction k with
 | zero => intro v2604 v2605 r hF; cases hF
 | succ k ih =>
  intro v2604 v2605 r hF
  rw [F68_l0_0] at hF
  refine cond_some hF (fun h2606 hF => ?_) (fun h2606 hF => ?_)
  ·
   refine cond_some hF (fun h2607 hF => ?_) (fun _ hF => nomatch hF)
   refine bind_some hF (fun x2608 h2609 hF => ?_)
   have pq2614 : ∀ {l : List Cond}, HoldAll E H hn68 l → HoldAll E H hn68 (.test (ilt v2605 (nlen (len a2593.Edges))) true :: .test (inr v2605 (len a2593.Edges)) true :: .sub (flat eGEdge a2593.Edges) (nidx v2605 3) 3 [(.lit (.int .i64 x2608.From)), (.lit (.int .i64 x2608.To)), (.lit (.int .i64 x2608.W))] :: l) := fun z => ⟨h2606, h2607, ⟨rfl, sub_flat0 eGEdge_len h2609 3 (by decide)⟩, z⟩
   refine cond_some hF (fun h2610 hF => ?_) (fun h2610 hF => ?_)
   ·
    refine cond_some hF (fun h2611 hF => ?_) (fun _ hF => nomatch hF)
    have pz : HoldAll E H hn68 [.test (ieq x2608.From a2594) true, .test (leqm [(.lit (.int .i64 x2608.From)), (.lit (.int .i64 x2608.To)), (.lit (.int .i64 x2608.W))] 1 3) true, .test (apok (len v2604) 1 24) true, .sl (nadd (len v2604) 1) (lapp (flat eGEdge v2604) [(.lit (.int .i64 x2608.From)), (.lit (.int .i64 x2608.To)), (.lit (.int .i64 x2608.W))]) (len (α := GEdge) (appL v2604 [x2608])) (flat eGEdge (appL v2604 [x2608])), .int (wadd .i64 v2605 1) (wadd .i64 v2605 1)] := ⟨h2610, rfl, h2611, (app_ok (enc := eGEdge) (v2604 : List GEdge) [x2608]), rfl, trivial⟩
    have h0 := ih _ _ _ hF
    have hn := fun ex ts' => loop_nextC (h := hn68) (l := 0) (c := c68_0) (ts := F68_l0_0_S a2593 a2594 v2604 v2605) (ts1 := (F68_l0_0_S a2593 a2594 (appL v2604 [x2608]) (wadd .i64 v2605 1))) (ex := ex) (ts' := ts') (pq2614 pz) (by kernel_rfl)
    exact hn _ _ h0
   have pz : HoldAll E H hn68 [.test (ieq x2608.From a2594) false, .int (wadd .i64 v2605 1) (wadd .i64 v2605 1)] := ⟨h2610, rfl, trivial⟩
   have h0 := ih _ _ _ hF
   have hn := fun ex ts' => loop_nextC (h := hn68) (l := 0) (c := c68_0) (ts := F68_l0_0_S a2593 a2594 v2604 v2605) (ts1 := (F68_l0_0_S a2593 a2594 v2604 (wadd .i64 v2605 1))) (ex := ex) (ts' := ts') (pq2614 pz) (by kernel_rfl)
   exact hn _ _ h0
  obtain rfl := Option.some.inj hF
  have pz : HoldAll E H hn68 [.test (ilt v2605 (nlen (len a2593.Edges))) false] := ⟨h2606, trivial⟩
  exact loop_endC (h := hn68) (l := 0) (c := c68_0) (ts := F68_l0_0_S a2593 a2594 v2604 v2605) (ts' := F68_l0_0_X0 a2593 a2594 v2604) (ex := (.exit 0)) pz (by kernel_rfl) trivial
def F68 (K : Nat) (a2593 : GGraph) (a2594 : Int) : Option (List GEdge) :=
 (F64 K a2593).bind fun r2595 =>
 bif (ieq r2595 0) then
  ((F68_l0_0 K a2593 a2594 K [] 0).bind fun w2617 =>
  some w2617)
 else
 some []
theorem F68_ok (K : Nat) (a2593 : GGraph) (a2594 : Int) (r : List GEdge) (hF : F68 K a2593 a2594 = some r) : Evt E H 68 [.agg (eGGraph a2593), .one (.lit (.int .i64 a2594))] (F68_res r) := by
 rw [F68] at hF
 refine bind_some hF (fun r2595 h2596 hF => ?_)
 refine cond_some hF (fun h2597 hF => ?_) (fun h2597 hF => ?_)
 ·
  refine bind_some hF (fun w2617 h2615 hF => ?_)
  obtain rfl := Option.some.inj hF
  have pz : HoldAll E H hn68 [.call 64 [.agg (eGGraph a2593)] (F64_res r2595), .test (leadsAny (Res.mk [(.one (.im (.lit (.int .i64 r2595))))] [])) false, .test (ine r2595 0) false, .int (nlen (len a2593.Edges)) (nlen (len a2593.Edges)), .loop 0 c68_0 (F68_l0_0_S a2593 a2594 [] 0) (.exit 0) (F68_l0_0_X0 a2593 a2594 w2617)] := ⟨(F64_ok K a2593 _ h2596), (leads_ok (by simp [leadsAny, RV.leads, RC.leads, leadsT, hasSl_lit])), (ine_t h2597), rfl, (F68_l0_0_ok K a2593 a2594 K [] 0 _ h2615), trivial⟩
  exact fn_playC hn68 (r := F68_res w2617) pz (by kernel_rfl) (by kernel_rfl)
 obtain rfl := Option.some.inj hF
 have pz : HoldAll E H hn68 [.call 64 [.agg (eGGraph a2593)] (F64_res r2595), .test (leadsAny (Res.mk [(.one (.im (.lit (.int .i64 r2595))))] [])) false, .test (ine r2595 0) true] := ⟨(F64_ok K a2593 _ h2596), (leads_ok (by simp [leadsAny, RV.leads, RC.leads, leadsT, hasSl_lit])), (ine_f h2597), trivial⟩
 exact fn_playC hn68 (r := F68_res []) pz (by kernel_rfl) (by kernel_rfl)
noncomputable def hn160 : Hint := { H 160 with nt := 12, prot := 0 }
def F160_res (r4282 : Int × Bool) : Res := ⟨[(.one (.im (.lit (.int .i64 r4282.1)))), (.one (.im (.lit (.bool r4282.2))))], []⟩
def F160 (K : Nat) (a4278 : Int) (a4279 : GEdge) : Option (Int × Bool) :=
 (F144 K a4278 a4279.W).bind fun r4280 =>
 some (r4280.1, r4280.2)
theorem F160_ok (K : Nat) (a4278 : Int) (a4279 : GEdge) (r : Int × Bool) (hF : F160 K a4278 a4279 = some r) : Evt E H 160 [.one (.lit (.int .i64 a4278)), .agg (eGEdge a4279)] (F160_res r) := by
 rw [F160] at hF
 refine bind_some hF (fun r4280 h4281 hF => ?_)
 obtain rfl := Option.some.inj hF
 have pz : HoldAll E H hn160 [.call 144 [.one (.lit (.int .i64 a4278)), .one (.lit (.int .i64 a4279.W))] (F144_res r4280), .test (leadsAny (Res.mk [(.one (.im (.lit (.int .i64 r4280.1)))), (.one (.im (.lit (.bool r4280.2))))] [])) false] := ⟨(F144_ok K a4278 a4279.W _ h4281), (leads_ok (by simp [leadsAny, RV.leads, RC.leads, leadsT, hasSl_lit])), trivial⟩
 exact fn_playC hn160 (r := F160_res (r4280.1, r4280.2)) pz (by kernel_rfl) (by kernel_rfl)
noncomputable def hn161 : Hint := { H 161 with nt := 10, prot := 0 }
def F161_res (r4369 : Int × Bool) : Res := ⟨[(.one (.im (.lit (.int .i64 r4369.1)))), (.one (.im (.lit (.bool r4369.2))))], []⟩
def F161 (K : Nat) (a4365 : Int) (a4366 : GEdge) : Option (Int × Bool) :=
 (F144 K a4365 1).bind fun r4367 =>
 some (r4367.1, r4367.2)
theorem F161_ok (K : Nat) (a4365 : Int) (a4366 : GEdge) (r : Int × Bool) (hF : F161 K a4365 a4366 = some r) : Evt E H 161 [.one (.lit (.int .i64 a4365)), .agg (eGEdge a4366)] (F161_res r) := by
 rw [F161] at hF
 refine bind_some hF (fun r4367 h4368 hF => ?_)
 obtain rfl := Option.some.inj hF
 have pz : HoldAll E H hn161 [.call 144 [.one (.lit (.int .i64 a4365)), .one (.lit (.int .i64 1))] (F144_res r4367), .test (leadsAny (Res.mk [(.one (.im (.lit (.int .i64 r4367.1)))), (.one (.im (.lit (.bool r4367.2))))] [])) false] := ⟨(F144_ok K a4365 1 _ h4368), (leads_ok (by simp [leadsAny, RV.leads, RC.leads, leadsT, hasSl_lit])), trivial⟩
 exact fn_playC hn161 (r := F161_res (r4367.1, r4367.2)) pz (by kernel_rfl) (by kernel_rfl)
noncomputable def hn163 : Hint := { H 163 with nt := 7, prot := 0 }
def F163_res (r4454 : Int × Bool) : Res := ⟨[(.one (.im (.lit (.int .i64 r4454.1)))), (.one (.im (.lit (.bool r4454.2))))], []⟩
def F163 (K : Nat) (a4452 : Int) (a4453 : GEdge) : Option (Int × Bool) :=
 some (a4452, true)
theorem F163_ok (K : Nat) (a4452 : Int) (a4453 : GEdge) (r : Int × Bool) (hF : F163 K a4452 a4453 = some r) : Evt E H 163 [.one (.lit (.int .i64 a4452)), .agg (eGEdge a4453)] (F163_res r) := by
 rw [F163] at hF
 obtain rfl := Option.some.inj hF
 have pz : HoldAll E H hn163 [] := trivial
 exact fn_playC hn163 (r := F163_res (a4452, true)) pz (by kernel_rfl) (by kernel_rfl)
noncomputable def hn175 : Hint := { H 175 with nt := 12, prot := 0 }
def F175_res (r4618 : Int) : Res := ⟨[(.one (.im (.lit (.int .u64 r4618))))], []⟩
def F175 (K : Nat) (a4616 : Int) : Option (Int) :=
 bif (ilt a4616 0) then
  (some (wadd .u64 (wconv .u64 (wneg .i64 (wadd .i64 a4616 1))) 1))
 else
 some (wconv .u64 a4616)
theorem F175_ok (K : Nat) (a4616 : Int) (r : Int) (hF : F175 K a4616 = some r) : Evt E H 175 [.one (.lit (.int .i64 a4616))] (F175_res r) := by
 rw [F175] at hF
 refine cond_some hF (fun h4617 hF => ?_) (fun h4617 hF => ?_)
 ·
  obtain rfl := Option.some.inj hF
  have pz : HoldAll E H hn175 [.test (ilt a4616 0) true, .int (wadd .i64 a4616 1) (wadd .i64 a4616 1), .int (wneg .i64 (wadd .i64 a4616 1)) (wneg .i64 (wadd .i64 a4616 1)), .int (wconv .u64 (wneg .i64 (wadd .i64 a4616 1))) (wconv .u64 (wneg .i64 (wadd .i64 a4616 1))), .int (wadd .u64 (wconv .u64 (wneg .i64 (wadd .i64 a4616 1))) 1) (wadd .u64 (wconv .u64 (wneg .i64 (wadd .i64 a4616 1))) 1)] := ⟨h4617, rfl, rfl, rfl, rfl, trivial⟩
  exact fn_playC hn175 (r := F175_res (wadd .u64 (wconv .u64 (wneg .i64 (wadd .i64 a4616 1))) 1)) pz (by kernel_rfl) (by kernel_rfl)
 obtain rfl := Option.some.inj hF
 have pz : HoldAll E H hn175 [.test (ilt a4616 0) false, .int (wconv .u64 a4616) (wconv .u64 a4616)] := ⟨h4617, rfl, trivial⟩
 exact fn_playC hn175 (r := F175_res (wconv .u64 a4616)) pz (by kernel_rfl) (by kernel_rfl)
noncomputable def hn174 : Hint := { H 174 with nt := 60, prot := 0 }
def F174_res (r4625 : GA199) : Res := ⟨[(.agg [(.im (.lit (.int .u64 r4625.x0))), (.im (.lit (.int .u64 r4625.x1)))])], []⟩
def F174 (K : Nat) (a4623 : Int) (a4624 : Int) : Option (GA199) :=
 some (GA199.mk (wadd .u64 (wadd .u64 (wadd .u64 (wmul .u64 (wquo .u64 a4623 4294967296) (wquo .u64 a4624 4294967296)) (wquo .u64 (wmul .u64 (wquo .u64 a4623 4294967296) (wrem a4624 4294967296)) 4294967296)) (wquo .u64 (wmul .u64 (wrem a4623 4294967296) (wquo .u64 a4624 4294967296)) 4294967296)) (wquo .u64 (wadd .u64 (wadd .u64 (wquo .u64 (wmul .u64 (wrem a4623 4294967296) (wrem a4624 4294967296)) 4294967296) (wrem (wmul .u64 (wquo .u64 a4623 4294967296) (wrem a4624 4294967296)) 4294967296)) (wrem (wmul .u64 (wrem a4623 4294967296) (wquo .u64 a4624 4294967296)) 4294967296)) 4294967296)) (wadd .u64 (wmul .u64 (wrem (wadd .u64 (wadd .u64 (wquo .u64 (wmul .u64 (wrem a4623 4294967296) (wrem a4624 4294967296)) 4294967296) (wrem (wmul .u64 (wquo .u64 a4623 4294967296) (wrem a4624 4294967296)) 4294967296)) (wrem (wmul .u64 (wrem a4623 4294967296) (wquo .u64 a4624 4294967296)) 4294967296)) 4294967296) 4294967296) (wrem (wmul .u64 (wrem a4623 4294967296) (wrem a4624 4294967296)) 4294967296)))
theorem F174_ok (K : Nat) (a4623 : Int) (a4624 : Int) (r : GA199) (hF : F174 K a4623 a4624 = some r) : Evt E H 174 [.one (.lit (.int .u64 a4623)), .one (.lit (.int .u64 a4624))] (F174_res r) := by
 rw [F174] at hF
 obtain rfl := Option.some.inj hF
 have pz : HoldAll E H hn174 [.test (izero 4294967296) false, .int (wquo .u64 a4623 4294967296) (wquo .u64 a4623 4294967296), .test (izero 4294967296) false, .int (wquo .u64 a4624 4294967296) (wquo .u64 a4624 4294967296), .int (wmul .u64 (wquo .u64 a4623 4294967296) (wquo .u64 a4624 4294967296)) (wmul .u64 (wquo .u64 a4623 4294967296) (wquo .u64 a4624 4294967296)), .test (izero 4294967296) false, .int (wquo .u64 a4623 4294967296) (wquo .u64 a4623 4294967296), .test (izero 4294967296) false, .int (wrem a4624 4294967296) (wrem a4624 4294967296), .int (wmul .u64 (wquo .u64 a4623 4294967296) (wrem a4624 4294967296)) (wmul .u64 (wquo .u64 a4623 4294967296) (wrem a4624 4294967296)), .test (izero 4294967296) false, .int (wrem a4623 4294967296) (wrem a4623 4294967296), .test (izero 4294967296) false, .int (wquo .u64 a4624 4294967296) (wquo .u64 a4624 4294967296), .int (wmul .u64 (wrem a4623 4294967296) (wquo .u64 a4624 4294967296)) (wmul .u64 (wrem a4623 4294967296) (wquo .u64 a4624 4294967296)), .test (izero 4294967296) false, .int (wrem a4623 4294967296) (wrem a4623 4294967296), .test (izero 4294967296) false, .int (wrem a4624 4294967296) (wrem a4624 4294967296), .int (wmul .u64 (wrem a4623 4294967296) (wrem a4624 4294967296)) (wmul .u64 (wrem a4623 4294967296) (wrem a4624 4294967296)), .test (ieq 3 0) false, .test (ieq 3 1) false, .test (ieq 3 2) false, .test (ieq 3 3) true, .test (izero 4294967296) false, .int (wquo .u64 (wmul .u64 (wrem a4623 4294967296) (wrem a4624 4294967296)) 4294967296) (wquo .u64 (wmul .u64 (wrem a4623 4294967296) (wrem a4624 4294967296)) 4294967296), .test (ieq 1 0) false, .test (ieq 1 1) true, .test (izero 4294967296) false, .int (wrem (wmul .u64 (wquo .u64 a4623 4294967296) (wrem a4624 4294967296)) 4294967296) (wrem (wmul .u64 (wquo .u64 a4623 4294967296) (wrem a4624 4294967296)) 4294967296), .int (wadd .u64 (wquo .u64 (wmul .u64 (wrem a4623 4294967296) (wrem a4624 4294967296)) 4294967296) (wrem (wmul .u64 (wquo .u64 a4623 4294967296) (wrem a4624 4294967296)) 4294967296)) (wadd .u64 (wquo .u64 (wmul .u64 (wrem a4623 4294967296) (wrem a4624 4294967296)) 4294967296) (wrem (wmul .u64 (wquo .u64 a4623 4294967296) (wrem a4624 4294967296)) 4294967296)), .test (ieq 2 0) false, .test (ieq 2 1) false, .test (ieq 2 2) true, .test (izero 4294967296) false, .int (wrem (wmul .u64 (wrem a4623 4294967296) (wquo .u64 a4624 4294967296)) 4294967296) (wrem (wmul .u64 (wrem a4623 4294967296) (wquo .u64 a4624 4294967296)) 4294967296), .int (wadd .u64 (wadd .u64 (wquo .u64 (wmul .u64 (wrem a4623 4294967296) (wrem a4624 4294967296)) 4294967296) (wrem (wmul .u64 (wquo .u64 a4623 4294967296) (wrem a4624 4294967296)) 4294967296)) (wrem (wmul .u64 (wrem a4623 4294967296) (wquo .u64 a4624 4294967296)) 4294967296)) (wadd .u64 (wadd .u64 (wquo .u64 (wmul .u64 (wrem a4623 4294967296) (wrem a4624 4294967296)) 4294967296) (wrem (wmul .u64 (wquo .u64 a4623 4294967296) (wrem a4624 4294967296)) 4294967296)) (wrem (wmul .u64 (wrem a4623 4294967296) (wquo .u64 a4624 4294967296)) 4294967296)), .test (ieq 0 0) true, .test (ieq 1 0) false, .test (ieq 1 1) true, .test (izero 4294967296) false, .int (wquo .u64 (wmul .u64 (wquo .u64 a4623 4294967296) (wrem a4624 4294967296)) 4294967296) (wquo .u64 (wmul .u64 (wquo .u64 a4623 4294967296) (wrem a4624 4294967296)) 4294967296), .int (wadd .u64 (wmul .u64 (wquo .u64 a4623 4294967296) (wquo .u64 a4624 4294967296)) (wquo .u64 (wmul .u64 (wquo .u64 a4623 4294967296) (wrem a4624 4294967296)) 4294967296)) (wadd .u64 (wmul .u64 (wquo .u64 a4623 4294967296) (wquo .u64 a4624 4294967296)) (wquo .u64 (wmul .u64 (wquo .u64 a4623 4294967296) (wrem a4624 4294967296)) 4294967296)), .test (ieq 2 0) false, .test (ieq 2 1) false, .test (ieq 2 2) true, .test (izero 4294967296) false, .int (wquo .u64 (wmul .u64 (wrem a4623 4294967296) (wquo .u64 a4624 4294967296)) 4294967296) (wquo .u64 (wmul .u64 (wrem a4623 4294967296) (wquo .u64 a4624 4294967296)) 4294967296), .int (wadd .u64 (wadd .u64 (wmul .u64 (wquo .u64 a4623 4294967296) (wquo .u64 a4624 4294967296)) (wquo .u64 (wmul .u64 (wquo .u64 a4623 4294967296) (wrem a4624 4294967296)) 4294967296)) (wquo .u64 (wmul .u64 (wrem a4623 4294967296) (wquo .u64 a4624 4294967296)) 4294967296)) (wadd .u64 (wadd .u64 (wmul .u64 (wquo .u64 a4623 4294967296) (wquo .u64 a4624 4294967296)) (wquo .u64 (wmul .u64 (wquo .u64 a4623 4294967296) (wrem a4624 4294967296)) 4294967296)) (wquo .u64 (wmul .u64 (wrem a4623 4294967296) (wquo .u64 a4624 4294967296)) 4294967296)), .test (izero 4294967296) false, .int (wquo .u64 (wadd .u64 (wadd .u64 (wquo .u64 (wmul .u64 (wrem a4623 4294967296) (wrem a4624 4294967296)) 4294967296) (wrem (wmul .u64 (wquo .u64 a4623 4294967296) (wrem a4624 4294967296)) 4294967296)) (wrem (wmul .u64 (wrem a4623 4294967296) (wquo .u64 a4624 4294967296)) 4294967296)) 4294967296) (wquo .u64 (wadd .u64 (wadd .u64 (wquo .u64 (wmul .u64 (wrem a4623 4294967296) (wrem a4624 4294967296)) 4294967296) (wrem (wmul .u64 (wquo .u64 a4623 4294967296) (wrem a4624 4294967296)) 4294967296)) (wrem (wmul .u64 (wrem a4623 4294967296) (wquo .u64 a4624 4294967296)) 4294967296)) 4294967296), .int (wadd .u64 (wadd .u64 (wadd .u64 (wmul .u64 (wquo .u64 a4623 4294967296) (wquo .u64 a4624 4294967296)) (wquo .u64 (wmul .u64 (wquo .u64 a4623 4294967296) (wrem a4624 4294967296)) 4294967296)) (wquo .u64 (wmul .u64 (wrem a4623 4294967296) (wquo .u64 a4624 4294967296)) 4294967296)) (wquo .u64 (wadd .u64 (wadd .u64 (wquo .u64 (wmul .u64 (wrem a4623 4294967296) (wrem a4624 4294967296)) 4294967296) (wrem (wmul .u64 (wquo .u64 a4623 4294967296) (wrem a4624 4294967296)) 4294967296)) (wrem (wmul .u64 (wrem a4623 4294967296) (wquo .u64 a4624 4294967296)) 4294967296)) 4294967296)) (wadd .u64 (wadd .u64 (wadd .u64 (wmul .u64 (wquo .u64 a4623 4294967296) (wquo .u64 a4624 4294967296)) (wquo .u64 (wmul .u64 (wquo .u64 a4623 4294967296) (wrem a4624 4294967296)) 4294967296)) (wquo .u64 (wmul .u64 (wrem a4623 4294967296) (wquo .u64 a4624 4294967296)) 4294967296)) (wquo .u64 (wadd .u64 (wadd .u64 (wquo .u64 (wmul .u64 (wrem a4623 4294967296) (wrem a4624 4294967296)) 4294967296) (wrem (wmul .u64 (wquo .u64 a4623 4294967296) (wrem a4624 4294967296)) 4294967296)) (wrem (wmul .u64 (wrem a4623 4294967296) (wquo .u64 a4624 4294967296)) 4294967296)) 4294967296)), .test (izero 4294967296) false, .int (wrem (wadd .u64 (wadd .u64 (wquo .u64 (wmul .u64 (wrem a4623 4294967296) (wrem a4624 4294967296)) 4294967296) (wrem (wmul .u64 (wquo .u64 a4623 4294967296) (wrem a4624 4294967296)) 4294967296)) (wrem (wmul .u64 (wrem a4623 4294967296) (wquo .u64 a4624 4294967296)) 4294967296)) 4294967296) (wrem (wadd .u64 (wadd .u64 (wquo .u64 (wmul .u64 (wrem a4623 4294967296) (wrem a4624 4294967296)) 4294967296) (wrem (wmul .u64 (wquo .u64 a4623 4294967296) (wrem a4624 4294967296)) 4294967296)) (wrem (wmul .u64 (wrem a4623 4294967296) (wquo .u64 a4624 4294967296)) 4294967296)) 4294967296), .int (wmul .u64 (wrem (wadd .u64 (wadd .u64 (wquo .u64 (wmul .u64 (wrem a4623 4294967296) (wrem a4624 4294967296)) 4294967296) (wrem (wmul .u64 (wquo .u64 a4623 4294967296) (wrem a4624 4294967296)) 4294967296)) (wrem (wmul .u64 (wrem a4623 4294967296) (wquo .u64 a4624 4294967296)) 4294967296)) 4294967296) 4294967296) (wmul .u64 (wrem (wadd .u64 (wadd .u64 (wquo .u64 (wmul .u64 (wrem a4623 4294967296) (wrem a4624 4294967296)) 4294967296) (wrem (wmul .u64 (wquo .u64 a4623 4294967296) (wrem a4624 4294967296)) 4294967296)) (wrem (wmul .u64 (wrem a4623 4294967296) (wquo .u64 a4624 4294967296)) 4294967296)) 4294967296) 4294967296), .test (ieq 3 0) false, .test (ieq 3 1) false, .test (ieq 3 2) false, .test (ieq 3 3) true, .test (izero 4294967296) false, .int (wrem (wmul .u64 (wrem a4623 4294967296) (wrem a4624 4294967296)) 4294967296) (wrem (wmul .u64 (wrem a4623 4294967296) (wrem a4624 4294967296)) 4294967296), .int (wadd .u64 (wmul .u64 (wrem (wadd .u64 (wadd .u64 (wquo .u64 (wmul .u64 (wrem a4623 4294967296) (wrem a4624 4294967296)) 4294967296) (wrem (wmul .u64 (wquo .u64 a4623 4294967296) (wrem a4624 4294967296)) 4294967296)) (wrem (wmul .u64 (wrem a4623 4294967296) (wquo .u64 a4624 4294967296)) 4294967296)) 4294967296) 4294967296) (wrem (wmul .u64 (wrem a4623 4294967296) (wrem a4624 4294967296)) 4294967296)) (wadd .u64 (wmul .u64 (wrem (wadd .u64 (wadd .u64 (wquo .u64 (wmul .u64 (wrem a4623 4294967296) (wrem a4624 4294967296)) 4294967296) (wrem (wmul .u64 (wquo .u64 a4623 4294967296) (wrem a4624 4294967296)) 4294967296)) (wrem (wmul .u64 (wrem a4623 4294967296) (wquo .u64 a4624 4294967296)) 4294967296)) 4294967296) 4294967296) (wrem (wmul .u64 (wrem a4623 4294967296) (wrem a4624 4294967296)) 4294967296))] := ⟨(by first | exact rfl | (unfold Cond.Holds; decide)), rfl, (by first | exact rfl | (unfold Cond.Holds; decide)), rfl, rfl, (by first | exact rfl | (unfold Cond.Holds; decide)), rfl, (by first | exact rfl | (unfold Cond.Holds; decide)), rfl, rfl, (by first | exact rfl | (unfold Cond.Holds; decide)), rfl, (by first | exact rfl | (unfold Cond.Holds; decide)), rfl, rfl, (by first | exact rfl | (unfold Cond.Holds; decide)), rfl, (by first | exact rfl | (unfold Cond.Holds; decide)), rfl, rfl, (by first | exact rfl | (unfold Cond.Holds; decide)), (by first | exact rfl | (unfold Cond.Holds; decide)), (by first | exact rfl | (unfold Cond.Holds; decide)), (by first | exact rfl | (unfold Cond.Holds; decide)), (by first | exact rfl | (unfold Cond.Holds; decide)), rfl, (by first | exact rfl | (unfold Cond.Holds; decide)), (by first | exact rfl | (unfold Cond.Holds; decide)), (by first | exact rfl | (unfold Cond.Holds; decide)), rfl, rfl, (by first | exact rfl | (unfold Cond.Holds; decide)), (by first | exact rfl | (unfold Cond.Holds; decide)), (by first | exact rfl | (unfold Cond.Holds; decide)), (by first | exact rfl | (unfold Cond.Holds; decide)), rfl, rfl, (by first | exact rfl | (unfold Cond.Holds; decide)), (by first | exact rfl | (unfold Cond.Holds; decide)), (by first | exact rfl | (unfold Cond.Holds; decide)), (by first | exact rfl | (unfold Cond.Holds; decide)), rfl, rfl, (by first | exact rfl | (unfold Cond.Holds; decide)), (by first | exact rfl | (unfold Cond.Holds; decide)), (by first | exact rfl | (unfold Cond.Holds; decide)), (by first | exact rfl | (unfold Cond.Holds; decide)), rfl, rfl, (by first | exact rfl | (unfold Cond.Holds; decide)), rfl, rfl, (by first | exact rfl | (unfold Cond.Holds; decide)), rfl, rfl, (by first | exact rfl | (unfold Cond.Holds; decide)), (by first | exact rfl | (unfold Cond.Holds; decide)), (by first | exact rfl | (unfold Cond.Holds; decide)), (by first | exact rfl | (unfold Cond.Holds; decide)), (by first | exact rfl | (unfold Cond.Holds; decide)), rfl, rfl, trivial⟩
 exact fn_playC hn174 (r := F174_res (GA199.mk (wadd .u64 (wadd .u64 (wadd .u64 (wmul .u64 (wquo .u64 a4623 4294967296) (wquo .u64 a4624 4294967296)) (wquo .u64 (wmul .u64 (wquo .u64 a4623 4294967296) (wrem a4624 4294967296)) 4294967296)) (wquo .u64 (wmul .u64 (wrem a4623 4294967296) (wquo .u64 a4624 4294967296)) 4294967296)) (wquo .u64 (wadd .u64 (wadd .u64 (wquo .u64 (wmul .u64 (wrem a4623 4294967296) (wrem a4624 4294967296)) 4294967296) (wrem (wmul .u64 (wquo .u64 a4623 4294967296) (wrem a4624 4294967296)) 4294967296)) (wrem (wmul .u64 (wrem a4623 4294967296) (wquo .u64 a4624 4294967296)) 4294967296)) 4294967296)) (wadd .u64 (wmul .u64 (wrem (wadd .u64 (wadd .u64 (wquo .u64 (wmul .u64 (wrem a4623 4294967296) (wrem a4624 4294967296)) 4294967296) (wrem (wmul .u64 (wquo .u64 a4623 4294967296) (wrem a4624 4294967296)) 4294967296)) (wrem (wmul .u64 (wrem a4623 4294967296) (wquo .u64 a4624 4294967296)) 4294967296)) 4294967296) 4294967296) (wrem (wmul .u64 (wrem a4623 4294967296) (wrem a4624 4294967296)) 4294967296)))) pz (by kernel_rfl) (by kernel_rfl)
noncomputable def hn170 : Hint := { H 170 with nt := 41, prot := 0 }
def F170_res (r4636 : Int × Bool) : Res := ⟨[(.one (.im (.lit (.int .i64 r4636.1)))), (.one (.im (.lit (.bool r4636.2))))], []⟩
def F170 (K : Nat) (a4614 : Int) (a4615 : Int) : Option (Int × Bool) :=
 (F175 K a4614).bind fun r4619 =>
 (F175 K a4615).bind fun r4621 =>
 (F174 K r4619 r4621).bind fun r4626 =>
 bif (ilt 0 r4626.x0) then
  (some (0, false))
 else
 bif (ilt 9223372036854775808 r4626.x1) then
  (some (0, false))
 else
 bif (ieq r4626.x1 9223372036854775808) then
  (bif (beqb (ilt a4614 0) (ilt a4615 0)) then
   (some (0, false))
  else
  some ((-9223372036854775808), true))
 else
 bif (beqb (ilt a4614 0) (ilt a4615 0)) then
  (some ((wconv .i64 r4626.x1), true))
 else
 some ((wneg .i64 (wconv .i64 r4626.x1)), true)
theorem F170_ok (K : Nat) (a4614 : Int) (a4615 : Int) (r : Int × Bool) (hF : F170 K a4614 a4615 = some r) : Evt E H 170 [.one (.lit (.int .i64 a4614)), .one (.lit (.int .i64 a4615))] (F170_res r) := by
 rw [F170] at hF
 refine bind_some hF (fun r4619 h4620 hF => ?_)
 refine bind_some hF (fun r4621 h4622 hF => ?_)
 refine bind_some hF (fun r4626 h4627 hF => ?_)
 have pq4633 : ∀ {l : List Cond}, HoldAll E H hn170 l → HoldAll E H hn170 (.call 175 [.one (.lit (.int .i64 a4614))] (F175_res r4619) :: .test (leadsAny (Res.mk [(.one (.im (.lit (.int .u64 r4619))))] [])) false :: .call 175 [.one (.lit (.int .i64 a4615))] (F175_res r4621) :: .test (leadsAny (Res.mk [(.one (.im (.lit (.int .u64 r4621))))] [])) false :: .call 174 [.one (.lit (.int .u64 r4619)), .one (.lit (.int .u64 r4621))] (F174_res r4626) :: .test (leadsAny (Res.mk [(.agg [(.im (.lit (.int .u64 r4626.x0))), (.im (.lit (.int .u64 r4626.x1)))])] [])) false :: .test (ieq 0 0) true :: l) := fun z => ⟨(F175_ok K a4614 _ h4620), (leads_ok (by simp [leadsAny, RV.leads, RC.leads, leadsT, hasSl_lit])), (F175_ok K a4615 _ h4622), (leads_ok (by simp [leadsAny, RV.leads, RC.leads, leadsT, hasSl_lit])), (F174_ok K r4619 r4621 _ h4627), (leads_ok (by simp [leadsAny, RV.leads, RC.leads, leadsT, hasSl_lit])), (by first | exact rfl | (unfold Cond.Holds; decide)), z⟩
 refine cond_some hF (fun h4628 hF => ?_) (fun h4628 hF => ?_)
 ·
  obtain rfl := Option.some.inj hF
  have pz : HoldAll E H hn170 [.test (beqb (igt r4626.x0 0) false) false, .test (beqb (igt r4626.x0 0) false) false, .test (beqb (igt r4626.x0 0) false) false, .test (igt r4626.x0 0) true, .test true true] := ⟨(beqb_ft (igt_eq h4628)), (beqb_ft (igt_eq h4628)), (beqb_ft (igt_eq h4628)), (igt_eq h4628), rfl, trivial⟩
  exact fn_playC hn170 (r := F170_res (0, false)) (pq4633 pz) (by kernel_rfl) (by kernel_rfl)
 have pq4634 : ∀ {l : List Cond}, HoldAll E H hn170 l → HoldAll E H hn170 (.test (beqb (igt r4626.x0 0) false) true :: .test (ieq 1 0) false :: .test (ieq 1 1) true :: .test (beqb (igt r4626.x0 0) false) true :: .test (beqb (igt r4626.x0 0) false) true :: .test (igt r4626.x0 0) false :: l) := fun z => ⟨(beqb_ff (igt_eq h4628)), (by first | exact rfl | (unfold Cond.Holds; decide)), (by first | exact rfl | (unfold Cond.Holds; decide)), (beqb_ff (igt_eq h4628)), (beqb_ff (igt_eq h4628)), (igt_eq h4628), z⟩
 refine cond_some hF (fun h4629 hF => ?_) (fun h4629 hF => ?_)
 ·
  obtain rfl := Option.some.inj hF
  have pz : HoldAll E H hn170 [.test (igt r4626.x1 9223372036854775808) true] := ⟨(igt_eq h4629), trivial⟩
  exact fn_playC hn170 (r := F170_res (0, false)) (pq4633 (pq4634 pz)) (by kernel_rfl) (by kernel_rfl)
 have pq4635 : ∀ {l : List Cond}, HoldAll E H hn170 l → HoldAll E H hn170 (.test (igt r4626.x1 9223372036854775808) false :: .test (ieq 1 0) false :: .test (ieq 1 1) true :: l) := fun z => ⟨(igt_eq h4629), (by first | exact rfl | (unfold Cond.Holds; decide)), (by first | exact rfl | (unfold Cond.Holds; decide)), z⟩
 refine cond_some hF (fun h4630 hF => ?_) (fun h4630 hF => ?_)
 ·
  refine cond_some hF (fun h4631 hF => ?_) (fun h4631 hF => ?_)
  ·
   obtain rfl := Option.some.inj hF
   have pz : HoldAll E H hn170 [.test (ieq r4626.x1 9223372036854775808) true, .test (bnot (beqb (ilt a4614 0) (ilt a4615 0))) false] := ⟨h4630, (bnot_t h4631), trivial⟩
   exact fn_playC hn170 (r := F170_res (0, false)) (pq4633 (pq4634 (pq4635 pz))) (by kernel_rfl) (by kernel_rfl)
  obtain rfl := Option.some.inj hF
  have pz : HoldAll E H hn170 [.test (ieq r4626.x1 9223372036854775808) true, .test (bnot (beqb (ilt a4614 0) (ilt a4615 0))) true] := ⟨h4630, (bnot_f h4631), trivial⟩
  exact fn_playC hn170 (r := F170_res ((-9223372036854775808), true)) (pq4633 (pq4634 (pq4635 pz))) (by kernel_rfl) (by kernel_rfl)
 refine cond_some hF (fun h4632 hF => ?_) (fun h4632 hF => ?_)
 ·
  obtain rfl := Option.some.inj hF
  have pz : HoldAll E H hn170 [.test (ieq r4626.x1 9223372036854775808) false, .test (bnot (beqb (ilt a4614 0) (ilt a4615 0))) false, .test (ieq 1 0) false, .test (ieq 1 1) true, .int (wconv .i64 r4626.x1) (wconv .i64 r4626.x1)] := ⟨h4630, (bnot_t h4632), (by first | exact rfl | (unfold Cond.Holds; decide)), (by first | exact rfl | (unfold Cond.Holds; decide)), rfl, trivial⟩
  exact fn_playC hn170 (r := F170_res ((wconv .i64 r4626.x1), true)) (pq4633 (pq4634 (pq4635 pz))) (by kernel_rfl) (by kernel_rfl)
 obtain rfl := Option.some.inj hF
 have pz : HoldAll E H hn170 [.test (ieq r4626.x1 9223372036854775808) false, .test (bnot (beqb (ilt a4614 0) (ilt a4615 0))) true, .test (ieq 1 0) false, .test (ieq 1 1) true, .int (wconv .i64 r4626.x1) (wconv .i64 r4626.x1), .int (wneg .i64 (wconv .i64 r4626.x1)) (wneg .i64 (wconv .i64 r4626.x1))] := ⟨h4630, (bnot_f h4632), (by first | exact rfl | (unfold Cond.Holds; decide)), (by first | exact rfl | (unfold Cond.Holds; decide)), rfl, rfl, trivial⟩
 exact fn_playC hn170 (r := F170_res ((wneg .i64 (wconv .i64 r4626.x1)), true)) (pq4633 (pq4634 (pq4635 pz))) (by kernel_rfl) (by kernel_rfl)
noncomputable def hn167 : Hint := { H 167 with nt := 25, prot := 0 }
def F167_res (r4643 : Int × Bool) : Res := ⟨[(.one (.im (.lit (.int .i64 r4643.1)))), (.one (.im (.lit (.bool r4643.2))))], []⟩
def F167 (K : Nat) (a4611 : Int) (a4612 : Int) (a4613 : Int) : Option (Int × Bool) :=
 (F170 K a4611 a4612).bind fun r4637 =>
 bif r4637.2 then
  (bif (ilt a4613 1) then
   (some (0, false))
  else
  bif (izero a4613) then none else
  some ((wquo .i64 r4637.1 a4613), true))
 else
 some (0, false)
theorem F167_ok (K : Nat) (a4611 : Int) (a4612 : Int) (a4613 : Int) (r : Int × Bool) (hF : F167 K a4611 a4612 a4613 = some r) : Evt E H 167 [.one (.lit (.int .i64 a4611)), .one (.lit (.int .i64 a4612)), .one (.lit (.int .i64 a4613))] (F167_res r) := by
 rw [F167] at hF
 refine bind_some hF (fun r4637 h4638 hF => ?_)
 refine cond_some hF (fun h4639 hF => ?_) (fun h4639 hF => ?_)
 ·
  have pq4642 : ∀ {l : List Cond}, HoldAll E H hn167 l → HoldAll E H hn167 (.call 170 [.one (.lit (.int .i64 a4611)), .one (.lit (.int .i64 a4612))] (F170_res r4637) :: .test (leadsAny (Res.mk [(.one (.im (.lit (.int .i64 r4637.1)))), (.one (.im (.lit (.bool r4637.2))))] [])) false :: .test (beqb (bnot r4637.2) false) true :: .test (beqb (bnot r4637.2) false) true :: .test (bnot r4637.2) false :: l) := fun z => ⟨(F170_ok K a4611 a4612 _ h4638), (leads_ok (by simp [leadsAny, RV.leads, RC.leads, leadsT, hasSl_lit])), (beqb_ff (bnot_t h4639)), (beqb_ff (bnot_t h4639)), (bnot_t h4639), z⟩
  refine cond_some hF (fun h4640 hF => ?_) (fun h4640 hF => ?_)
  ·
   obtain rfl := Option.some.inj hF
   have pz : HoldAll E H hn167 [.test (ilt a4613 1) true] := ⟨h4640, trivial⟩
   exact fn_playC hn167 (r := F167_res (0, false)) (pq4642 pz) (by kernel_rfl) (by kernel_rfl)
  refine cond_some hF (fun _ hF => nomatch hF) (fun h4641 hF => ?_)
  obtain rfl := Option.some.inj hF
  have pz : HoldAll E H hn167 [.test (ilt a4613 1) false, .test (izero a4613) false, .int (wquo .i64 r4637.1 a4613) (wquo .i64 r4637.1 a4613)] := ⟨h4640, h4641, rfl, trivial⟩
  exact fn_playC hn167 (r := F167_res ((wquo .i64 r4637.1 a4613), true)) (pq4642 pz) (by kernel_rfl) (by kernel_rfl)
 obtain rfl := Option.some.inj hF
 have pz : HoldAll E H hn167 [.call 170 [.one (.lit (.int .i64 a4611)), .one (.lit (.int .i64 a4612))] (F170_res r4637), .test (leadsAny (Res.mk [(.one (.im (.lit (.int .i64 r4637.1)))), (.one (.im (.lit (.bool r4637.2))))] [])) false, .test (beqb (bnot r4637.2) false) false, .test (beqb (bnot r4637.2) false) false, .test (bnot r4637.2) true, .test true true] := ⟨(F170_ok K a4611 a4612 _ h4638), (leads_ok (by simp [leadsAny, RV.leads, RC.leads, leadsT, hasSl_lit])), (beqb_ft (bnot_f h4639)), (beqb_ft (bnot_f h4639)), (bnot_f h4639), rfl, trivial⟩
 exact fn_playC hn167 (r := F167_res (0, false)) pz (by kernel_rfl) (by kernel_rfl)
noncomputable def hn146 : Hint := { H 146 with nt := 68, prot := 0 }
noncomputable def c146_0 : Code := loopOf E 146 0
def F146_res (r4696 : Int × List GMsg × Bool × Int) : Res := ⟨[(.one (.im (.lit (.int .i64 r4696.1)))), (.one (.own 130 (.sl (len r4696.2.1) (flat eGMsg r4696.2.1)))), (.one (.im (.lit (.bool r4696.2.2.1)))), (.one (.im (.lit (.int .i64 r4696.2.2.2))))], []⟩
def F146_l0_0 (K : Nat) (v4651 : List GEdge) (v4652 : Int) : Nat → List GMsg → Int → Option ((Unit) ⊕ (List GMsg))
 | 0, _, _ => none
 | k + 1, v4663, v4664 =>
  bif (ilt v4664 (nlen (len v4651))) then
   (bif (inr v4664 (len v4651)) then
   (elAt v4651 v4664).bind fun x4667 =>
   (F167 K v4652 1 (nlen (len v4651))).bind fun r4669 =>
   bif r4669.2 then
    (bif (apok (len v4663) 1 16) then
    F146_l0_0 K v4651 v4652 k (appL v4663 [(GMsg.mk x4667.To r4669.1)]) (wadd .i64 v4664 1)
    else none)
   else
   some (.inl ())
   else none)
  else
  some (.inr v4663)
def F146_l0_0_S (v4651 : List GEdge) (v4652 : Int) (v4663 : List GMsg) (v4664 : Int) : TS := .on [0, 1, 128, 129, 1024, 1025, 2752, 2753, 2816, 2817, 2880, 2881] [(0, ⟨.one, 0, nob⟩), (1, ⟨.im, 0, (.sl (len v4651) (flat eGEdge v4651))⟩), (128, ⟨.one, 0, nob⟩), (129, ⟨.im, 0, (.lit (.int .i64 v4652))⟩), (1024, ⟨.one, 0, nob⟩), (1025, ⟨(.own 130), 0, (.sl (len v4663) (flat eGMsg v4663))⟩), (2752, ⟨.one, 0, nob⟩), (2753, ⟨.im, 0, (.sl (len v4651) (flat eGEdge v4651))⟩), (2816, ⟨.one, 0, nob⟩), (2817, ⟨.im, 0, (.lit (.int .i64 (nlen (len v4651))))⟩), (2880, ⟨.one, 0, nob⟩), (2881, ⟨.im, 0, (.lit (.int .i64 v4664))⟩)]
def F146_l0_0_X0 (v4651 : List GEdge) (v4652 : Int) (w4673 : Unit) : TS := .on [512, 513, 576, 577, 640, 641, 704, 705] [(512, ⟨.one, 0, nob⟩), (513, ⟨.im, 0, (.lit (.int .i64 0))⟩), (576, ⟨.one, 0, nob⟩), (577, ⟨(.own 130), 0, (.sl 0 [])⟩), (640, ⟨.one, 0, nob⟩), (641, ⟨.im, 0, (.lit (.bool false))⟩), (704, ⟨.one, 0, nob⟩), (705, ⟨.im, 0, (.lit (.int .i64 8))⟩)]
def F146_l0_0_X1 (v4651 : List GEdge) (v4652 : Int) (w4674 : List GMsg) : TS := .on [128, 129, 1024, 1025] [(128, ⟨.one, 0, nob⟩), (129, ⟨.im, 0, (.lit (.int .i64 v4652))⟩), (1024, ⟨.one, 0, nob⟩), (1025, ⟨(.own 130), 0, (.sl (len w4674) (flat eGMsg w4674))⟩)]
theorem F146_l0_0_ok (K : Nat) (v4651 : List GEdge) (v4652 : Int) : ∀ (k : Nat) (v4663 : List GMsg) (v4664 : Int) (r : (Unit) ⊕ (List GMsg)), F146_l0_0 K v4651 v4652 k v4663 v4664 = some r → (Sum.elim (fun w => LoopEv E H hn146 0 c146_0 (F146_l0_0_S v4651 v4652 v4663 v4664) .ret (F146_l0_0_X0 v4651 v4652 w)) (fun w => LoopEv E H hn146 0 c146_0 (F146_l0_0_S v4651 v4652 v4663 v4664) (.exit 0) (F146_l0_0_X1 v4651 v4652 w))) r := by
 intro k
 induction k with
 | zero => intro v4663 v4664 r hF; cases hF
 | succ k ih =>
  intro v4663 v4664 r hF
  rw [F146_l0_0] at hF
  refine cond_some hF (fun h4665 hF => ?_) (fun h4665 hF => ?_)
  ·
   refine cond_some hF (fun h4666 hF => ?_) (fun _ hF => nomatch hF)
   refine bind_some hF (fun x4667 h4668 hF => ?_)
   refine bind_some hF (fun r4669 h4670 hF => ?_)
   have pq4676 : ∀ {l : List Cond}, HoldAll E H hn146 l → HoldAll E H hn146 (.test (ilt v4664 (nlen (len v4651))) true :: .test (inr v4664 (len v4651)) true :: .sub (flat eGEdge v4651) (nidx v4664 3) 3 [(.lit (.int .i64 x4667.From)), (.lit (.int .i64 x4667.To)), (.lit (.int .i64 x4667.W))] :: .int (nlen (len v4651)) (nlen (len v4651)) :: .call 167 [.one (.lit (.int .i64 v4652)), .one (.lit (.int .i64 1)), .one (.lit (.int .i64 (nlen (len v4651))))] (F167_res r4669) :: .test (leadsAny (Res.mk [(.one (.im (.lit (.int .i64 r4669.1)))), (.one (.im (.lit (.bool r4669.2))))] [])) false :: l) := fun z => ⟨h4665, h4666, ⟨rfl, sub_flat0 eGEdge_len h4668 3 (by decide)⟩, rfl, (F167_ok K v4652 1 (nlen (len v4651)) _ h4670), (leads_ok (by simp [leadsAny, RV.leads, RC.leads, leadsT, hasSl_lit, flat_ns eGEdge_ns])), z⟩
   refine cond_some hF (fun h4671 hF => ?_) (fun h4671 hF => ?_)
   ·
    refine cond_some hF (fun h4672 hF => ?_) (fun _ hF => nomatch hF)
    have pz : HoldAll E H hn146 [.test (bnot r4669.2) false, .test (leqm [(.lit (.int .i64 x4667.To)), (.lit (.int .i64 r4669.1))] 1 2) true, .test (apok (len v4663) 1 16) true, .sl (nadd (len v4663) 1) (lapp (flat eGMsg v4663) [(.lit (.int .i64 x4667.To)), (.lit (.int .i64 r4669.1))]) (len (α := GMsg) (appL v4663 [(GMsg.mk x4667.To r4669.1)])) (flat eGMsg (appL v4663 [(GMsg.mk x4667.To r4669.1)])), .int (wadd .i64 v4664 1) (wadd .i64 v4664 1)] := ⟨(bnot_t h4671), rfl, h4672, (app_ok (enc := eGMsg) (v4663 : List GMsg) [(GMsg.mk x4667.To r4669.1)]), rfl, trivial⟩
    have h0 := ih _ _ _ hF
    have hn := fun ex ts' => loop_nextC (h := hn146) (l := 0) (c := c146_0) (ts := F146_l0_0_S v4651 v4652 v4663 v4664) (ts1 := (F146_l0_0_S v4651 v4652 (appL v4663 [(GMsg.mk x4667.To r4669.1)]) (wadd .i64 v4664 1))) (ex := ex) (ts' := ts') (pq4676 pz) (by kernel_rfl)
    cases r with
    | inl w => exact hn _ _ h0
    | inr w => exact hn _ _ h0
   obtain rfl := Option.some.inj hF
   have pz : HoldAll E H hn146 [.test (bnot r4669.2) true] := ⟨(bnot_f h4671), trivial⟩
   exact loop_endC (h := hn146) (l := 0) (c := c146_0) (ts := F146_l0_0_S v4651 v4652 v4663 v4664) (ts' := F146_l0_0_X0 v4651 v4652 ()) (ex := .ret) (pq4676 pz) (by kernel_rfl) trivial
  obtain rfl := Option.some.inj hF
  have pz : HoldAll E H hn146 [.test (ilt v4664 (nlen (len v4651))) false] := ⟨h4665, trivial⟩
  exact loop_endC (h := hn146) (l := 0) (c := c146_0) (ts := F146_l0_0_S v4651 v4652 v4663 v4664) (ts' := F146_l0_0_X1 v4651 v4652 v4663) (ex := (.exit 0)) pz (by kernel_rfl) trivial
def F146 (K : Nat) (a4606 : List GEdge) (a4607 : Int) (a4608 : Int) (a4609 : Int) : Option (Int × List GMsg × Bool × Int) :=
 bif (ilt 0 a4607) then
  ((F167 K a4609 85 100).bind fun r4644 =>
  (F144 K 150000 r4644.1).bind fun r4646 =>
  bif r4644.2 then
   (bif r4646.2 then
    (bif (ile 10 a4607) then
     (some (r4646.1, ([], (true, 0))))
    else
    (F146_l0_0 K a4606 r4646.1 K [] 0).bind fun y4678 =>
    Sum.elim (fun w4679 =>
     some (0, ([], (false, 8))))
     (fun w4680 =>
     some (r4646.1, (w4680, (false, 0)))) y4678)
   else
   some (0, ([], (false, 8))))
  else
  some (0, ([], (false, 8))))
 else
 bif (ile 10 a4607) then
  (some (a4608, ([], (true, 0))))
 else
 (F146_l0_0 K a4606 a4608 K [] 0).bind fun y4688 =>
 Sum.elim (fun w4689 =>
  some (0, ([], (false, 8))))
  (fun w4690 =>
  some (a4608, (w4690, (false, 0)))) y4688
theorem F146_ok (K : Nat) (a4606 : List GEdge) (a4607 : Int) (a4608 : Int) (a4609 : Int) (r : Int × List GMsg × Bool × Int) (hF : F146 K a4606 a4607 a4608 a4609 = some r) : Evt E H 146 [.one (.sl (len a4606) (flat eGEdge a4606)), .one (.lit (.int .i64 a4607)), .one (.lit (.int .i64 a4608)), .one (.lit (.int .i64 a4609))] (F146_res r) := by
 rw [F146] at hF
 refine cond_some hF (fun h4610 hF => ?_) (fun h4610 hF => ?_)
 ·
  refine bind_some hF (fun r4644 h4645 hF => ?_)
  refine bind_some hF (fun r4646 h4647 hF => ?_)
  have pq4692 : ∀ {l : List Cond}, HoldAll E H hn146 l → HoldAll E H hn146 (.test (igt a4607 0) true :: .call 167 [.one (.lit (.int .i64 a4609)), .one (.lit (.int .i64 85)), .one (.lit (.int .i64 100))] (F167_res r4644) :: .test (leadsAny (Res.mk [(.one (.im (.lit (.int .i64 r4644.1)))), (.one (.im (.lit (.bool r4644.2))))] [])) false :: .call 144 [.one (.lit (.int .i64 150000)), .one (.lit (.int .i64 r4644.1))] (F144_res r4646) :: .test (leadsAny (Res.mk [(.one (.im (.lit (.int .i64 r4646.1)))), (.one (.im (.lit (.bool r4646.2))))] [])) false :: l) := fun z => ⟨(igt_eq h4610), (F167_ok K a4609 85 100 _ h4645), (leads_ok (by simp [leadsAny, RV.leads, RC.leads, leadsT, hasSl_lit])), (F144_ok K 150000 r4644.1 _ h4647), (leads_ok (by simp [leadsAny, RV.leads, RC.leads, leadsT, hasSl_lit])), z⟩
  refine cond_some hF (fun h4648 hF => ?_) (fun h4648 hF => ?_)
  ·
   have pq4693 : ∀ {l : List Cond}, HoldAll E H hn146 l → HoldAll E H hn146 (.test (beqb (bnot r4644.2) false) true :: .test (beqb (bnot r4644.2) false) true :: .test (bnot r4644.2) false :: l) := fun z => ⟨(beqb_ff (bnot_t h4648)), (beqb_ff (bnot_t h4648)), (bnot_t h4648), z⟩
   refine cond_some hF (fun h4649 hF => ?_) (fun h4649 hF => ?_)
   ·
    refine cond_some hF (fun h4650 hF => ?_) (fun h4650 hF => ?_)
    ·
     obtain rfl := Option.some.inj hF
     have pz : HoldAll E H hn146 [.test (bnot r4646.2) false, .test (ige a4607 10) true] := ⟨(bnot_t h4649), (ige_eq h4650), trivial⟩
     exact fn_playC hn146 (r := F146_res (r4646.1, ([], (true, 0)))) (pq4692 (pq4693 pz)) (by kernel_rfl) (by kernel_rfl)
    have pq4694 : ∀ {l : List Cond}, HoldAll E H hn146 l → HoldAll E H hn146 (.test (bnot r4646.2) false :: .test (ige a4607 10) false :: .int (nlen (len a4606)) (nlen (len a4606)) :: l) := fun z => ⟨(bnot_t h4649), (ige_eq h4650), rfl, z⟩
    refine bind_some hF (fun y4678 h4677 hF => ?_)
    refine sum_some hF (fun w4679 hx hF => ?_) (fun w4680 hx hF => ?_)
    ·
     subst hx
     obtain rfl := Option.some.inj hF
     have pz : HoldAll E H hn146 [.loop 0 c146_0 (F146_l0_0_S a4606 r4646.1 [] 0) .ret (F146_l0_0_X0 a4606 r4646.1 w4679)] := ⟨(F146_l0_0_ok K a4606 r4646.1 K [] 0 _ h4677), trivial⟩
     exact fn_playC hn146 (r := F146_res (0, ([], (false, 8)))) (pq4692 (pq4693 (pq4694 pz))) (by kernel_rfl) (by kernel_rfl)
    subst hx
    obtain rfl := Option.some.inj hF
    have pz : HoldAll E H hn146 [.loop 0 c146_0 (F146_l0_0_S a4606 r4646.1 [] 0) (.exit 0) (F146_l0_0_X1 a4606 r4646.1 w4680)] := ⟨(F146_l0_0_ok K a4606 r4646.1 K [] 0 _ h4677), trivial⟩
    exact fn_playC hn146 (r := F146_res (r4646.1, (w4680, (false, 0)))) (pq4692 (pq4693 (pq4694 pz))) (by kernel_rfl) (by kernel_rfl)
   obtain rfl := Option.some.inj hF
   have pz : HoldAll E H hn146 [.test (bnot r4646.2) true] := ⟨(bnot_f h4649), trivial⟩
   exact fn_playC hn146 (r := F146_res (0, ([], (false, 8)))) (pq4692 (pq4693 pz)) (by kernel_rfl) (by kernel_rfl)
  obtain rfl := Option.some.inj hF
  have pz : HoldAll E H hn146 [.test (beqb (bnot r4644.2) false) false, .test (beqb (bnot r4644.2) false) false, .test (bnot r4644.2) true, .test true true] := ⟨(beqb_ft (bnot_f h4648)), (beqb_ft (bnot_f h4648)), (bnot_f h4648), rfl, trivial⟩
  exact fn_playC hn146 (r := F146_res (0, ([], (false, 8)))) (pq4692 pz) (by kernel_rfl) (by kernel_rfl)
 refine cond_some hF (fun h4682 hF => ?_) (fun h4682 hF => ?_)
 ·
  obtain rfl := Option.some.inj hF
  have pz : HoldAll E H hn146 [.test (igt a4607 0) false, .test (ige a4607 10) true] := ⟨(igt_eq h4610), (ige_eq h4682), trivial⟩
  exact fn_playC hn146 (r := F146_res (a4608, ([], (true, 0)))) pz (by kernel_rfl) (by kernel_rfl)
 have pq4695 : ∀ {l : List Cond}, HoldAll E H hn146 l → HoldAll E H hn146 (.test (igt a4607 0) false :: .test (ige a4607 10) false :: .int (nlen (len a4606)) (nlen (len a4606)) :: l) := fun z => ⟨(igt_eq h4610), (ige_eq h4682), rfl, z⟩
 refine bind_some hF (fun y4688 h4687 hF => ?_)
 refine sum_some hF (fun w4689 hx hF => ?_) (fun w4690 hx hF => ?_)
 ·
  subst hx
  obtain rfl := Option.some.inj hF
  have pz : HoldAll E H hn146 [.loop 0 c146_0 (F146_l0_0_S a4606 a4608 [] 0) .ret (F146_l0_0_X0 a4606 a4608 w4689)] := ⟨(F146_l0_0_ok K a4606 a4608 K [] 0 _ h4687), trivial⟩
  exact fn_playC hn146 (r := F146_res (0, ([], (false, 8)))) (pq4695 pz) (by kernel_rfl) (by kernel_rfl)
 subst hx
 obtain rfl := Option.some.inj hF
 have pz : HoldAll E H hn146 [.loop 0 c146_0 (F146_l0_0_S a4606 a4608 [] 0) (.exit 0) (F146_l0_0_X1 a4606 a4608 w4690)] := ⟨(F146_l0_0_ok K a4606 a4608 K [] 0 _ h4687), trivial⟩
 exact fn_playC hn146 (r := F146_res (a4608, (w4690, (false, 0)))) (pq4695 pz) (by kernel_rfl) (by kernel_rfl)
noncomputable def hn99 : Hint := { H 99 with nt := 122, prot := 0 }
noncomputable def c99_0 : Code := loopOf E 99 0
def F99_res (r4871 : Int × List GMsg × Bool × Int) : Res := ⟨[(.one (.im (.lit (.int .i64 r4871.1)))), (.one (.own 130 (.sl (len r4871.2.1) (flat eGMsg r4871.2.1)))), (.one (.im (.lit (.bool r4871.2.2.1)))), (.one (.im (.lit (.int .i64 r4871.2.2.2))))], []⟩
def F99_l0_0 (K : Nat) (v4270 : Int) (v4271 : Bool) (v4272 : List GEdge) : Nat → List GMsg → Int → Option ((Unit) ⊕ (List GMsg))
 | 0, _, _ => none
 | k + 1, v4287, v4288 =>
  bif (ilt v4288 (nlen (len v4272))) then
   (bif (inr v4288 (len v4272)) then
   (elAt v4272 v4288).bind fun x4291 =>
   (F160 K v4270 x4291).bind fun r4293 =>
   bif r4293.2 then
    (bif (apok (len v4287) 1 16) then
    F99_l0_0 K v4270 v4271 v4272 k (appL v4287 [(GMsg.mk x4291.To r4293.1)]) (wadd .i64 v4288 1)
    else none)
   else
   some (.inl ())
   else none)
  else
  some (.inr v4287)
def F99_l0_0_S (v4270 : Int) (v4271 : Bool) (v4272 : List GEdge) (v4287 : List GMsg) (v4288 : Int) : TS := .on [256, 257, 1216, 1217, 1218, 1219, 1220, 1344, 1345, 1472, 1473, 6144, 6145, 6208, 6209, 6272, 6273] [(256, ⟨.one, 0, nob⟩), (257, ⟨.im, 0, (.lit (.int .i64 v4270))⟩), (1216, ⟨(.box 176 4), 0, nob⟩), (1217, ⟨.im, 0, (.lit (fnV 158))⟩), (1218, ⟨.im, 0, (.lit (fnV 159))⟩), (1219, ⟨.im, 0, (.lit (.bool v4271))⟩), (1220, ⟨.im, 0, (.lit (fnV 160))⟩), (1344, ⟨.one, 0, nob⟩), (1345, ⟨(.own 89), 0, (.sl (len v4272) (flat eGEdge v4272))⟩), (1472, ⟨.one, 0, nob⟩), (1473, ⟨(.own 130), 0, (.sl (len v4287) (flat eGMsg v4287))⟩), (6144, ⟨.one, 0, nob⟩), (6145, ⟨(.vw 1345 0), 0, nob⟩), (6208, ⟨.one, 0, nob⟩), (6209, ⟨.im, 0, (.lit (.int .i64 (nlen (len v4272))))⟩), (6272, ⟨.one, 0, nob⟩), (6273, ⟨.im, 0, (.lit (.int .i64 v4288))⟩)]
def F99_l0_0_X0 (v4270 : Int) (v4271 : Bool) (v4272 : List GEdge) (w4297 : Unit) : TS := .on [896, 897, 960, 961, 1024, 1025, 1088, 1089] [(896, ⟨.one, 0, nob⟩), (897, ⟨.im, 0, (.lit (.int .i64 0))⟩), (960, ⟨.one, 0, nob⟩), (961, ⟨(.own 130), 0, (.sl 0 [])⟩), (1024, ⟨.one, 0, nob⟩), (1025, ⟨.im, 0, (.lit (.bool false))⟩), (1088, ⟨.one, 0, nob⟩), (1089, ⟨.im, 0, (.lit (.int .i64 8))⟩)]
def F99_l0_0_X1 (v4270 : Int) (v4271 : Bool) (v4272 : List GEdge) (w4298 : List GMsg) : TS := .on [256, 257, 1472, 1473] [(256, ⟨.one, 0, nob⟩), (257, ⟨.im, 0, (.lit (.int .i64 v4270))⟩), (1472, ⟨.one, 0, nob⟩), (1473, ⟨(.own 130), 0, (.sl (len w4298) (flat eGMsg w4298))⟩)]
theorem F99_l0_0_ok (K : Nat) (v4270 : Int) (v4271 : Bool) (v4272 : List GEdge) : ∀ (k : Nat) (v4287 : List GMsg) (v4288 : Int) (r : (Unit) ⊕ (List GMsg)), F99_l0_0 K v4270 v4271 v4272 k v4287 v4288 = some r → (Sum.elim (fun w => LoopEv E H hn99 0 c99_0 (F99_l0_0_S v4270 v4271 v4272 v4287 v4288) .ret (F99_l0_0_X0 v4270 v4271 v4272 w)) (fun w => LoopEv E H hn99 0 c99_0 (F99_l0_0_S v4270 v4271 v4272 v4287 v4288) (.exit 0) (F99_l0_0_X1 v4270 v4271 v4272 w))) r := by
 intro k
 induction k with
 | zero => intro v4287 v4288 r hF; cases hF
 | succ k ih =>
  intro v4287 v4288 r hF
  rw [F99_l0_0] at hF
  refine cond_some hF (fun h4289 hF => ?_) (fun h4289 hF => ?_)
  ·
   refine cond_some hF (fun h4290 hF => ?_) (fun _ hF => nomatch hF)
   refine bind_some hF (fun x4291 h4292 hF => ?_)
   refine bind_some hF (fun r4293 h4294 hF => ?_)
   have pq4300 : ∀ {l : List Cond}, HoldAll E H hn99 l → HoldAll E H hn99 (.test (ilt v4288 (nlen (len v4272))) true :: .test (inr v4288 (len v4272)) true :: .sub (flat eGEdge v4272) (nidx v4288 3) 3 [(.lit (.int .i64 x4291.From)), (.lit (.int .i64 x4291.To)), (.lit (.int .i64 x4291.W))] :: .call 160 [.one (.lit (.int .i64 v4270)), .agg (eGEdge x4291)] (F160_res r4293) :: .test (leadsAny (Res.mk [(.one (.im (.lit (.int .i64 r4293.1)))), (.one (.im (.lit (.bool r4293.2))))] [])) false :: l) := fun z => ⟨h4289, h4290, ⟨rfl, sub_flat0 eGEdge_len h4292 3 (by decide)⟩, (F160_ok K v4270 x4291 _ h4294), (leads_ok (by simp [leadsAny, RV.leads, RC.leads, leadsT, hasSl_lit, flat_ns eGEdge_ns])), z⟩
   refine cond_some hF (fun h4295 hF => ?_) (fun h4295 hF => ?_)
   ·
    refine cond_some hF (fun h4296 hF => ?_) (fun _ hF => nomatch hF)
    have pz : HoldAll E H hn99 [.test (bnot r4293.2) false, .test (leqm [(.lit (.int .i64 x4291.To)), (.lit (.int .i64 r4293.1))] 1 2) true, .test (apok (len v4287) 1 16) true, .sl (nadd (len v4287) 1) (lapp (flat eGMsg v4287) [(.lit (.int .i64 x4291.To)), (.lit (.int .i64 r4293.1))]) (len (α := GMsg) (appL v4287 [(GMsg.mk x4291.To r4293.1)])) (flat eGMsg (appL v4287 [(GMsg.mk x4291.To r4293.1)])), .int (wadd .i64 v4288 1) (wadd .i64 v4288 1)] := ⟨(bnot_t h4295), rfl, h4296, (app_ok (enc := eGMsg) (v4287 : List GMsg) [(GMsg.mk x4291.To r4293.1)]), rfl, trivial⟩
    have h0 := ih _ _ _ hF
    have hn := fun ex ts' => loop_nextC (h := hn99) (l := 0) (c := c99_0) (ts := F99_l0_0_S v4270 v4271 v4272 v4287 v4288) (ts1 := (F99_l0_0_S v4270 v4271 v4272 (appL v4287 [(GMsg.mk x4291.To r4293.1)]) (wadd .i64 v4288 1))) (ex := ex) (ts' := ts') (pq4300 pz) (by kernel_rfl)
    cases r with
    | inl w => exact hn _ _ h0
    | inr w => exact hn _ _ h0
   obtain rfl := Option.some.inj hF
   have pz : HoldAll E H hn99 [.test (bnot r4293.2) true] := ⟨(bnot_f h4295), trivial⟩
   exact loop_endC (h := hn99) (l := 0) (c := c99_0) (ts := F99_l0_0_S v4270 v4271 v4272 v4287 v4288) (ts' := F99_l0_0_X0 v4270 v4271 v4272 ()) (ex := .ret) (pq4300 pz) (by kernel_rfl) trivial
  obtain rfl := Option.some.inj hF
  have pz : HoldAll E H hn99 [.test (ilt v4288 (nlen (len v4272))) false] := ⟨h4289, trivial⟩
  exact loop_endC (h := hn99) (l := 0) (c := c99_0) (ts := F99_l0_0_S v4270 v4271 v4272 v4287 v4288) (ts' := F99_l0_0_X1 v4270 v4271 v4272 v4287) (ex := (.exit 0)) pz (by kernel_rfl) trivial
def F99_l0_1 (K : Nat) (v4357 : Int) (v4358 : Bool) (v4359 : List GEdge) : Nat → List GMsg → Int → Option ((Unit) ⊕ (List GMsg))
 | 0, _, _ => none
 | k + 1, v4374, v4375 =>
  bif (ilt v4375 (nlen (len v4359))) then
   (bif (inr v4375 (len v4359)) then
   (elAt v4359 v4375).bind fun x4378 =>
   (F161 K v4357 x4378).bind fun r4380 =>
   bif r4380.2 then
    (bif (apok (len v4374) 1 16) then
    F99_l0_1 K v4357 v4358 v4359 k (appL v4374 [(GMsg.mk x4378.To r4380.1)]) (wadd .i64 v4375 1)
    else none)
   else
   some (.inl ())
   else none)
  else
  some (.inr v4374)
def F99_l0_1_S (v4357 : Int) (v4358 : Bool) (v4359 : List GEdge) (v4374 : List GMsg) (v4375 : Int) : TS := .on [256, 257, 1216, 1217, 1218, 1219, 1220, 1344, 1345, 1472, 1473, 6144, 6145, 6208, 6209, 6272, 6273] [(256, ⟨.one, 0, nob⟩), (257, ⟨.im, 0, (.lit (.int .i64 v4357))⟩), (1216, ⟨(.box 176 4), 0, nob⟩), (1217, ⟨.im, 0, (.lit (fnV 158))⟩), (1218, ⟨.im, 0, (.lit (fnV 159))⟩), (1219, ⟨.im, 0, (.lit (.bool v4358))⟩), (1220, ⟨.im, 0, (.lit (fnV 161))⟩), (1344, ⟨.one, 0, nob⟩), (1345, ⟨(.own 89), 0, (.sl (len v4359) (flat eGEdge v4359))⟩), (1472, ⟨.one, 0, nob⟩), (1473, ⟨(.own 130), 0, (.sl (len v4374) (flat eGMsg v4374))⟩), (6144, ⟨.one, 0, nob⟩), (6145, ⟨(.vw 1345 0), 0, nob⟩), (6208, ⟨.one, 0, nob⟩), (6209, ⟨.im, 0, (.lit (.int .i64 (nlen (len v4359))))⟩), (6272, ⟨.one, 0, nob⟩), (6273, ⟨.im, 0, (.lit (.int .i64 v4375))⟩)]
def F99_l0_1_X0 (v4357 : Int) (v4358 : Bool) (v4359 : List GEdge) (w4384 : Unit) : TS := .on [896, 897, 960, 961, 1024, 1025, 1088, 1089] [(896, ⟨.one, 0, nob⟩), (897, ⟨.im, 0, (.lit (.int .i64 0))⟩), (960, ⟨.one, 0, nob⟩), (961, ⟨(.own 130), 0, (.sl 0 [])⟩), (1024, ⟨.one, 0, nob⟩), (1025, ⟨.im, 0, (.lit (.bool false))⟩), (1088, ⟨.one, 0, nob⟩), (1089, ⟨.im, 0, (.lit (.int .i64 8))⟩)]
def F99_l0_1_X1 (v4357 : Int) (v4358 : Bool) (v4359 : List GEdge) (w4385 : List GMsg) : TS := .on [256, 257, 1472, 1473] [(256, ⟨.one, 0, nob⟩), (257, ⟨.im, 0, (.lit (.int .i64 v4357))⟩), (1472, ⟨.one, 0, nob⟩), (1473, ⟨(.own 130), 0, (.sl (len w4385) (flat eGMsg w4385))⟩)]
theorem F99_l0_1_ok (K : Nat) (v4357 : Int) (v4358 : Bool) (v4359 : List GEdge) : ∀ (k : Nat) (v4374 : List GMsg) (v4375 : Int) (r : (Unit) ⊕ (List GMsg)), F99_l0_1 K v4357 v4358 v4359 k v4374 v4375 = some r → (Sum.elim (fun w => LoopEv E H hn99 0 c99_0 (F99_l0_1_S v4357 v4358 v4359 v4374 v4375) .ret (F99_l0_1_X0 v4357 v4358 v4359 w)) (fun w => LoopEv E H hn99 0 c99_0 (F99_l0_1_S v4357 v4358 v4359 v4374 v4375) (.exit 0) (F99_l0_1_X1 v4357 v4358 v4359 w))) r := by
 intro k
 induction k with
 | zero => intro v4374 v4375 r hF; cases hF
 | succ k ih =>
  intro v4374 v4375 r hF
  rw [F99_l0_1] at hF
  refine cond_some hF (fun h4376 hF => ?_) (fun h4376 hF => ?_)
  ·
   refine cond_some hF (fun h4377 hF => ?_) (fun _ hF => nomatch hF)
   refine bind_some hF (fun x4378 h4379 hF => ?_)
   refine bind_some hF (fun r4380 h4381 hF => ?_)
   have pq4387 : ∀ {l : List Cond}, HoldAll E H hn99 l → HoldAll E H hn99 (.test (ilt v4375 (nlen (len v4359))) true :: .test (inr v4375 (len v4359)) true :: .sub (flat eGEdge v4359) (nidx v4375 3) 3 [(.lit (.int .i64 x4378.From)), (.lit (.int .i64 x4378.To)), (.lit (.int .i64 x4378.W))] :: .call 161 [.one (.lit (.int .i64 v4357)), .agg (eGEdge x4378)] (F161_res r4380) :: .test (leadsAny (Res.mk [(.one (.im (.lit (.int .i64 r4380.1)))), (.one (.im (.lit (.bool r4380.2))))] [])) false :: l) := fun z => ⟨h4376, h4377, ⟨rfl, sub_flat0 eGEdge_len h4379 3 (by decide)⟩, (F161_ok K v4357 x4378 _ h4381), (leads_ok (by simp [leadsAny, RV.leads, RC.leads, leadsT, hasSl_lit, flat_ns eGEdge_ns])), z⟩
   refine cond_some hF (fun h4382 hF => ?_) (fun h4382 hF => ?_)
   ·
    refine cond_some hF (fun h4383 hF => ?_) (fun _ hF => nomatch hF)
    have pz : HoldAll E H hn99 [.test (bnot r4380.2) false, .test (leqm [(.lit (.int .i64 x4378.To)), (.lit (.int .i64 r4380.1))] 1 2) true, .test (apok (len v4374) 1 16) true, .sl (nadd (len v4374) 1) (lapp (flat eGMsg v4374) [(.lit (.int .i64 x4378.To)), (.lit (.int .i64 r4380.1))]) (len (α := GMsg) (appL v4374 [(GMsg.mk x4378.To r4380.1)])) (flat eGMsg (appL v4374 [(GMsg.mk x4378.To r4380.1)])), .int (wadd .i64 v4375 1) (wadd .i64 v4375 1)] := ⟨(bnot_t h4382), rfl, h4383, (app_ok (enc := eGMsg) (v4374 : List GMsg) [(GMsg.mk x4378.To r4380.1)]), rfl, trivial⟩
    have h0 := ih _ _ _ hF
    have hn := fun ex ts' => loop_nextC (h := hn99) (l := 0) (c := c99_0) (ts := F99_l0_1_S v4357 v4358 v4359 v4374 v4375) (ts1 := (F99_l0_1_S v4357 v4358 v4359 (appL v4374 [(GMsg.mk x4378.To r4380.1)]) (wadd .i64 v4375 1))) (ex := ex) (ts' := ts') (pq4387 pz) (by kernel_rfl)
    cases r with
    | inl w => exact hn _ _ h0
    | inr w => exact hn _ _ h0
   obtain rfl := Option.some.inj hF
   have pz : HoldAll E H hn99 [.test (bnot r4380.2) true] := ⟨(bnot_f h4382), trivial⟩
   exact loop_endC (h := hn99) (l := 0) (c := c99_0) (ts := F99_l0_1_S v4357 v4358 v4359 v4374 v4375) (ts' := F99_l0_1_X0 v4357 v4358 v4359 ()) (ex := .ret) (pq4387 pz) (by kernel_rfl) trivial
  obtain rfl := Option.some.inj hF
  have pz : HoldAll E H hn99 [.test (ilt v4375 (nlen (len v4359))) false] := ⟨h4376, trivial⟩
  exact loop_endC (h := hn99) (l := 0) (c := c99_0) (ts := F99_l0_1_S v4357 v4358 v4359 v4374 v4375) (ts' := F99_l0_1_X1 v4357 v4358 v4359 v4374) (ex := (.exit 0)) pz (by kernel_rfl) trivial
def F99_l0_2 (K : Nat) (v4444 : Int) (v4445 : Bool) (v4446 : List GEdge) : Nat → List GMsg → Int → Option ((Unit) ⊕ (List GMsg))
 | 0, _, _ => none
 | k + 1, v4459, v4460 =>
  bif (ilt v4460 (nlen (len v4446))) then
   (bif (inr v4460 (len v4446)) then
   (elAt v4446 v4460).bind fun x4463 =>
   (F163 K v4444 x4463).bind fun r4465 =>
   bif r4465.2 then
    (bif (apok (len v4459) 1 16) then
    F99_l0_2 K v4444 v4445 v4446 k (appL v4459 [(GMsg.mk x4463.To r4465.1)]) (wadd .i64 v4460 1)
    else none)
   else
   some (.inl ())
   else none)
  else
  some (.inr v4459)
def F99_l0_2_S (v4444 : Int) (v4445 : Bool) (v4446 : List GEdge) (v4459 : List GMsg) (v4460 : Int) : TS := .on [256, 257, 1216, 1217, 1218, 1219, 1220, 1344, 1345, 1472, 1473, 6144, 6145, 6208, 6209, 6272, 6273] [(256, ⟨.one, 0, nob⟩), (257, ⟨.im, 0, (.lit (.int .i64 v4444))⟩), (1216, ⟨(.box 176 4), 0, nob⟩), (1217, ⟨.im, 0, (.lit (fnV 162))⟩), (1218, ⟨.im, 0, (.lit (fnV 159))⟩), (1219, ⟨.im, 0, (.lit (.bool v4445))⟩), (1220, ⟨.im, 0, (.lit (fnV 163))⟩), (1344, ⟨.one, 0, nob⟩), (1345, ⟨(.own 89), 0, (.sl (len v4446) (flat eGEdge v4446))⟩), (1472, ⟨.one, 0, nob⟩), (1473, ⟨(.own 130), 0, (.sl (len v4459) (flat eGMsg v4459))⟩), (6144, ⟨.one, 0, nob⟩), (6145, ⟨(.vw 1345 0), 0, nob⟩), (6208, ⟨.one, 0, nob⟩), (6209, ⟨.im, 0, (.lit (.int .i64 (nlen (len v4446))))⟩), (6272, ⟨.one, 0, nob⟩), (6273, ⟨.im, 0, (.lit (.int .i64 v4460))⟩)]
def F99_l0_2_X0 (v4444 : Int) (v4445 : Bool) (v4446 : List GEdge) (w4469 : Unit) : TS := .on [896, 897, 960, 961, 1024, 1025, 1088, 1089] [(896, ⟨.one, 0, nob⟩), (897, ⟨.im, 0, (.lit (.int .i64 0))⟩), (960, ⟨.one, 0, nob⟩), (961, ⟨(.own 130), 0, (.sl 0 [])⟩), (1024, ⟨.one, 0, nob⟩), (1025, ⟨.im, 0, (.lit (.bool false))⟩), (1088, ⟨.one, 0, nob⟩), (1089, ⟨.im, 0, (.lit (.int .i64 8))⟩)]
def F99_l0_2_X1 (v4444 : Int) (v4445 : Bool) (v4446 : List GEdge) (w4470 : List GMsg) : TS := .on [256, 257, 1472, 1473] [(256, ⟨.one, 0, nob⟩), (257, ⟨.im, 0, (.lit (.int .i64 v4444))⟩), (1472, ⟨.one, 0, nob⟩), (1473, ⟨(.own 130), 0, (.sl (len w4470) (flat eGMsg w4470))⟩)]
theorem F99_l0_2_ok (K : Nat) (v4444 : Int) (v4445 : Bool) (v4446 : List GEdge) : ∀ (k : Nat) (v4459 : List GMsg) (v4460 : Int) (r : (Unit) ⊕ (List GMsg)), F99_l0_2 K v4444 v4445 v4446 k v4459 v4460 = some r → (Sum.elim (fun w => LoopEv E H hn99 0 c99_0 (F99_l0_2_S v4444 v4445 v4446 v4459 v4460) .ret (F99_l0_2_X0 v4444 v4445 v4446 w)) (fun w => LoopEv E H hn99 0 c99_0 (F99_l0_2_S v4444 v4445 v4446 v4459 v4460) (.exit 0) (F99_l0_2_X1 v4444 v4445 v4446 w))) r := by
 intro k
 induction k with
 | zero => intro v4459 v4460 r hF; cases hF
 | succ k ih =>
  intro v4459 v4460 r hF
  rw [F99_l0_2] at hF
  refine cond_some hF (fun h4461 hF => ?_) (fun h4461 hF => ?_)
  ·
   refine cond_some hF (fun h4462 hF => ?_) (fun _ hF => nomatch hF)
   refine bind_some hF (fun x4463 h4464 hF => ?_)
   refine bind_some hF (fun r4465 h4466 hF => ?_)
   have pq4472 : ∀ {l : List Cond}, HoldAll E H hn99 l → HoldAll E H hn99 (.test (ilt v4460 (nlen (len v4446))) true :: .test (inr v4460 (len v4446)) true :: .sub (flat eGEdge v4446) (nidx v4460 3) 3 [(.lit (.int .i64 x4463.From)), (.lit (.int .i64 x4463.To)), (.lit (.int .i64 x4463.W))] :: .call 163 [.one (.lit (.int .i64 v4444)), .agg (eGEdge x4463)] (F163_res r4465) :: .test (leadsAny (Res.mk [(.one (.im (.lit (.int .i64 r4465.1)))), (.one (.im (.lit (.bool r4465.2))))] [])) false :: l) := fun z => ⟨h4461, h4462, ⟨rfl, sub_flat0 eGEdge_len h4464 3 (by decide)⟩, (F163_ok K v4444 x4463 _ h4466), (leads_ok (by simp [leadsAny, RV.leads, RC.leads, leadsT, hasSl_lit, flat_ns eGEdge_ns])), z⟩
   refine cond_some hF (fun h4467 hF => ?_) (fun h4467 hF => ?_)
   ·
    refine cond_some hF (fun h4468 hF => ?_) (fun _ hF => nomatch hF)
    have pz : HoldAll E H hn99 [.test (bnot r4465.2) false, .test (leqm [(.lit (.int .i64 x4463.To)), (.lit (.int .i64 r4465.1))] 1 2) true, .test (apok (len v4459) 1 16) true, .sl (nadd (len v4459) 1) (lapp (flat eGMsg v4459) [(.lit (.int .i64 x4463.To)), (.lit (.int .i64 r4465.1))]) (len (α := GMsg) (appL v4459 [(GMsg.mk x4463.To r4465.1)])) (flat eGMsg (appL v4459 [(GMsg.mk x4463.To r4465.1)])), .int (wadd .i64 v4460 1) (wadd .i64 v4460 1)] := ⟨(bnot_t h4467), rfl, h4468, (app_ok (enc := eGMsg) (v4459 : List GMsg) [(GMsg.mk x4463.To r4465.1)]), rfl, trivial⟩
    have h0 := ih _ _ _ hF
    have hn := fun ex ts' => loop_nextC (h := hn99) (l := 0) (c := c99_0) (ts := F99_l0_2_S v4444 v4445 v4446 v4459 v4460) (ts1 := (F99_l0_2_S v4444 v4445 v4446 (appL v4459 [(GMsg.mk x4463.To r4465.1)]) (wadd .i64 v4460 1))) (ex := ex) (ts' := ts') (pq4472 pz) (by kernel_rfl)
    cases r with
    | inl w => exact hn _ _ h0
    | inr w => exact hn _ _ h0
   obtain rfl := Option.some.inj hF
   have pz : HoldAll E H hn99 [.test (bnot r4465.2) true] := ⟨(bnot_f h4467), trivial⟩
   exact loop_endC (h := hn99) (l := 0) (c := c99_0) (ts := F99_l0_2_S v4444 v4445 v4446 v4459 v4460) (ts' := F99_l0_2_X0 v4444 v4445 v4446 ()) (ex := .ret) (pq4472 pz) (by kernel_rfl) trivial
  obtain rfl := Option.some.inj hF
  have pz : HoldAll E H hn99 [.test (ilt v4460 (nlen (len v4446))) false] := ⟨h4461, trivial⟩
  exact loop_endC (h := hn99) (l := 0) (c := c99_0) (ts := F99_l0_2_S v4444 v4445 v4446 v4459 v4460) (ts' := F99_l0_2_X1 v4444 v4445 v4446 v4459) (ex := (.exit 0)) pz (by kernel_rfl) trivial
def F99_l0_3 (K : Nat) (v4529 : Int) (v4530 : Bool) (v4531 : List GEdge) : Nat → List GMsg → Int → Option ((Unit) ⊕ (List GMsg))
 | 0, _, _ => none
 | k + 1, v4541, v4542 =>
  bif (ilt v4542 (nlen (len v4531))) then
   (bif (inr v4542 (len v4531)) then
   (elAt v4531 v4542).bind fun x4545 =>
   (F163 K v4529 x4545).bind fun r4547 =>
   bif r4547.2 then
    (bif (apok (len v4541) 1 16) then
    F99_l0_3 K v4529 v4530 v4531 k (appL v4541 [(GMsg.mk x4545.To r4547.1)]) (wadd .i64 v4542 1)
    else none)
   else
   some (.inl ())
   else none)
  else
  some (.inr v4541)
def F99_l0_3_S (v4529 : Int) (v4530 : Bool) (v4531 : List GEdge) (v4541 : List GMsg) (v4542 : Int) : TS := .on [256, 257, 1216, 1217, 1218, 1219, 1220, 1344, 1345, 1472, 1473, 6144, 6145, 6208, 6209, 6272, 6273] [(256, ⟨.one, 0, nob⟩), (257, ⟨.im, 0, (.lit (.int .i64 v4529))⟩), (1216, ⟨(.box 176 4), 0, nob⟩), (1217, ⟨.im, 0, (.lit (fnV 164))⟩), (1218, ⟨.im, 0, (.lit (fnV 165))⟩), (1219, ⟨.im, 0, (.lit (.bool v4530))⟩), (1220, ⟨.im, 0, (.lit (fnV 163))⟩), (1344, ⟨.one, 0, nob⟩), (1345, ⟨(.own 89), 0, (.sl (len v4531) (flat eGEdge v4531))⟩), (1472, ⟨.one, 0, nob⟩), (1473, ⟨(.own 130), 0, (.sl (len v4541) (flat eGMsg v4541))⟩), (6144, ⟨.one, 0, nob⟩), (6145, ⟨(.vw 1345 0), 0, nob⟩), (6208, ⟨.one, 0, nob⟩), (6209, ⟨.im, 0, (.lit (.int .i64 (nlen (len v4531))))⟩), (6272, ⟨.one, 0, nob⟩), (6273, ⟨.im, 0, (.lit (.int .i64 v4542))⟩)]
def F99_l0_3_X0 (v4529 : Int) (v4530 : Bool) (v4531 : List GEdge) (w4551 : Unit) : TS := .on [896, 897, 960, 961, 1024, 1025, 1088, 1089] [(896, ⟨.one, 0, nob⟩), (897, ⟨.im, 0, (.lit (.int .i64 0))⟩), (960, ⟨.one, 0, nob⟩), (961, ⟨(.own 130), 0, (.sl 0 [])⟩), (1024, ⟨.one, 0, nob⟩), (1025, ⟨.im, 0, (.lit (.bool false))⟩), (1088, ⟨.one, 0, nob⟩), (1089, ⟨.im, 0, (.lit (.int .i64 8))⟩)]
def F99_l0_3_X1 (v4529 : Int) (v4530 : Bool) (v4531 : List GEdge) (w4552 : List GMsg) : TS := .on [256, 257, 1472, 1473] [(256, ⟨.one, 0, nob⟩), (257, ⟨.im, 0, (.lit (.int .i64 v4529))⟩), (1472, ⟨.one, 0, nob⟩), (1473, ⟨(.own 130), 0, (.sl (len w4552) (flat eGMsg w4552))⟩)]
theorem F99_l0_3_ok (K : Nat) (v4529 : Int) (v4530 : Bool) (v4531 : List GEdge) : ∀ (k : Nat) (v4541 : List GMsg) (v4542 : Int) (r : (Unit) ⊕ (List GMsg)), F99_l0_3 K v4529 v4530 v4531 k v4541 v4542 = some r → (Sum.elim (fun w => LoopEv E H hn99 0 c99_0 (F99_l0_3_S v4529 v4530 v4531 v4541 v4542) .ret (F99_l0_3_X0 v4529 v4530 v4531 w)) (fun w => LoopEv E H hn99 0 c99_0 (F99_l0_3_S v4529 v4530 v4531 v4541 v4542) (.exit 0) (F99_l0_3_X1 v4529 v4530 v4531 w))) r := by
 intro k
 induction k with
 | zero => intro v4541 v4542 r hF; cases hF
 | succ k ih =>
  intro v4541 v4542 r hF
  rw [F99_l0_3] at hF
  refine cond_some hF (fun h4543 hF => ?_) (fun h4543 hF => ?_)
  ·
   refine cond_some hF (fun h4544 hF => ?_) (fun _ hF => nomatch hF)
   refine bind_some hF (fun x4545 h4546 hF => ?_)
   refine bind_some hF (fun r4547 h4548 hF => ?_)
   have pq4554 : ∀ {l : List Cond}, HoldAll E H hn99 l → HoldAll E H hn99 (.test (ilt v4542 (nlen (len v4531))) true :: .test (inr v4542 (len v4531)) true :: .sub (flat eGEdge v4531) (nidx v4542 3) 3 [(.lit (.int .i64 x4545.From)), (.lit (.int .i64 x4545.To)), (.lit (.int .i64 x4545.W))] :: .call 163 [.one (.lit (.int .i64 v4529)), .agg (eGEdge x4545)] (F163_res r4547) :: .test (leadsAny (Res.mk [(.one (.im (.lit (.int .i64 r4547.1)))), (.one (.im (.lit (.bool r4547.2))))] [])) false :: l) := fun z => ⟨h4543, h4544, ⟨rfl, sub_flat0 eGEdge_len h4546 3 (by decide)⟩, (F163_ok K v4529 x4545 _ h4548), (leads_ok (by simp [leadsAny, RV.leads, RC.leads, leadsT, hasSl_lit, flat_ns eGEdge_ns])), z⟩
   refine cond_some hF (fun h4549 hF => ?_) (fun h4549 hF => ?_)
   ·
    refine cond_some hF (fun h4550 hF => ?_) (fun _ hF => nomatch hF)
    have pz : HoldAll E H hn99 [.test (bnot r4547.2) false, .test (leqm [(.lit (.int .i64 x4545.To)), (.lit (.int .i64 r4547.1))] 1 2) true, .test (apok (len v4541) 1 16) true, .sl (nadd (len v4541) 1) (lapp (flat eGMsg v4541) [(.lit (.int .i64 x4545.To)), (.lit (.int .i64 r4547.1))]) (len (α := GMsg) (appL v4541 [(GMsg.mk x4545.To r4547.1)])) (flat eGMsg (appL v4541 [(GMsg.mk x4545.To r4547.1)])), .int (wadd .i64 v4542 1) (wadd .i64 v4542 1)] := ⟨(bnot_t h4549), rfl, h4550, (app_ok (enc := eGMsg) (v4541 : List GMsg) [(GMsg.mk x4545.To r4547.1)]), rfl, trivial⟩
    have h0 := ih _ _ _ hF
    have hn := fun ex ts' => loop_nextC (h := hn99) (l := 0) (c := c99_0) (ts := F99_l0_3_S v4529 v4530 v4531 v4541 v4542) (ts1 := (F99_l0_3_S v4529 v4530 v4531 (appL v4541 [(GMsg.mk x4545.To r4547.1)]) (wadd .i64 v4542 1))) (ex := ex) (ts' := ts') (pq4554 pz) (by kernel_rfl)
    cases r with
    | inl w => exact hn _ _ h0
    | inr w => exact hn _ _ h0
   obtain rfl := Option.some.inj hF
   have pz : HoldAll E H hn99 [.test (bnot r4547.2) true] := ⟨(bnot_f h4549), trivial⟩
   exact loop_endC (h := hn99) (l := 0) (c := c99_0) (ts := F99_l0_3_S v4529 v4530 v4531 v4541 v4542) (ts' := F99_l0_3_X0 v4529 v4530 v4531 ()) (ex := .ret) (pq4554 pz) (by kernel_rfl) trivial
  obtain rfl := Option.some.inj hF
  have pz : HoldAll E H hn99 [.test (ilt v4542 (nlen (len v4531))) false] := ⟨h4543, trivial⟩
  exact loop_endC (h := hn99) (l := 0) (c := c99_0) (ts := F99_l0_3_S v4529 v4530 v4531 v4541 v4542) (ts' := F99_l0_3_X1 v4529 v4530 v4531 v4541) (ex := (.exit 0)) pz (by kernel_rfl) trivial
end Go.Proofs.Ytnjanliihnadjaa.Tm

/- What the row of WorkDoes leans on: printed functions and plain laws. Conditions: none. -/
import Derived.Test.YtnjanliihnadjaaTy
import Derived.Test.YtnjanliihnadjaaTab
import Derived.Test.YtnjanliihnadjaaKn
import Derived.Test.YtnjanliihnadjaaWf
import Derived.IntWalk
import Derived.KernelRfl
import Derived.OpenShut
import Derived.Test.YtnjanliihnadjaaBWorkDoes1
set_option linter.unusedVariables false
set_option linter.unusedSimpArgs false
namespace Go.Proofs.Ytnjanliihnadjaa.Tm
open Go
def foldC (p : Int) : List GMsg → GMsg → List GMsg → Int ⊕ List GMsg
 | [], cur, done => .inr (done ++ [cur])
 | x :: r, cur, done => bif ieq cur.To x.To then (bif ieq (foldS p cur.V x.V).2 0 then foldC p r (GMsg.mk cur.To (foldS p cur.V x.V).1) done else .inl (foldS p cur.V x.V).2) else foldC p r x (done ++ [cur])
def foldO (p : Int) : List GMsg → List GMsg → Int ⊕ List GMsg
 | [], done => .inr done
 | x :: r, done => foldC p r x done
def boxO : Int ⊕ List GMsg → List GMsg × Int
 | .inl e => ([], e)
 | .inr s => (s, 0)
def boxS (p : Int) (l : List GMsg) : List GMsg × Int := bif pbad p then ([], 1) else boxO (foldO p (sortM l) [])
theorem put_last {α : Type} (d : List α) (c x : α) : inr (wsub .i64 (nlen (len (d ++ [c]))) 1) (len (d ++ [c])) = true ∧ (d.length < 1000000 → elAt (d ++ [c]) (wsub .i64 (nlen (len (d ++ [c]))) 1) = some c ∧ putAt (d ++ [c]) (wsub .i64 (nlen (len (d ++ [c]))) 1) x = d ++ [x]) ∨ ¬ d.length < 1000000 := by
 by_cases h : d.length < 1000000
 · left
   have w : wsub .i64 (nlen (len (d ++ [c]))) 1 = ((d.length : Nat) : Int) := by
     show IntKind.i64.wrap (((d ++ [c]).length : Int) - 1) = _
     rw [List.length_append, IntKind.wrap_i64]; simp; omega
   rw [w]
   refine ⟨decide_eq_true ⟨by omega, by show (d.length : Int) < ((d ++ [c]).length : Int); simp; omega⟩, fun _ => ⟨by rw [elAt_nat]; simp, ?_⟩⟩
   unfold putAt
   rw [Int.toNat_natCast, List.set_append_right (h := by omega)]; simp
 · right; exact h
theorem F150_spec {K : Nat} (p : Int) (l : List GMsg) (hv : ∀ x ∈ l, i64 x.V) (hK : l.length < K) (hl : l.length < 10000) : F150 K p l = some (boxS p l) := by
 have i0 : i64 0 := by unfold i64; omega
 have hz : (foldS p 0 0).2 = bif pbad p then 1 else 0 := by
   rw [foldS]
   cases pbad p
   · have : addS 0 0 = (0, true) := rfl
     have e : ilt 0 0 = false := rfl
     rw [this, e]
     cases ieq p 5 <;> cases ieq p 4 <;> rfl
   · rfl
 rw [F150, F97_spec K p i0 i0, Option.bind_some, hz, boxS, F169_spec l hK hl]
 cases hb : pbad p
 · let step : GMsg → List GMsg → (List GMsg → Option (Int ⊕ List GMsg)) → Option (Int ⊕ List GMsg) := fun x s c =>
     bif (ilt 0 (nlen (len s))) then
       (bif (inr (wsub .i64 (nlen (len s)) 1) (len s)) then
       (elAt s (wsub .i64 (nlen (len s)) 1)).bind fun y =>
       bif (ieq y.To x.To) then
         ((F97 K p y.V x.V).bind fun r =>
         bif (ieq r.2 0) then
           (c (putAt s (wsub .i64 (nlen (len s)) 1) (GMsg.mk y.To r.1)))
         else
         some (.inl r.2))
       else
       bif (apok (len s) 1 16) then
       c (appL s [x])
       else none
       else none)
     else
     bif (apok (len s) 1 16) then
     c (appL s [x])
     else none
   have hsl : (sortM l).length = l.length := sortM_len l
   have h := scanL (l := sortM l) (L := fun k s i => F150_l0_0 K p (sortM l) k s i) step (fun s => some (.inr s)) (fun k s i _ => rfl) (by omega) (K := K) (by omega) []
   have hw : ∀ (r : List GMsg) (d : List GMsg) (c : GMsg), d.length + r.length < 100000 → i64 c.V → (∀ x ∈ r, i64 x.V) → goL step (fun s => some (.inr s)) r (d ++ [c]) = some (foldC p r c d) := by
     intro r
     induction r with
     | nil => intro d c _ _ _; rfl
     | cons x r ih =>
       intro d c hd hc hr
       simp only [List.length_cons] at hd
       have hx := hr x List.mem_cons_self
       have hr' := fun y hy => hr y (List.mem_cons_of_mem _ hy)
       rw [goL]
       show (bif (ilt 0 (nlen (len (d ++ [c])))) then
         (bif (inr (wsub .i64 (nlen (len (d ++ [c]))) 1) (len (d ++ [c]))) then
         (elAt (d ++ [c]) (wsub .i64 (nlen (len (d ++ [c]))) 1)).bind fun y =>
         bif (ieq y.To x.To) then
           ((F97 K p y.V x.V).bind fun q =>
           bif (ieq q.2 0) then
             (goL step (fun s => some (.inr s)) r (putAt (d ++ [c]) (wsub .i64 (nlen (len (d ++ [c]))) 1) (GMsg.mk y.To q.1)))
           else
           some (.inl q.2))
         else
         bif (apok (len (d ++ [c])) 1 16) then
         goL step (fun s => some (.inr s)) r (appL (d ++ [c]) [x])
         else none
         else none)
       else
       bif (apok (len (d ++ [c])) 1 16) then
       goL step (fun s => some (.inr s)) r (appL (d ++ [c]) [x])
       else none) = _
       have i1 : ilt 0 (nlen (len (d ++ [c]))) = true := ilt_iff.2 (by show (0 : Int) < ((d ++ [c]).length : Int); rw [List.length_append]; simp only [List.length_singleton]; omega)
       have ap : apok (len (d ++ [c])) 1 16 = true := decide_eq_true ⟨by show (d ++ [c]).length + 1 ≤ _; rw [List.length_append]; simp only [List.length_singleton]; omega, by show ((d ++ [c]).length + 1) * 16 ≤ _; rw [List.length_append]; simp only [List.length_singleton]; omega⟩
       rcases put_last d c (GMsg.mk c.To (foldS p c.V x.V).1) with ⟨q1, q2⟩ | q
       · obtain ⟨q2, q3⟩ := q2 (by omega)
         rw [i1, q1, q2, ap]
         simp only [cond_true, Option.bind_some, F97_spec K p hc hx, q3]
         rw [foldC]
         cases ieq c.To x.To
         · rw [cond_false, cond_false]
           exact ih (d ++ [c]) x (by rw [List.length_append]; simp only [List.length_singleton]; omega) hx hr'
         · rw [cond_true, cond_true]
           cases ieq (foldS p c.V x.V).2 0
           · rfl
           · rw [cond_true, cond_true]
             exact ih d _ (by omega) (foldS_i64 hc hx) hr'
       · omega
   have h' : F150_l0_0 K p (sortM l) K [] 0 = some (foldO p (sortM l) []) := by
     rw [show F150_l0_0 K p (sortM l) K [] 0 = _ from h]
     have hs : ∀ x ∈ sortM l, i64 x.V := fun x hx => hv x ((sortM_perm l).mem_iff.1 hx)
     generalize sortM l = m at *
     cases m with
     | nil => rfl
     | cons x r =>
       rw [goL]
       show goL step (fun s => some (.inr s)) r (appL [] [x]) = _
       simp only [List.length_cons] at hsl
       exact hw r [] x (by simp only [List.length_nil]; omega) (hs x List.mem_cons_self) (fun y hy => hs y (List.mem_cons_of_mem _ hy))
   have z0 : ieq (bif false then 1 else 0) 0 = true := rfl
   rw [z0, cond_true, Option.bind_some, h', Option.bind_some]
   cases foldO p (sortM l) [] <;> rfl
 · rfl
def foldI (p t : Int) : List GMsg → Int → Int ⊕ (List GMsg × Int)
 | [], v => .inr ([], v)
 | x :: r, v => bif ieq x.To t then (bif ieq (foldS p v x.V).2 0 then foldI p t r (foldS p v x.V).1 else .inl (foldS p v x.V).2) else .inr (x :: r, v)
theorem ieq_comm (a b : Int) : ieq a b = ieq b a := by
 cases h : ieq b a
 · exact ieq_f.2 fun q => ieq_f.1 h q.symm
 · exact ieq_iff.2 (ieq_iff.1 h).symm
theorem foldC_I (p t : Int) : ∀ (r : List GMsg) (v : Int) (d : List GMsg), foldC p r (GMsg.mk t v) d = match foldI p t r v with | .inl e => .inl e | .inr w => foldO p w.1 (d ++ [GMsg.mk t w.2])
 | [], v, d => rfl
 | x :: r, v, d => by
   rw [foldC, foldI, ieq_comm x.To t]
   cases ieq t x.To
   · rfl
   · rw [cond_true, cond_true]
     cases ieq (foldS p v x.V).2 0
     · rfl
     · rw [cond_true, cond_true]; exact foldC_I p t r _ d
theorem F152_in {K : Nat} (p : Int) (l : List GMsg) (o : List GMsg) (x : GMsg) (hl : l.length < 100000) (hs : ∀ y ∈ l, i64 y.V) : ∀ (r : List GMsg) (k i : Nat) (v : Int), l.drop i = r → r.length < k → i64 v → i ≤ l.length →
   (∃ e, foldI p x.To r v = .inl e ∧ F152_l1_1 K p l o x k (i : Int) v = some (.inl e)) ∨
   (∃ (n : Nat) (v' : Int), foldI p x.To r v = .inr (l.drop n, v') ∧ F152_l1_1 K p l o x k (i : Int) v = some (.inr ((n : Int), v')) ∧ i ≤ n ∧ n ≤ l.length ∧ i64 v') := by
 intro r
 induction r with
 | nil =>
   intro k i v hr hk hv hi
   obtain ⟨k, rfl⟩ : ∃ q, k = q + 1 := ⟨k - 1, by omega⟩
   right
   refine ⟨i, v, by rw [hr]; rfl, ?_, Nat.le_refl _, hi, hv⟩
   rcases at_idx l i with ⟨y, e1, _⟩ | ⟨e1, e2⟩
   · rw [hr] at e1; cases e1
   · rw [F152_l1_1, e2]; rfl
 | cons y r ih =>
   intro k i v hr hk hv hi
   obtain ⟨k, rfl⟩ : ∃ q, k = q + 1 := ⟨k - 1, by omega⟩
   simp only [List.length_cons] at hk
   rcases at_idx l i with ⟨y', e1, e2, e3, e4⟩ | ⟨e1, _⟩
   · rw [hr] at e1
     injection e1 with e1 e5
     subst e1
     have hlt := lt_of_drop' hr
     have hy : i64 y.V := hs y (List.mem_of_mem_drop (by rw [hr]; exact List.mem_cons_self))
     rw [F152_l1_1, e2, e3, e4, foldI]
     simp only [cond_true, Option.bind_some, F98_spec K p hv hy]
     cases ieq y.To x.To
     · right
       exact ⟨i, v, by rw [hr]; rfl, rfl, Nat.le_refl _, hi, hv⟩
     · rw [cond_true, cond_true]
       cases ieq (foldS p v y.V).2 0
       · left; exact ⟨_, rfl, rfl⟩
       · rw [cond_true, cond_true, wadd_nat (by omega)]
         rcases ih k (i + 1) _ e5.symm (by omega) (foldS_i64 hv hy) (by omega) with h | ⟨n, v', h1, h2, h3, h4, h5⟩
         · left; exact h
         · right; exact ⟨n, v', h1, h2, by omega, h4, h5⟩
   · rw [hr] at e1; cases e1
theorem F152_out {K : Nat} (p : Int) (l : List GMsg) (hl : l.length < 100000) (hK : l.length < K) (hs : ∀ y ∈ l, i64 y.V) : ∀ (k i : Nat) (d : List GMsg), l.length - i < k → i ≤ l.length → d.length ≤ i →
   F152_l0_0 K p l k d (i : Int) = some (foldO p (l.drop i) d) := by
 intro k
 induction k with
 | zero => intro i d h; omega
 | succ k ih =>
   intro i d hk hi hd
   rw [F152_l0_0]
   rcases at_idx l i with ⟨x, e1, e2, e3, e4⟩ | ⟨e1, e2⟩
   · have hlt := lt_of_drop' e1
     have hx : i64 x.V := hs x (List.mem_of_mem_drop (by rw [e1]; exact List.mem_cons_self))
     have ap : apok (len d) 1 16 = true := decide_eq_true ⟨by show d.length + 1 ≤ _; omega, by show (d.length + 1) * 16 ≤ _; omega⟩
     rw [e2, e3, e4, e1, foldO, show foldC p (l.drop (i + 1)) x d = foldC p (l.drop (i + 1)) (GMsg.mk x.To x.V) d from rfl, foldC_I, wadd_nat (by omega)]
     simp only [cond_true, Option.bind_some, ap]
     rcases F152_in (K := K) p l d x hl hs _ K (i + 1) x.V rfl (by rw [List.length_drop]; omega) hx (by omega) with ⟨e, h1, h2⟩ | ⟨n, v', h1, h2, h3, h4, h5⟩
     · rw [h1, h2]; rfl
     · rw [h1, h2]
       simp only [Option.bind_some, Sum.elim_inr]
       exact ih n (d ++ [GMsg.mk x.To v']) (by omega) h4 (by rw [List.length_append]; simp only [List.length_singleton]; omega)
   · rw [e2, e1]; rfl
theorem F152_spec {K : Nat} (p : Int) (l : List GMsg) (hv : ∀ x ∈ l, i64 x.V) (hK : l.length < K) (hl : l.length < 10000) : F152 K p l = some (boxS p l) := by
 have hsl := sortM_len l
 have hs : ∀ x ∈ sortM l, i64 x.V := fun x hx => hv x ((sortM_perm l).mem_iff.1 hx)
 have h := F152_out (K := K) p (sortM l) (by omega) (by omega) hs K 0 [] (by omega) (by omega) (by simp)
 have h' : F152_l0_0 K p (sortM l) K [] 0 = some (foldO p (sortM l) []) := h
 rw [F152, boxS, pbad, F91_spec l (by omega) hK, Option.bind_some, h', Option.bind_some]
 cases ilt p 1
 · cases ilt 5 p
   · cases foldO p (sortM l) [] <;> rfl
   · rfl
 · rfl
def atS (l : List GMsg) (v : Int) : Int × Bool := match l.find? (fun m => ieq m.To v) with
 | some m => (m.V, true)
 | none => (0, false)
def sumF : Option GMsg → Int ⊕ Unit
 | some m => .inl m.V
 | none => .inr ()
theorem at_go (l : List GMsg) (v : Int) : goL (fun (x : GMsg) (_ : Unit) c => bif ieq x.To v then some (.inl x.V) else c ()) (fun _ => some (.inr ())) l () = (some (sumF (l.find? fun m => ieq m.To v)) : Option (Int ⊕ Unit)) := by
 induction l with
 | nil => rfl
 | cons x l ih =>
   rw [goL, List.find?_cons]
   cases h : ieq x.To v
   · exact ih
   · rfl
theorem F149_spec {K : Nat} (l : List GMsg) (v : Int) (hl : l.length < 100000) (hK : l.length < K) : F149 K l v = some (atS l v) := by
 have e : F149_l0_0 K l v K 0 = _ := scanL (l := l) (L := fun k (_ : Unit) i => F149_l0_0 K l v k i) (fun x _ c => bif ieq x.To v then some (.inl x.V) else c ()) (fun _ => some (.inr ())) (fun k s i _ => rfl) (by omega) hK ()
 rw [F149, e, at_go, atS]
 cases l.find? fun m => ieq m.To v <;> rfl
theorem F151_spec {K : Nat} (l : List GMsg) (v : Int) (hl : l.length < 100000) (hK : l.length < K) : F151 K l v = some (atS l v) := by
 have e : F151_l0_0 K l v K 0 = _ := scanL (l := l) (L := fun k (_ : Unit) i => F151_l0_0 K l v k i) (fun x _ c => bif ieq x.To v then some (.inl x.V) else c ()) (fun _ => some (.inr ())) (fun k s i _ => rfl) (by omega) hK ()
 rw [F151, e, at_go, atS]
 cases l.find? fun m => ieq m.To v <;> rfl
theorem atS_i64 {l : List GMsg} {v : Int} (h : ∀ x ∈ l, i64 x.V) : i64 (atS l v).1 := by
 rw [atS]
 cases hq : l.find? fun m => ieq m.To v with
 | none => show i64 0; unfold i64; omega
 | some m => exact h m (List.mem_of_find?_eq_some hq)
noncomputable def hn139 : Hint := { H 139 with nt := 26, prot := 0 }
noncomputable def c139_0 : Code := loopOf E 139 0
def F139_res (r1 : List Int) : Res := ⟨[(.one (.own 3 (.sl (len r1) (flat (eInt .i64) r1))))], []⟩
def F139_l0_0 (K : Nat) (a1 : GGraph) (a2 : GJob) (a3 : Int) : Nat → List Int → Int → Option (List Int)
 | 0, _, _ => none
 | k + 1, v4, v5 =>
  bif (ilt v5 a1.N) then
   (bif (izero a2.Parts) then none else
   bif (ieq (wrem v5 a2.Parts) a3) then
    (bif (apok (len v4) 1 8) then
    F139_l0_0 K a1 a2 a3 k (appL v4 [v5]) (wadd .i64 v5 1)
    else none)
   else
   F139_l0_0 K a1 a2 a3 k v4 (wadd .i64 v5 1))
  else
  some v4
def F139_l0_0_S (a1 : GGraph) (a2 : GJob) (a3 : Int) (v4 : List Int) (v5 : Int) : TS := .on [128, 129, 192, 193, 194, 256, 257, 258, 259, 260, 448, 449, 512, 513] [(128, ⟨.one, 0, nob⟩), (129, ⟨.im, 0, (.lit (.int .i64 a3))⟩), (192, ⟨(.box 62 2), 0, nob⟩), (193, ⟨.im, 0, (.lit (.int .i64 a1.N))⟩), (194, ⟨.im, 0, (.sl (len a1.Edges) (flat eGEdge a1.Edges))⟩), (256, ⟨(.box 64 4), 0, nob⟩), (257, ⟨.im, 0, (.lit (.int .i64 a2.Prog))⟩), (258, ⟨.im, 0, (.lit (.int .i64 a2.Source))⟩), (259, ⟨.im, 0, (.lit (.int .i64 a2.Limit))⟩), (260, ⟨.im, 0, (.lit (.int .i64 a2.Parts))⟩), (448, ⟨.one, 0, nob⟩), (449, ⟨(.own 3), 0, (.sl (len v4) (flat (eInt .i64) v4))⟩), (512, ⟨.one, 0, nob⟩), (513, ⟨.im, 0, (.lit (.int .i64 v5))⟩)]
def F139_l0_0_X0 (a1 : GGraph) (a2 : GJob) (a3 : Int) (w4 : List Int) : TS := .on [448, 449] [(448, ⟨.one, 0, nob⟩), (449, ⟨(.own 3), 0, (.sl (len w4) (flat (eInt .i64) w4))⟩)]
theorem F139_l0_0_ok (K : Nat) (a1 : GGraph) (a2 : GJob) (a3 : Int) : ∀ (k : Nat) (v4 : List Int) (v5 : Int) (r : List Int), F139_l0_0 K a1 a2 a3 k v4 v5 = some r → LoopEv E H hn139 0 c139_0 (F139_l0_0_S a1 a2 a3 v4 v5) (.exit 0) (F139_l0_0_X0 a1 a2 a3 r) := by
 intro k
 induction k with
 | zero => intro v4 v5 r hF; cases hF
 | succ k ih =>
  intro v4 v5 r hF
  rw [F139_l0_0] at hF
  refine cond_some hF (fun h6 hF => ?_) (fun h6 hF => ?_)
  ·
   refine cond_some hF (fun _ hF => nomatch hF) (fun h7 hF => ?_)
   have q10 : PQ hn139 fun l => (.test (ilt v5 a1.N) true :: .test (izero a2.Parts) false :: .int (wrem v5 a2.Parts) (wrem v5 a2.Parts) :: l) := fun z => ⟨h6, h7, rfl, z⟩
   refine cond_some hF (fun h8 hF => ?_) (fun h8 hF => ?_)
   ·
    refine cond_some hF (fun h9 hF => ?_) (fun _ hF => nomatch hF)
    have pz : HoldAll E H hn139 [.test (ieq (wrem v5 a2.Parts) a3) true, .test (leqm [(.lit (.int .i64 v5))] 1 1) true, .test (apok (len v4) 1 8) true, .sl (nadd (len v4) 1) (lapp (flat (eInt .i64) v4) [(.lit (.int .i64 v5))]) (len (α := Int) (appL v4 [v5])) (flat (eInt .i64) (appL v4 [v5])), .int (wadd .i64 v5 1) (wadd .i64 v5 1)] := ⟨h8, rfl, h9, (app_ok (enc := (eInt .i64)) (v4 : List Int) [v5]), rfl, trivial⟩
    have h0 := ih _ _ _ hF
    have hn := fun ex ts' => loop_nextC (h := hn139) (l := 0) (c := c139_0) (ts := F139_l0_0_S a1 a2 a3 v4 v5) (ts1 := (F139_l0_0_S a1 a2 a3 (appL v4 [v5]) (wadd .i64 v5 1))) (ex := ex) (ts' := ts') (q10 pz) (by kernel_rfl)
    exact hn _ _ h0
   have pz : HoldAll E H hn139 [.test (ieq (wrem v5 a2.Parts) a3) false, .int (wadd .i64 v5 1) (wadd .i64 v5 1)] := ⟨h8, rfl, trivial⟩
   have h0 := ih _ _ _ hF
   have hn := fun ex ts' => loop_nextC (h := hn139) (l := 0) (c := c139_0) (ts := F139_l0_0_S a1 a2 a3 v4 v5) (ts1 := (F139_l0_0_S a1 a2 a3 v4 (wadd .i64 v5 1))) (ex := ex) (ts' := ts') (q10 pz) (by kernel_rfl)
   exact hn _ _ h0
  obtain rfl := Option.some.inj hF
  have pz : HoldAll E H hn139 [.test (ilt v5 a1.N) false] := ⟨h6, trivial⟩
  exact loop_endC (h := hn139) (l := 0) (c := c139_0) (ts := F139_l0_0_S a1 a2 a3 v4 v5) (ts' := F139_l0_0_X0 a1 a2 a3 v4) (ex := (.exit 0)) pz (by kernel_rfl) trivial
def F139 (K : Nat) (a1 : GGraph) (a2 : GJob) (a3 : Int) : Option (List Int) :=
 (F139_l0_0 K a1 a2 a3 K [] 0).bind fun w4 =>
 some w4
theorem F139_ok (K : Nat) (a1 : GGraph) (a2 : GJob) (a3 : Int) (r : List Int) (hF : F139 K a1 a2 a3 = some r) : Evt E H 139 [.agg (eGGraph a1), .agg (eGJob a2), .one (.lit (.int .i64 a3))] (F139_res r) := by
 rw [F139] at hF
 refine bind_some hF (fun w5 h4 hF => ?_)
 obtain rfl := Option.some.inj hF
 have pz : HoldAll E H hn139 [.loop 0 c139_0 (F139_l0_0_S a1 a2 a3 [] 0) (.exit 0) (F139_l0_0_X0 a1 a2 a3 w5)] := ⟨(F139_l0_0_ok K a1 a2 a3 K [] 0 _ h4), trivial⟩
 exact fn_playC hn139 (r := F139_res w5) pz (by kernel_rfl) (by kernel_rfl)
noncomputable def hn75 : Hint := { H 75 with nt := 21, prot := 0 }
def F75_res (r1 : Int) : Res := ⟨[(.one (.im (.lit (.int .i64 r1))))], []⟩
def F75 (K : Nat) (a1 : GJob) (a2 : Int) : Option (Int) :=
 bif (ilt a2 0) then
  (some (-1))
 else
 bif (ilt a1.Parts 1) then
  (some (-1))
 else
 bif (ilt 6 a1.Parts) then
  (some (-1))
 else
 bif (izero a1.Parts) then none else
 some (wrem a2 a1.Parts)
theorem F75_ok (K : Nat) (a1 : GJob) (a2 : Int) (r : Int) (hF : F75 K a1 a2 = some r) : Evt E H 75 [.agg (eGJob a1), .one (.lit (.int .i64 a2))] (F75_res r) := by
 rw [F75] at hF
 refine cond_some hF (fun h3 hF => ?_) (fun h3 hF => ?_)
 ·
  obtain rfl := Option.some.inj hF
  have pz : HoldAll E H hn75 [.test (beqb (ilt a2 0) false) false, .test (beqb (ilt a2 0) false) false, .test (beqb (ilt a2 0) false) false, .test (ilt a2 0) true, .test (beqb true false) false, .test (beqb true false) false, .test (beqb true false) false, .test true true, .test true true] := ⟨(beqb_ft h3), (beqb_ft h3), (beqb_ft h3), h3, (beqb_ft rfl), (beqb_ft rfl), (beqb_ft rfl), rfl, rfl, trivial⟩
  exact fn_playC hn75 (r := F75_res (-1)) pz (by kernel_rfl) (by kernel_rfl)
 have q7 : PQ hn75 fun l => (.test (beqb (ilt a2 0) false) true :: .test (beqb (ilt a2 0) false) true :: .test (beqb (ilt a2 0) false) true :: .test (ilt a2 0) false :: l) := fun z => ⟨(beqb_ff h3), (beqb_ff h3), (beqb_ff h3), h3, z⟩
 refine cond_some hF (fun h4 hF => ?_) (fun h4 hF => ?_)
 ·
  obtain rfl := Option.some.inj hF
  have pz : HoldAll E H hn75 [.test (beqb (ilt a1.Parts 1) false) false, .test (beqb (ilt a1.Parts 1) false) false, .test (beqb (ilt a1.Parts 1) false) false, .test (ilt a1.Parts 1) true, .test true true] := ⟨(beqb_ft h4), (beqb_ft h4), (beqb_ft h4), h4, rfl, trivial⟩
  exact fn_playC hn75 (r := F75_res (-1)) (q7 pz) (by kernel_rfl) (by kernel_rfl)
 have q8 : PQ hn75 fun l => (.test (beqb (ilt a1.Parts 1) false) true :: .test (beqb (ilt a1.Parts 1) false) true :: .test (beqb (ilt a1.Parts 1) false) true :: .test (ilt a1.Parts 1) false :: l) := fun z => ⟨(beqb_ff h4), (beqb_ff h4), (beqb_ff h4), h4, z⟩
 refine cond_some hF (fun h5 hF => ?_) (fun h5 hF => ?_)
 ·
  obtain rfl := Option.some.inj hF
  have pz : HoldAll E H hn75 [.test (igt a1.Parts 6) true] := ⟨(igt_eq h5), trivial⟩
  exact fn_playC hn75 (r := F75_res (-1)) (q7 (q8 pz)) (by kernel_rfl) (by kernel_rfl)
 refine cond_some hF (fun _ hF => nomatch hF) (fun h6 hF => ?_)
 obtain rfl := Option.some.inj hF
 have pz : HoldAll E H hn75 [.test (igt a1.Parts 6) false, .test (izero a1.Parts) false, .int (wrem a2 a1.Parts) (wrem a2 a1.Parts)] := ⟨(igt_eq h5), h6, rfl, trivial⟩
 exact fn_playC hn75 (r := F75_res (wrem a2 a1.Parts)) (q7 (q8 pz)) (by kernel_rfl) (by kernel_rfl)
noncomputable def hn76 : Hint := { H 76 with nt := 26, prot := 0 }
def F76_res (r1 : Int) : Res := ⟨[(.one (.im (.lit (.int .i64 r1))))], []⟩
def F76 (K : Nat) (a1 : GJob) (a2 : Int) : Option (Int) :=
 bif (ilt a2 0) then
  (some (-1))
 else
 bif (ilt a1.Parts 1) then
  (some (-1))
 else
 bif (ilt 6 a1.Parts) then
  (some (-1))
 else
 bif (izero a1.Parts) then none else
 some (wsub .i64 a2 (wmul .i64 (wquo .i64 a2 a1.Parts) a1.Parts))
theorem F76_ok (K : Nat) (a1 : GJob) (a2 : Int) (r : Int) (hF : F76 K a1 a2 = some r) : Evt E H 76 [.agg (eGJob a1), .one (.lit (.int .i64 a2))] (F76_res r) := by
 rw [F76] at hF
 refine cond_some hF (fun h3 hF => ?_) (fun h3 hF => ?_)
 ·
  obtain rfl := Option.some.inj hF
  have pz : HoldAll E H hn76 [.test (beqb (ilt a2 0) false) false, .test (beqb (ilt a2 0) false) false, .test (beqb (ilt a2 0) false) false, .test (ilt a2 0) true, .test (beqb true false) false, .test (beqb true false) false, .test (beqb true false) false, .test true true, .test true true] := ⟨(beqb_ft h3), (beqb_ft h3), (beqb_ft h3), h3, (beqb_ft rfl), (beqb_ft rfl), (beqb_ft rfl), rfl, rfl, trivial⟩
  exact fn_playC hn76 (r := F76_res (-1)) pz (by kernel_rfl) (by kernel_rfl)
 have q7 : PQ hn76 fun l => (.test (beqb (ilt a2 0) false) true :: .test (beqb (ilt a2 0) false) true :: .test (beqb (ilt a2 0) false) true :: .test (ilt a2 0) false :: l) := fun z => ⟨(beqb_ff h3), (beqb_ff h3), (beqb_ff h3), h3, z⟩
 refine cond_some hF (fun h4 hF => ?_) (fun h4 hF => ?_)
 ·
  obtain rfl := Option.some.inj hF
  have pz : HoldAll E H hn76 [.test (beqb (ilt a1.Parts 1) false) false, .test (beqb (ilt a1.Parts 1) false) false, .test (beqb (ilt a1.Parts 1) false) false, .test (ilt a1.Parts 1) true, .test true true] := ⟨(beqb_ft h4), (beqb_ft h4), (beqb_ft h4), h4, rfl, trivial⟩
  exact fn_playC hn76 (r := F76_res (-1)) (q7 pz) (by kernel_rfl) (by kernel_rfl)
 have q8 : PQ hn76 fun l => (.test (beqb (ilt a1.Parts 1) false) true :: .test (beqb (ilt a1.Parts 1) false) true :: .test (beqb (ilt a1.Parts 1) false) true :: .test (ilt a1.Parts 1) false :: l) := fun z => ⟨(beqb_ff h4), (beqb_ff h4), (beqb_ff h4), h4, z⟩
 refine cond_some hF (fun h5 hF => ?_) (fun h5 hF => ?_)
 ·
  obtain rfl := Option.some.inj hF
  have pz : HoldAll E H hn76 [.test (igt a1.Parts 6) true] := ⟨(igt_eq h5), trivial⟩
  exact fn_playC hn76 (r := F76_res (-1)) (q7 (q8 pz)) (by kernel_rfl) (by kernel_rfl)
 refine cond_some hF (fun _ hF => nomatch hF) (fun h6 hF => ?_)
 obtain rfl := Option.some.inj hF
 have pz : HoldAll E H hn76 [.test (igt a1.Parts 6) false, .test (izero a1.Parts) false, .int (wquo .i64 a2 a1.Parts) (wquo .i64 a2 a1.Parts), .int (wmul .i64 (wquo .i64 a2 a1.Parts) a1.Parts) (wmul .i64 (wquo .i64 a2 a1.Parts) a1.Parts), .int (wsub .i64 a2 (wmul .i64 (wquo .i64 a2 a1.Parts) a1.Parts)) (wsub .i64 a2 (wmul .i64 (wquo .i64 a2 a1.Parts) a1.Parts))] := ⟨(igt_eq h5), h6, rfl, rfl, rfl, trivial⟩
 exact fn_playC hn76 (r := F76_res (wsub .i64 a2 (wmul .i64 (wquo .i64 a2 a1.Parts) a1.Parts))) (q7 (q8 pz)) (by kernel_rfl) (by kernel_rfl)
noncomputable def hn138 : Hint := { H 138 with nt := 22, prot := 0 }
def F138_res (r1 : Int) : Res := ⟨[(.one (.im (.lit (.int .i64 r1))))], []⟩
def F138 (K : Nat) (a1 : Int) (a2 : Int) (a3 : Int) : Option (Int) :=
 bif (ilt a3 0) then
  (some 0)
 else
 bif (ile a2 a3) then
  (some 0)
 else
 bif (izero a2) then none else
 some (wquo .i64 (wsub .i64 (wadd .i64 (wsub .i64 a1 a3) a2) 1) a2)
theorem F138_ok (K : Nat) (a1 : Int) (a2 : Int) (a3 : Int) (r : Int) (hF : F138 K a1 a2 a3 = some r) : Evt E H 138 [.one (.lit (.int .i64 a1)), .one (.lit (.int .i64 a2)), .one (.lit (.int .i64 a3))] (F138_res r) := by
 rw [F138] at hF
 refine cond_some hF (fun h4 hF => ?_) (fun h4 hF => ?_)
 ·
  obtain rfl := Option.some.inj hF
  have pz : HoldAll E H hn138 [.test (beqb (ilt a3 0) false) false, .test (beqb (ilt a3 0) false) false, .test (beqb (ilt a3 0) false) false, .test (ilt a3 0) true, .test true true] := ⟨(beqb_ft h4), (beqb_ft h4), (beqb_ft h4), h4, rfl, trivial⟩
  exact fn_playC hn138 (r := F138_res 0) pz (by kernel_rfl) (by kernel_rfl)
 have q7 : PQ hn138 fun l => (.test (beqb (ilt a3 0) false) true :: .test (beqb (ilt a3 0) false) true :: .test (beqb (ilt a3 0) false) true :: .test (ilt a3 0) false :: l) := fun z => ⟨(beqb_ff h4), (beqb_ff h4), (beqb_ff h4), h4, z⟩
 refine cond_some hF (fun h5 hF => ?_) (fun h5 hF => ?_)
 ·
  obtain rfl := Option.some.inj hF
  have pz : HoldAll E H hn138 [.test (ige a3 a2) true] := ⟨(ige_eq h5), trivial⟩
  exact fn_playC hn138 (r := F138_res 0) (q7 pz) (by kernel_rfl) (by kernel_rfl)
 refine cond_some hF (fun _ hF => nomatch hF) (fun h6 hF => ?_)
 obtain rfl := Option.some.inj hF
 have pz : HoldAll E H hn138 [.test (ige a3 a2) false, .int (wsub .i64 a1 a3) (wsub .i64 a1 a3), .int (wadd .i64 (wsub .i64 a1 a3) a2) (wadd .i64 (wsub .i64 a1 a3) a2), .int (wsub .i64 (wadd .i64 (wsub .i64 a1 a3) a2) 1) (wsub .i64 (wadd .i64 (wsub .i64 a1 a3) a2) 1), .test (izero a2) false, .int (wquo .i64 (wsub .i64 (wadd .i64 (wsub .i64 a1 a3) a2) 1) a2) (wquo .i64 (wsub .i64 (wadd .i64 (wsub .i64 a1 a3) a2) 1) a2)] := ⟨(ige_eq h5), rfl, rfl, rfl, h6, rfl, trivial⟩
 exact fn_playC hn138 (r := F138_res (wquo .i64 (wsub .i64 (wadd .i64 (wsub .i64 a1 a3) a2) 1) a2)) (q7 pz) (by kernel_rfl) (by kernel_rfl)
noncomputable def hn77 : Hint := { H 77 with nt := 18, prot := 0 }
def F77_res (r1 : Int) : Res := ⟨[(.one (.im (.lit (.int .i64 r1))))], []⟩
def F77 (K : Nat) (a1 : GGraph) (a2 : GJob) (a3 : Int) : Option (Int) :=
 (F94 K a1 a2).bind fun r4 =>
 bif (ieq r4 0) then
  ((F138 K a1.N a2.Parts a3).bind fun r5 =>
  bif (ilt 0 r5) then
   (some r5)
  else
  some 0)
 else
 some 0
theorem F77_ok (K : Nat) (a1 : GGraph) (a2 : GJob) (a3 : Int) (r : Int) (hF : F77 K a1 a2 a3 = some r) : Evt E H 77 [.agg (eGGraph a1), .agg (eGJob a2), .one (.lit (.int .i64 a3))] (F77_res r) := by
 rw [F77] at hF
 refine bind_some hF (fun r4 h5 hF => ?_)
 refine cond_some hF (fun h6 hF => ?_) (fun h6 hF => ?_)
 ·
  refine bind_some hF (fun r7 h8 hF => ?_)
  have q10 : PQ hn77 fun l => (.call 94 [.agg (eGGraph a1), .agg (eGJob a2)] (F94_res r4) :: .test (leadsAny (Res.mk [(.one (.im (.lit (.int .i64 r4))))] [])) false :: .test (ine r4 0) false :: .call 138 [.one (.lit (.int .i64 a1.N)), .one (.lit (.int .i64 a2.Parts)), .one (.lit (.int .i64 a3))] (F138_res r7) :: .test (leadsAny (Res.mk [(.one (.im (.lit (.int .i64 r7))))] [])) false :: l) := fun z => ⟨(F94_ok K a1 a2 _ h5), (leads_ok (by simp [leadsAny, RV.leads, RC.leads, leadsT, hasSl_lit, flat_ns eGJob_ns])), (ine_t h6), (F138_ok K a1.N a2.Parts a3 _ h8), (leads_ok (by simp [leadsAny, RV.leads, RC.leads, leadsT, hasSl_lit, flat_ns eGJob_ns])), z⟩
  refine cond_some hF (fun h9 hF => ?_) (fun h9 hF => ?_)
  ·
   obtain rfl := Option.some.inj hF
   have pz : HoldAll E H hn77 [.test (igt r7 0) true] := ⟨(igt_eq h9), trivial⟩
   exact fn_playC hn77 (r := F77_res r7) (q10 pz) (by kernel_rfl) (by kernel_rfl)
  obtain rfl := Option.some.inj hF
  have pz : HoldAll E H hn77 [.test (igt r7 0) false] := ⟨(igt_eq h9), trivial⟩
  exact fn_playC hn77 (r := F77_res 0) (q10 pz) (by kernel_rfl) (by kernel_rfl)
 obtain rfl := Option.some.inj hF
 have pz : HoldAll E H hn77 [.call 94 [.agg (eGGraph a1), .agg (eGJob a2)] (F94_res r4), .test (leadsAny (Res.mk [(.one (.im (.lit (.int .i64 r4))))] [])) false, .test (ine r4 0) true] := ⟨(F94_ok K a1 a2 _ h5), (leads_ok (by simp [leadsAny, RV.leads, RC.leads, leadsT, hasSl_lit, flat_ns eGJob_ns])), (ine_f h6), trivial⟩
 exact fn_playC hn77 (r := F77_res 0) pz (by kernel_rfl) (by kernel_rfl)
theorem scanN {σ β : Type} {N : Int} {L : Nat → σ → Int → Option β} (step : Nat → σ → (σ → Option β) → Option β) (fin : σ → Option β)
   (h : ∀ k s (i : Nat), i ≤ N.toNat → L (k + 1) s i = bif ilt i N then step i s (fun s' => L k s' (wadd .i64 i 1)) else fin s) (hN : N ≤ 1000000) {K : Nat} (hK : N.toNat < K) (s : σ) :
   L K s 0 = goL step fin (List.range N.toNat) s := by
 have hw : ∀ (k : Nat) (s : σ) (i : Nat), N.toNat - i < k → i ≤ N.toNat → L k s i = goL step fin ((List.range N.toNat).drop i) s := by
   intro k
   induction k with
   | zero => intro s i h; omega
   | succ k ih =>
     intro s i hk hi
     rw [h k s i hi]
     by_cases hlt : i < N.toNat
     · have e : (List.range N.toNat).drop i = i :: (List.range N.toNat).drop (i + 1) := by
         rw [List.drop_eq_getElem_cons (by simpa using hlt)]; simp
       rw [ilt_iff.2 (by omega : (i : Int) < N), cond_true, e, goL]
       congr 1
       funext s'
       rw [wadd_nat (by omega)]
       exact ih s' (i + 1) (by omega) (by omega)
     · have e : (List.range N.toNat).drop i = [] := List.drop_eq_nil_of_le (by simp; omega)
       rw [ilt_f.2 (by omega : N ≤ (i : Int)), cond_false, e]; rfl
 have := hw K s 0 (by omega) (by omega)
 rw [List.drop_zero] at this
 exact this
def homeS (j : GJob) (v : Int) : Int := bif ilt v 0 || (ilt j.Parts 1 || ilt 6 j.Parts) then -1 else v % j.Parts
theorem wrem_emod {a b : Int} (h : 0 ≤ a) : wrem a b = a % b := by
 show Int.tmod _ _ = _
 exact Int.tmod_eq_emod_of_nonneg h
theorem F75_spec (K : Nat) (j : GJob) (v : Int) : F75 K j v = some (homeS j v) := by
 rw [F75, homeS]
 cases h0 : ilt v 0
 · cases h1 : ilt j.Parts 1
   · cases h2 : ilt 6 j.Parts
     · have v0 := ilt_f.1 h0
       have p1 := ilt_f.1 h1
       have hz : izero j.Parts = false := decide_eq_false (by omega)
       rw [hz, wrem_emod v0]; rfl
     · rfl
   · rfl
 · rfl
theorem F76_spec (K : Nat) (j : GJob) {v : Int} (hv : -9223372036854775808 ≤ v ∧ v ≤ 9223372036854775807) : F76 K j v = some (homeS j v) := by
 rw [F76, homeS]
 cases h0 : ilt v 0
 · cases h1 : ilt j.Parts 1
   · cases h2 : ilt 6 j.Parts
     · have v0 := ilt_f.1 h0
       have p1 := ilt_f.1 h1
       have hz : izero j.Parts = false := decide_eq_false (by omega)
       have hd : 0 ≤ v / j.Parts := Int.ediv_nonneg v0 (by omega)
       have hm : j.Parts * (v / j.Parts) + v % j.Parts = v := Int.mul_ediv_add_emod v j.Parts
       have hr : 0 ≤ v % j.Parts := Int.emod_nonneg _ (by omega)
       have hle : v / j.Parts ≤ v := Int.ediv_le_self _ v0
       have hp0 : 0 ≤ v / j.Parts * j.Parts := Int.mul_nonneg hd (by omega)
       have hc : v / j.Parts * j.Parts = j.Parts * (v / j.Parts) := Int.mul_comm _ _
       have e1 : wquo .i64 v j.Parts = v / j.Parts := by
         show IntKind.i64.wrap (v.tdiv j.Parts) = _
         rw [Int.tdiv_eq_ediv_of_nonneg v0, IntKind.wrap_i64]; omega
       have e2 : wmul .i64 (v / j.Parts) j.Parts = v / j.Parts * j.Parts := by
         show IntKind.i64.wrap _ = _
         rw [IntKind.wrap_i64]; omega
       have e3 : wsub .i64 v (v / j.Parts * j.Parts) = v % j.Parts := by
         show IntKind.i64.wrap _ = _
         rw [IntKind.wrap_i64]; omega
       rw [hz, e1, e2, e3]; rfl
     · rfl
   · rfl
 · rfl
def vertsN (n parts : Nat) (p : Int) : List Nat := (List.range n).filter fun v => ieq ((v % parts : Nat) : Int) p
def vertsS (g : GGraph) (j : GJob) (p : Int) : List Nat := vertsN g.N.toNat j.Parts.toNat p
theorem F139_spec {K : Nat} (hK : 100 ≤ K) {g : GGraph} {j : GJob} (h1 : 1 ≤ j.Parts) (h2 : j.Parts ≤ 6) (hn : g.N ≤ 24) (p : Int) : F139 K g j p = some ((vertsS g j p).map Int.ofNat) := by
 let step : Nat → List Int → (List Int → Option (List Int)) → Option (List Int) := fun i s c =>
   bif (izero j.Parts) then none else bif (ieq (wrem (i : Int) j.Parts) p) then (bif (apok (len s) 1 8) then c (appL s [(i : Int)]) else none) else c s
 have h := scanN (N := g.N) (L := fun k s i => F139_l0_0 K g j p k s i) step (fun s => some s) (fun k s i _ => rfl) (by omega) (K := K) (by omega) []
 have hz : izero j.Parts = false := decide_eq_false (by omega)
 obtain ⟨q, hq⟩ := Int.eq_ofNat_of_zero_le (show 0 ≤ j.Parts by omega)
 have hw : ∀ (l : List Nat) (s : List Int), s.length + l.length ≤ 1000 → goL step (fun s => some s) l s = some (s ++ (l.filter fun v => ieq ((v % j.Parts.toNat : Nat) : Int) p).map Int.ofNat) := by
   intro l
   induction l with
   | nil => intro s _; simp [goL]
   | cons v l ih =>
     intro s hs
     simp only [List.length_cons] at hs
     rw [goL]
     show (bif (izero j.Parts) then none else bif (ieq (wrem (v : Int) j.Parts) p) then (bif (apok (len s) 1 8) then goL step (fun s => some s) l (appL s [(v : Int)]) else none) else goL step (fun s => some s) l s) = _
     have e : wrem (v : Int) j.Parts = ((v % j.Parts.toNat : Nat) : Int) := by rw [wrem_emod (by omega), hq]; simp
     rw [hz, cond_false, e, List.filter_cons]
     cases ieq ((v % j.Parts.toNat : Nat) : Int) p
     · rw [cond_false, ih s (by omega)]; rfl
     · have ha : apok (len s) 1 8 = true := decide_eq_true ⟨by show s.length + 1 ≤ _; omega, by show (s.length + 1) * 8 ≤ _; omega⟩
       rw [cond_true, ha, cond_true, ih _ (by simp [appL]; omega)]
       simp [appL]
 rw [hw _ _ (by simp; omega), List.nil_append] at h
 have h' : F139_l0_0 K g j p K [] 0 = _ := h
 rw [F139, h']; rfl
theorem cnt_all : ∀ parts < 7, 0 < parts → ∀ n < 25, ∀ p < parts, ((List.range n).filter fun v => v % parts == p).length = (n + parts - 1 - p) / parts := by decide +kernel
def countS (g : GGraph) (j : GJob) (p : Int) : Int := ((vertsS g j p).length : Int)
theorem vertsN_len {n parts : Nat} (h1 : 0 < parts) (h2 : parts < 7) (hn : n < 25) {p : Nat} (hp : p < parts) : (vertsN n parts (p : Int)).length = (n + parts - 1 - p) / parts := by
 rw [← cnt_all parts h2 h1 n hn p hp, vertsN]
 congr 1
 refine List.filter_congr fun v _ => ?_
 rw [Bool.eq_iff_iff, ieq_iff, beq_iff_eq]; omega
theorem vertsN_none {n parts : Nat} (h1 : 0 < parts) {p : Int} (hp : p < 0 ∨ (parts : Int) ≤ p) : vertsN n parts p = [] := by
 rw [vertsN, List.filter_eq_nil_iff]
 intro v _ hc
 have := ieq_iff.1 hc
 have := Nat.mod_lt v h1
 omega
theorem F77_spec {K : Nat} (hK : 100 ≤ K) (g : GGraph) (j : GJob) (p : Int) (hp : -9223372036854775808 ≤ p ∧ p ≤ 9223372036854775807) : F77 K g j p = some (bif ieq (jcheck g j) 0 then countS g j p else 0) := by
 rw [F77, F94_spec hK, Option.bind_some]
 cases hc : ieq (jcheck g j) 0
 · rfl
 · obtain ⟨hg, p1, p2, p3, p4, p5, p6, p7, p8⟩ := jcheck_ok hc
   obtain ⟨g1, g2, _, _⟩ := gcheck_ok hg
   rw [cond_true, cond_true, F138]
   cases h0 : ilt p 0
   · cases h1 : ile j.Parts p
     · have q0 := ilt_f.1 h0
       have q1 := ile_f.1 h1
       obtain ⟨q, rfl⟩ := Int.eq_ofNat_of_zero_le q0
       have hz : izero j.Parts = false := decide_eq_false (by omega)
       have e1 : wsub .i64 g.N (q : Int) = g.N - q := by show IntKind.i64.wrap _ = _; rw [IntKind.wrap_i64]; omega
       have e2 : wadd .i64 (g.N - q) j.Parts = g.N - q + j.Parts := by show IntKind.i64.wrap _ = _; rw [IntKind.wrap_i64]; omega
       have e3 : wsub .i64 (g.N - q + j.Parts) 1 = g.N - q + j.Parts - 1 := by show IntKind.i64.wrap _ = _; rw [IntKind.wrap_i64]; omega
       obtain ⟨n, hn⟩ := Int.eq_ofNat_of_zero_le (show 0 ≤ g.N by omega)
       obtain ⟨m, hm⟩ := Int.eq_ofNat_of_zero_le (show 0 ≤ j.Parts by omega)
       have hnum : g.N - (q : Int) + j.Parts - 1 = ((n + m - 1 - q : Nat) : Int) := by omega
       obtain ⟨d, hd⟩ : ∃ d, (n + m - 1 - q) / m = d := ⟨_, rfl⟩
       have e4 : wquo .i64 (g.N - q + j.Parts - 1) j.Parts = (d : Int) := by
         show IntKind.i64.wrap ((g.N - q + j.Parts - 1).tdiv j.Parts) = _
         rw [hnum, hm, Int.tdiv_eq_ediv_of_nonneg (by omega)]
         have hle : d ≤ n + m - 1 - q := hd ▸ Nat.div_le_self _ _
         have : (((n + m - 1 - q : Nat) : Int) / ((m : Nat) : Int)) = (d : Int) := by rw [← hd]; rfl
         rw [this, IntKind.wrap_i64]; omega
       have ecs : countS g j (q : Int) = (d : Int) := by
         unfold countS vertsS
         have a1 : g.N.toNat = n := by omega
         have a2 : j.Parts.toNat = m := by omega
         rw [a1, a2, vertsN_len (by omega) (by omega) (by omega) (by omega), hd]
       rw [cond_false, cond_false, hz, cond_false, e1, e2, e3, e4, Option.bind_some, ecs]
       cases hpos : ilt 0 (d : Int)
       · have := ilt_f.1 hpos
         have : d = 0 := by omega
         rw [this]; rfl
       · rfl
     · have q1 := ile_iff.1 h1
       have : countS g j p = 0 := by
         unfold countS vertsS
         rw [vertsN_none (by omega) (.inr (by omega))]; rfl
       rw [this]; rfl
   · have q0 := ilt_iff.1 h0
     have : countS g j p = 0 := by
       unfold countS vertsS
       rw [vertsN_none (by omega) (.inl q0)]; rfl
     rw [this]; rfl
theorem mem_verts {g : GGraph} {j : GJob} (h1 : 1 ≤ j.Parts) {p : Int} {v : Nat} : v ∈ vertsS g j p ↔ (v : Int) < g.N ∧ (v : Int) % j.Parts = p := by
 obtain ⟨m, hm⟩ := Int.eq_ofNat_of_zero_le (show 0 ≤ j.Parts by omega)
 simp only [vertsS, vertsN, List.mem_filter, List.mem_range, ieq_iff]
 have : j.Parts.toNat = m := by omega
 rw [this, hm]
 constructor
 · rintro ⟨a, b⟩; exact ⟨by omega, by rw [← b]; simp⟩
 · rintro ⟨a, b⟩; exact ⟨by omega, by rw [← b]; simp⟩
noncomputable def hn80 : Hint := { H 80 with nt := 85, prot := 0 }
noncomputable def c80_0 : Code := loopOf E 80 0
def F80_res (r1 : Bool) : Res := ⟨[(.one (.im (.lit (.bool r1))))], []⟩
def F80_l0_0 (K : Nat) (a1 : GGraph) (a2 : GJob) (a3 : GPart) : Nat → Int → Int → Option ((Unit) ⊕ (Unit))
 | 0, _, _ => none
 | k + 1, v4, v5 =>
  bif (ilt v5 (nlen (len a3.In))) then
   (bif (inr v5 (len a3.In)) then
   (elAt a3.In v5).bind fun x6 =>
   bif (ile x6.To v4) then
    (some (.inl ()))
   else
   bif (ile a1.N x6.To) then
    (some (.inl ()))
   else
   bif (izero a2.Parts) then none else
   bif (ieq (wrem x6.To a2.Parts) a3.P) then
    (F80_l0_0 K a1 a2 a3 k x6.To (wadd .i64 v5 1))
   else
   some (.inl ())
   else none)
  else
  some (.inr ())
def F80_l0_0_S (a1 : GGraph) (a2 : GJob) (a3 : GPart) (v4 : Int) (v5 : Int) : TS := .on [192, 193, 194, 256, 257, 258, 259, 260, 320, 321, 322, 323, 324, 325, 512, 513, 3456, 3520, 3521, 3584, 3585, 3648, 3649] [(192, ⟨(.box 62 2), 0, nob⟩), (193, ⟨.im, 0, (.lit (.int .i64 a1.N))⟩), (194, ⟨.im, 0, (.sl (len a1.Edges) (flat eGEdge a1.Edges))⟩), (256, ⟨(.box 64 4), 0, nob⟩), (257, ⟨.im, 0, (.lit (.int .i64 a2.Prog))⟩), (258, ⟨.im, 0, (.lit (.int .i64 a2.Source))⟩), (259, ⟨.im, 0, (.lit (.int .i64 a2.Limit))⟩), (260, ⟨.im, 0, (.lit (.int .i64 a2.Parts))⟩), (320, ⟨(.box 42 5), 0, nob⟩), (321, ⟨.im, 0, (.lit (.int .i64 a3.P))⟩), (322, ⟨.im, 0, (.lit (.int .i64 a3.Step))⟩), (323, ⟨.im, 0, (.sl (len a3.Vals) (flat (eInt .i64) a3.Vals))⟩), (324, ⟨.im, 0, (.sl (len a3.Rest) (flat eBool a3.Rest))⟩), (325, ⟨.im, 0, (.sl (len a3.In) (flat eGMsg a3.In))⟩), (512, ⟨.one, 0, nob⟩), (513, ⟨.im, 0, (.lit (.int .i64 v4))⟩), (3456, ⟨(.ad 5 0 4), 0, nob⟩), (3520, ⟨.one, 0, nob⟩), (3521, ⟨.im, 0, (.sl (len a3.In) (flat eGMsg a3.In))⟩), (3584, ⟨.one, 0, nob⟩), (3585, ⟨.im, 0, (.lit (.int .i64 (nlen (len a3.In))))⟩), (3648, ⟨.one, 0, nob⟩), (3649, ⟨.im, 0, (.lit (.int .i64 v5))⟩)]
def F80_l0_0_X0 (a1 : GGraph) (a2 : GJob) (a3 : GPart) (w4 : Unit) : TS := .on [384, 385] [(384, ⟨.one, 0, nob⟩), (385, ⟨.im, 0, (.lit (.bool false))⟩)]
def F80_l0_0_X1 (a1 : GGraph) (a2 : GJob) (a3 : GPart) (w4 : Unit) : TS := .on [] []
theorem F80_l0_0_ok (K : Nat) (a1 : GGraph) (a2 : GJob) (a3 : GPart) : ∀ (k : Nat) (v4 : Int) (v5 : Int) (r : (Unit) ⊕ (Unit)), F80_l0_0 K a1 a2 a3 k v4 v5 = some r → (Sum.elim (fun w => LoopEv E H hn80 0 c80_0 (F80_l0_0_S a1 a2 a3 v4 v5) .ret (F80_l0_0_X0 a1 a2 a3 w)) (fun w => LoopEv E H hn80 0 c80_0 (F80_l0_0_S a1 a2 a3 v4 v5) (.exit 0) (F80_l0_0_X1 a1 a2 a3 w))) r := by
 intro k
 induction k with
 | zero => intro v4 v5 r hF; cases hF
 | succ k ih =>
  intro v4 v5 r hF
  rw [F80_l0_0] at hF
  refine cond_some hF (fun h6 hF => ?_) (fun h6 hF => ?_)
  ·
   refine cond_some hF (fun h7 hF => ?_) (fun _ hF => nomatch hF)
   refine bind_some hF (fun x8 h9 hF => ?_)
   have q14 : PQ hn80 fun l => (.test (ilt v5 (nlen (len a3.In))) true :: .test (inr v5 (len a3.In)) true :: .sub (flat eGMsg a3.In) (nidx v5 2) 2 [(.lit (.int .i64 x8.To)), (.lit (.int .i64 x8.V))] :: l) := fun z => ⟨h6, h7, ⟨rfl, sub_flat0 eGMsg_len h9 2 (by decide)⟩, z⟩
   refine cond_some hF (fun h10 hF => ?_) (fun h10 hF => ?_)
   ·
    obtain rfl := Option.some.inj hF
    have pz : HoldAll E H hn80 [.test (beqb (ile x8.To v4) false) false, .test (beqb (ile x8.To v4) false) false, .test (beqb (ile x8.To v4) false) false, .test (beqb (ile x8.To v4) false) false, .test (beqb (ile x8.To v4) false) false, .test (ile x8.To v4) true, .test (beqb true false) false, .test (beqb true false) false, .test (beqb true false) false, .test (beqb true false) false, .test (beqb true false) false, .test (beqb true false) false, .test (beqb true false) false, .test (beqb true false) false, .test true true, .test true true] := ⟨(beqb_ft h10), (beqb_ft h10), (beqb_ft h10), (beqb_ft h10), (beqb_ft h10), h10, (beqb_ft rfl), (beqb_ft rfl), (beqb_ft rfl), (beqb_ft rfl), (beqb_ft rfl), (beqb_ft rfl), (beqb_ft rfl), (beqb_ft rfl), rfl, rfl, trivial⟩
    exact loop_endC (h := hn80) (l := 0) (c := c80_0) (ts := F80_l0_0_S a1 a2 a3 v4 v5) (ts' := F80_l0_0_X0 a1 a2 a3 ()) (ex := .ret) (q14 pz) (by kernel_rfl) trivial
   have q15 : PQ hn80 fun l => (.test (beqb (ile x8.To v4) false) true :: .test (beqb (ile x8.To v4) false) true :: .test (beqb (ile x8.To v4) false) true :: .test (beqb (ile x8.To v4) false) true :: .test (beqb (ile x8.To v4) false) true :: .test (ile x8.To v4) false :: l) := fun z => ⟨(beqb_ff h10), (beqb_ff h10), (beqb_ff h10), (beqb_ff h10), (beqb_ff h10), h10, z⟩
   refine cond_some hF (fun h11 hF => ?_) (fun h11 hF => ?_)
   ·
    obtain rfl := Option.some.inj hF
    have pz : HoldAll E H hn80 [.test (beqb (ige x8.To a1.N) false) false, .test (beqb (ige x8.To a1.N) false) false, .test (beqb (ige x8.To a1.N) false) false, .test (beqb (ige x8.To a1.N) false) false, .test (beqb (ige x8.To a1.N) false) false, .test (beqb (ige x8.To a1.N) false) false, .test (beqb (ige x8.To a1.N) false) false, .test (beqb (ige x8.To a1.N) false) false, .test (ige x8.To a1.N) true, .test true true] := ⟨(beqb_ft (ige_eq h11)), (beqb_ft (ige_eq h11)), (beqb_ft (ige_eq h11)), (beqb_ft (ige_eq h11)), (beqb_ft (ige_eq h11)), (beqb_ft (ige_eq h11)), (beqb_ft (ige_eq h11)), (beqb_ft (ige_eq h11)), (ige_eq h11), rfl, trivial⟩
    exact loop_endC (h := hn80) (l := 0) (c := c80_0) (ts := F80_l0_0_S a1 a2 a3 v4 v5) (ts' := F80_l0_0_X0 a1 a2 a3 ()) (ex := .ret) (q14 (q15 pz)) (by kernel_rfl) trivial
   refine cond_some hF (fun _ hF => nomatch hF) (fun h12 hF => ?_)
   have q16 : PQ hn80 fun l => (.test (beqb (ige x8.To a1.N) false) true :: .test (beqb (ige x8.To a1.N) false) true :: .test (beqb (ige x8.To a1.N) false) true :: .test (beqb (ige x8.To a1.N) false) true :: .test (beqb (ige x8.To a1.N) false) true :: .test (izero a2.Parts) false :: .int (wrem x8.To a2.Parts) (wrem x8.To a2.Parts) :: .test (beqb (ige x8.To a1.N) false) true :: .test (beqb (ige x8.To a1.N) false) true :: .test (beqb (ige x8.To a1.N) false) true :: .test (ige x8.To a1.N) false :: l) := fun z => ⟨(beqb_ff (ige_eq h11)), (beqb_ff (ige_eq h11)), (beqb_ff (ige_eq h11)), (beqb_ff (ige_eq h11)), (beqb_ff (ige_eq h11)), h12, rfl, (beqb_ff (ige_eq h11)), (beqb_ff (ige_eq h11)), (beqb_ff (ige_eq h11)), (ige_eq h11), z⟩
   refine cond_some hF (fun h13 hF => ?_) (fun h13 hF => ?_)
   ·
    have pz : HoldAll E H hn80 [.test (ine (wrem x8.To a2.Parts) a3.P) false, .int (wadd .i64 v5 1) (wadd .i64 v5 1)] := ⟨(ine_t h13), rfl, trivial⟩
    have h0 := ih _ _ _ hF
    have hn := fun ex ts' => loop_nextC (h := hn80) (l := 0) (c := c80_0) (ts := F80_l0_0_S a1 a2 a3 v4 v5) (ts1 := (F80_l0_0_S a1 a2 a3 x8.To (wadd .i64 v5 1))) (ex := ex) (ts' := ts') (q14 (q15 (q16 pz))) (by kernel_rfl)
    cases r with
    | inl w => exact hn _ _ h0
    | inr w => exact hn _ _ h0
   obtain rfl := Option.some.inj hF
   have pz : HoldAll E H hn80 [.test (ine (wrem x8.To a2.Parts) a3.P) true] := ⟨(ine_f h13), trivial⟩
   exact loop_endC (h := hn80) (l := 0) (c := c80_0) (ts := F80_l0_0_S a1 a2 a3 v4 v5) (ts' := F80_l0_0_X0 a1 a2 a3 ()) (ex := .ret) (q14 (q15 (q16 pz))) (by kernel_rfl) trivial
  obtain rfl := Option.some.inj hF
  have pz : HoldAll E H hn80 [.test (ilt v5 (nlen (len a3.In))) false] := ⟨h6, trivial⟩
  exact loop_endC (h := hn80) (l := 0) (c := c80_0) (ts := F80_l0_0_S a1 a2 a3 v4 v5) (ts' := F80_l0_0_X1 a1 a2 a3 ()) (ex := (.exit 0)) pz (by kernel_rfl) trivial
def F80 (K : Nat) (a1 : GGraph) (a2 : GJob) (a3 : GPart) : Option (Bool) :=
 (F94 K a1 a2).bind fun r4 =>
 bif (ieq r4 0) then
  (bif (ilt a3.P 0) then
   (some false)
  else
  bif (ile a2.Parts a3.P) then
   (some false)
  else
  bif (ilt a3.Step 0) then
   (some false)
  else
  bif (ilt 40 a3.Step) then
   (some false)
  else
  (F77 K a1 a2 a3.P).bind fun r5 =>
  bif (ieq (nlen (len a3.Vals)) r5) then
   (bif (ieq (nlen (len a3.Rest)) r5) then
    ((F80_l0_0 K a1 a2 a3 K (-1) 0).bind fun y6 =>
    Sum.elim (fun w7 =>
     some false)
     (fun w8 =>
     some true) y6)
   else
   some false)
  else
  some false)
 else
 some false
theorem F80_ok (K : Nat) (a1 : GGraph) (a2 : GJob) (a3 : GPart) (r : Bool) (hF : F80 K a1 a2 a3 = some r) : Evt E H 80 [.agg (eGGraph a1), .agg (eGJob a2), .agg (eGPart a3)] (F80_res r) := by
 rw [F80] at hF
 refine bind_some hF (fun r4 h5 hF => ?_)
 refine cond_some hF (fun h6 hF => ?_) (fun h6 hF => ?_)
 ·
  have q19 : PQ hn80 fun l => (.call 94 [.agg (eGGraph a1), .agg (eGJob a2)] (F94_res r4) :: .test (leadsAny (Res.mk [(.one (.im (.lit (.int .i64 r4))))] [])) false :: .test (beqb (ine r4 0) false) true :: .test (beqb (ine r4 0) false) true :: .test (beqb (ine r4 0) false) true :: .test (ine r4 0) false :: l) := fun z => ⟨(F94_ok K a1 a2 _ h5), (leads_ok (by simp [leadsAny, RV.leads, RC.leads, leadsT, hasSl_lit, flat_ns eGJob_ns])), (beqb_ff (ine_t h6)), (beqb_ff (ine_t h6)), (beqb_ff (ine_t h6)), (ine_t h6), z⟩
  refine cond_some hF (fun h7 hF => ?_) (fun h7 hF => ?_)
  ·
   obtain rfl := Option.some.inj hF
   have pz : HoldAll E H hn80 [.test (beqb (ilt a3.P 0) false) false, .test (beqb (ilt a3.P 0) false) false, .test (beqb (ilt a3.P 0) false) false, .test (beqb (ilt a3.P 0) false) false, .test (beqb (ilt a3.P 0) false) false, .test (ilt a3.P 0) true, .test (beqb true false) false, .test (beqb true false) false, .test (beqb true false) false, .test true true, .test (beqb true false) false, .test (beqb true false) false, .test (beqb true false) false, .test true true, .test true true] := ⟨(beqb_ft h7), (beqb_ft h7), (beqb_ft h7), (beqb_ft h7), (beqb_ft h7), h7, (beqb_ft rfl), (beqb_ft rfl), (beqb_ft rfl), rfl, (beqb_ft rfl), (beqb_ft rfl), (beqb_ft rfl), rfl, rfl, trivial⟩
   exact fn_playC hn80 (r := F80_res false) (q19 pz) (by kernel_rfl) (by kernel_rfl)
  have q20 : PQ hn80 fun l => (.test (beqb (ilt a3.P 0) false) true :: .test (beqb (ilt a3.P 0) false) true :: .test (beqb (ilt a3.P 0) false) true :: .test (beqb (ilt a3.P 0) false) true :: .test (beqb (ilt a3.P 0) false) true :: .test (ilt a3.P 0) false :: l) := fun z => ⟨(beqb_ff h7), (beqb_ff h7), (beqb_ff h7), (beqb_ff h7), (beqb_ff h7), h7, z⟩
  refine cond_some hF (fun h8 hF => ?_) (fun h8 hF => ?_)
  ·
   obtain rfl := Option.some.inj hF
   have pz : HoldAll E H hn80 [.test (beqb (ige a3.P a2.Parts) false) false, .test (beqb (ige a3.P a2.Parts) false) false, .test (beqb (ige a3.P a2.Parts) false) false, .test (ige a3.P a2.Parts) true, .test (beqb true false) false, .test (beqb true false) false, .test (beqb true false) false, .test true true, .test true true] := ⟨(beqb_ft (ige_eq h8)), (beqb_ft (ige_eq h8)), (beqb_ft (ige_eq h8)), (ige_eq h8), (beqb_ft rfl), (beqb_ft rfl), (beqb_ft rfl), rfl, rfl, trivial⟩
   exact fn_playC hn80 (r := F80_res false) (q19 (q20 pz)) (by kernel_rfl) (by kernel_rfl)
  have q21 : PQ hn80 fun l => (.test (beqb (ige a3.P a2.Parts) false) true :: .test (beqb (ige a3.P a2.Parts) false) true :: .test (beqb (ige a3.P a2.Parts) false) true :: .test (ige a3.P a2.Parts) false :: l) := fun z => ⟨(beqb_ff (ige_eq h8)), (beqb_ff (ige_eq h8)), (beqb_ff (ige_eq h8)), (ige_eq h8), z⟩
  refine cond_some hF (fun h9 hF => ?_) (fun h9 hF => ?_)
  ·
   obtain rfl := Option.some.inj hF
   have pz : HoldAll E H hn80 [.test (beqb (ilt a3.Step 0) false) false, .test (beqb (ilt a3.Step 0) false) false, .test (beqb (ilt a3.Step 0) false) false, .test (ilt a3.Step 0) true, .test true true] := ⟨(beqb_ft h9), (beqb_ft h9), (beqb_ft h9), h9, rfl, trivial⟩
   exact fn_playC hn80 (r := F80_res false) (q19 (q20 (q21 pz))) (by kernel_rfl) (by kernel_rfl)
  have q22 : PQ hn80 fun l => (.test (beqb (ilt a3.Step 0) false) true :: .test (beqb (ilt a3.Step 0) false) true :: .test (beqb (ilt a3.Step 0) false) true :: .test (ilt a3.Step 0) false :: l) := fun z => ⟨(beqb_ff h9), (beqb_ff h9), (beqb_ff h9), h9, z⟩
  refine cond_some hF (fun h10 hF => ?_) (fun h10 hF => ?_)
  ·
   obtain rfl := Option.some.inj hF
   have pz : HoldAll E H hn80 [.test (igt a3.Step 40) true] := ⟨(igt_eq h10), trivial⟩
   exact fn_playC hn80 (r := F80_res false) (q19 (q20 (q21 (q22 pz)))) (by kernel_rfl) (by kernel_rfl)
  refine bind_some hF (fun r11 h12 hF => ?_)
  have q23 : PQ hn80 fun l => (.test (igt a3.Step 40) false :: .call 77 [.agg (eGGraph a1), .agg (eGJob a2), .one (.lit (.int .i64 a3.P))] (F77_res r11) :: .test (leadsAny (Res.mk [(.one (.im (.lit (.int .i64 r11))))] [])) false :: .int (nlen (len a3.Vals)) (nlen (len a3.Vals)) :: l) := fun z => ⟨(igt_eq h10), (F77_ok K a1 a2 a3.P _ h12), (leads_ok (by simp [leadsAny, RV.leads, RC.leads, leadsT, hasSl_lit, flat_ns eGJob_ns])), rfl, z⟩
  refine cond_some hF (fun h13 hF => ?_) (fun h13 hF => ?_)
  ·
   have q24 : PQ hn80 fun l => (.test (beqb (ine (nlen (len a3.Vals)) r11) false) true :: .test (beqb (ine (nlen (len a3.Vals)) r11) false) true :: .test (beqb (ine (nlen (len a3.Vals)) r11) false) true :: .int (nlen (len a3.Rest)) (nlen (len a3.Rest)) :: .test (beqb (ine (nlen (len a3.Vals)) r11) false) true :: .test (beqb (ine (nlen (len a3.Vals)) r11) false) true :: .test (ine (nlen (len a3.Vals)) r11) false :: l) := fun z => ⟨(beqb_ff (ine_t h13)), (beqb_ff (ine_t h13)), (beqb_ff (ine_t h13)), rfl, (beqb_ff (ine_t h13)), (beqb_ff (ine_t h13)), (ine_t h13), z⟩
   refine cond_some hF (fun h14 hF => ?_) (fun h14 hF => ?_)
   ·
    refine bind_some hF (fun y16 h15 hF => ?_)
    refine sum_some hF (fun w17 hx hF => ?_) (fun w18 hx hF => ?_)
    ·
     subst hx
     obtain rfl := Option.some.inj hF
     have pz : HoldAll E H hn80 [.test (ine (nlen (len a3.Rest)) r11) false, .int (nlen (len a3.In)) (nlen (len a3.In)), .loop 0 c80_0 (F80_l0_0_S a1 a2 a3 (-1) 0) .ret (F80_l0_0_X0 a1 a2 a3 w17)] := ⟨(ine_t h14), rfl, (F80_l0_0_ok K a1 a2 a3 K (-1) 0 _ h15), trivial⟩
     exact fn_playC hn80 (r := F80_res false) (q19 (q20 (q21 (q22 (q23 (q24 pz)))))) (by kernel_rfl) (by kernel_rfl)
    subst hx
    obtain rfl := Option.some.inj hF
    have pz : HoldAll E H hn80 [.test (ine (nlen (len a3.Rest)) r11) false, .int (nlen (len a3.In)) (nlen (len a3.In)), .loop 0 c80_0 (F80_l0_0_S a1 a2 a3 (-1) 0) (.exit 0) (F80_l0_0_X1 a1 a2 a3 w18)] := ⟨(ine_t h14), rfl, (F80_l0_0_ok K a1 a2 a3 K (-1) 0 _ h15), trivial⟩
    exact fn_playC hn80 (r := F80_res true) (q19 (q20 (q21 (q22 (q23 (q24 pz)))))) (by kernel_rfl) (by kernel_rfl)
   obtain rfl := Option.some.inj hF
   have pz : HoldAll E H hn80 [.test (ine (nlen (len a3.Rest)) r11) true] := ⟨(ine_f h14), trivial⟩
   exact fn_playC hn80 (r := F80_res false) (q19 (q20 (q21 (q22 (q23 (q24 pz)))))) (by kernel_rfl) (by kernel_rfl)
  obtain rfl := Option.some.inj hF
  have pz : HoldAll E H hn80 [.test (beqb (ine (nlen (len a3.Vals)) r11) false) false, .test (beqb (ine (nlen (len a3.Vals)) r11) false) false, .test (beqb (ine (nlen (len a3.Vals)) r11) false) false, .test (beqb (ine (nlen (len a3.Vals)) r11) false) false, .test (beqb (ine (nlen (len a3.Vals)) r11) false) false, .test (ine (nlen (len a3.Vals)) r11) true, .test true true] := ⟨(beqb_ft (ine_f h13)), (beqb_ft (ine_f h13)), (beqb_ft (ine_f h13)), (beqb_ft (ine_f h13)), (beqb_ft (ine_f h13)), (ine_f h13), rfl, trivial⟩
  exact fn_playC hn80 (r := F80_res false) (q19 (q20 (q21 (q22 (q23 pz))))) (by kernel_rfl) (by kernel_rfl)
 obtain rfl := Option.some.inj hF
 have pz : HoldAll E H hn80 [.call 94 [.agg (eGGraph a1), .agg (eGJob a2)] (F94_res r4), .test (leadsAny (Res.mk [(.one (.im (.lit (.int .i64 r4))))] [])) false, .test (beqb (ine r4 0) false) false, .test (beqb (ine r4 0) false) false, .test (beqb (ine r4 0) false) false, .test (ine r4 0) true, .test (beqb true false) false, .test (beqb true false) false, .test (beqb true false) false, .test (beqb true false) false, .test (beqb true false) false, .test true true, .test (beqb true false) false, .test (beqb true false) false, .test (beqb true false) false, .test true true, .test (beqb true false) false, .test (beqb true false) false, .test (beqb true false) false, .test true true, .test true true] := ⟨(F94_ok K a1 a2 _ h5), (leads_ok (by simp [leadsAny, RV.leads, RC.leads, leadsT, hasSl_lit, flat_ns eGJob_ns])), (beqb_ft (ine_f h6)), (beqb_ft (ine_f h6)), (beqb_ft (ine_f h6)), (ine_f h6), (beqb_ft rfl), (beqb_ft rfl), (beqb_ft rfl), (beqb_ft rfl), (beqb_ft rfl), rfl, (beqb_ft rfl), (beqb_ft rfl), (beqb_ft rfl), rfl, (beqb_ft rfl), (beqb_ft rfl), (beqb_ft rfl), rfl, rfl, trivial⟩
 exact fn_playC hn80 (r := F80_res false) pz (by kernel_rfl) (by kernel_rfl)
noncomputable def hn81 : Hint := { H 81 with nt := 102, prot := 0 }
noncomputable def c81_0 : Code := loopOf E 81 0
noncomputable def c81_1 : Code := loopOf E 81 1
def F81_res (r1 : Bool) : Res := ⟨[(.one (.im (.lit (.bool r1))))], []⟩
def F81_l1_1 (K : Nat) (a1 : GPart) (r2 : List Int) (v3 : Int) (x4 : GMsg) : Nat → Bool → Int → Option (Bool)
 | 0, _, _ => none
 | k + 1, v5, v6 =>
  bif (ilt v6 (nlen (len r2))) then
   (bif v5 then
    (F81_l1_1 K a1 r2 v3 x4 k true (wadd .i64 v6 1))
   else
   bif (inr v6 (len r2)) then
   (elAt r2 v6).bind fun x7 =>
   F81_l1_1 K a1 r2 v3 x4 k (ieq x7 x4.To) (wadd .i64 v6 1)
   else none)
  else
  some v5
def F81_l1_1_S (a1 : GPart) (r2 : List Int) (v3 : Int) (x4 : GMsg) (v5 : Bool) (v6 : Int) : TS := .on [320, 321, 322, 323, 324, 325, 448, 449, 512, 513, 576, 577, 640, 641, 704, 705] [(320, ⟨(.box 42 5), 0, nob⟩), (321, ⟨.im, 0, (.lit (.int .i64 a1.P))⟩), (322, ⟨.im, 0, (.lit (.int .i64 a1.Step))⟩), (323, ⟨.im, 0, (.sl (len a1.Vals) (flat (eInt .i64) a1.Vals))⟩), (324, ⟨.im, 0, (.sl (len a1.Rest) (flat eBool a1.Rest))⟩), (325, ⟨.im, 0, (.sl (len a1.In) (flat eGMsg a1.In))⟩), (448, ⟨.one, 0, nob⟩), (449, ⟨(.own 3), 0, (.sl (len r2) (flat (eInt .i64) r2))⟩), (512, ⟨.one, 0, nob⟩), (513, ⟨.im, 0, (.lit (.int .i64 v3))⟩), (576, ⟨.one, 0, nob⟩), (577, ⟨.im, 0, (.lit (.int .i64 x4.To))⟩), (640, ⟨.one, 0, nob⟩), (641, ⟨.im, 0, (.lit (.bool v5))⟩), (704, ⟨.one, 0, nob⟩), (705, ⟨.im, 0, (.lit (.int .i64 v6))⟩)]
def F81_l1_1_X0 (a1 : GPart) (r2 : List Int) (v3 : Int) (x4 : GMsg) (w5 : Bool) : TS := .on [320, 321, 322, 323, 324, 325, 448, 449, 512, 513, 576, 577, 640, 641] [(320, ⟨(.box 42 5), 0, nob⟩), (321, ⟨.im, 0, (.lit (.int .i64 a1.P))⟩), (322, ⟨.im, 0, (.lit (.int .i64 a1.Step))⟩), (323, ⟨.im, 0, (.sl (len a1.Vals) (flat (eInt .i64) a1.Vals))⟩), (324, ⟨.im, 0, (.sl (len a1.Rest) (flat eBool a1.Rest))⟩), (325, ⟨.im, 0, (.sl (len a1.In) (flat eGMsg a1.In))⟩), (448, ⟨.one, 0, nob⟩), (449, ⟨(.own 3), 0, (.sl (len r2) (flat (eInt .i64) r2))⟩), (512, ⟨.one, 0, nob⟩), (513, ⟨.im, 0, (.lit (.int .i64 v3))⟩), (576, ⟨.one, 0, nob⟩), (577, ⟨.im, 0, (.lit (.int .i64 x4.To))⟩), (640, ⟨.one, 0, nob⟩), (641, ⟨.im, 0, (.lit (.bool w5))⟩)]
theorem F81_l1_1_ok (K : Nat) (a1 : GPart) (r2 : List Int) (v3 : Int) (x4 : GMsg) : ∀ (k : Nat) (v5 : Bool) (v6 : Int) (r : Bool), F81_l1_1 K a1 r2 v3 x4 k v5 v6 = some r → LoopEv E H hn81 2 c81_1 (F81_l1_1_S a1 r2 v3 x4 v5 v6) (.exit 2) (F81_l1_1_X0 a1 r2 v3 x4 r) := by
 intro k
 induction k with
 | zero => intro v5 v6 r hF; cases hF
 | succ k ih =>
  intro v5 v6 r hF
  rw [F81_l1_1] at hF
  refine cond_some hF (fun h7 hF => ?_) (fun h7 hF => ?_)
  ·
   refine cond_some hF (fun h8 hF => ?_) (fun h8 hF => ?_)
   ·
    have pz : HoldAll E H hn81 [.int (nlen (len r2)) (nlen (len r2)), .test (ilt v6 (nlen (len r2))) true, .test (beqb v5 false) false, .test (beqb v5 false) false, .test (beqb v5 false) false, .test (beqb v5 false) false, .test (beqb v5 false) false, .test (beqb v5 false) false, .test v5 true, .int (wadd .i64 v6 1) (wadd .i64 v6 1)] := ⟨rfl, h7, (beqb_ft h8), (beqb_ft h8), (beqb_ft h8), (beqb_ft h8), (beqb_ft h8), (beqb_ft h8), h8, rfl, trivial⟩
    have h0 := ih _ _ _ hF
    have hn := fun ex ts' => loop_nextC (h := hn81) (l := 2) (c := c81_1) (ts := F81_l1_1_S a1 r2 v3 x4 v5 v6) (ts1 := (F81_l1_1_S a1 r2 v3 x4 true (wadd .i64 v6 1))) (ex := ex) (ts' := ts') pz (by kernel_rfl)
    exact hn _ _ h0
   refine cond_some hF (fun h9 hF => ?_) (fun _ hF => nomatch hF)
   refine bind_some hF (fun x10 h11 hF => ?_)
   have pz : HoldAll E H hn81 [.int (nlen (len r2)) (nlen (len r2)), .test (ilt v6 (nlen (len r2))) true, .test (beqb v5 false) true, .test (beqb v5 false) true, .test (beqb v5 false) true, .test (inr v6 (len r2)) true, .test (beqb v5 false) true, .sub (flat (eInt .i64) r2) (nidx v6 1) 1 [(.lit (.int .i64 x10))], .test (beqb v5 false) true, .test (beqb v5 false) true, .test v5 false, .int (wadd .i64 v6 1) (wadd .i64 v6 1)] := ⟨rfl, h7, (beqb_ff h8), (beqb_ff h8), (beqb_ff h8), h9, (beqb_ff h8), ⟨rfl, sub_flat0 (eInt_len _) h11 1 (by decide)⟩, (beqb_ff h8), (beqb_ff h8), h8, rfl, trivial⟩
   have h0 := ih _ _ _ hF
   have hn := fun ex ts' => loop_nextC (h := hn81) (l := 2) (c := c81_1) (ts := F81_l1_1_S a1 r2 v3 x4 v5 v6) (ts1 := (F81_l1_1_S a1 r2 v3 x4 (ieq x10 x4.To) (wadd .i64 v6 1))) (ex := ex) (ts' := ts') pz (by kernel_rfl)
   exact hn _ _ h0
  obtain rfl := Option.some.inj hF
  have pz : HoldAll E H hn81 [.int (nlen (len r2)) (nlen (len r2)), .test (ilt v6 (nlen (len r2))) false] := ⟨rfl, h7, trivial⟩
  exact loop_endC (h := hn81) (l := 2) (c := c81_1) (ts := F81_l1_1_S a1 r2 v3 x4 v5 v6) (ts' := F81_l1_1_X0 a1 r2 v3 x4 v5) (ex := (.exit 2)) pz (by kernel_rfl) trivial
def F81_l0_0 (K : Nat) (a1 : GPart) (r2 : List Int) : Nat → Int → Option ((Unit) ⊕ (Unit))
 | 0, _ => none
 | k + 1, v3 =>
  bif (ilt v3 (nlen (len a1.In))) then
   (bif (inr v3 (len a1.In)) then
   (elAt a1.In v3).bind fun x4 =>
   (F81_l1_1 K a1 r2 v3 x4 K false 0).bind fun w5 =>
   bif w5 then
    (bif (ilt 0 v3) then
     (bif (inr (wsub .i64 v3 1) (len a1.In)) then
     (elAt a1.In (wsub .i64 v3 1)).bind fun x6 =>
     bif (ile x4.To x6.To) then
      (some (.inl ()))
     else
     F81_l0_0 K a1 r2 k (wadd .i64 v3 1)
     else none)
    else
    F81_l0_0 K a1 r2 k (wadd .i64 v3 1))
   else
   some (.inl ())
   else none)
  else
  some (.inr ())
def F81_l0_0_S (a1 : GPart) (r2 : List Int) (v3 : Int) : TS := .on [320, 321, 322, 323, 324, 325, 448, 449, 512, 513] [(320, ⟨(.box 42 5), 0, nob⟩), (321, ⟨.im, 0, (.lit (.int .i64 a1.P))⟩), (322, ⟨.im, 0, (.lit (.int .i64 a1.Step))⟩), (323, ⟨.im, 0, (.sl (len a1.Vals) (flat (eInt .i64) a1.Vals))⟩), (324, ⟨.im, 0, (.sl (len a1.Rest) (flat eBool a1.Rest))⟩), (325, ⟨.im, 0, (.sl (len a1.In) (flat eGMsg a1.In))⟩), (448, ⟨.one, 0, nob⟩), (449, ⟨(.own 3), 0, (.sl (len r2) (flat (eInt .i64) r2))⟩), (512, ⟨.one, 0, nob⟩), (513, ⟨.im, 0, (.lit (.int .i64 v3))⟩)]
def F81_l0_0_X0 (a1 : GPart) (r2 : List Int) (w3 : Unit) : TS := .on [384, 385] [(384, ⟨.one, 0, nob⟩), (385, ⟨.im, 0, (.lit (.bool false))⟩)]
def F81_l0_0_X1 (a1 : GPart) (r2 : List Int) (w3 : Unit) : TS := .on [] []
theorem F81_l0_0_ok (K : Nat) (a1 : GPart) (r2 : List Int) : ∀ (k : Nat) (v3 : Int) (r : (Unit) ⊕ (Unit)), F81_l0_0 K a1 r2 k v3 = some r → (Sum.elim (fun w => LoopEv E H hn81 0 c81_0 (F81_l0_0_S a1 r2 v3) .ret (F81_l0_0_X0 a1 r2 w)) (fun w => LoopEv E H hn81 0 c81_0 (F81_l0_0_S a1 r2 v3) (.exit 0) (F81_l0_0_X1 a1 r2 w))) r := by
 intro k
 induction k with
 | zero => intro v3 r hF; cases hF
 | succ k ih =>
  intro v3 r hF
  rw [F81_l0_0] at hF
  refine cond_some hF (fun h4 hF => ?_) (fun h4 hF => ?_)
  ·
   refine cond_some hF (fun h5 hF => ?_) (fun _ hF => nomatch hF)
   refine bind_some hF (fun x6 h7 hF => ?_)
   refine bind_some hF (fun w9 h8 hF => ?_)
   have q16 : PQ hn81 fun l => (.int (nlen (len a1.In)) (nlen (len a1.In)) :: .test (ilt v3 (nlen (len a1.In))) true :: .test (inr v3 (len a1.In)) true :: .sub (flat eGMsg a1.In) (nadd (nidx v3 2) 0) 1 [(.lit (.int .i64 x6.To))] :: .loop 2 c81_1 (F81_l1_1_S a1 r2 v3 x6 false 0) (.exit 2) (F81_l1_1_X0 a1 r2 v3 x6 w9) :: l) := fun z => ⟨rfl, h4, h5, ⟨rfl, sub_flat eGMsg_len h7 0 1 (by decide)⟩, (F81_l1_1_ok K a1 r2 v3 x6 K false 0 _ h8), z⟩
   refine cond_some hF (fun h10 hF => ?_) (fun h10 hF => ?_)
   ·
    have q17 : PQ hn81 fun l => (.test (beqb (bnot w9) false) true :: .test (beqb (bnot w9) false) true :: .test (beqb (bnot w9) false) true :: l) := fun z => ⟨(beqb_ff (bnot_t h10)), (beqb_ff (bnot_t h10)), (beqb_ff (bnot_t h10)), z⟩
    refine cond_some hF (fun h11 hF => ?_) (fun h11 hF => ?_)
    ·
     refine cond_some hF (fun h12 hF => ?_) (fun _ hF => nomatch hF)
     refine bind_some hF (fun x13 h14 hF => ?_)
     have q18 : PQ hn81 fun l => (.test (beqb (igt v3 0) true) true :: .test (beqb (igt v3 0) true) true :: .test (beqb (igt v3 0) true) true :: .test (beqb (igt v3 0) true) true :: .int (wsub .i64 v3 1) (wsub .i64 v3 1) :: .test (beqb (igt v3 0) true) true :: .test (inr (wsub .i64 v3 1) (len a1.In)) true :: .test (beqb (igt v3 0) true) true :: .test (beqb (igt v3 0) true) true :: .sub (flat eGMsg a1.In) (nadd (nidx (wsub .i64 v3 1) 2) 0) 1 [(.lit (.int .i64 x13.To))] :: .test (beqb (igt v3 0) true) true :: .test (beqb (igt v3 0) true) true :: .test (beqb (bnot w9) false) true :: .test (igt v3 0) true :: .test (bnot w9) false :: l) := fun z => ⟨(beqb_t (igt_eq h11)), (beqb_t (igt_eq h11)), (beqb_t (igt_eq h11)), (beqb_t (igt_eq h11)), rfl, (beqb_t (igt_eq h11)), h12, (beqb_t (igt_eq h11)), (beqb_t (igt_eq h11)), ⟨rfl, sub_flat eGMsg_len h14 0 1 (by decide)⟩, (beqb_t (igt_eq h11)), (beqb_t (igt_eq h11)), (beqb_ff (bnot_t h10)), (igt_eq h11), (bnot_t h10), z⟩
     refine cond_some hF (fun h15 hF => ?_) (fun h15 hF => ?_)
     ·
      obtain rfl := Option.some.inj hF
      have pz : HoldAll E H hn81 [.test (ige x13.To x6.To) true] := ⟨(ige_eq h15), trivial⟩
      exact loop_endC (h := hn81) (l := 0) (c := c81_0) (ts := F81_l0_0_S a1 r2 v3) (ts' := F81_l0_0_X0 a1 r2 ()) (ex := .ret) (q16 (q17 (q18 pz))) (by kernel_rfl) trivial
     have pz : HoldAll E H hn81 [.test (ige x13.To x6.To) false, .int (wadd .i64 v3 1) (wadd .i64 v3 1)] := ⟨(ige_eq h15), rfl, trivial⟩
     have h0 := ih _ _ hF
     have hn := fun ex ts' => loop_nextC (h := hn81) (l := 0) (c := c81_0) (ts := F81_l0_0_S a1 r2 v3) (ts1 := (F81_l0_0_S a1 r2 (wadd .i64 v3 1))) (ex := ex) (ts' := ts') (q16 (q17 (q18 pz))) (by kernel_rfl)
     cases r with
     | inl w => exact hn _ _ h0
     | inr w => exact hn _ _ h0
    have pz : HoldAll E H hn81 [.test (beqb (igt v3 0) true) false, .test (beqb (igt v3 0) true) false, .test (beqb (igt v3 0) true) false, .test (beqb (igt v3 0) true) false, .test (beqb (igt v3 0) true) false, .test (beqb (igt v3 0) true) false, .test (beqb (igt v3 0) true) false, .test (beqb (igt v3 0) true) false, .test (beqb (igt v3 0) true) false, .test (beqb (bnot w9) false) true, .test (igt v3 0) false, .test (bnot w9) false, .test false false, .int (wadd .i64 v3 1) (wadd .i64 v3 1)] := ⟨(beqb_t (igt_eq h11)), (beqb_t (igt_eq h11)), (beqb_t (igt_eq h11)), (beqb_t (igt_eq h11)), (beqb_t (igt_eq h11)), (beqb_t (igt_eq h11)), (beqb_t (igt_eq h11)), (beqb_t (igt_eq h11)), (beqb_t (igt_eq h11)), (beqb_ff (bnot_t h10)), (igt_eq h11), (bnot_t h10), rfl, rfl, trivial⟩
    have h0 := ih _ _ hF
    have hn := fun ex ts' => loop_nextC (h := hn81) (l := 0) (c := c81_0) (ts := F81_l0_0_S a1 r2 v3) (ts1 := (F81_l0_0_S a1 r2 (wadd .i64 v3 1))) (ex := ex) (ts' := ts') (q16 (q17 pz)) (by kernel_rfl)
    cases r with
    | inl w => exact hn _ _ h0
    | inr w => exact hn _ _ h0
   obtain rfl := Option.some.inj hF
   have pz : HoldAll E H hn81 [.test (beqb (bnot w9) false) false, .test (beqb (bnot w9) false) false, .test (beqb (bnot w9) false) false, .test (beqb (bnot w9) false) false, .test (bnot w9) true, .test true true] := ⟨(beqb_ft (bnot_f h10)), (beqb_ft (bnot_f h10)), (beqb_ft (bnot_f h10)), (beqb_ft (bnot_f h10)), (bnot_f h10), rfl, trivial⟩
   exact loop_endC (h := hn81) (l := 0) (c := c81_0) (ts := F81_l0_0_S a1 r2 v3) (ts' := F81_l0_0_X0 a1 r2 ()) (ex := .ret) (q16 pz) (by kernel_rfl) trivial
  obtain rfl := Option.some.inj hF
  have pz : HoldAll E H hn81 [.int (nlen (len a1.In)) (nlen (len a1.In)), .test (ilt v3 (nlen (len a1.In))) false] := ⟨rfl, h4, trivial⟩
  exact loop_endC (h := hn81) (l := 0) (c := c81_0) (ts := F81_l0_0_S a1 r2 v3) (ts' := F81_l0_0_X1 a1 r2 ()) (ex := (.exit 0)) pz (by kernel_rfl) trivial
def F81 (K : Nat) (a1 : GGraph) (a2 : GJob) (a3 : GPart) : Option (Bool) :=
 (F59 K a1 a2).bind fun r4 =>
 bif (ieq r4 0) then
  (bif (ilt a3.P 0) then
   (some false)
  else
  bif (ile a2.Parts a3.P) then
   (some false)
  else
  bif (ilt a3.Step 0) then
   (some false)
  else
  bif (ilt 40 a3.Step) then
   (some false)
  else
  (F139 K a1 a2 a3.P).bind fun r5 =>
  bif (ieq (nlen (len a3.Vals)) (nlen (len r5))) then
   (bif (ieq (nlen (len a3.Rest)) (nlen (len r5))) then
    ((F81_l0_0 K a3 r5 K 0).bind fun y6 =>
    Sum.elim (fun w7 =>
     some false)
     (fun w8 =>
     some true) y6)
   else
   some false)
  else
  some false)
 else
 some false
theorem F81_ok (K : Nat) (a1 : GGraph) (a2 : GJob) (a3 : GPart) (r : Bool) (hF : F81 K a1 a2 a3 = some r) : Evt E H 81 [.agg (eGGraph a1), .agg (eGJob a2), .agg (eGPart a3)] (F81_res r) := by
 rw [F81] at hF
 refine bind_some hF (fun r4 h5 hF => ?_)
 refine cond_some hF (fun h6 hF => ?_) (fun h6 hF => ?_)
 ·
  have q19 : PQ hn81 fun l => (.call 59 [.agg (eGGraph a1), .agg (eGJob a2)] (F59_res r4) :: .test (leadsAny (Res.mk [(.one (.im (.lit (.int .i64 r4))))] [])) false :: .test (beqb (ine r4 0) false) true :: .test (beqb (ine r4 0) false) true :: .test (beqb (ine r4 0) false) true :: .test (ine r4 0) false :: l) := fun z => ⟨(F59_ok K a1 a2 _ h5), (leads_ok (by simp [leadsAny, RV.leads, RC.leads, leadsT, hasSl_lit, flat_ns eGJob_ns])), (beqb_ff (ine_t h6)), (beqb_ff (ine_t h6)), (beqb_ff (ine_t h6)), (ine_t h6), z⟩
  refine cond_some hF (fun h7 hF => ?_) (fun h7 hF => ?_)
  ·
   obtain rfl := Option.some.inj hF
   have pz : HoldAll E H hn81 [.test (beqb (ilt a3.P 0) false) false, .test (beqb (ilt a3.P 0) false) false, .test (beqb (ilt a3.P 0) false) false, .test (beqb (ilt a3.P 0) false) false, .test (beqb (ilt a3.P 0) false) false, .test (ilt a3.P 0) true, .test (beqb true false) false, .test (beqb true false) false, .test (beqb true false) false, .test true true, .test (beqb true false) false, .test (beqb true false) false, .test (beqb true false) false, .test true true, .test true true] := ⟨(beqb_ft h7), (beqb_ft h7), (beqb_ft h7), (beqb_ft h7), (beqb_ft h7), h7, (beqb_ft rfl), (beqb_ft rfl), (beqb_ft rfl), rfl, (beqb_ft rfl), (beqb_ft rfl), (beqb_ft rfl), rfl, rfl, trivial⟩
   exact fn_playC hn81 (r := F81_res false) (q19 pz) (by kernel_rfl) (by kernel_rfl)
  have q20 : PQ hn81 fun l => (.test (beqb (ilt a3.P 0) false) true :: .test (beqb (ilt a3.P 0) false) true :: .test (beqb (ilt a3.P 0) false) true :: .test (beqb (ilt a3.P 0) false) true :: .test (beqb (ilt a3.P 0) false) true :: .test (ilt a3.P 0) false :: l) := fun z => ⟨(beqb_ff h7), (beqb_ff h7), (beqb_ff h7), (beqb_ff h7), (beqb_ff h7), h7, z⟩
  refine cond_some hF (fun h8 hF => ?_) (fun h8 hF => ?_)
  ·
   obtain rfl := Option.some.inj hF
   have pz : HoldAll E H hn81 [.test (beqb (ige a3.P a2.Parts) false) false, .test (beqb (ige a3.P a2.Parts) false) false, .test (beqb (ige a3.P a2.Parts) false) false, .test (ige a3.P a2.Parts) true, .test (beqb true false) false, .test (beqb true false) false, .test (beqb true false) false, .test true true, .test true true] := ⟨(beqb_ft (ige_eq h8)), (beqb_ft (ige_eq h8)), (beqb_ft (ige_eq h8)), (ige_eq h8), (beqb_ft rfl), (beqb_ft rfl), (beqb_ft rfl), rfl, rfl, trivial⟩
   exact fn_playC hn81 (r := F81_res false) (q19 (q20 pz)) (by kernel_rfl) (by kernel_rfl)
  have q21 : PQ hn81 fun l => (.test (beqb (ige a3.P a2.Parts) false) true :: .test (beqb (ige a3.P a2.Parts) false) true :: .test (beqb (ige a3.P a2.Parts) false) true :: .test (ige a3.P a2.Parts) false :: l) := fun z => ⟨(beqb_ff (ige_eq h8)), (beqb_ff (ige_eq h8)), (beqb_ff (ige_eq h8)), (ige_eq h8), z⟩
  refine cond_some hF (fun h9 hF => ?_) (fun h9 hF => ?_)
  ·
   obtain rfl := Option.some.inj hF
   have pz : HoldAll E H hn81 [.test (beqb (ilt a3.Step 0) false) false, .test (beqb (ilt a3.Step 0) false) false, .test (beqb (ilt a3.Step 0) false) false, .test (ilt a3.Step 0) true, .test true true] := ⟨(beqb_ft h9), (beqb_ft h9), (beqb_ft h9), h9, rfl, trivial⟩
   exact fn_playC hn81 (r := F81_res false) (q19 (q20 (q21 pz))) (by kernel_rfl) (by kernel_rfl)
  have q22 : PQ hn81 fun l => (.test (beqb (ilt a3.Step 0) false) true :: .test (beqb (ilt a3.Step 0) false) true :: .test (beqb (ilt a3.Step 0) false) true :: .test (ilt a3.Step 0) false :: l) := fun z => ⟨(beqb_ff h9), (beqb_ff h9), (beqb_ff h9), h9, z⟩
  refine cond_some hF (fun h10 hF => ?_) (fun h10 hF => ?_)
  ·
   obtain rfl := Option.some.inj hF
   have pz : HoldAll E H hn81 [.test (igt a3.Step 40) true] := ⟨(igt_eq h10), trivial⟩
   exact fn_playC hn81 (r := F81_res false) (q19 (q20 (q21 (q22 pz)))) (by kernel_rfl) (by kernel_rfl)
  refine bind_some hF (fun r11 h12 hF => ?_)
  have q23 : PQ hn81 fun l => (.test (igt a3.Step 40) false :: .call 139 [.agg (eGGraph a1), .agg (eGJob a2), .one (.lit (.int .i64 a3.P))] (F139_res r11) :: .test (leadsAny (Res.mk [(.one (.own 3 (.sl (len r11) (flat (eInt .i64) r11))))] [])) false :: .int (nlen (len a3.Vals)) (nlen (len a3.Vals)) :: .int (nlen (len r11)) (nlen (len r11)) :: l) := fun z => ⟨(igt_eq h10), (F139_ok K a1 a2 a3.P _ h12), (leads_ok (by simp [leadsAny, RV.leads, RC.leads, leadsT, hasSl_lit, flat_ns (eInt_ns _), flat_ns eGJob_ns])), rfl, rfl, z⟩
  refine cond_some hF (fun h13 hF => ?_) (fun h13 hF => ?_)
  ·
   have q24 : PQ hn81 fun l => (.test (beqb (ine (nlen (len a3.Vals)) (nlen (len r11))) false) true :: .test (beqb (ine (nlen (len a3.Vals)) (nlen (len r11))) false) true :: .test (beqb (ine (nlen (len a3.Vals)) (nlen (len r11))) false) true :: .int (nlen (len a3.Rest)) (nlen (len a3.Rest)) :: .test (beqb (ine (nlen (len a3.Vals)) (nlen (len r11))) false) true :: .test (beqb (ine (nlen (len a3.Vals)) (nlen (len r11))) false) true :: .int (nlen (len r11)) (nlen (len r11)) :: .test (beqb (ine (nlen (len a3.Vals)) (nlen (len r11))) false) true :: .test (ine (nlen (len a3.Vals)) (nlen (len r11))) false :: l) := fun z => ⟨(beqb_ff (ine_t h13)), (beqb_ff (ine_t h13)), (beqb_ff (ine_t h13)), rfl, (beqb_ff (ine_t h13)), (beqb_ff (ine_t h13)), rfl, (beqb_ff (ine_t h13)), (ine_t h13), z⟩
   refine cond_some hF (fun h14 hF => ?_) (fun h14 hF => ?_)
   ·
    refine bind_some hF (fun y16 h15 hF => ?_)
    refine sum_some hF (fun w17 hx hF => ?_) (fun w18 hx hF => ?_)
    ·
     subst hx
     obtain rfl := Option.some.inj hF
     have pz : HoldAll E H hn81 [.test (ine (nlen (len a3.Rest)) (nlen (len r11))) false, .loop 0 c81_0 (F81_l0_0_S a3 r11 0) .ret (F81_l0_0_X0 a3 r11 w17)] := ⟨(ine_t h14), (F81_l0_0_ok K a3 r11 K 0 _ h15), trivial⟩
     exact fn_playC hn81 (r := F81_res false) (q19 (q20 (q21 (q22 (q23 (q24 pz)))))) (by kernel_rfl) (by kernel_rfl)
    subst hx
    obtain rfl := Option.some.inj hF
    have pz : HoldAll E H hn81 [.test (ine (nlen (len a3.Rest)) (nlen (len r11))) false, .loop 0 c81_0 (F81_l0_0_S a3 r11 0) (.exit 0) (F81_l0_0_X1 a3 r11 w18)] := ⟨(ine_t h14), (F81_l0_0_ok K a3 r11 K 0 _ h15), trivial⟩
    exact fn_playC hn81 (r := F81_res true) (q19 (q20 (q21 (q22 (q23 (q24 pz)))))) (by kernel_rfl) (by kernel_rfl)
   obtain rfl := Option.some.inj hF
   have pz : HoldAll E H hn81 [.test (ine (nlen (len a3.Rest)) (nlen (len r11))) true] := ⟨(ine_f h14), trivial⟩
   exact fn_playC hn81 (r := F81_res false) (q19 (q20 (q21 (q22 (q23 (q24 pz)))))) (by kernel_rfl) (by kernel_rfl)
  obtain rfl := Option.some.inj hF
  have pz : HoldAll E H hn81 [.test (beqb (ine (nlen (len a3.Vals)) (nlen (len r11))) false) false, .test (beqb (ine (nlen (len a3.Vals)) (nlen (len r11))) false) false, .test (beqb (ine (nlen (len a3.Vals)) (nlen (len r11))) false) false, .test (beqb (ine (nlen (len a3.Vals)) (nlen (len r11))) false) false, .test (beqb (ine (nlen (len a3.Vals)) (nlen (len r11))) false) false, .test (beqb (ine (nlen (len a3.Vals)) (nlen (len r11))) false) false, .test (ine (nlen (len a3.Vals)) (nlen (len r11))) true, .test true true] := ⟨(beqb_ft (ine_f h13)), (beqb_ft (ine_f h13)), (beqb_ft (ine_f h13)), (beqb_ft (ine_f h13)), (beqb_ft (ine_f h13)), (beqb_ft (ine_f h13)), (ine_f h13), rfl, trivial⟩
  exact fn_playC hn81 (r := F81_res false) (q19 (q20 (q21 (q22 (q23 pz))))) (by kernel_rfl) (by kernel_rfl)
 obtain rfl := Option.some.inj hF
 have pz : HoldAll E H hn81 [.call 59 [.agg (eGGraph a1), .agg (eGJob a2)] (F59_res r4), .test (leadsAny (Res.mk [(.one (.im (.lit (.int .i64 r4))))] [])) false, .test (beqb (ine r4 0) false) false, .test (beqb (ine r4 0) false) false, .test (beqb (ine r4 0) false) false, .test (ine r4 0) true, .test (beqb true false) false, .test (beqb true false) false, .test (beqb true false) false, .test (beqb true false) false, .test (beqb true false) false, .test true true, .test (beqb true false) false, .test (beqb true false) false, .test (beqb true false) false, .test true true, .test (beqb true false) false, .test (beqb true false) false, .test (beqb true false) false, .test true true, .test true true] := ⟨(F59_ok K a1 a2 _ h5), (leads_ok (by simp [leadsAny, RV.leads, RC.leads, leadsT, hasSl_lit, flat_ns eGJob_ns])), (beqb_ft (ine_f h6)), (beqb_ft (ine_f h6)), (beqb_ft (ine_f h6)), (ine_f h6), (beqb_ft rfl), (beqb_ft rfl), (beqb_ft rfl), (beqb_ft rfl), (beqb_ft rfl), rfl, (beqb_ft rfl), (beqb_ft rfl), (beqb_ft rfl), rfl, (beqb_ft rfl), (beqb_ft rfl), (beqb_ft rfl), rfl, rfl, trivial⟩
 exact fn_playC hn81 (r := F81_res false) pz (by kernel_rfl) (by kernel_rfl)
def inOkS (n parts p : Int) : Int → List GMsg → Bool
 | _, [] => true
 | prev, m :: r => ilt prev m.To && (ilt m.To n && (ieq (m.To % parts) p && inOkS n parts p m.To r))
def sumU (b : Bool) : Unit ⊕ Unit := bif b then .inr () else .inl ()
theorem sumU_elim (b : Bool) : (some (sumU b)).bind (fun y => Sum.elim (fun w => some false) (fun w => some true) y) = some b := by cases b <;> rfl
theorem not_ile {a b : Int} : ile a b = !(ilt b a) := by
 unfold ile ilt; by_cases h : b < a <;> simp [h] <;> omega
def partRight (g : GGraph) (j : GJob) (x : GPart) : Bool :=
 ieq (jcheck g j) 0 && (ile 0 x.P && (ilt x.P j.Parts && (ile 0 x.Step && (ile x.Step 40 && (ieq (x.Vals.length : Int) (countS g j x.P) && (ieq (x.Rest.length : Int) (countS g j x.P) && inOkS g.N j.Parts x.P (-1) x.In))))))
theorem F80_loop {K : Nat} (g : GGraph) (j : GJob) (x : GPart) (hp : 1 ≤ j.Parts) (hl : x.In.length < 1000000) (hK : x.In.length < K) : F80_l0_0 K g j x K (-1) 0 = some (sumU (inOkS g.N j.Parts x.P (-1) x.In)) := by
 let step : GMsg → Int → (Int → Option (Unit ⊕ Unit)) → Option (Unit ⊕ Unit) := fun m s c =>
   bif (ile m.To s) then (some (.inl ())) else bif (ile g.N m.To) then (some (.inl ())) else bif (izero j.Parts) then none else bif (ieq (wrem m.To j.Parts) x.P) then c m.To else some (.inl ())
 have h := scanL (l := x.In) (L := fun k s i => F80_l0_0 K g j x k s i) step (fun _ => some (.inr ())) (fun k s i _ => rfl) (by omega) (K := K) hK (-1)
 have hz : izero j.Parts = false := decide_eq_false (by omega)
 have hw : ∀ (l : List GMsg) (s : Int), -1 ≤ s → goL step (fun _ => some (.inr ())) l s = some (sumU (inOkS g.N j.Parts x.P s l)) := by
   intro l
   induction l with
   | nil => intro s _; rfl
   | cons m l ih =>
     intro s hs
     rw [goL]
     show (bif (ile m.To s) then (some (.inl ())) else bif (ile g.N m.To) then (some (.inl ())) else bif (izero j.Parts) then none else bif (ieq (wrem m.To j.Parts) x.P) then goL step (fun _ => some (.inr ())) l m.To else some (.inl ())) = _
     rw [inOkS, hz, not_ile, not_ile]
     cases h1 : ilt s m.To
     · rfl
     · have h1' := ilt_iff.1 h1
       rw [wrem_emod (by omega), ih m.To (by omega)]
       cases ilt m.To g.N <;> cases ieq (m.To % j.Parts) x.P <;> rfl
 rw [hw _ _ (by omega)] at h
 exact h
theorem F80_spec {K : Nat} (hK : 1000 ≤ K) (g : GGraph) (j : GJob) (x : GPart) (hl : x.In.length < 1000000) (hk : x.In.length < K) (hp : -9223372036854775808 ≤ x.P ∧ x.P ≤ 9223372036854775807) : F80 K g j x = some (partRight g j x) := by
 rw [F80, F94_spec (by omega), Option.bind_some, partRight]
 cases hc : ieq (jcheck g j) 0
 · rfl
 · obtain ⟨hg, p1, p2, p3, p4, p5, p6, p7, p8⟩ := jcheck_ok hc
   rw [cond_true, F77_spec (by omega) g j x.P hp, hc, F80_loop g j x p7 hl hk]
   have n1 : nlen (len x.Vals) = (x.Vals.length : Int) := rfl
   have n2 : nlen (len x.Rest) = (x.Rest.length : Int) := rfl
   rw [ilt_not' x.P 0, not_ile (a := j.Parts), ilt_not' x.Step 0, ilt_not' 40 x.Step, n1, n2, cond_true, Option.bind_some, sumU_elim]
   cases ile 0 x.P <;> cases ilt x.P j.Parts <;> cases ile 0 x.Step <;> cases ile x.Step 40 <;> cases ieq (x.Vals.length : Int) (countS g j x.P) <;> cases ieq (x.Rest.length : Int) (countS g j x.P) <;> rfl
theorem any_verts {g : GGraph} {j : GJob} (hp : 1 ≤ j.Parts) (p to : Int) : (((vertsS g j p).map Int.ofNat).any fun v => ieq v to) = (ile 0 to && (ilt to g.N && ieq (to % j.Parts) p)) := by
 rw [Bool.eq_iff_iff]
 simp only [List.any_map, List.any_eq_true, Function.comp, Bool.and_eq_true, ile_iff, ilt_iff, ieq_iff]
 constructor
 · rintro ⟨v, hv, e⟩
   have := (mem_verts hp).1 hv
   have e' : (v : Int) = to := e
   rw [← e']; exact ⟨by omega, this⟩
 · rintro ⟨h0, h1, h2⟩
   obtain ⟨v, rfl⟩ := Int.eq_ofNat_of_zero_le h0
   exact ⟨v, (mem_verts hp).2 ⟨h1, h2⟩, rfl⟩
theorem F81_inner {K : Nat} (x : GPart) (l : List Int) (v : Int) (m : GMsg) (hl : l.length < 1000000) (hk : l.length < K) : F81_l1_1 K x l v m K false 0 = some (l.any fun v => ieq v m.To) := by
 have h := scanL (l := l) (L := fun k s i => F81_l1_1 K x l v m k s i) (fun y s c => bif s then c true else c (ieq y m.To)) (fun s => some s) (fun k s i _ => by
   show F81_l1_1 K x l v m (k + 1) s i = _
   rw [F81_l1_1]
   rcases at_idx l i with ⟨z, e1, e2, e3, e4⟩ | ⟨e1, e2⟩
   · rw [e2, e3, e4]; cases s <;> rfl
   · rw [e2]; rfl) (by omega) (K := K) hk false
 have hw : ∀ (l : List Int) (s : Bool), goL (fun y s c => bif s then c true else c (ieq y m.To)) (fun s => some s) l s = some (s || l.any fun v => ieq v m.To) := by
   intro l
   induction l with
   | nil => intro s; simp [goL]
   | cons y l ih =>
     intro s
     rw [goL]
     cases s
     · rw [cond_false, ih, List.any_cons, Bool.false_or]
     · rw [cond_true, ih]; rfl
 rw [hw, Bool.false_or] at h
 exact h
theorem verts_len (g : GGraph) (j : GJob) (hn : g.N ≤ 24) (p : Int) : (vertsS g j p).length ≤ 24 := by
 unfold vertsS vertsN
 refine Nat.le_trans (List.length_filter_le _ _) ?_
 simp; omega
theorem F81_loop {K : Nat} (hK : 1000 ≤ K) (g : GGraph) (j : GJob) (x : GPart) (hp : 1 ≤ j.Parts) (hn : g.N ≤ 24) (hl : x.In.length < 1000000) (hk : x.In.length < K) : F81_l0_0 K x ((vertsS g j x.P).map Int.ofNat) K 0 = some (sumU (inOkS g.N j.Parts x.P (-1) x.In)) := by
 have hv := verts_len g j hn x.P
 let step : Nat → GMsg → Unit → (Unit → Option (Unit ⊕ Unit)) → Option (Unit ⊕ Unit) := fun i m _ c =>
     (F81_l1_1 K x ((vertsS g j x.P).map Int.ofNat) (i : Int) m K false 0).bind fun w3384 =>
     bif w3384 then
       (bif (ilt 0 (i : Int)) then
         (bif (inr (wsub .i64 (i : Int) 1) (len x.In)) then
         (elAt x.In (wsub .i64 (i : Int) 1)).bind fun x3389 =>
         bif (ile m.To x3389.To) then (some (.inl ())) else c ()
         else none)
       else c ())
     else some (.inl ())
 have h := scanI (l := x.In) (L := fun k (_ : Unit) i => F81_l0_0 K x ((vertsS g j x.P).map Int.ofNat) k i) step (fun _ => some (.inr ())) (fun k st i hi => rfl) (by omega) K () 0 (by omega) (by omega)
 have hw : ∀ (r : List GMsg) (i : Nat), x.In.drop i = r → goI step (fun _ => some (.inr ())) i r () = some (sumU (inOkS g.N j.Parts x.P (match prevOf x.In i with | none => -1 | some d => if 0 ≤ d.To then d.To else -1) r)) ∨ (∃ d, prevOf x.In i = some d ∧ d.To < 0) := by
   intro r
   induction r with
   | nil => intro i _; exact .inl rfl
   | cons m r ih =>
     intro i hr
     obtain ⟨n1, n2, hi⟩ := prev_next hr
     by_cases hneg : ∃ d, prevOf x.In i = some d ∧ d.To < 0
     · exact .inr hneg
     left
     rw [goI]
     show ((F81_l1_1 K x ((vertsS g j x.P).map Int.ofNat) (i : Int) m K false 0).bind fun w3384 =>
     bif w3384 then
       (bif (ilt 0 (i : Int)) then
         (bif (inr (wsub .i64 (i : Int) 1) (len x.In)) then
         (elAt x.In (wsub .i64 (i : Int) 1)).bind fun x3389 =>
         bif (ile m.To x3389.To) then (some (.inl ())) else goI step (fun _ => some (.inr ())) (i + 1) r ()
         else none)
       else goI step (fun _ => some (.inr ())) (i + 1) r ())
     else some (.inl ())) = _
     rw [F81_inner x _ _ m (by simp; omega) (by simp; omega), any_verts hp, Option.bind_some]
     cases h0 : ile 0 m.To
     · have := ile_f.1 h0
       have hno : ∀ a : Int, -1 ≤ a → ilt a m.To = false := fun a ha => ilt_f.2 (by omega)
       have hprev : (-1 : Int) ≤ (match prevOf x.In i with | none => -1 | some d => if 0 ≤ d.To then d.To else -1) := by
         split
         · omega
         · split <;> omega
       rw [inOkS, hno _ hprev]; rfl
     · have hm0 := ile_iff.1 h0
       have nx : goI step (fun _ => some (.inr ())) (i + 1) r () = some (sumU (inOkS g.N j.Parts x.P m.To r)) := by
         rcases ih (i + 1) n2 with q | ⟨d, q1, q2⟩
         · rw [n1] at q
           dsimp only at q
           rw [if_pos hm0] at q; exact q
         · rw [n1] at q1; cases q1; omega
       rw [nx, inOkS]
       cases i with
       | zero =>
         have e1 : ilt 0 ((0 : Nat) : Int) = false := rfl
         have e2 : (match prevOf x.In 0 with | none => (-1 : Int) | some d => if 0 ≤ d.To then d.To else -1) = -1 := rfl
         rw [e1, e2, ilt_iff.2 (by omega : (-1 : Int) < m.To)]
         cases ilt m.To g.N <;> cases ieq (m.To % j.Parts) x.P <;> rfl
       | succ q =>
         obtain ⟨d, p1, p2, p3, p4⟩ := prev_at (l := x.In) (i := q + 1) (by omega) hi (by omega)
         have hd : ¬ d.To < 0 := fun hh => hneg ⟨d, p1, hh⟩
         have e1 : ilt 0 ((q + 1 : Nat) : Int) = true := ilt_iff.2 (by omega)
         rw [e1, p2, p3, p4, p1]
         simp only [Option.bind_some, cond_true, Bool.true_and, not_ile (a := m.To), if_pos (show 0 ≤ d.To by omega)]
         cases ilt d.To m.To <;> cases ilt m.To g.N <;> cases ieq (m.To % j.Parts) x.P <;> rfl
 rcases hw x.In 0 rfl with q | ⟨d, q1, _⟩
 · rw [List.drop_zero, q] at h; exact h
 · cases q1
theorem F81_spec {K : Nat} (hK : 1000 ≤ K) (g : GGraph) (j : GJob) (x : GPart) (hl : x.In.length < 1000000) (hk : x.In.length < K) : F81 K g j x = some (partRight g j x) := by
 rw [F81, F59_spec (by omega), Option.bind_some, partRight]
 cases hc : ieq (jcheck g j) 0
 · rfl
 · obtain ⟨hg, p1, p2, p3, p4, p5, p6, p7, p8⟩ := jcheck_ok hc
   obtain ⟨g1, g2, _, _⟩ := gcheck_ok hg
   have n3 : nlen (len ((vertsS g j x.P).map Int.ofNat)) = countS g j x.P := by simp [nlen, len, countS]
   rw [cond_true, F139_spec (by omega) p7 p8 g2, Option.bind_some, F81_loop hK g j x p7 g2 hl hk, n3]
   have n1 : nlen (len x.Vals) = (x.Vals.length : Int) := rfl
   have n2 : nlen (len x.Rest) = (x.Rest.length : Int) := rfl
   rw [ilt_not' x.P 0, not_ile (a := j.Parts), ilt_not' x.Step 0, ilt_not' 40 x.Step, n1, n2, sumU_elim]
   cases ile 0 x.P <;> cases ilt x.P j.Parts <;> cases ile 0 x.Step <;> cases ile x.Step 40 <;> cases ieq (x.Vals.length : Int) (countS g j x.P) <;> cases ieq (x.Rest.length : Int) (countS g j x.P) <;> rfl
def progL : Nat → Nat → Nat → Nat → List Nat
 | 0, _, _, _ => []
 | k + 1, n, parts, v => if v < n then v :: progL k n parts (v + parts) else []
theorem prog_all : ∀ parts < 7, 0 < parts → ∀ n < 25, ∀ p < parts, progL 30 n parts p = (List.range n).filter fun v => v % parts == p := by decide +kernel
theorem prog_verts {n parts : Nat} (h1 : 0 < parts) (h2 : parts < 7) (hn : n < 25) {p : Nat} (hp : p < parts) : progL 30 n parts p = vertsN n parts (p : Int) := by
 rw [prog_all parts h2 h1 n hn p hp, vertsN]
 refine List.filter_congr fun v _ => ?_
 rw [Bool.eq_iff_iff, ieq_iff, beq_iff_eq]; omega
theorem partRight_ok {g : GGraph} {j : GJob} {x : GPart} (h : partRight g j x = true) : ieq (jcheck g j) 0 = true ∧ 0 ≤ x.P ∧ x.P < j.Parts ∧ 0 ≤ x.Step ∧ x.Step ≤ 40 ∧ (x.Vals.length : Int) = countS g j x.P ∧ (x.Rest.length : Int) = countS g j x.P ∧ inOkS g.N j.Parts x.P (-1) x.In = true := by
 simp only [partRight, Bool.and_eq_true, ile_iff, ilt_iff, ieq_iff] at h
 obtain ⟨h1, h2, h3, h4, h5, h6, h7, h8⟩ := h
 exact ⟨ieq_iff.2 h1, h2, h3, h4, h5, h6, h7, h8⟩
def zeroP : GPart := GPart.mk 0 0 [] [] []
noncomputable def hn69 : Hint := { H 69 with nt := 35, prot := 0 }
noncomputable def c69_0 : Code := loopOf E 69 0
def F69_res (r1 : List GEdge) : Res := ⟨[(.one (.own 89 (.sl (len r1) (flat eGEdge r1))))], []⟩
def F69_l0_0 (K : Nat) (a1 : GGraph) (a2 : Int) : Nat → List GEdge → Int → Option (List GEdge)
 | 0, _, _ => none
 | k + 1, v3, v4 =>
  bif (ilt v4 (nlen (len a1.Edges))) then
   (bif (inr v4 (len a1.Edges)) then
   (elAt a1.Edges v4).bind fun x5 =>
   bif (ieq x5.From a2) then
    (bif (apok (len v3) 1 24) then
    F69_l0_0 K a1 a2 k (appL v3 [x5]) (wadd .i64 v4 1)
    else none)
   else
   F69_l0_0 K a1 a2 k v3 (wadd .i64 v4 1)
   else none)
  else
  some v3
def F69_l0_0_S (a1 : GGraph) (a2 : Int) (v3 : List GEdge) (v4 : Int) : TS := .on [64, 65, 128, 129, 130, 320, 321, 384, 385] [(64, ⟨.one, 0, nob⟩), (65, ⟨.im, 0, (.lit (.int .i64 a2))⟩), (128, ⟨(.box 62 2), 0, nob⟩), (129, ⟨.im, 0, (.lit (.int .i64 a1.N))⟩), (130, ⟨.im, 0, (.sl (len a1.Edges) (flat eGEdge a1.Edges))⟩), (320, ⟨.one, 0, nob⟩), (321, ⟨(.own 89), 0, (.sl (len v3) (flat eGEdge v3))⟩), (384, ⟨.one, 0, nob⟩), (385, ⟨.im, 0, (.lit (.int .i64 v4))⟩)]
def F69_l0_0_X0 (a1 : GGraph) (a2 : Int) (w3 : List GEdge) : TS := .on [320, 321] [(320, ⟨.one, 0, nob⟩), (321, ⟨(.own 89), 0, (.sl (len w3) (flat eGEdge w3))⟩)]
theorem F69_l0_0_ok (K : Nat) (a1 : GGraph) (a2 : Int) : ∀ (k : Nat) (v3 : List GEdge) (v4 : Int) (r : List GEdge), F69_l0_0 K a1 a2 k v3 v4 = some r → LoopEv E H hn69 0 c69_0 (F69_l0_0_S a1 a2 v3 v4) (.exit 0) (F69_l0_0_X0 a1 a2 r) := by
 intro k
 induction k with
 | zero => intro v3 v4 r hF; cases hF
 | succ k ih =>
  intro v3 v4 r hF
  rw [F69_l0_0] at hF
  refine cond_some hF (fun h5 hF => ?_) (fun h5 hF => ?_)
  ·
   refine cond_some hF (fun h6 hF => ?_) (fun _ hF => nomatch hF)
   refine bind_some hF (fun x7 h8 hF => ?_)
   have q11 : PQ hn69 fun l => (.int (nlen (len a1.Edges)) (nlen (len a1.Edges)) :: .test (ilt v4 (nlen (len a1.Edges))) true :: .test (inr v4 (len a1.Edges)) true :: .sub (flat eGEdge a1.Edges) (nadd (nidx v4 3) 0) 1 [(.lit (.int .i64 x7.From))] :: l) := fun z => ⟨rfl, h5, h6, ⟨rfl, sub_flat eGEdge_len h8 0 1 (by decide)⟩, z⟩
   refine cond_some hF (fun h9 hF => ?_) (fun h9 hF => ?_)
   ·
    refine cond_some hF (fun h10 hF => ?_) (fun _ hF => nomatch hF)
    have pz : HoldAll E H hn69 [.test (ieq x7.From a2) true, .test (inr v4 (len a1.Edges)) true, .sub (flat eGEdge a1.Edges) (nidx v4 3) 3 [(.lit (.int .i64 x7.From)), (.lit (.int .i64 x7.To)), (.lit (.int .i64 x7.W))], .test (leqm [(.lit (.int .i64 x7.From)), (.lit (.int .i64 x7.To)), (.lit (.int .i64 x7.W))] 1 3) true, .test (apok (len v3) 1 24) true, .sl (nadd (len v3) 1) (lapp (flat eGEdge v3) [(.lit (.int .i64 x7.From)), (.lit (.int .i64 x7.To)), (.lit (.int .i64 x7.W))]) (len (α := GEdge) (appL v3 [x7])) (flat eGEdge (appL v3 [x7])), .int (wadd .i64 v4 1) (wadd .i64 v4 1)] := ⟨h9, h6, ⟨rfl, sub_flat0 eGEdge_len h8 3 (by decide)⟩, rfl, h10, (app_ok (enc := eGEdge) (v3 : List GEdge) [x7]), rfl, trivial⟩
    have h0 := ih _ _ _ hF
    have hn := fun ex ts' => loop_nextC (h := hn69) (l := 0) (c := c69_0) (ts := F69_l0_0_S a1 a2 v3 v4) (ts1 := (F69_l0_0_S a1 a2 (appL v3 [x7]) (wadd .i64 v4 1))) (ex := ex) (ts' := ts') (q11 pz) (by kernel_rfl)
    exact hn _ _ h0
   have pz : HoldAll E H hn69 [.test (ieq x7.From a2) false, .int (wadd .i64 v4 1) (wadd .i64 v4 1)] := ⟨h9, rfl, trivial⟩
   have h0 := ih _ _ _ hF
   have hn := fun ex ts' => loop_nextC (h := hn69) (l := 0) (c := c69_0) (ts := F69_l0_0_S a1 a2 v3 v4) (ts1 := (F69_l0_0_S a1 a2 v3 (wadd .i64 v4 1))) (ex := ex) (ts' := ts') (q11 pz) (by kernel_rfl)
   exact hn _ _ h0
  obtain rfl := Option.some.inj hF
  have pz : HoldAll E H hn69 [.int (nlen (len a1.Edges)) (nlen (len a1.Edges)), .test (ilt v4 (nlen (len a1.Edges))) false] := ⟨rfl, h5, trivial⟩
  exact loop_endC (h := hn69) (l := 0) (c := c69_0) (ts := F69_l0_0_S a1 a2 v3 v4) (ts' := F69_l0_0_X0 a1 a2 v3) (ex := (.exit 0)) pz (by kernel_rfl) trivial
def F69 (K : Nat) (a1 : GGraph) (a2 : Int) : Option (List GEdge) :=
 (F65 K a1).bind fun r3 =>
 bif (ieq r3 0) then
  ((F69_l0_0 K a1 a2 K [] 0).bind fun w4 =>
  some w4)
 else
 some []
theorem F69_ok (K : Nat) (a1 : GGraph) (a2 : Int) (r : List GEdge) (hF : F69 K a1 a2 = some r) : Evt E H 69 [.agg (eGGraph a1), .one (.lit (.int .i64 a2))] (F69_res r) := by
 rw [F69] at hF
 refine bind_some hF (fun r3 h4 hF => ?_)
 refine cond_some hF (fun h5 hF => ?_) (fun h5 hF => ?_)
 ·
  refine bind_some hF (fun w7 h6 hF => ?_)
  obtain rfl := Option.some.inj hF
  have pz : HoldAll E H hn69 [.call 65 [.agg (eGGraph a1)] (F65_res r3), .test (leadsAny (Res.mk [(.one (.im (.lit (.int .i64 r3))))] [])) false, .test (ine r3 0) false, .loop 0 c69_0 (F69_l0_0_S a1 a2 [] 0) (.exit 0) (F69_l0_0_X0 a1 a2 w7)] := ⟨(F65_ok K a1 _ h4), (leads_ok (by simp [leadsAny, RV.leads, RC.leads, leadsT, hasSl_lit])), (ine_t h5), (F69_l0_0_ok K a1 a2 K [] 0 _ h6), trivial⟩
  exact fn_playC hn69 (r := F69_res w7) pz (by kernel_rfl) (by kernel_rfl)
 obtain rfl := Option.some.inj hF
 have pz : HoldAll E H hn69 [.call 65 [.agg (eGGraph a1)] (F65_res r3), .test (leadsAny (Res.mk [(.one (.im (.lit (.int .i64 r3))))] [])) false, .test (ine r3 0) true] := ⟨(F65_ok K a1 _ h4), (leads_ok (by simp [leadsAny, RV.leads, RC.leads, leadsT, hasSl_lit])), (ine_f h5), trivial⟩
 exact fn_playC hn69 (r := F69_res []) pz (by kernel_rfl) (by kernel_rfl)
noncomputable def hn68 : Hint := { H 68 with nt := 28, prot := 0 }
noncomputable def c68_0 : Code := loopOf E 68 0
def F68_res (r1 : List GEdge) : Res := ⟨[(.one (.own 89 (.sl (len r1) (flat eGEdge r1))))], []⟩
def F68_l0_0 (K : Nat) (a1 : GGraph) (a2 : Int) : Nat → List GEdge → Int → Option (List GEdge)
 | 0, _, _ => none
 | k + 1, v3, v4 =>
  bif (ilt v4 (nlen (len a1.Edges))) then
   (bif (inr v4 (len a1.Edges)) then
   (elAt a1.Edges v4).bind fun x5 =>
   bif (ieq x5.From a2) then
    (bif (apok (len v3) 1 24) then
    F68_l0_0 K a1 a2 k (appL v3 [x5]) (wadd .i64 v4 1)
    else none)
   else
   F68_l0_0 K a1 a2 k v3 (wadd .i64 v4 1)
   else none)
  else
  some v3
def F68_l0_0_S (a1 : GGraph) (a2 : Int) (v3 : List GEdge) (v4 : Int) : TS := .on [64, 65, 128, 129, 130, 320, 321, 704, 768, 769, 832, 833, 896, 897] [(64, ⟨.one, 0, nob⟩), (65, ⟨.im, 0, (.lit (.int .i64 a2))⟩), (128, ⟨(.box 62 2), 0, nob⟩), (129, ⟨.im, 0, (.lit (.int .i64 a1.N))⟩), (130, ⟨.im, 0, (.sl (len a1.Edges) (flat eGEdge a1.Edges))⟩), (320, ⟨.one, 0, nob⟩), (321, ⟨(.own 89), 0, (.sl (len v3) (flat eGEdge v3))⟩), (704, ⟨(.ad 2 0 1), 0, nob⟩), (768, ⟨.one, 0, nob⟩), (769, ⟨.im, 0, (.sl (len a1.Edges) (flat eGEdge a1.Edges))⟩), (832, ⟨.one, 0, nob⟩), (833, ⟨.im, 0, (.lit (.int .i64 (nlen (len a1.Edges))))⟩), (896, ⟨.one, 0, nob⟩), (897, ⟨.im, 0, (.lit (.int .i64 v4))⟩)]
def F68_l0_0_X0 (a1 : GGraph) (a2 : Int) (w3 : List GEdge) : TS := .on [320, 321] [(320, ⟨.one, 0, nob⟩), (321, ⟨(.own 89), 0, (.sl (len w3) (flat eGEdge w3))⟩)]
theorem F68_l0_0_ok (K : Nat) (a1 : GGraph) (a2 : Int) : ∀ (k : Nat) (v3 : List GEdge) (v4 : Int) (r : List GEdge), F68_l0_0 K a1 a2 k v3 v4 = some r → LoopEv E H hn68 0 c68_0 (F68_l0_0_S a1 a2 v3 v4) (.exit 0) (F68_l0_0_X0 a1 a2 r) := by
 intro k
 induction k with
 | zero => intro v3 v4 r hF; cases hF
 | succ k ih =>
  intro v3 v4 r hF
  rw [F68_l0_0] at hF
  refine cond_some hF (fun h5 hF => ?_) (fun h5 hF => ?_)
  ·
   refine cond_some hF (fun h6 hF => ?_) (fun _ hF => nomatch hF)
   refine bind_some hF (fun x7 h8 hF => ?_)
   have q11 : PQ hn68 fun l => (.test (ilt v4 (nlen (len a1.Edges))) true :: .test (inr v4 (len a1.Edges)) true :: .sub (flat eGEdge a1.Edges) (nidx v4 3) 3 [(.lit (.int .i64 x7.From)), (.lit (.int .i64 x7.To)), (.lit (.int .i64 x7.W))] :: l) := fun z => ⟨h5, h6, ⟨rfl, sub_flat0 eGEdge_len h8 3 (by decide)⟩, z⟩
   refine cond_some hF (fun h9 hF => ?_) (fun h9 hF => ?_)
   ·
    refine cond_some hF (fun h10 hF => ?_) (fun _ hF => nomatch hF)
    have pz : HoldAll E H hn68 [.test (ieq x7.From a2) true, .test (leqm [(.lit (.int .i64 x7.From)), (.lit (.int .i64 x7.To)), (.lit (.int .i64 x7.W))] 1 3) true, .test (apok (len v3) 1 24) true, .sl (nadd (len v3) 1) (lapp (flat eGEdge v3) [(.lit (.int .i64 x7.From)), (.lit (.int .i64 x7.To)), (.lit (.int .i64 x7.W))]) (len (α := GEdge) (appL v3 [x7])) (flat eGEdge (appL v3 [x7])), .int (wadd .i64 v4 1) (wadd .i64 v4 1)] := ⟨h9, rfl, h10, (app_ok (enc := eGEdge) (v3 : List GEdge) [x7]), rfl, trivial⟩
    have h0 := ih _ _ _ hF
    have hn := fun ex ts' => loop_nextC (h := hn68) (l := 0) (c := c68_0) (ts := F68_l0_0_S a1 a2 v3 v4) (ts1 := (F68_l0_0_S a1 a2 (appL v3 [x7]) (wadd .i64 v4 1))) (ex := ex) (ts' := ts') (q11 pz) (by kernel_rfl)
    exact hn _ _ h0
   have pz : HoldAll E H hn68 [.test (ieq x7.From a2) false, .int (wadd .i64 v4 1) (wadd .i64 v4 1)] := ⟨h9, rfl, trivial⟩
   have h0 := ih _ _ _ hF
   have hn := fun ex ts' => loop_nextC (h := hn68) (l := 0) (c := c68_0) (ts := F68_l0_0_S a1 a2 v3 v4) (ts1 := (F68_l0_0_S a1 a2 v3 (wadd .i64 v4 1))) (ex := ex) (ts' := ts') (q11 pz) (by kernel_rfl)
   exact hn _ _ h0
  obtain rfl := Option.some.inj hF
  have pz : HoldAll E H hn68 [.test (ilt v4 (nlen (len a1.Edges))) false] := ⟨h5, trivial⟩
  exact loop_endC (h := hn68) (l := 0) (c := c68_0) (ts := F68_l0_0_S a1 a2 v3 v4) (ts' := F68_l0_0_X0 a1 a2 v3) (ex := (.exit 0)) pz (by kernel_rfl) trivial
def F68 (K : Nat) (a1 : GGraph) (a2 : Int) : Option (List GEdge) :=
 (F64 K a1).bind fun r3 =>
 bif (ieq r3 0) then
  ((F68_l0_0 K a1 a2 K [] 0).bind fun w4 =>
  some w4)
 else
 some []
theorem F68_ok (K : Nat) (a1 : GGraph) (a2 : Int) (r : List GEdge) (hF : F68 K a1 a2 = some r) : Evt E H 68 [.agg (eGGraph a1), .one (.lit (.int .i64 a2))] (F68_res r) := by
 rw [F68] at hF
 refine bind_some hF (fun r3 h4 hF => ?_)
 refine cond_some hF (fun h5 hF => ?_) (fun h5 hF => ?_)
 ·
  refine bind_some hF (fun w7 h6 hF => ?_)
  obtain rfl := Option.some.inj hF
  have pz : HoldAll E H hn68 [.call 64 [.agg (eGGraph a1)] (F64_res r3), .test (leadsAny (Res.mk [(.one (.im (.lit (.int .i64 r3))))] [])) false, .test (ine r3 0) false, .int (nlen (len a1.Edges)) (nlen (len a1.Edges)), .loop 0 c68_0 (F68_l0_0_S a1 a2 [] 0) (.exit 0) (F68_l0_0_X0 a1 a2 w7)] := ⟨(F64_ok K a1 _ h4), (leads_ok (by simp [leadsAny, RV.leads, RC.leads, leadsT, hasSl_lit])), (ine_t h5), rfl, (F68_l0_0_ok K a1 a2 K [] 0 _ h6), trivial⟩
  exact fn_playC hn68 (r := F68_res w7) pz (by kernel_rfl) (by kernel_rfl)
 obtain rfl := Option.some.inj hF
 have pz : HoldAll E H hn68 [.call 64 [.agg (eGGraph a1)] (F64_res r3), .test (leadsAny (Res.mk [(.one (.im (.lit (.int .i64 r3))))] [])) false, .test (ine r3 0) true] := ⟨(F64_ok K a1 _ h4), (leads_ok (by simp [leadsAny, RV.leads, RC.leads, leadsT, hasSl_lit])), (ine_f h5), trivial⟩
 exact fn_playC hn68 (r := F68_res []) pz (by kernel_rfl) (by kernel_rfl)
noncomputable def hn160 : Hint := { H 160 with nt := 12, prot := 0 }
def F160_res (r1 : Int × Bool) : Res := ⟨[(.one (.im (.lit (.int .i64 r1.1)))), (.one (.im (.lit (.bool r1.2))))], []⟩
def F160 (K : Nat) (a1 : Int) (a2 : GEdge) : Option (Int × Bool) :=
 (F144 K a1 a2.W).bind fun r3 =>
 some (r3.1, r3.2)
theorem F160_ok (K : Nat) (a1 : Int) (a2 : GEdge) (r : Int × Bool) (hF : F160 K a1 a2 = some r) : Evt E H 160 [.one (.lit (.int .i64 a1)), .agg (eGEdge a2)] (F160_res r) := by
 rw [F160] at hF
 refine bind_some hF (fun r3 h4 hF => ?_)
 obtain rfl := Option.some.inj hF
 have pz : HoldAll E H hn160 [.call 144 [.one (.lit (.int .i64 a1)), .one (.lit (.int .i64 a2.W))] (F144_res r3), .test (leadsAny (Res.mk [(.one (.im (.lit (.int .i64 r3.1)))), (.one (.im (.lit (.bool r3.2))))] [])) false] := ⟨(F144_ok K a1 a2.W _ h4), (leads_ok (by simp [leadsAny, RV.leads, RC.leads, leadsT, hasSl_lit])), trivial⟩
 exact fn_playC hn160 (r := F160_res (r3.1, r3.2)) pz (by kernel_rfl) (by kernel_rfl)
noncomputable def hn161 : Hint := { H 161 with nt := 10, prot := 0 }
def F161_res (r1 : Int × Bool) : Res := ⟨[(.one (.im (.lit (.int .i64 r1.1)))), (.one (.im (.lit (.bool r1.2))))], []⟩
def F161 (K : Nat) (a1 : Int) (a2 : GEdge) : Option (Int × Bool) :=
 (F144 K a1 1).bind fun r3 =>
 some (r3.1, r3.2)
theorem F161_ok (K : Nat) (a1 : Int) (a2 : GEdge) (r : Int × Bool) (hF : F161 K a1 a2 = some r) : Evt E H 161 [.one (.lit (.int .i64 a1)), .agg (eGEdge a2)] (F161_res r) := by
 rw [F161] at hF
 refine bind_some hF (fun r3 h4 hF => ?_)
 obtain rfl := Option.some.inj hF
 have pz : HoldAll E H hn161 [.call 144 [.one (.lit (.int .i64 a1)), .one (.lit (.int .i64 1))] (F144_res r3), .test (leadsAny (Res.mk [(.one (.im (.lit (.int .i64 r3.1)))), (.one (.im (.lit (.bool r3.2))))] [])) false] := ⟨(F144_ok K a1 1 _ h4), (leads_ok (by simp [leadsAny, RV.leads, RC.leads, leadsT, hasSl_lit])), trivial⟩
 exact fn_playC hn161 (r := F161_res (r3.1, r3.2)) pz (by kernel_rfl) (by kernel_rfl)
noncomputable def hn163 : Hint := { H 163 with nt := 7, prot := 0 }
def F163_res (r1 : Int × Bool) : Res := ⟨[(.one (.im (.lit (.int .i64 r1.1)))), (.one (.im (.lit (.bool r1.2))))], []⟩
def F163 (K : Nat) (a1 : Int) (a2 : GEdge) : Option (Int × Bool) :=
 some (a1, true)
theorem F163_ok (K : Nat) (a1 : Int) (a2 : GEdge) (r : Int × Bool) (hF : F163 K a1 a2 = some r) : Evt E H 163 [.one (.lit (.int .i64 a1)), .agg (eGEdge a2)] (F163_res r) := by
 rw [F163] at hF
 obtain rfl := Option.some.inj hF
 have pz : HoldAll E H hn163 [] := trivial
 exact fn_playC hn163 (r := F163_res (a1, true)) pz (by kernel_rfl) (by kernel_rfl)
noncomputable def hn175 : Hint := { H 175 with nt := 12, prot := 0 }
def F175_res (r1 : Int) : Res := ⟨[(.one (.im (.lit (.int .u64 r1))))], []⟩
def F175 (K : Nat) (a1 : Int) : Option (Int) :=
 bif (ilt a1 0) then
  (some (wadd .u64 (wconv .u64 (wneg .i64 (wadd .i64 a1 1))) 1))
 else
 some (wconv .u64 a1)
theorem F175_ok (K : Nat) (a1 : Int) (r : Int) (hF : F175 K a1 = some r) : Evt E H 175 [.one (.lit (.int .i64 a1))] (F175_res r) := by
 rw [F175] at hF
 refine cond_some hF (fun h2 hF => ?_) (fun h2 hF => ?_)
 ·
  obtain rfl := Option.some.inj hF
  have pz : HoldAll E H hn175 [.test (ilt a1 0) true, .int (wadd .i64 a1 1) (wadd .i64 a1 1), .int (wneg .i64 (wadd .i64 a1 1)) (wneg .i64 (wadd .i64 a1 1)), .int (wconv .u64 (wneg .i64 (wadd .i64 a1 1))) (wconv .u64 (wneg .i64 (wadd .i64 a1 1))), .int (wadd .u64 (wconv .u64 (wneg .i64 (wadd .i64 a1 1))) 1) (wadd .u64 (wconv .u64 (wneg .i64 (wadd .i64 a1 1))) 1)] := ⟨h2, rfl, rfl, rfl, rfl, trivial⟩
  exact fn_playC hn175 (r := F175_res (wadd .u64 (wconv .u64 (wneg .i64 (wadd .i64 a1 1))) 1)) pz (by kernel_rfl) (by kernel_rfl)
 obtain rfl := Option.some.inj hF
 have pz : HoldAll E H hn175 [.test (ilt a1 0) false, .int (wconv .u64 a1) (wconv .u64 a1)] := ⟨h2, rfl, trivial⟩
 exact fn_playC hn175 (r := F175_res (wconv .u64 a1)) pz (by kernel_rfl) (by kernel_rfl)
noncomputable def hn174 : Hint := { H 174 with nt := 60, prot := 0 }
def F174_res (r2 : GA199) : Res := ⟨[(.agg [(.im (.lit (.int .u64 r2.x0))), (.im (.lit (.int .u64 r2.x1)))])], []⟩
def F174 (K : Nat) (a1 : Int) (a2 : Int) : Option (GA199) :=
 some (GA199.mk (wadd .u64 (wadd .u64 (wadd .u64 (wmul .u64 (wquo .u64 a1 4294967296) (wquo .u64 a2 4294967296)) (wquo .u64 (wmul .u64 (wquo .u64 a1 4294967296) (wrem a2 4294967296)) 4294967296)) (wquo .u64 (wmul .u64 (wrem a1 4294967296) (wquo .u64 a2 4294967296)) 4294967296)) (wquo .u64 (wadd .u64 (wadd .u64 (wquo .u64 (wmul .u64 (wrem a1 4294967296) (wrem a2 4294967296)) 4294967296) (wrem (wmul .u64 (wquo .u64 a1 4294967296) (wrem a2 4294967296)) 4294967296)) (wrem (wmul .u64 (wrem a1 4294967296) (wquo .u64 a2 4294967296)) 4294967296)) 4294967296)) (wadd .u64 (wmul .u64 (wrem (wadd .u64 (wadd .u64 (wquo .u64 (wmul .u64 (wrem a1 4294967296) (wrem a2 4294967296)) 4294967296) (wrem (wmul .u64 (wquo .u64 a1 4294967296) (wrem a2 4294967296)) 4294967296)) (wrem (wmul .u64 (wrem a1 4294967296) (wquo .u64 a2 4294967296)) 4294967296)) 4294967296) 4294967296) (wrem (wmul .u64 (wrem a1 4294967296) (wrem a2 4294967296)) 4294967296)))
theorem F174_ok (K : Nat) (a1 : Int) (a2 : Int) (r : GA199) (hF : F174 K a1 a2 = some r) : Evt E H 174 [.one (.lit (.int .u64 a1)), .one (.lit (.int .u64 a2))] (F174_res r) := by
 rw [F174] at hF
 obtain rfl := Option.some.inj hF
 have pz : HoldAll E H hn174 [.test (izero 4294967296) false, .int (wquo .u64 a1 4294967296) (wquo .u64 a1 4294967296), .test (izero 4294967296) false, .int (wquo .u64 a2 4294967296) (wquo .u64 a2 4294967296), .int (wmul .u64 (wquo .u64 a1 4294967296) (wquo .u64 a2 4294967296)) (wmul .u64 (wquo .u64 a1 4294967296) (wquo .u64 a2 4294967296)), .test (izero 4294967296) false, .int (wquo .u64 a1 4294967296) (wquo .u64 a1 4294967296), .test (izero 4294967296) false, .int (wrem a2 4294967296) (wrem a2 4294967296), .int (wmul .u64 (wquo .u64 a1 4294967296) (wrem a2 4294967296)) (wmul .u64 (wquo .u64 a1 4294967296) (wrem a2 4294967296)), .test (izero 4294967296) false, .int (wrem a1 4294967296) (wrem a1 4294967296), .test (izero 4294967296) false, .int (wquo .u64 a2 4294967296) (wquo .u64 a2 4294967296), .int (wmul .u64 (wrem a1 4294967296) (wquo .u64 a2 4294967296)) (wmul .u64 (wrem a1 4294967296) (wquo .u64 a2 4294967296)), .test (izero 4294967296) false, .int (wrem a1 4294967296) (wrem a1 4294967296), .test (izero 4294967296) false, .int (wrem a2 4294967296) (wrem a2 4294967296), .int (wmul .u64 (wrem a1 4294967296) (wrem a2 4294967296)) (wmul .u64 (wrem a1 4294967296) (wrem a2 4294967296)), .test (ieq 3 0) false, .test (ieq 3 1) false, .test (ieq 3 2) false, .test (ieq 3 3) true, .test (izero 4294967296) false, .int (wquo .u64 (wmul .u64 (wrem a1 4294967296) (wrem a2 4294967296)) 4294967296) (wquo .u64 (wmul .u64 (wrem a1 4294967296) (wrem a2 4294967296)) 4294967296), .test (ieq 1 0) false, .test (ieq 1 1) true, .test (izero 4294967296) false, .int (wrem (wmul .u64 (wquo .u64 a1 4294967296) (wrem a2 4294967296)) 4294967296) (wrem (wmul .u64 (wquo .u64 a1 4294967296) (wrem a2 4294967296)) 4294967296), .int (wadd .u64 (wquo .u64 (wmul .u64 (wrem a1 4294967296) (wrem a2 4294967296)) 4294967296) (wrem (wmul .u64 (wquo .u64 a1 4294967296) (wrem a2 4294967296)) 4294967296)) (wadd .u64 (wquo .u64 (wmul .u64 (wrem a1 4294967296) (wrem a2 4294967296)) 4294967296) (wrem (wmul .u64 (wquo .u64 a1 4294967296) (wrem a2 4294967296)) 4294967296)), .test (ieq 2 0) false, .test (ieq 2 1) false, .test (ieq 2 2) true, .test (izero 4294967296) false, .int (wrem (wmul .u64 (wrem a1 4294967296) (wquo .u64 a2 4294967296)) 4294967296) (wrem (wmul .u64 (wrem a1 4294967296) (wquo .u64 a2 4294967296)) 4294967296), .int (wadd .u64 (wadd .u64 (wquo .u64 (wmul .u64 (wrem a1 4294967296) (wrem a2 4294967296)) 4294967296) (wrem (wmul .u64 (wquo .u64 a1 4294967296) (wrem a2 4294967296)) 4294967296)) (wrem (wmul .u64 (wrem a1 4294967296) (wquo .u64 a2 4294967296)) 4294967296)) (wadd .u64 (wadd .u64 (wquo .u64 (wmul .u64 (wrem a1 4294967296) (wrem a2 4294967296)) 4294967296) (wrem (wmul .u64 (wquo .u64 a1 4294967296) (wrem a2 4294967296)) 4294967296)) (wrem (wmul .u64 (wrem a1 4294967296) (wquo .u64 a2 4294967296)) 4294967296)), .test (ieq 0 0) true, .test (ieq 1 0) false, .test (ieq 1 1) true, .test (izero 4294967296) false, .int (wquo .u64 (wmul .u64 (wquo .u64 a1 4294967296) (wrem a2 4294967296)) 4294967296) (wquo .u64 (wmul .u64 (wquo .u64 a1 4294967296) (wrem a2 4294967296)) 4294967296), .int (wadd .u64 (wmul .u64 (wquo .u64 a1 4294967296) (wquo .u64 a2 4294967296)) (wquo .u64 (wmul .u64 (wquo .u64 a1 4294967296) (wrem a2 4294967296)) 4294967296)) (wadd .u64 (wmul .u64 (wquo .u64 a1 4294967296) (wquo .u64 a2 4294967296)) (wquo .u64 (wmul .u64 (wquo .u64 a1 4294967296) (wrem a2 4294967296)) 4294967296)), .test (ieq 2 0) false, .test (ieq 2 1) false, .test (ieq 2 2) true, .test (izero 4294967296) false, .int (wquo .u64 (wmul .u64 (wrem a1 4294967296) (wquo .u64 a2 4294967296)) 4294967296) (wquo .u64 (wmul .u64 (wrem a1 4294967296) (wquo .u64 a2 4294967296)) 4294967296), .int (wadd .u64 (wadd .u64 (wmul .u64 (wquo .u64 a1 4294967296) (wquo .u64 a2 4294967296)) (wquo .u64 (wmul .u64 (wquo .u64 a1 4294967296) (wrem a2 4294967296)) 4294967296)) (wquo .u64 (wmul .u64 (wrem a1 4294967296) (wquo .u64 a2 4294967296)) 4294967296)) (wadd .u64 (wadd .u64 (wmul .u64 (wquo .u64 a1 4294967296) (wquo .u64 a2 4294967296)) (wquo .u64 (wmul .u64 (wquo .u64 a1 4294967296) (wrem a2 4294967296)) 4294967296)) (wquo .u64 (wmul .u64 (wrem a1 4294967296) (wquo .u64 a2 4294967296)) 4294967296)), .test (izero 4294967296) false, .int (wquo .u64 (wadd .u64 (wadd .u64 (wquo .u64 (wmul .u64 (wrem a1 4294967296) (wrem a2 4294967296)) 4294967296) (wrem (wmul .u64 (wquo .u64 a1 4294967296) (wrem a2 4294967296)) 4294967296)) (wrem (wmul .u64 (wrem a1 4294967296) (wquo .u64 a2 4294967296)) 4294967296)) 4294967296) (wquo .u64 (wadd .u64 (wadd .u64 (wquo .u64 (wmul .u64 (wrem a1 4294967296) (wrem a2 4294967296)) 4294967296) (wrem (wmul .u64 (wquo .u64 a1 4294967296) (wrem a2 4294967296)) 4294967296)) (wrem (wmul .u64 (wrem a1 4294967296) (wquo .u64 a2 4294967296)) 4294967296)) 4294967296), .int (wadd .u64 (wadd .u64 (wadd .u64 (wmul .u64 (wquo .u64 a1 4294967296) (wquo .u64 a2 4294967296)) (wquo .u64 (wmul .u64 (wquo .u64 a1 4294967296) (wrem a2 4294967296)) 4294967296)) (wquo .u64 (wmul .u64 (wrem a1 4294967296) (wquo .u64 a2 4294967296)) 4294967296)) (wquo .u64 (wadd .u64 (wadd .u64 (wquo .u64 (wmul .u64 (wrem a1 4294967296) (wrem a2 4294967296)) 4294967296) (wrem (wmul .u64 (wquo .u64 a1 4294967296) (wrem a2 4294967296)) 4294967296)) (wrem (wmul .u64 (wrem a1 4294967296) (wquo .u64 a2 4294967296)) 4294967296)) 4294967296)) (wadd .u64 (wadd .u64 (wadd .u64 (wmul .u64 (wquo .u64 a1 4294967296) (wquo .u64 a2 4294967296)) (wquo .u64 (wmul .u64 (wquo .u64 a1 4294967296) (wrem a2 4294967296)) 4294967296)) (wquo .u64 (wmul .u64 (wrem a1 4294967296) (wquo .u64 a2 4294967296)) 4294967296)) (wquo .u64 (wadd .u64 (wadd .u64 (wquo .u64 (wmul .u64 (wrem a1 4294967296) (wrem a2 4294967296)) 4294967296) (wrem (wmul .u64 (wquo .u64 a1 4294967296) (wrem a2 4294967296)) 4294967296)) (wrem (wmul .u64 (wrem a1 4294967296) (wquo .u64 a2 4294967296)) 4294967296)) 4294967296)), .test (izero 4294967296) false, .int (wrem (wadd .u64 (wadd .u64 (wquo .u64 (wmul .u64 (wrem a1 4294967296) (wrem a2 4294967296)) 4294967296) (wrem (wmul .u64 (wquo .u64 a1 4294967296) (wrem a2 4294967296)) 4294967296)) (wrem (wmul .u64 (wrem a1 4294967296) (wquo .u64 a2 4294967296)) 4294967296)) 4294967296) (wrem (wadd .u64 (wadd .u64 (wquo .u64 (wmul .u64 (wrem a1 4294967296) (wrem a2 4294967296)) 4294967296) (wrem (wmul .u64 (wquo .u64 a1 4294967296) (wrem a2 4294967296)) 4294967296)) (wrem (wmul .u64 (wrem a1 4294967296) (wquo .u64 a2 4294967296)) 4294967296)) 4294967296), .int (wmul .u64 (wrem (wadd .u64 (wadd .u64 (wquo .u64 (wmul .u64 (wrem a1 4294967296) (wrem a2 4294967296)) 4294967296) (wrem (wmul .u64 (wquo .u64 a1 4294967296) (wrem a2 4294967296)) 4294967296)) (wrem (wmul .u64 (wrem a1 4294967296) (wquo .u64 a2 4294967296)) 4294967296)) 4294967296) 4294967296) (wmul .u64 (wrem (wadd .u64 (wadd .u64 (wquo .u64 (wmul .u64 (wrem a1 4294967296) (wrem a2 4294967296)) 4294967296) (wrem (wmul .u64 (wquo .u64 a1 4294967296) (wrem a2 4294967296)) 4294967296)) (wrem (wmul .u64 (wrem a1 4294967296) (wquo .u64 a2 4294967296)) 4294967296)) 4294967296) 4294967296), .test (ieq 3 0) false, .test (ieq 3 1) false, .test (ieq 3 2) false, .test (ieq 3 3) true, .test (izero 4294967296) false, .int (wrem (wmul .u64 (wrem a1 4294967296) (wrem a2 4294967296)) 4294967296) (wrem (wmul .u64 (wrem a1 4294967296) (wrem a2 4294967296)) 4294967296), .int (wadd .u64 (wmul .u64 (wrem (wadd .u64 (wadd .u64 (wquo .u64 (wmul .u64 (wrem a1 4294967296) (wrem a2 4294967296)) 4294967296) (wrem (wmul .u64 (wquo .u64 a1 4294967296) (wrem a2 4294967296)) 4294967296)) (wrem (wmul .u64 (wrem a1 4294967296) (wquo .u64 a2 4294967296)) 4294967296)) 4294967296) 4294967296) (wrem (wmul .u64 (wrem a1 4294967296) (wrem a2 4294967296)) 4294967296)) (wadd .u64 (wmul .u64 (wrem (wadd .u64 (wadd .u64 (wquo .u64 (wmul .u64 (wrem a1 4294967296) (wrem a2 4294967296)) 4294967296) (wrem (wmul .u64 (wquo .u64 a1 4294967296) (wrem a2 4294967296)) 4294967296)) (wrem (wmul .u64 (wrem a1 4294967296) (wquo .u64 a2 4294967296)) 4294967296)) 4294967296) 4294967296) (wrem (wmul .u64 (wrem a1 4294967296) (wrem a2 4294967296)) 4294967296))] := ⟨(by first | exact rfl | (unfold Cond.Holds; decide)), rfl, (by first | exact rfl | (unfold Cond.Holds; decide)), rfl, rfl, (by first | exact rfl | (unfold Cond.Holds; decide)), rfl, (by first | exact rfl | (unfold Cond.Holds; decide)), rfl, rfl, (by first | exact rfl | (unfold Cond.Holds; decide)), rfl, (by first | exact rfl | (unfold Cond.Holds; decide)), rfl, rfl, (by first | exact rfl | (unfold Cond.Holds; decide)), rfl, (by first | exact rfl | (unfold Cond.Holds; decide)), rfl, rfl, (by first | exact rfl | (unfold Cond.Holds; decide)), (by first | exact rfl | (unfold Cond.Holds; decide)), (by first | exact rfl | (unfold Cond.Holds; decide)), (by first | exact rfl | (unfold Cond.Holds; decide)), (by first | exact rfl | (unfold Cond.Holds; decide)), rfl, (by first | exact rfl | (unfold Cond.Holds; decide)), (by first | exact rfl | (unfold Cond.Holds; decide)), (by first | exact rfl | (unfold Cond.Holds; decide)), rfl, rfl, (by first | exact rfl | (unfold Cond.Holds; decide)), (by first | exact rfl | (unfold Cond.Holds; decide)), (by first | exact rfl | (unfold Cond.Holds; decide)), (by first | exact rfl | (unfold Cond.Holds; decide)), rfl, rfl, (by first | exact rfl | (unfold Cond.Holds; decide)), (by first | exact rfl | (unfold Cond.Holds; decide)), (by first | exact rfl | (unfold Cond.Holds; decide)), (by first | exact rfl | (unfold Cond.Holds; decide)), rfl, rfl, (by first | exact rfl | (unfold Cond.Holds; decide)), (by first | exact rfl | (unfold Cond.Holds; decide)), (by first | exact rfl | (unfold Cond.Holds; decide)), (by first | exact rfl | (unfold Cond.Holds; decide)), rfl, rfl, (by first | exact rfl | (unfold Cond.Holds; decide)), rfl, rfl, (by first | exact rfl | (unfold Cond.Holds; decide)), rfl, rfl, (by first | exact rfl | (unfold Cond.Holds; decide)), (by first | exact rfl | (unfold Cond.Holds; decide)), (by first | exact rfl | (unfold Cond.Holds; decide)), (by first | exact rfl | (unfold Cond.Holds; decide)), (by first | exact rfl | (unfold Cond.Holds; decide)), rfl, rfl, trivial⟩
 exact fn_playC hn174 (r := F174_res (GA199.mk (wadd .u64 (wadd .u64 (wadd .u64 (wmul .u64 (wquo .u64 a1 4294967296) (wquo .u64 a2 4294967296)) (wquo .u64 (wmul .u64 (wquo .u64 a1 4294967296) (wrem a2 4294967296)) 4294967296)) (wquo .u64 (wmul .u64 (wrem a1 4294967296) (wquo .u64 a2 4294967296)) 4294967296)) (wquo .u64 (wadd .u64 (wadd .u64 (wquo .u64 (wmul .u64 (wrem a1 4294967296) (wrem a2 4294967296)) 4294967296) (wrem (wmul .u64 (wquo .u64 a1 4294967296) (wrem a2 4294967296)) 4294967296)) (wrem (wmul .u64 (wrem a1 4294967296) (wquo .u64 a2 4294967296)) 4294967296)) 4294967296)) (wadd .u64 (wmul .u64 (wrem (wadd .u64 (wadd .u64 (wquo .u64 (wmul .u64 (wrem a1 4294967296) (wrem a2 4294967296)) 4294967296) (wrem (wmul .u64 (wquo .u64 a1 4294967296) (wrem a2 4294967296)) 4294967296)) (wrem (wmul .u64 (wrem a1 4294967296) (wquo .u64 a2 4294967296)) 4294967296)) 4294967296) 4294967296) (wrem (wmul .u64 (wrem a1 4294967296) (wrem a2 4294967296)) 4294967296)))) pz (by kernel_rfl) (by kernel_rfl)
noncomputable def hn170 : Hint := { H 170 with nt := 41, prot := 0 }
def F170_res (r1 : Int × Bool) : Res := ⟨[(.one (.im (.lit (.int .i64 r1.1)))), (.one (.im (.lit (.bool r1.2))))], []⟩
def F170 (K : Nat) (a2 : Int) (a3 : Int) : Option (Int × Bool) :=
 (F175 K a2).bind fun r4 =>
 (F175 K a3).bind fun r5 =>
 (F174 K r4 r5).bind fun r6 =>
 bif (ilt 0 r6.x0) then
  (some (0, false))
 else
 bif (ilt 9223372036854775808 r6.x1) then
  (some (0, false))
 else
 bif (ieq r6.x1 9223372036854775808) then
  (bif (beqb (ilt a2 0) (ilt a3 0)) then
   (some (0, false))
  else
  some ((-9223372036854775808), true))
 else
 bif (beqb (ilt a2 0) (ilt a3 0)) then
  (some ((wconv .i64 r6.x1), true))
 else
 some ((wneg .i64 (wconv .i64 r6.x1)), true)
theorem F170_ok (K : Nat) (a2 : Int) (a3 : Int) (r : Int × Bool) (hF : F170 K a2 a3 = some r) : Evt E H 170 [.one (.lit (.int .i64 a2)), .one (.lit (.int .i64 a3))] (F170_res r) := by
 rw [F170] at hF
 refine bind_some hF (fun r4 h5 hF => ?_)
 refine bind_some hF (fun r6 h7 hF => ?_)
 refine bind_some hF (fun r8 h9 hF => ?_)
 have q15 : PQ hn170 fun l => (.call 175 [.one (.lit (.int .i64 a2))] (F175_res r4) :: .test (leadsAny (Res.mk [(.one (.im (.lit (.int .u64 r4))))] [])) false :: .call 175 [.one (.lit (.int .i64 a3))] (F175_res r6) :: .test (leadsAny (Res.mk [(.one (.im (.lit (.int .u64 r6))))] [])) false :: .call 174 [.one (.lit (.int .u64 r4)), .one (.lit (.int .u64 r6))] (F174_res r8) :: .test (leadsAny (Res.mk [(.agg [(.im (.lit (.int .u64 r8.x0))), (.im (.lit (.int .u64 r8.x1)))])] [])) false :: .test (ieq 0 0) true :: l) := fun z => ⟨(F175_ok K a2 _ h5), (leads_ok (by simp [leadsAny, RV.leads, RC.leads, leadsT, hasSl_lit])), (F175_ok K a3 _ h7), (leads_ok (by simp [leadsAny, RV.leads, RC.leads, leadsT, hasSl_lit])), (F174_ok K r4 r6 _ h9), (leads_ok (by simp [leadsAny, RV.leads, RC.leads, leadsT, hasSl_lit])), (by first | exact rfl | (unfold Cond.Holds; decide)), z⟩
 refine cond_some hF (fun h10 hF => ?_) (fun h10 hF => ?_)
 ·
  obtain rfl := Option.some.inj hF
  have pz : HoldAll E H hn170 [.test (beqb (igt r8.x0 0) false) false, .test (beqb (igt r8.x0 0) false) false, .test (beqb (igt r8.x0 0) false) false, .test (igt r8.x0 0) true, .test true true] := ⟨(beqb_ft (igt_eq h10)), (beqb_ft (igt_eq h10)), (beqb_ft (igt_eq h10)), (igt_eq h10), rfl, trivial⟩
  exact fn_playC hn170 (r := F170_res (0, false)) (q15 pz) (by kernel_rfl) (by kernel_rfl)
 have q16 : PQ hn170 fun l => (.test (beqb (igt r8.x0 0) false) true :: .test (ieq 1 0) false :: .test (ieq 1 1) true :: .test (beqb (igt r8.x0 0) false) true :: .test (beqb (igt r8.x0 0) false) true :: .test (igt r8.x0 0) false :: l) := fun z => ⟨(beqb_ff (igt_eq h10)), (by first | exact rfl | (unfold Cond.Holds; decide)), (by first | exact rfl | (unfold Cond.Holds; decide)), (beqb_ff (igt_eq h10)), (beqb_ff (igt_eq h10)), (igt_eq h10), z⟩
 refine cond_some hF (fun h11 hF => ?_) (fun h11 hF => ?_)
 ·
  obtain rfl := Option.some.inj hF
  have pz : HoldAll E H hn170 [.test (igt r8.x1 9223372036854775808) true] := ⟨(igt_eq h11), trivial⟩
  exact fn_playC hn170 (r := F170_res (0, false)) (q15 (q16 pz)) (by kernel_rfl) (by kernel_rfl)
 have q17 : PQ hn170 fun l => (.test (igt r8.x1 9223372036854775808) false :: .test (ieq 1 0) false :: .test (ieq 1 1) true :: l) := fun z => ⟨(igt_eq h11), (by first | exact rfl | (unfold Cond.Holds; decide)), (by first | exact rfl | (unfold Cond.Holds; decide)), z⟩
 refine cond_some hF (fun h12 hF => ?_) (fun h12 hF => ?_)
 ·
  refine cond_some hF (fun h13 hF => ?_) (fun h13 hF => ?_)
  ·
   obtain rfl := Option.some.inj hF
   have pz : HoldAll E H hn170 [.test (ieq r8.x1 9223372036854775808) true, .test (bnot (beqb (ilt a2 0) (ilt a3 0))) false] := ⟨h12, (bnot_t h13), trivial⟩
   exact fn_playC hn170 (r := F170_res (0, false)) (q15 (q16 (q17 pz))) (by kernel_rfl) (by kernel_rfl)
  obtain rfl := Option.some.inj hF
  have pz : HoldAll E H hn170 [.test (ieq r8.x1 9223372036854775808) true, .test (bnot (beqb (ilt a2 0) (ilt a3 0))) true] := ⟨h12, (bnot_f h13), trivial⟩
  exact fn_playC hn170 (r := F170_res ((-9223372036854775808), true)) (q15 (q16 (q17 pz))) (by kernel_rfl) (by kernel_rfl)
 refine cond_some hF (fun h14 hF => ?_) (fun h14 hF => ?_)
 ·
  obtain rfl := Option.some.inj hF
  have pz : HoldAll E H hn170 [.test (ieq r8.x1 9223372036854775808) false, .test (bnot (beqb (ilt a2 0) (ilt a3 0))) false, .test (ieq 1 0) false, .test (ieq 1 1) true, .int (wconv .i64 r8.x1) (wconv .i64 r8.x1)] := ⟨h12, (bnot_t h14), (by first | exact rfl | (unfold Cond.Holds; decide)), (by first | exact rfl | (unfold Cond.Holds; decide)), rfl, trivial⟩
  exact fn_playC hn170 (r := F170_res ((wconv .i64 r8.x1), true)) (q15 (q16 (q17 pz))) (by kernel_rfl) (by kernel_rfl)
 obtain rfl := Option.some.inj hF
 have pz : HoldAll E H hn170 [.test (ieq r8.x1 9223372036854775808) false, .test (bnot (beqb (ilt a2 0) (ilt a3 0))) true, .test (ieq 1 0) false, .test (ieq 1 1) true, .int (wconv .i64 r8.x1) (wconv .i64 r8.x1), .int (wneg .i64 (wconv .i64 r8.x1)) (wneg .i64 (wconv .i64 r8.x1))] := ⟨h12, (bnot_f h14), (by first | exact rfl | (unfold Cond.Holds; decide)), (by first | exact rfl | (unfold Cond.Holds; decide)), rfl, rfl, trivial⟩
 exact fn_playC hn170 (r := F170_res ((wneg .i64 (wconv .i64 r8.x1)), true)) (q15 (q16 (q17 pz))) (by kernel_rfl) (by kernel_rfl)
noncomputable def hn167 : Hint := { H 167 with nt := 25, prot := 0 }
def F167_res (r1 : Int × Bool) : Res := ⟨[(.one (.im (.lit (.int .i64 r1.1)))), (.one (.im (.lit (.bool r1.2))))], []⟩
def F167 (K : Nat) (a1 : Int) (a2 : Int) (a3 : Int) : Option (Int × Bool) :=
 (F170 K a1 a2).bind fun r4 =>
 bif r4.2 then
  (bif (ilt a3 1) then
   (some (0, false))
  else
  bif (izero a3) then none else
  some ((wquo .i64 r4.1 a3), true))
 else
 some (0, false)
theorem F167_ok (K : Nat) (a1 : Int) (a2 : Int) (a3 : Int) (r : Int × Bool) (hF : F167 K a1 a2 a3 = some r) : Evt E H 167 [.one (.lit (.int .i64 a1)), .one (.lit (.int .i64 a2)), .one (.lit (.int .i64 a3))] (F167_res r) := by
 rw [F167] at hF
 refine bind_some hF (fun r4 h5 hF => ?_)
 refine cond_some hF (fun h6 hF => ?_) (fun h6 hF => ?_)
 ·
  have q9 : PQ hn167 fun l => (.call 170 [.one (.lit (.int .i64 a1)), .one (.lit (.int .i64 a2))] (F170_res r4) :: .test (leadsAny (Res.mk [(.one (.im (.lit (.int .i64 r4.1)))), (.one (.im (.lit (.bool r4.2))))] [])) false :: .test (beqb (bnot r4.2) false) true :: .test (beqb (bnot r4.2) false) true :: .test (bnot r4.2) false :: l) := fun z => ⟨(F170_ok K a1 a2 _ h5), (leads_ok (by simp [leadsAny, RV.leads, RC.leads, leadsT, hasSl_lit])), (beqb_ff (bnot_t h6)), (beqb_ff (bnot_t h6)), (bnot_t h6), z⟩
  refine cond_some hF (fun h7 hF => ?_) (fun h7 hF => ?_)
  ·
   obtain rfl := Option.some.inj hF
   have pz : HoldAll E H hn167 [.test (ilt a3 1) true] := ⟨h7, trivial⟩
   exact fn_playC hn167 (r := F167_res (0, false)) (q9 pz) (by kernel_rfl) (by kernel_rfl)
  refine cond_some hF (fun _ hF => nomatch hF) (fun h8 hF => ?_)
  obtain rfl := Option.some.inj hF
  have pz : HoldAll E H hn167 [.test (ilt a3 1) false, .test (izero a3) false, .int (wquo .i64 r4.1 a3) (wquo .i64 r4.1 a3)] := ⟨h7, h8, rfl, trivial⟩
  exact fn_playC hn167 (r := F167_res ((wquo .i64 r4.1 a3), true)) (q9 pz) (by kernel_rfl) (by kernel_rfl)
 obtain rfl := Option.some.inj hF
 have pz : HoldAll E H hn167 [.call 170 [.one (.lit (.int .i64 a1)), .one (.lit (.int .i64 a2))] (F170_res r4), .test (leadsAny (Res.mk [(.one (.im (.lit (.int .i64 r4.1)))), (.one (.im (.lit (.bool r4.2))))] [])) false, .test (beqb (bnot r4.2) false) false, .test (beqb (bnot r4.2) false) false, .test (bnot r4.2) true, .test true true] := ⟨(F170_ok K a1 a2 _ h5), (leads_ok (by simp [leadsAny, RV.leads, RC.leads, leadsT, hasSl_lit])), (beqb_ft (bnot_f h6)), (beqb_ft (bnot_f h6)), (bnot_f h6), rfl, trivial⟩
 exact fn_playC hn167 (r := F167_res (0, false)) pz (by kernel_rfl) (by kernel_rfl)
noncomputable def hn146 : Hint := { H 146 with nt := 68, prot := 0 }
noncomputable def c146_0 : Code := loopOf E 146 0
def F146_res (r1 : Int × List GMsg × Bool × Int) : Res := ⟨[(.one (.im (.lit (.int .i64 r1.1)))), (.one (.own 130 (.sl (len r1.2.1) (flat eGMsg r1.2.1)))), (.one (.im (.lit (.bool r1.2.2.1)))), (.one (.im (.lit (.int .i64 r1.2.2.2))))], []⟩
def F146_l0_0 (K : Nat) (v1 : List GEdge) (v2 : Int) : Nat → List GMsg → Int → Option ((Unit) ⊕ (List GMsg))
 | 0, _, _ => none
 | k + 1, v3, v4 =>
  bif (ilt v4 (nlen (len v1))) then
   (bif (inr v4 (len v1)) then
   (elAt v1 v4).bind fun x5 =>
   (F167 K v2 1 (nlen (len v1))).bind fun r6 =>
   bif r6.2 then
    (bif (apok (len v3) 1 16) then
    F146_l0_0 K v1 v2 k (appL v3 [(GMsg.mk x5.To r6.1)]) (wadd .i64 v4 1)
    else none)
   else
   some (.inl ())
   else none)
  else
  some (.inr v3)
def F146_l0_0_S (v1 : List GEdge) (v2 : Int) (v3 : List GMsg) (v4 : Int) : TS := .on [0, 1, 128, 129, 1024, 1025, 2752, 2753, 2816, 2817, 2880, 2881] [(0, ⟨.one, 0, nob⟩), (1, ⟨.im, 0, (.sl (len v1) (flat eGEdge v1))⟩), (128, ⟨.one, 0, nob⟩), (129, ⟨.im, 0, (.lit (.int .i64 v2))⟩), (1024, ⟨.one, 0, nob⟩), (1025, ⟨(.own 130), 0, (.sl (len v3) (flat eGMsg v3))⟩), (2752, ⟨.one, 0, nob⟩), (2753, ⟨.im, 0, (.sl (len v1) (flat eGEdge v1))⟩), (2816, ⟨.one, 0, nob⟩), (2817, ⟨.im, 0, (.lit (.int .i64 (nlen (len v1))))⟩), (2880, ⟨.one, 0, nob⟩), (2881, ⟨.im, 0, (.lit (.int .i64 v4))⟩)]
def F146_l0_0_X0 (v1 : List GEdge) (v2 : Int) (w3 : Unit) : TS := .on [512, 513, 576, 577, 640, 641, 704, 705] [(512, ⟨.one, 0, nob⟩), (513, ⟨.im, 0, (.lit (.int .i64 0))⟩), (576, ⟨.one, 0, nob⟩), (577, ⟨(.own 130), 0, (.sl 0 [])⟩), (640, ⟨.one, 0, nob⟩), (641, ⟨.im, 0, (.lit (.bool false))⟩), (704, ⟨.one, 0, nob⟩), (705, ⟨.im, 0, (.lit (.int .i64 8))⟩)]
def F146_l0_0_X1 (v1 : List GEdge) (v2 : Int) (w3 : List GMsg) : TS := .on [128, 129, 1024, 1025] [(128, ⟨.one, 0, nob⟩), (129, ⟨.im, 0, (.lit (.int .i64 v2))⟩), (1024, ⟨.one, 0, nob⟩), (1025, ⟨(.own 130), 0, (.sl (len w3) (flat eGMsg w3))⟩)]
theorem F146_l0_0_ok (K : Nat) (v1 : List GEdge) (v2 : Int) : ∀ (k : Nat) (v3 : List GMsg) (v4 : Int) (r : (Unit) ⊕ (List GMsg)), F146_l0_0 K v1 v2 k v3 v4 = some r → (Sum.elim (fun w => LoopEv E H hn146 0 c146_0 (F146_l0_0_S v1 v2 v3 v4) .ret (F146_l0_0_X0 v1 v2 w)) (fun w => LoopEv E H hn146 0 c146_0 (F146_l0_0_S v1 v2 v3 v4) (.exit 0) (F146_l0_0_X1 v1 v2 w))) r := by
 intro k
 induction k with
 | zero => intro v3 v4 r hF; cases hF
 | succ k ih =>
  intro v3 v4 r hF
  rw [F146_l0_0] at hF
  refine cond_some hF (fun h5 hF => ?_) (fun h5 hF => ?_)
  ·
   refine cond_some hF (fun h6 hF => ?_) (fun _ hF => nomatch hF)
   refine bind_some hF (fun x7 h8 hF => ?_)
   refine bind_some hF (fun r9 h10 hF => ?_)
   have q13 : PQ hn146 fun l => (.test (ilt v4 (nlen (len v1))) true :: .test (inr v4 (len v1)) true :: .sub (flat eGEdge v1) (nidx v4 3) 3 [(.lit (.int .i64 x7.From)), (.lit (.int .i64 x7.To)), (.lit (.int .i64 x7.W))] :: .int (nlen (len v1)) (nlen (len v1)) :: .call 167 [.one (.lit (.int .i64 v2)), .one (.lit (.int .i64 1)), .one (.lit (.int .i64 (nlen (len v1))))] (F167_res r9) :: .test (leadsAny (Res.mk [(.one (.im (.lit (.int .i64 r9.1)))), (.one (.im (.lit (.bool r9.2))))] [])) false :: l) := fun z => ⟨h5, h6, ⟨rfl, sub_flat0 eGEdge_len h8 3 (by decide)⟩, rfl, (F167_ok K v2 1 (nlen (len v1)) _ h10), (leads_ok (by simp [leadsAny, RV.leads, RC.leads, leadsT, hasSl_lit, flat_ns eGEdge_ns])), z⟩
   refine cond_some hF (fun h11 hF => ?_) (fun h11 hF => ?_)
   ·
    refine cond_some hF (fun h12 hF => ?_) (fun _ hF => nomatch hF)
    have pz : HoldAll E H hn146 [.test (bnot r9.2) false, .test (leqm [(.lit (.int .i64 x7.To)), (.lit (.int .i64 r9.1))] 1 2) true, .test (apok (len v3) 1 16) true, .sl (nadd (len v3) 1) (lapp (flat eGMsg v3) [(.lit (.int .i64 x7.To)), (.lit (.int .i64 r9.1))]) (len (α := GMsg) (appL v3 [(GMsg.mk x7.To r9.1)])) (flat eGMsg (appL v3 [(GMsg.mk x7.To r9.1)])), .int (wadd .i64 v4 1) (wadd .i64 v4 1)] := ⟨(bnot_t h11), rfl, h12, (app_ok (enc := eGMsg) (v3 : List GMsg) [(GMsg.mk x7.To r9.1)]), rfl, trivial⟩
    have h0 := ih _ _ _ hF
    have hn := fun ex ts' => loop_nextC (h := hn146) (l := 0) (c := c146_0) (ts := F146_l0_0_S v1 v2 v3 v4) (ts1 := (F146_l0_0_S v1 v2 (appL v3 [(GMsg.mk x7.To r9.1)]) (wadd .i64 v4 1))) (ex := ex) (ts' := ts') (q13 pz) (by kernel_rfl)
    cases r with
    | inl w => exact hn _ _ h0
    | inr w => exact hn _ _ h0
   obtain rfl := Option.some.inj hF
   have pz : HoldAll E H hn146 [.test (bnot r9.2) true] := ⟨(bnot_f h11), trivial⟩
   exact loop_endC (h := hn146) (l := 0) (c := c146_0) (ts := F146_l0_0_S v1 v2 v3 v4) (ts' := F146_l0_0_X0 v1 v2 ()) (ex := .ret) (q13 pz) (by kernel_rfl) trivial
  obtain rfl := Option.some.inj hF
  have pz : HoldAll E H hn146 [.test (ilt v4 (nlen (len v1))) false] := ⟨h5, trivial⟩
  exact loop_endC (h := hn146) (l := 0) (c := c146_0) (ts := F146_l0_0_S v1 v2 v3 v4) (ts' := F146_l0_0_X1 v1 v2 v3) (ex := (.exit 0)) pz (by kernel_rfl) trivial
def F146 (K : Nat) (a1 : List GEdge) (a2 : Int) (a3 : Int) (a4 : Int) : Option (Int × List GMsg × Bool × Int) :=
 bif (ilt 0 a2) then
  ((F167 K a4 85 100).bind fun r5 =>
  (F144 K 150000 r5.1).bind fun r6 =>
  bif r5.2 then
   (bif r6.2 then
    (bif (ile 10 a2) then
     (some (r6.1, ([], (true, 0))))
    else
    (F146_l0_0 K a1 r6.1 K [] 0).bind fun y7 =>
    Sum.elim (fun w8 =>
     some (0, ([], (false, 8))))
     (fun w9 =>
     some (r6.1, (w9, (false, 0)))) y7)
   else
   some (0, ([], (false, 8))))
  else
  some (0, ([], (false, 8))))
 else
 bif (ile 10 a2) then
  (some (a3, ([], (true, 0))))
 else
 (F146_l0_0 K a1 a3 K [] 0).bind fun y10 =>
 Sum.elim (fun w11 =>
  some (0, ([], (false, 8))))
  (fun w12 =>
  some (a3, (w12, (false, 0)))) y10
theorem F146_ok (K : Nat) (a1 : List GEdge) (a2 : Int) (a3 : Int) (a4 : Int) (r : Int × List GMsg × Bool × Int) (hF : F146 K a1 a2 a3 a4 = some r) : Evt E H 146 [.one (.sl (len a1) (flat eGEdge a1)), .one (.lit (.int .i64 a2)), .one (.lit (.int .i64 a3)), .one (.lit (.int .i64 a4))] (F146_res r) := by
 rw [F146] at hF
 refine cond_some hF (fun h5 hF => ?_) (fun h5 hF => ?_)
 ·
  refine bind_some hF (fun r6 h7 hF => ?_)
  refine bind_some hF (fun r8 h9 hF => ?_)
  have q22 : PQ hn146 fun l => (.test (igt a2 0) true :: .call 167 [.one (.lit (.int .i64 a4)), .one (.lit (.int .i64 85)), .one (.lit (.int .i64 100))] (F167_res r6) :: .test (leadsAny (Res.mk [(.one (.im (.lit (.int .i64 r6.1)))), (.one (.im (.lit (.bool r6.2))))] [])) false :: .call 144 [.one (.lit (.int .i64 150000)), .one (.lit (.int .i64 r6.1))] (F144_res r8) :: .test (leadsAny (Res.mk [(.one (.im (.lit (.int .i64 r8.1)))), (.one (.im (.lit (.bool r8.2))))] [])) false :: l) := fun z => ⟨(igt_eq h5), (F167_ok K a4 85 100 _ h7), (leads_ok (by simp [leadsAny, RV.leads, RC.leads, leadsT, hasSl_lit])), (F144_ok K 150000 r6.1 _ h9), (leads_ok (by simp [leadsAny, RV.leads, RC.leads, leadsT, hasSl_lit])), z⟩
  refine cond_some hF (fun h10 hF => ?_) (fun h10 hF => ?_)
  ·
   have q23 : PQ hn146 fun l => (.test (beqb (bnot r6.2) false) true :: .test (beqb (bnot r6.2) false) true :: .test (bnot r6.2) false :: l) := fun z => ⟨(beqb_ff (bnot_t h10)), (beqb_ff (bnot_t h10)), (bnot_t h10), z⟩
   refine cond_some hF (fun h11 hF => ?_) (fun h11 hF => ?_)
   ·
    refine cond_some hF (fun h12 hF => ?_) (fun h12 hF => ?_)
    ·
     obtain rfl := Option.some.inj hF
     have pz : HoldAll E H hn146 [.test (bnot r8.2) false, .test (ige a2 10) true] := ⟨(bnot_t h11), (ige_eq h12), trivial⟩
     exact fn_playC hn146 (r := F146_res (r8.1, ([], (true, 0)))) (q22 (q23 pz)) (by kernel_rfl) (by kernel_rfl)
    have q24 : PQ hn146 fun l => (.test (bnot r8.2) false :: .test (ige a2 10) false :: .int (nlen (len a1)) (nlen (len a1)) :: l) := fun z => ⟨(bnot_t h11), (ige_eq h12), rfl, z⟩
    refine bind_some hF (fun y14 h13 hF => ?_)
    refine sum_some hF (fun w15 hx hF => ?_) (fun w16 hx hF => ?_)
    ·
     subst hx
     obtain rfl := Option.some.inj hF
     have pz : HoldAll E H hn146 [.loop 0 c146_0 (F146_l0_0_S a1 r8.1 [] 0) .ret (F146_l0_0_X0 a1 r8.1 w15)] := ⟨(F146_l0_0_ok K a1 r8.1 K [] 0 _ h13), trivial⟩
     exact fn_playC hn146 (r := F146_res (0, ([], (false, 8)))) (q22 (q23 (q24 pz))) (by kernel_rfl) (by kernel_rfl)
    subst hx
    obtain rfl := Option.some.inj hF
    have pz : HoldAll E H hn146 [.loop 0 c146_0 (F146_l0_0_S a1 r8.1 [] 0) (.exit 0) (F146_l0_0_X1 a1 r8.1 w16)] := ⟨(F146_l0_0_ok K a1 r8.1 K [] 0 _ h13), trivial⟩
    exact fn_playC hn146 (r := F146_res (r8.1, (w16, (false, 0)))) (q22 (q23 (q24 pz))) (by kernel_rfl) (by kernel_rfl)
   obtain rfl := Option.some.inj hF
   have pz : HoldAll E H hn146 [.test (bnot r8.2) true] := ⟨(bnot_f h11), trivial⟩
   exact fn_playC hn146 (r := F146_res (0, ([], (false, 8)))) (q22 (q23 pz)) (by kernel_rfl) (by kernel_rfl)
  obtain rfl := Option.some.inj hF
  have pz : HoldAll E H hn146 [.test (beqb (bnot r6.2) false) false, .test (beqb (bnot r6.2) false) false, .test (bnot r6.2) true, .test true true] := ⟨(beqb_ft (bnot_f h10)), (beqb_ft (bnot_f h10)), (bnot_f h10), rfl, trivial⟩
  exact fn_playC hn146 (r := F146_res (0, ([], (false, 8)))) (q22 pz) (by kernel_rfl) (by kernel_rfl)
 refine cond_some hF (fun h17 hF => ?_) (fun h17 hF => ?_)
 ·
  obtain rfl := Option.some.inj hF
  have pz : HoldAll E H hn146 [.test (igt a2 0) false, .test (ige a2 10) true] := ⟨(igt_eq h5), (ige_eq h17), trivial⟩
  exact fn_playC hn146 (r := F146_res (a3, ([], (true, 0)))) pz (by kernel_rfl) (by kernel_rfl)
 have q25 : PQ hn146 fun l => (.test (igt a2 0) false :: .test (ige a2 10) false :: .int (nlen (len a1)) (nlen (len a1)) :: l) := fun z => ⟨(igt_eq h5), (ige_eq h17), rfl, z⟩
 refine bind_some hF (fun y19 h18 hF => ?_)
 refine sum_some hF (fun w20 hx hF => ?_) (fun w21 hx hF => ?_)
 ·
  subst hx
  obtain rfl := Option.some.inj hF
  have pz : HoldAll E H hn146 [.loop 0 c146_0 (F146_l0_0_S a1 a3 [] 0) .ret (F146_l0_0_X0 a1 a3 w20)] := ⟨(F146_l0_0_ok K a1 a3 K [] 0 _ h18), trivial⟩
  exact fn_playC hn146 (r := F146_res (0, ([], (false, 8)))) (q25 pz) (by kernel_rfl) (by kernel_rfl)
 subst hx
 obtain rfl := Option.some.inj hF
 have pz : HoldAll E H hn146 [.loop 0 c146_0 (F146_l0_0_S a1 a3 [] 0) (.exit 0) (F146_l0_0_X1 a1 a3 w21)] := ⟨(F146_l0_0_ok K a1 a3 K [] 0 _ h18), trivial⟩
 exact fn_playC hn146 (r := F146_res (a3, (w21, (false, 0)))) (q25 pz) (by kernel_rfl) (by kernel_rfl)
noncomputable def hn99 : Hint := { H 99 with nt := 122, prot := 0 }
noncomputable def c99_0 : Code := loopOf E 99 0
def F99_res (r1 : Int × List GMsg × Bool × Int) : Res := ⟨[(.one (.im (.lit (.int .i64 r1.1)))), (.one (.own 130 (.sl (len r1.2.1) (flat eGMsg r1.2.1)))), (.one (.im (.lit (.bool r1.2.2.1)))), (.one (.im (.lit (.int .i64 r1.2.2.2))))], []⟩
def F99_l0_0 (K : Nat) (v1 : Int) (v2 : Bool) (v3 : List GEdge) : Nat → List GMsg → Int → Option ((Unit) ⊕ (List GMsg))
 | 0, _, _ => none
 | k + 1, v4, v5 =>
  bif (ilt v5 (nlen (len v3))) then
   (bif (inr v5 (len v3)) then
   (elAt v3 v5).bind fun x6 =>
   (F160 K v1 x6).bind fun r7 =>
   bif r7.2 then
    (bif (apok (len v4) 1 16) then
    F99_l0_0 K v1 v2 v3 k (appL v4 [(GMsg.mk x6.To r7.1)]) (wadd .i64 v5 1)
    else none)
   else
   some (.inl ())
   else none)
  else
  some (.inr v4)
def F99_l0_0_S (v1 : Int) (v2 : Bool) (v3 : List GEdge) (v4 : List GMsg) (v5 : Int) : TS := .on [256, 257, 1216, 1217, 1218, 1219, 1220, 1344, 1345, 1472, 1473, 6144, 6145, 6208, 6209, 6272, 6273] [(256, ⟨.one, 0, nob⟩), (257, ⟨.im, 0, (.lit (.int .i64 v1))⟩), (1216, ⟨(.box 176 4), 0, nob⟩), (1217, ⟨.im, 0, (.lit (fnV 158))⟩), (1218, ⟨.im, 0, (.lit (fnV 159))⟩), (1219, ⟨.im, 0, (.lit (.bool v2))⟩), (1220, ⟨.im, 0, (.lit (fnV 160))⟩), (1344, ⟨.one, 0, nob⟩), (1345, ⟨(.own 89), 0, (.sl (len v3) (flat eGEdge v3))⟩), (1472, ⟨.one, 0, nob⟩), (1473, ⟨(.own 130), 0, (.sl (len v4) (flat eGMsg v4))⟩), (6144, ⟨.one, 0, nob⟩), (6145, ⟨(.vw 1345 0), 0, nob⟩), (6208, ⟨.one, 0, nob⟩), (6209, ⟨.im, 0, (.lit (.int .i64 (nlen (len v3))))⟩), (6272, ⟨.one, 0, nob⟩), (6273, ⟨.im, 0, (.lit (.int .i64 v5))⟩)]
def F99_l0_0_X0 (v1 : Int) (v2 : Bool) (v3 : List GEdge) (w4 : Unit) : TS := .on [896, 897, 960, 961, 1024, 1025, 1088, 1089] [(896, ⟨.one, 0, nob⟩), (897, ⟨.im, 0, (.lit (.int .i64 0))⟩), (960, ⟨.one, 0, nob⟩), (961, ⟨(.own 130), 0, (.sl 0 [])⟩), (1024, ⟨.one, 0, nob⟩), (1025, ⟨.im, 0, (.lit (.bool false))⟩), (1088, ⟨.one, 0, nob⟩), (1089, ⟨.im, 0, (.lit (.int .i64 8))⟩)]
def F99_l0_0_X1 (v1 : Int) (v2 : Bool) (v3 : List GEdge) (w4 : List GMsg) : TS := .on [256, 257, 1472, 1473] [(256, ⟨.one, 0, nob⟩), (257, ⟨.im, 0, (.lit (.int .i64 v1))⟩), (1472, ⟨.one, 0, nob⟩), (1473, ⟨(.own 130), 0, (.sl (len w4) (flat eGMsg w4))⟩)]
theorem F99_l0_0_ok (K : Nat) (v1 : Int) (v2 : Bool) (v3 : List GEdge) : ∀ (k : Nat) (v4 : List GMsg) (v5 : Int) (r : (Unit) ⊕ (List GMsg)), F99_l0_0 K v1 v2 v3 k v4 v5 = some r → (Sum.elim (fun w => LoopEv E H hn99 0 c99_0 (F99_l0_0_S v1 v2 v3 v4 v5) .ret (F99_l0_0_X0 v1 v2 v3 w)) (fun w => LoopEv E H hn99 0 c99_0 (F99_l0_0_S v1 v2 v3 v4 v5) (.exit 0) (F99_l0_0_X1 v1 v2 v3 w))) r := by
 intro k
 induction k with
 | zero => intro v4 v5 r hF; cases hF
 | succ k ih =>
  intro v4 v5 r hF
  rw [F99_l0_0] at hF
  refine cond_some hF (fun h6 hF => ?_) (fun h6 hF => ?_)
  ·
   refine cond_some hF (fun h7 hF => ?_) (fun _ hF => nomatch hF)
   refine bind_some hF (fun x8 h9 hF => ?_)
   refine bind_some hF (fun r10 h11 hF => ?_)
   have q14 : PQ hn99 fun l => (.test (ilt v5 (nlen (len v3))) true :: .test (inr v5 (len v3)) true :: .sub (flat eGEdge v3) (nidx v5 3) 3 [(.lit (.int .i64 x8.From)), (.lit (.int .i64 x8.To)), (.lit (.int .i64 x8.W))] :: .call 160 [.one (.lit (.int .i64 v1)), .agg (eGEdge x8)] (F160_res r10) :: .test (leadsAny (Res.mk [(.one (.im (.lit (.int .i64 r10.1)))), (.one (.im (.lit (.bool r10.2))))] [])) false :: l) := fun z => ⟨h6, h7, ⟨rfl, sub_flat0 eGEdge_len h9 3 (by decide)⟩, (F160_ok K v1 x8 _ h11), (leads_ok (by simp [leadsAny, RV.leads, RC.leads, leadsT, hasSl_lit, flat_ns eGEdge_ns])), z⟩
   refine cond_some hF (fun h12 hF => ?_) (fun h12 hF => ?_)
   ·
    refine cond_some hF (fun h13 hF => ?_) (fun _ hF => nomatch hF)
    have pz : HoldAll E H hn99 [.test (bnot r10.2) false, .test (leqm [(.lit (.int .i64 x8.To)), (.lit (.int .i64 r10.1))] 1 2) true, .test (apok (len v4) 1 16) true, .sl (nadd (len v4) 1) (lapp (flat eGMsg v4) [(.lit (.int .i64 x8.To)), (.lit (.int .i64 r10.1))]) (len (α := GMsg) (appL v4 [(GMsg.mk x8.To r10.1)])) (flat eGMsg (appL v4 [(GMsg.mk x8.To r10.1)])), .int (wadd .i64 v5 1) (wadd .i64 v5 1)] := ⟨(bnot_t h12), rfl, h13, (app_ok (enc := eGMsg) (v4 : List GMsg) [(GMsg.mk x8.To r10.1)]), rfl, trivial⟩
    have h0 := ih _ _ _ hF
    have hn := fun ex ts' => loop_nextC (h := hn99) (l := 0) (c := c99_0) (ts := F99_l0_0_S v1 v2 v3 v4 v5) (ts1 := (F99_l0_0_S v1 v2 v3 (appL v4 [(GMsg.mk x8.To r10.1)]) (wadd .i64 v5 1))) (ex := ex) (ts' := ts') (q14 pz) (by kernel_rfl)
    cases r with
    | inl w => exact hn _ _ h0
    | inr w => exact hn _ _ h0
   obtain rfl := Option.some.inj hF
   have pz : HoldAll E H hn99 [.test (bnot r10.2) true] := ⟨(bnot_f h12), trivial⟩
   exact loop_endC (h := hn99) (l := 0) (c := c99_0) (ts := F99_l0_0_S v1 v2 v3 v4 v5) (ts' := F99_l0_0_X0 v1 v2 v3 ()) (ex := .ret) (q14 pz) (by kernel_rfl) trivial
  obtain rfl := Option.some.inj hF
  have pz : HoldAll E H hn99 [.test (ilt v5 (nlen (len v3))) false] := ⟨h6, trivial⟩
  exact loop_endC (h := hn99) (l := 0) (c := c99_0) (ts := F99_l0_0_S v1 v2 v3 v4 v5) (ts' := F99_l0_0_X1 v1 v2 v3 v4) (ex := (.exit 0)) pz (by kernel_rfl) trivial
def F99_l0_1 (K : Nat) (v1 : Int) (v2 : Bool) (v3 : List GEdge) : Nat → List GMsg → Int → Option ((Unit) ⊕ (List GMsg))
 | 0, _, _ => none
 | k + 1, v4, v5 =>
  bif (ilt v5 (nlen (len v3))) then
   (bif (inr v5 (len v3)) then
   (elAt v3 v5).bind fun x6 =>
   (F161 K v1 x6).bind fun r7 =>
   bif r7.2 then
    (bif (apok (len v4) 1 16) then
    F99_l0_1 K v1 v2 v3 k (appL v4 [(GMsg.mk x6.To r7.1)]) (wadd .i64 v5 1)
    else none)
   else
   some (.inl ())
   else none)
  else
  some (.inr v4)
def F99_l0_1_S (v1 : Int) (v2 : Bool) (v3 : List GEdge) (v4 : List GMsg) (v5 : Int) : TS := .on [256, 257, 1216, 1217, 1218, 1219, 1220, 1344, 1345, 1472, 1473, 6144, 6145, 6208, 6209, 6272, 6273] [(256, ⟨.one, 0, nob⟩), (257, ⟨.im, 0, (.lit (.int .i64 v1))⟩), (1216, ⟨(.box 176 4), 0, nob⟩), (1217, ⟨.im, 0, (.lit (fnV 158))⟩), (1218, ⟨.im, 0, (.lit (fnV 159))⟩), (1219, ⟨.im, 0, (.lit (.bool v2))⟩), (1220, ⟨.im, 0, (.lit (fnV 161))⟩), (1344, ⟨.one, 0, nob⟩), (1345, ⟨(.own 89), 0, (.sl (len v3) (flat eGEdge v3))⟩), (1472, ⟨.one, 0, nob⟩), (1473, ⟨(.own 130), 0, (.sl (len v4) (flat eGMsg v4))⟩), (6144, ⟨.one, 0, nob⟩), (6145, ⟨(.vw 1345 0), 0, nob⟩), (6208, ⟨.one, 0, nob⟩), (6209, ⟨.im, 0, (.lit (.int .i64 (nlen (len v3))))⟩), (6272, ⟨.one, 0, nob⟩), (6273, ⟨.im, 0, (.lit (.int .i64 v5))⟩)]
def F99_l0_1_X0 (v1 : Int) (v2 : Bool) (v3 : List GEdge) (w4 : Unit) : TS := .on [896, 897, 960, 961, 1024, 1025, 1088, 1089] [(896, ⟨.one, 0, nob⟩), (897, ⟨.im, 0, (.lit (.int .i64 0))⟩), (960, ⟨.one, 0, nob⟩), (961, ⟨(.own 130), 0, (.sl 0 [])⟩), (1024, ⟨.one, 0, nob⟩), (1025, ⟨.im, 0, (.lit (.bool false))⟩), (1088, ⟨.one, 0, nob⟩), (1089, ⟨.im, 0, (.lit (.int .i64 8))⟩)]
def F99_l0_1_X1 (v1 : Int) (v2 : Bool) (v3 : List GEdge) (w4 : List GMsg) : TS := .on [256, 257, 1472, 1473] [(256, ⟨.one, 0, nob⟩), (257, ⟨.im, 0, (.lit (.int .i64 v1))⟩), (1472, ⟨.one, 0, nob⟩), (1473, ⟨(.own 130), 0, (.sl (len w4) (flat eGMsg w4))⟩)]
theorem F99_l0_1_ok (K : Nat) (v1 : Int) (v2 : Bool) (v3 : List GEdge) : ∀ (k : Nat) (v4 : List GMsg) (v5 : Int) (r : (Unit) ⊕ (List GMsg)), F99_l0_1 K v1 v2 v3 k v4 v5 = some r → (Sum.elim (fun w => LoopEv E H hn99 0 c99_0 (F99_l0_1_S v1 v2 v3 v4 v5) .ret (F99_l0_1_X0 v1 v2 v3 w)) (fun w => LoopEv E H hn99 0 c99_0 (F99_l0_1_S v1 v2 v3 v4 v5) (.exit 0) (F99_l0_1_X1 v1 v2 v3 w))) r := by
 intro k
 induction k with
 | zero => intro v4 v5 r hF; cases hF
 | succ k ih =>
  intro v4 v5 r hF
  rw [F99_l0_1] at hF
  refine cond_some hF (fun h6 hF => ?_) (fun h6 hF => ?_)
  ·
   refine cond_some hF (fun h7 hF => ?_) (fun _ hF => nomatch hF)
   refine bind_some hF (fun x8 h9 hF => ?_)
   refine bind_some hF (fun r10 h11 hF => ?_)
   have q14 : PQ hn99 fun l => (.test (ilt v5 (nlen (len v3))) true :: .test (inr v5 (len v3)) true :: .sub (flat eGEdge v3) (nidx v5 3) 3 [(.lit (.int .i64 x8.From)), (.lit (.int .i64 x8.To)), (.lit (.int .i64 x8.W))] :: .call 161 [.one (.lit (.int .i64 v1)), .agg (eGEdge x8)] (F161_res r10) :: .test (leadsAny (Res.mk [(.one (.im (.lit (.int .i64 r10.1)))), (.one (.im (.lit (.bool r10.2))))] [])) false :: l) := fun z => ⟨h6, h7, ⟨rfl, sub_flat0 eGEdge_len h9 3 (by decide)⟩, (F161_ok K v1 x8 _ h11), (leads_ok (by simp [leadsAny, RV.leads, RC.leads, leadsT, hasSl_lit, flat_ns eGEdge_ns])), z⟩
   refine cond_some hF (fun h12 hF => ?_) (fun h12 hF => ?_)
   ·
    refine cond_some hF (fun h13 hF => ?_) (fun _ hF => nomatch hF)
    have pz : HoldAll E H hn99 [.test (bnot r10.2) false, .test (leqm [(.lit (.int .i64 x8.To)), (.lit (.int .i64 r10.1))] 1 2) true, .test (apok (len v4) 1 16) true, .sl (nadd (len v4) 1) (lapp (flat eGMsg v4) [(.lit (.int .i64 x8.To)), (.lit (.int .i64 r10.1))]) (len (α := GMsg) (appL v4 [(GMsg.mk x8.To r10.1)])) (flat eGMsg (appL v4 [(GMsg.mk x8.To r10.1)])), .int (wadd .i64 v5 1) (wadd .i64 v5 1)] := ⟨(bnot_t h12), rfl, h13, (app_ok (enc := eGMsg) (v4 : List GMsg) [(GMsg.mk x8.To r10.1)]), rfl, trivial⟩
    have h0 := ih _ _ _ hF
    have hn := fun ex ts' => loop_nextC (h := hn99) (l := 0) (c := c99_0) (ts := F99_l0_1_S v1 v2 v3 v4 v5) (ts1 := (F99_l0_1_S v1 v2 v3 (appL v4 [(GMsg.mk x8.To r10.1)]) (wadd .i64 v5 1))) (ex := ex) (ts' := ts') (q14 pz) (by kernel_rfl)
    cases r with
    | inl w => exact hn _ _ h0
    | inr w => exact hn _ _ h0
   obtain rfl := Option.some.inj hF
   have pz : HoldAll E H hn99 [.test (bnot r10.2) true] := ⟨(bnot_f h12), trivial⟩
   exact loop_endC (h := hn99) (l := 0) (c := c99_0) (ts := F99_l0_1_S v1 v2 v3 v4 v5) (ts' := F99_l0_1_X0 v1 v2 v3 ()) (ex := .ret) (q14 pz) (by kernel_rfl) trivial
  obtain rfl := Option.some.inj hF
  have pz : HoldAll E H hn99 [.test (ilt v5 (nlen (len v3))) false] := ⟨h6, trivial⟩
  exact loop_endC (h := hn99) (l := 0) (c := c99_0) (ts := F99_l0_1_S v1 v2 v3 v4 v5) (ts' := F99_l0_1_X1 v1 v2 v3 v4) (ex := (.exit 0)) pz (by kernel_rfl) trivial
def F99_l0_2 (K : Nat) (v1 : Int) (v2 : Bool) (v3 : List GEdge) : Nat → List GMsg → Int → Option ((Unit) ⊕ (List GMsg))
 | 0, _, _ => none
 | k + 1, v4, v5 =>
  bif (ilt v5 (nlen (len v3))) then
   (bif (inr v5 (len v3)) then
   (elAt v3 v5).bind fun x6 =>
   (F163 K v1 x6).bind fun r7 =>
   bif r7.2 then
    (bif (apok (len v4) 1 16) then
    F99_l0_2 K v1 v2 v3 k (appL v4 [(GMsg.mk x6.To r7.1)]) (wadd .i64 v5 1)
    else none)
   else
   some (.inl ())
   else none)
  else
  some (.inr v4)
def F99_l0_2_S (v1 : Int) (v2 : Bool) (v3 : List GEdge) (v4 : List GMsg) (v5 : Int) : TS := .on [256, 257, 1216, 1217, 1218, 1219, 1220, 1344, 1345, 1472, 1473, 6144, 6145, 6208, 6209, 6272, 6273] [(256, ⟨.one, 0, nob⟩), (257, ⟨.im, 0, (.lit (.int .i64 v1))⟩), (1216, ⟨(.box 176 4), 0, nob⟩), (1217, ⟨.im, 0, (.lit (fnV 162))⟩), (1218, ⟨.im, 0, (.lit (fnV 159))⟩), (1219, ⟨.im, 0, (.lit (.bool v2))⟩), (1220, ⟨.im, 0, (.lit (fnV 163))⟩), (1344, ⟨.one, 0, nob⟩), (1345, ⟨(.own 89), 0, (.sl (len v3) (flat eGEdge v3))⟩), (1472, ⟨.one, 0, nob⟩), (1473, ⟨(.own 130), 0, (.sl (len v4) (flat eGMsg v4))⟩), (6144, ⟨.one, 0, nob⟩), (6145, ⟨(.vw 1345 0), 0, nob⟩), (6208, ⟨.one, 0, nob⟩), (6209, ⟨.im, 0, (.lit (.int .i64 (nlen (len v3))))⟩), (6272, ⟨.one, 0, nob⟩), (6273, ⟨.im, 0, (.lit (.int .i64 v5))⟩)]
def F99_l0_2_X0 (v1 : Int) (v2 : Bool) (v3 : List GEdge) (w4 : Unit) : TS := .on [896, 897, 960, 961, 1024, 1025, 1088, 1089] [(896, ⟨.one, 0, nob⟩), (897, ⟨.im, 0, (.lit (.int .i64 0))⟩), (960, ⟨.one, 0, nob⟩), (961, ⟨(.own 130), 0, (.sl 0 [])⟩), (1024, ⟨.one, 0, nob⟩), (1025, ⟨.im, 0, (.lit (.bool false))⟩), (1088, ⟨.one, 0, nob⟩), (1089, ⟨.im, 0, (.lit (.int .i64 8))⟩)]
def F99_l0_2_X1 (v1 : Int) (v2 : Bool) (v3 : List GEdge) (w4 : List GMsg) : TS := .on [256, 257, 1472, 1473] [(256, ⟨.one, 0, nob⟩), (257, ⟨.im, 0, (.lit (.int .i64 v1))⟩), (1472, ⟨.one, 0, nob⟩), (1473, ⟨(.own 130), 0, (.sl (len w4) (flat eGMsg w4))⟩)]
theorem F99_l0_2_ok (K : Nat) (v1 : Int) (v2 : Bool) (v3 : List GEdge) : ∀ (k : Nat) (v4 : List GMsg) (v5 : Int) (r : (Unit) ⊕ (List GMsg)), F99_l0_2 K v1 v2 v3 k v4 v5 = some r → (Sum.elim (fun w => LoopEv E H hn99 0 c99_0 (F99_l0_2_S v1 v2 v3 v4 v5) .ret (F99_l0_2_X0 v1 v2 v3 w)) (fun w => LoopEv E H hn99 0 c99_0 (F99_l0_2_S v1 v2 v3 v4 v5) (.exit 0) (F99_l0_2_X1 v1 v2 v3 w))) r := by
 intro k
 induction k with
 | zero => intro v4 v5 r hF; cases hF
 | succ k ih =>
  intro v4 v5 r hF
  rw [F99_l0_2] at hF
  refine cond_some hF (fun h6 hF => ?_) (fun h6 hF => ?_)
  ·
   refine cond_some hF (fun h7 hF => ?_) (fun _ hF => nomatch hF)
   refine bind_some hF (fun x8 h9 hF => ?_)
   refine bind_some hF (fun r10 h11 hF => ?_)
   have q14 : PQ hn99 fun l => (.test (ilt v5 (nlen (len v3))) true :: .test (inr v5 (len v3)) true :: .sub (flat eGEdge v3) (nidx v5 3) 3 [(.lit (.int .i64 x8.From)), (.lit (.int .i64 x8.To)), (.lit (.int .i64 x8.W))] :: .call 163 [.one (.lit (.int .i64 v1)), .agg (eGEdge x8)] (F163_res r10) :: .test (leadsAny (Res.mk [(.one (.im (.lit (.int .i64 r10.1)))), (.one (.im (.lit (.bool r10.2))))] [])) false :: l) := fun z => ⟨h6, h7, ⟨rfl, sub_flat0 eGEdge_len h9 3 (by decide)⟩, (F163_ok K v1 x8 _ h11), (leads_ok (by simp [leadsAny, RV.leads, RC.leads, leadsT, hasSl_lit, flat_ns eGEdge_ns])), z⟩
   refine cond_some hF (fun h12 hF => ?_) (fun h12 hF => ?_)
   ·
    refine cond_some hF (fun h13 hF => ?_) (fun _ hF => nomatch hF)
    have pz : HoldAll E H hn99 [.test (bnot r10.2) false, .test (leqm [(.lit (.int .i64 x8.To)), (.lit (.int .i64 r10.1))] 1 2) true, .test (apok (len v4) 1 16) true, .sl (nadd (len v4) 1) (lapp (flat eGMsg v4) [(.lit (.int .i64 x8.To)), (.lit (.int .i64 r10.1))]) (len (α := GMsg) (appL v4 [(GMsg.mk x8.To r10.1)])) (flat eGMsg (appL v4 [(GMsg.mk x8.To r10.1)])), .int (wadd .i64 v5 1) (wadd .i64 v5 1)] := ⟨(bnot_t h12), rfl, h13, (app_ok (enc := eGMsg) (v4 : List GMsg) [(GMsg.mk x8.To r10.1)]), rfl, trivial⟩
    have h0 := ih _ _ _ hF
    have hn := fun ex ts' => loop_nextC (h := hn99) (l := 0) (c := c99_0) (ts := F99_l0_2_S v1 v2 v3 v4 v5) (ts1 := (F99_l0_2_S v1 v2 v3 (appL v4 [(GMsg.mk x8.To r10.1)]) (wadd .i64 v5 1))) (ex := ex) (ts' := ts') (q14 pz) (by kernel_rfl)
    cases r with
    | inl w => exact hn _ _ h0
    | inr w => exact hn _ _ h0
   obtain rfl := Option.some.inj hF
   have pz : HoldAll E H hn99 [.test (bnot r10.2) true] := ⟨(bnot_f h12), trivial⟩
   exact loop_endC (h := hn99) (l := 0) (c := c99_0) (ts := F99_l0_2_S v1 v2 v3 v4 v5) (ts' := F99_l0_2_X0 v1 v2 v3 ()) (ex := .ret) (q14 pz) (by kernel_rfl) trivial
  obtain rfl := Option.some.inj hF
  have pz : HoldAll E H hn99 [.test (ilt v5 (nlen (len v3))) false] := ⟨h6, trivial⟩
  exact loop_endC (h := hn99) (l := 0) (c := c99_0) (ts := F99_l0_2_S v1 v2 v3 v4 v5) (ts' := F99_l0_2_X1 v1 v2 v3 v4) (ex := (.exit 0)) pz (by kernel_rfl) trivial
def F99_l0_3 (K : Nat) (v1 : Int) (v2 : Bool) (v3 : List GEdge) : Nat → List GMsg → Int → Option ((Unit) ⊕ (List GMsg))
 | 0, _, _ => none
 | k + 1, v4, v5 =>
  bif (ilt v5 (nlen (len v3))) then
   (bif (inr v5 (len v3)) then
   (elAt v3 v5).bind fun x6 =>
   (F163 K v1 x6).bind fun r7 =>
   bif r7.2 then
    (bif (apok (len v4) 1 16) then
    F99_l0_3 K v1 v2 v3 k (appL v4 [(GMsg.mk x6.To r7.1)]) (wadd .i64 v5 1)
    else none)
   else
   some (.inl ())
   else none)
  else
  some (.inr v4)
def F99_l0_3_S (v1 : Int) (v2 : Bool) (v3 : List GEdge) (v4 : List GMsg) (v5 : Int) : TS := .on [256, 257, 1216, 1217, 1218, 1219, 1220, 1344, 1345, 1472, 1473, 6144, 6145, 6208, 6209, 6272, 6273] [(256, ⟨.one, 0, nob⟩), (257, ⟨.im, 0, (.lit (.int .i64 v1))⟩), (1216, ⟨(.box 176 4), 0, nob⟩), (1217, ⟨.im, 0, (.lit (fnV 164))⟩), (1218, ⟨.im, 0, (.lit (fnV 165))⟩), (1219, ⟨.im, 0, (.lit (.bool v2))⟩), (1220, ⟨.im, 0, (.lit (fnV 163))⟩), (1344, ⟨.one, 0, nob⟩), (1345, ⟨(.own 89), 0, (.sl (len v3) (flat eGEdge v3))⟩), (1472, ⟨.one, 0, nob⟩), (1473, ⟨(.own 130), 0, (.sl (len v4) (flat eGMsg v4))⟩), (6144, ⟨.one, 0, nob⟩), (6145, ⟨(.vw 1345 0), 0, nob⟩), (6208, ⟨.one, 0, nob⟩), (6209, ⟨.im, 0, (.lit (.int .i64 (nlen (len v3))))⟩), (6272, ⟨.one, 0, nob⟩), (6273, ⟨.im, 0, (.lit (.int .i64 v5))⟩)]
def F99_l0_3_X0 (v1 : Int) (v2 : Bool) (v3 : List GEdge) (w4 : Unit) : TS := .on [896, 897, 960, 961, 1024, 1025, 1088, 1089] [(896, ⟨.one, 0, nob⟩), (897, ⟨.im, 0, (.lit (.int .i64 0))⟩), (960, ⟨.one, 0, nob⟩), (961, ⟨(.own 130), 0, (.sl 0 [])⟩), (1024, ⟨.one, 0, nob⟩), (1025, ⟨.im, 0, (.lit (.bool false))⟩), (1088, ⟨.one, 0, nob⟩), (1089, ⟨.im, 0, (.lit (.int .i64 8))⟩)]
def F99_l0_3_X1 (v1 : Int) (v2 : Bool) (v3 : List GEdge) (w4 : List GMsg) : TS := .on [256, 257, 1472, 1473] [(256, ⟨.one, 0, nob⟩), (257, ⟨.im, 0, (.lit (.int .i64 v1))⟩), (1472, ⟨.one, 0, nob⟩), (1473, ⟨(.own 130), 0, (.sl (len w4) (flat eGMsg w4))⟩)]
theorem F99_l0_3_ok (K : Nat) (v1 : Int) (v2 : Bool) (v3 : List GEdge) : ∀ (k : Nat) (v4 : List GMsg) (v5 : Int) (r : (Unit) ⊕ (List GMsg)), F99_l0_3 K v1 v2 v3 k v4 v5 = some r → (Sum.elim (fun w => LoopEv E H hn99 0 c99_0 (F99_l0_3_S v1 v2 v3 v4 v5) .ret (F99_l0_3_X0 v1 v2 v3 w)) (fun w => LoopEv E H hn99 0 c99_0 (F99_l0_3_S v1 v2 v3 v4 v5) (.exit 0) (F99_l0_3_X1 v1 v2 v3 w))) r := by
 intro k
 induction k with
 | zero => intro v4 v5 r hF; cases hF
 | succ k ih =>
  intro v4 v5 r hF
  rw [F99_l0_3] at hF
  refine cond_some hF (fun h6 hF => ?_) (fun h6 hF => ?_)
  ·
   refine cond_some hF (fun h7 hF => ?_) (fun _ hF => nomatch hF)
   refine bind_some hF (fun x8 h9 hF => ?_)
   refine bind_some hF (fun r10 h11 hF => ?_)
   have q14 : PQ hn99 fun l => (.test (ilt v5 (nlen (len v3))) true :: .test (inr v5 (len v3)) true :: .sub (flat eGEdge v3) (nidx v5 3) 3 [(.lit (.int .i64 x8.From)), (.lit (.int .i64 x8.To)), (.lit (.int .i64 x8.W))] :: .call 163 [.one (.lit (.int .i64 v1)), .agg (eGEdge x8)] (F163_res r10) :: .test (leadsAny (Res.mk [(.one (.im (.lit (.int .i64 r10.1)))), (.one (.im (.lit (.bool r10.2))))] [])) false :: l) := fun z => ⟨h6, h7, ⟨rfl, sub_flat0 eGEdge_len h9 3 (by decide)⟩, (F163_ok K v1 x8 _ h11), (leads_ok (by simp [leadsAny, RV.leads, RC.leads, leadsT, hasSl_lit, flat_ns eGEdge_ns])), z⟩
   refine cond_some hF (fun h12 hF => ?_) (fun h12 hF => ?_)
   ·
    refine cond_some hF (fun h13 hF => ?_) (fun _ hF => nomatch hF)
    have pz : HoldAll E H hn99 [.test (bnot r10.2) false, .test (leqm [(.lit (.int .i64 x8.To)), (.lit (.int .i64 r10.1))] 1 2) true, .test (apok (len v4) 1 16) true, .sl (nadd (len v4) 1) (lapp (flat eGMsg v4) [(.lit (.int .i64 x8.To)), (.lit (.int .i64 r10.1))]) (len (α := GMsg) (appL v4 [(GMsg.mk x8.To r10.1)])) (flat eGMsg (appL v4 [(GMsg.mk x8.To r10.1)])), .int (wadd .i64 v5 1) (wadd .i64 v5 1)] := ⟨(bnot_t h12), rfl, h13, (app_ok (enc := eGMsg) (v4 : List GMsg) [(GMsg.mk x8.To r10.1)]), rfl, trivial⟩
    have h0 := ih _ _ _ hF
    have hn := fun ex ts' => loop_nextC (h := hn99) (l := 0) (c := c99_0) (ts := F99_l0_3_S v1 v2 v3 v4 v5) (ts1 := (F99_l0_3_S v1 v2 v3 (appL v4 [(GMsg.mk x8.To r10.1)]) (wadd .i64 v5 1))) (ex := ex) (ts' := ts') (q14 pz) (by kernel_rfl)
    cases r with
    | inl w => exact hn _ _ h0
    | inr w => exact hn _ _ h0
   obtain rfl := Option.some.inj hF
   have pz : HoldAll E H hn99 [.test (bnot r10.2) true] := ⟨(bnot_f h12), trivial⟩
   exact loop_endC (h := hn99) (l := 0) (c := c99_0) (ts := F99_l0_3_S v1 v2 v3 v4 v5) (ts' := F99_l0_3_X0 v1 v2 v3 ()) (ex := .ret) (q14 pz) (by kernel_rfl) trivial
  obtain rfl := Option.some.inj hF
  have pz : HoldAll E H hn99 [.test (ilt v5 (nlen (len v3))) false] := ⟨h6, trivial⟩
  exact loop_endC (h := hn99) (l := 0) (c := c99_0) (ts := F99_l0_3_S v1 v2 v3 v4 v5) (ts' := F99_l0_3_X1 v1 v2 v3 v4) (ex := (.exit 0)) pz (by kernel_rfl) trivial
def F99 (K : Nat) (a1 : GGraph) (a2 : GJob) (a3 : Int) (a4 : Int) (a5 : Int) (a6 : Int) (a7 : Bool) : Option (Int × List GMsg × Bool × Int) :=
 (F94 K a1 a2).bind fun r8 =>
 bif (ieq r8 0) then
  (bif (ilt a4 0) then
   (some (0, ([], (false, 4))))
  else
  bif (ile a1.N a4) then
   (some (0, ([], (false, 4))))
  else
  bif (ilt a3 0) then
   (some (0, ([], (false, 1))))
  else
  bif (ilt 40 a3) then
   (some (0, ([], (false, 1))))
  else
  bif a7 then
   ((F143 K a2.Prog).bind fun r9 =>
   bif (areFns [r9.1.start_, r9.1.better_, r9.1.send_] [158, 159, 160]) then
    ((F68 K a1 a4).bind fun r10 =>
    bif (ieq a3 0) then
     (bif r9.1.only_ then
      ((F159 K a6 a5).bind fun r11 =>
      bif r11 then
       ((F99_l0_0 K a6 r9.1.only_ r10 K [] 0).bind fun y12 =>
       Sum.elim (fun w13 =>
        some (0, ([], (false, 8))))
        (fun w14 =>
        some (a6, (w14, (true, 0)))) y12)
      else
      bif (ieq a4 a2.Source) then
       ((F99_l0_0 K a5 r9.1.only_ r10 K [] 0).bind fun y15 =>
       Sum.elim (fun w16 =>
        some (0, ([], (false, 8))))
        (fun w17 =>
        some (a5, (w17, (true, 0)))) y15)
      else
      some (a5, ([], (true, 0))))
     else
     (F159 K a6 a5).bind fun r18 =>
     bif r18 then
      ((F99_l0_0 K a6 r9.1.only_ r10 K [] 0).bind fun y19 =>
      Sum.elim (fun w20 =>
       some (0, ([], (false, 8))))
       (fun w21 =>
       some (a6, (w21, (true, 0)))) y19)
     else
     (F99_l0_0 K a5 r9.1.only_ r10 K [] 0).bind fun y22 =>
     Sum.elim (fun w23 =>
      some (0, ([], (false, 8))))
      (fun w24 =>
      some (a5, (w24, (true, 0)))) y22)
    else
    (F159 K a6 a5).bind fun r25 =>
    bif r25 then
     ((F99_l0_0 K a6 r9.1.only_ r10 K [] 0).bind fun y26 =>
     Sum.elim (fun w27 =>
      some (0, ([], (false, 8))))
      (fun w28 =>
      some (a6, (w28, (true, 0)))) y26)
    else
    some (a5, ([], (true, 0))))
   else
   bif (areFns [r9.1.start_, r9.1.better_, r9.1.send_] [158, 159, 161]) then
    ((F68 K a1 a4).bind fun r29 =>
    bif (ieq a3 0) then
     (bif r9.1.only_ then
      ((F159 K a6 a5).bind fun r30 =>
      bif r30 then
       ((F99_l0_1 K a6 r9.1.only_ r29 K [] 0).bind fun y31 =>
       Sum.elim (fun w32 =>
        some (0, ([], (false, 8))))
        (fun w33 =>
        some (a6, (w33, (true, 0)))) y31)
      else
      bif (ieq a4 a2.Source) then
       ((F99_l0_1 K a5 r9.1.only_ r29 K [] 0).bind fun y34 =>
       Sum.elim (fun w35 =>
        some (0, ([], (false, 8))))
        (fun w36 =>
        some (a5, (w36, (true, 0)))) y34)
      else
      some (a5, ([], (true, 0))))
     else
     (F159 K a6 a5).bind fun r37 =>
     bif r37 then
      ((F99_l0_1 K a6 r9.1.only_ r29 K [] 0).bind fun y38 =>
      Sum.elim (fun w39 =>
       some (0, ([], (false, 8))))
       (fun w40 =>
       some (a6, (w40, (true, 0)))) y38)
     else
     (F99_l0_1 K a5 r9.1.only_ r29 K [] 0).bind fun y41 =>
     Sum.elim (fun w42 =>
      some (0, ([], (false, 8))))
      (fun w43 =>
      some (a5, (w43, (true, 0)))) y41)
    else
    (F159 K a6 a5).bind fun r44 =>
    bif r44 then
     ((F99_l0_1 K a6 r9.1.only_ r29 K [] 0).bind fun y45 =>
     Sum.elim (fun w46 =>
      some (0, ([], (false, 8))))
      (fun w47 =>
      some (a6, (w47, (true, 0)))) y45)
    else
    some (a5, ([], (true, 0))))
   else
   bif (areFns [r9.1.start_, r9.1.better_, r9.1.send_] [162, 159, 163]) then
    ((F68 K a1 a4).bind fun r48 =>
    bif (ieq a3 0) then
     (bif r9.1.only_ then
      ((F159 K a6 a5).bind fun r49 =>
      bif r49 then
       ((F99_l0_2 K a6 r9.1.only_ r48 K [] 0).bind fun y50 =>
       Sum.elim (fun w51 =>
        some (0, ([], (false, 8))))
        (fun w52 =>
        some (a6, (w52, (true, 0)))) y50)
      else
      bif (ieq a4 a2.Source) then
       ((F99_l0_2 K a5 r9.1.only_ r48 K [] 0).bind fun y53 =>
       Sum.elim (fun w54 =>
        some (0, ([], (false, 8))))
        (fun w55 =>
        some (a5, (w55, (true, 0)))) y53)
      else
      some (a5, ([], (true, 0))))
     else
     (F159 K a6 a5).bind fun r56 =>
     bif r56 then
      ((F99_l0_2 K a6 r9.1.only_ r48 K [] 0).bind fun y57 =>
      Sum.elim (fun w58 =>
       some (0, ([], (false, 8))))
       (fun w59 =>
       some (a6, (w59, (true, 0)))) y57)
     else
     (F99_l0_2 K a5 r9.1.only_ r48 K [] 0).bind fun y60 =>
     Sum.elim (fun w61 =>
      some (0, ([], (false, 8))))
      (fun w62 =>
      some (a5, (w62, (true, 0)))) y60)
    else
    (F159 K a6 a5).bind fun r63 =>
    bif r63 then
     ((F99_l0_2 K a6 r9.1.only_ r48 K [] 0).bind fun y64 =>
     Sum.elim (fun w65 =>
      some (0, ([], (false, 8))))
      (fun w66 =>
      some (a6, (w66, (true, 0)))) y64)
    else
    some (a5, ([], (true, 0))))
   else
   bif (areFns [r9.1.start_, r9.1.better_, r9.1.send_] [164, 165, 163]) then
    ((F68 K a1 a4).bind fun r67 =>
    bif (ieq a3 0) then
     (bif r9.1.only_ then
      ((F165 K a6 a5).bind fun r68 =>
      bif r68 then
       ((F99_l0_3 K a6 r9.1.only_ r67 K [] 0).bind fun y69 =>
       Sum.elim (fun w70 =>
        some (0, ([], (false, 8))))
        (fun w71 =>
        some (a6, (w71, (true, 0)))) y69)
      else
      bif (ieq a4 a2.Source) then
       ((F99_l0_3 K a5 r9.1.only_ r67 K [] 0).bind fun y72 =>
       Sum.elim (fun w73 =>
        some (0, ([], (false, 8))))
        (fun w74 =>
        some (a5, (w74, (true, 0)))) y72)
      else
      some (a5, ([], (true, 0))))
     else
     (F165 K a6 a5).bind fun r75 =>
     bif r75 then
      ((F99_l0_3 K a6 r9.1.only_ r67 K [] 0).bind fun y76 =>
      Sum.elim (fun w77 =>
       some (0, ([], (false, 8))))
       (fun w78 =>
       some (a6, (w78, (true, 0)))) y76)
     else
     (F99_l0_3 K a5 r9.1.only_ r67 K [] 0).bind fun y79 =>
     Sum.elim (fun w80 =>
      some (0, ([], (false, 8))))
      (fun w81 =>
      some (a5, (w81, (true, 0)))) y79)
    else
    (F165 K a6 a5).bind fun r82 =>
    bif r82 then
     ((F99_l0_3 K a6 r9.1.only_ r67 K [] 0).bind fun y83 =>
     Sum.elim (fun w84 =>
      some (0, ([], (false, 8))))
      (fun w85 =>
      some (a6, (w85, (true, 0)))) y83)
    else
    some (a5, ([], (true, 0))))
   else
   bif (areFns [r9.1.start_, r9.1.better_, r9.1.send_] [166, 0, 163]) then
    ((F68 K a1 a4).bind fun r86 =>
    (F146 K r86 a3 a5 a6).bind fun r87 =>
    some (r87.1, (r87.2.1, (r87.2.2.1, r87.2.2.2))))
   else
   bif (areFns [r9.1.start_, r9.1.better_, r9.1.send_] [0, 0, 0]) then
   (F68 K a1 a4).bind fun r88 =>
   (F146 K r88 a3 a5 a6).bind fun r89 =>
   some (r89.1, (r89.2.1, (r89.2.2.1, r89.2.2.2)))
   else none)
  else
  (F143 K a2.Prog).bind fun r90 =>
  bif (areFns [r90.1.start_, r90.1.better_, r90.1.send_] [158, 159, 160]) then
   ((F68 K a1 a4).bind fun r91 =>
   bif (ieq a3 0) then
    (bif r90.1.only_ then
     (bif (ieq a4 a2.Source) then
      ((F99_l0_0 K a5 r90.1.only_ r91 K [] 0).bind fun y92 =>
      Sum.elim (fun w93 =>
       some (0, ([], (false, 8))))
       (fun w94 =>
       some (a5, (w94, (true, 0)))) y92)
     else
     some (a5, ([], (true, 0))))
    else
    (F99_l0_0 K a5 r90.1.only_ r91 K [] 0).bind fun y95 =>
    Sum.elim (fun w96 =>
     some (0, ([], (false, 8))))
     (fun w97 =>
     some (a5, (w97, (true, 0)))) y95)
   else
   some (a5, ([], (true, 0))))
  else
  bif (areFns [r90.1.start_, r90.1.better_, r90.1.send_] [158, 159, 161]) then
   ((F68 K a1 a4).bind fun r98 =>
   bif (ieq a3 0) then
    (bif r90.1.only_ then
     (bif (ieq a4 a2.Source) then
      ((F99_l0_1 K a5 r90.1.only_ r98 K [] 0).bind fun y99 =>
      Sum.elim (fun w100 =>
       some (0, ([], (false, 8))))
       (fun w101 =>
       some (a5, (w101, (true, 0)))) y99)
     else
     some (a5, ([], (true, 0))))
    else
    (F99_l0_1 K a5 r90.1.only_ r98 K [] 0).bind fun y102 =>
    Sum.elim (fun w103 =>
     some (0, ([], (false, 8))))
     (fun w104 =>
     some (a5, (w104, (true, 0)))) y102)
   else
   some (a5, ([], (true, 0))))
  else
  bif (areFns [r90.1.start_, r90.1.better_, r90.1.send_] [162, 159, 163]) then
   ((F68 K a1 a4).bind fun r105 =>
   bif (ieq a3 0) then
    (bif r90.1.only_ then
     (bif (ieq a4 a2.Source) then
      ((F99_l0_2 K a5 r90.1.only_ r105 K [] 0).bind fun y106 =>
      Sum.elim (fun w107 =>
       some (0, ([], (false, 8))))
       (fun w108 =>
       some (a5, (w108, (true, 0)))) y106)
     else
     some (a5, ([], (true, 0))))
    else
    (F99_l0_2 K a5 r90.1.only_ r105 K [] 0).bind fun y109 =>
    Sum.elim (fun w110 =>
     some (0, ([], (false, 8))))
     (fun w111 =>
     some (a5, (w111, (true, 0)))) y109)
   else
   some (a5, ([], (true, 0))))
  else
  bif (areFns [r90.1.start_, r90.1.better_, r90.1.send_] [164, 165, 163]) then
   ((F68 K a1 a4).bind fun r112 =>
   bif (ieq a3 0) then
    (bif r90.1.only_ then
     (bif (ieq a4 a2.Source) then
      ((F99_l0_3 K a5 r90.1.only_ r112 K [] 0).bind fun y113 =>
      Sum.elim (fun w114 =>
       some (0, ([], (false, 8))))
       (fun w115 =>
       some (a5, (w115, (true, 0)))) y113)
     else
     some (a5, ([], (true, 0))))
    else
    (F99_l0_3 K a5 r90.1.only_ r112 K [] 0).bind fun y116 =>
    Sum.elim (fun w117 =>
     some (0, ([], (false, 8))))
     (fun w118 =>
     some (a5, (w118, (true, 0)))) y116)
   else
   some (a5, ([], (true, 0))))
  else
  bif (areFns [r90.1.start_, r90.1.better_, r90.1.send_] [166, 0, 163]) then
   ((F68 K a1 a4).bind fun r119 =>
   (F146 K r119 a3 a5 0).bind fun r120 =>
   some (r120.1, (r120.2.1, (r120.2.2.1, r120.2.2.2))))
  else
  bif (areFns [r90.1.start_, r90.1.better_, r90.1.send_] [0, 0, 0]) then
  (F68 K a1 a4).bind fun r121 =>
  (F146 K r121 a3 a5 0).bind fun r122 =>
  some (r122.1, (r122.2.1, (r122.2.2.1, r122.2.2.2)))
  else none)
 else
 some (0, ([], (false, r8)))
theorem F99_ok (K : Nat) (a1 : GGraph) (a2 : GJob) (a3 : Int) (a4 : Int) (a5 : Int) (a6 : Int) (a7 : Bool) (r : Int × List GMsg × Bool × Int) (hF : F99 K a1 a2 a3 a4 a5 a6 a7 = some r) : Evt E H 99 [.agg (eGGraph a1), .agg (eGJob a2), .one (.lit (.int .i64 a3)), .one (.lit (.int .i64 a4)), .one (.lit (.int .i64 a5)), .one (.lit (.int .i64 a6)), .one (.lit (.bool a7))] (F99_res r) := by
 rw [F99] at hF
 refine bind_some hF (fun r8 h9 hF => ?_)
 refine cond_some hF (fun h10 hF => ?_) (fun h10 hF => ?_)
 ·
  have q236 : PQ hn99 fun l => (.call 94 [.agg (eGGraph a1), .agg (eGJob a2)] (F94_res r8) :: .test (leadsAny (Res.mk [(.one (.im (.lit (.int .i64 r8))))] [])) false :: .test (ine r8 0) false :: l) := fun z => ⟨(F94_ok K a1 a2 _ h9), (leads_ok (by simp [leadsAny, RV.leads, RC.leads, leadsT, hasSl_lit, flat_ns eGJob_ns])), (ine_t h10), z⟩
  refine cond_some hF (fun h11 hF => ?_) (fun h11 hF => ?_)
  ·
   obtain rfl := Option.some.inj hF
   have pz : HoldAll E H hn99 [.test (beqb (ilt a4 0) false) false, .test (beqb (ilt a4 0) false) false, .test (beqb (ilt a4 0) false) false, .test (beqb (ilt a4 0) false) false, .test (ilt a4 0) true, .test true true] := ⟨(beqb_ft h11), (beqb_ft h11), (beqb_ft h11), (beqb_ft h11), h11, rfl, trivial⟩
   exact fn_playC hn99 (r := F99_res (0, ([], (false, 4)))) (q236 pz) (by kernel_rfl) (by kernel_rfl)
  have q237 : PQ hn99 fun l => (.test (beqb (ilt a4 0) false) true :: .test (beqb (ilt a4 0) false) true :: .test (beqb (ilt a4 0) false) true :: .test (beqb (ilt a4 0) false) true :: .test (ilt a4 0) false :: l) := fun z => ⟨(beqb_ff h11), (beqb_ff h11), (beqb_ff h11), (beqb_ff h11), h11, z⟩
  refine cond_some hF (fun h12 hF => ?_) (fun h12 hF => ?_)
  ·
   obtain rfl := Option.some.inj hF
   have pz : HoldAll E H hn99 [.test (ige a4 a1.N) true] := ⟨(ige_eq h12), trivial⟩
   exact fn_playC hn99 (r := F99_res (0, ([], (false, 4)))) (q236 (q237 pz)) (by kernel_rfl) (by kernel_rfl)
  refine cond_some hF (fun h13 hF => ?_) (fun h13 hF => ?_)
  ·
   obtain rfl := Option.some.inj hF
   have pz : HoldAll E H hn99 [.test (ige a4 a1.N) false, .test (beqb (ilt a3 0) false) false, .test (beqb (ilt a3 0) false) false, .test (ilt a3 0) true, .test true true] := ⟨(ige_eq h12), (beqb_ft h13), (beqb_ft h13), h13, rfl, trivial⟩
   exact fn_playC hn99 (r := F99_res (0, ([], (false, 1)))) (q236 (q237 pz)) (by kernel_rfl) (by kernel_rfl)
  have q238 : PQ hn99 fun l => (.test (ige a4 a1.N) false :: .test (beqb (ilt a3 0) false) true :: .test (beqb (ilt a3 0) false) true :: .test (ilt a3 0) false :: l) := fun z => ⟨(ige_eq h12), (beqb_ff h13), (beqb_ff h13), h13, z⟩
  refine cond_some hF (fun h14 hF => ?_) (fun h14 hF => ?_)
  ·
   obtain rfl := Option.some.inj hF
   have pz : HoldAll E H hn99 [.test (igt a3 40) true] := ⟨(igt_eq h14), trivial⟩
   exact fn_playC hn99 (r := F99_res (0, ([], (false, 1)))) (q236 (q237 (q238 pz))) (by kernel_rfl) (by kernel_rfl)
  refine cond_some hF (fun h15 hF => ?_) (fun h15 hF => ?_)
  ·
   refine bind_some hF (fun r16 h17 hF => ?_)
   refine cond_some hF (fun h18 hF => ?_) (fun h18 hF => ?_)
   ·
    refine bind_some hF (fun r19 h20 hF => ?_)
    have q239 : PQ hn99 fun l => (.test (igt a3 40) false :: .test (bnot a7) false :: .call 143 [.one (.lit (.int .i64 a2.Prog))] (F143_res0 r16) :: .test (leadsAny (Res.mk [(.agg [(.im (.lit (fnV 158))), (.im (.lit (fnV 159))), (.im (.lit (.bool r16.1.only_))), (.im (.lit (fnV 160)))]), (.one (.im (.lit (.bool r16.2))))] [])) false :: .call 68 [.agg (eGGraph a1), .one (.lit (.int .i64 a4))] (F68_res r19) :: .test (leadsAny (Res.mk [(.one (.own 89 (.sl (len r19) (flat eGEdge r19))))] [])) false :: .test false false :: l) := fun z => ⟨(igt_eq h14), (bnot_t h15), (F143_ok0 _ h18 (F143_ok K a2.Prog _ h17)), (leads_ok (by simp [leadsAny, RV.leads, RC.leads, leadsT, hasSl_lit, flat_ns eGEdge_ns])), (F68_ok K a1 a4 _ h20), (leads_ok (by simp [leadsAny, RV.leads, RC.leads, leadsT, hasSl_lit, flat_ns eGEdge_ns])), rfl, z⟩
    refine cond_some hF (fun h21 hF => ?_) (fun h21 hF => ?_)
    ·
     have q240 : PQ hn99 fun l => (.test (beqb (ieq a3 0) true) true :: .test (beqb (ieq a3 0) true) true :: .test (beqb (ieq a3 0) true) true :: .test (beqb (ieq a3 0) true) true :: l) := fun z => ⟨(beqb_t h21), (beqb_t h21), (beqb_t h21), (beqb_t h21), z⟩
     refine cond_some hF (fun h22 hF => ?_) (fun h22 hF => ?_)
     ·
      refine bind_some hF (fun r23 h24 hF => ?_)
      have q241 : PQ hn99 fun l => (.test (beqb (bnot r16.1.only_) false) true :: .test (beqb (bnot r16.1.only_) false) true :: .test (beqb (bnot r16.1.only_) false) true :: .test (beqb (bnot r16.1.only_) false) true :: .test (beqb (ieq a3 0) true) true :: .test (bnot r16.1.only_) false :: .test (ieq a3 0) true :: .test (beqb a7 true) true :: .test (beqb a7 true) true :: .test (beqb a7 true) true :: .test (beqb a7 true) true :: .test (beqb a7 true) true :: .call 159 [.one (.lit (.int .i64 a6)), .one (.lit (.int .i64 a5))] (F159_res r23) :: .test (leadsAny (Res.mk [(.one (.im (.lit (.bool r23))))] [])) false :: .test a7 true :: l) := fun z => ⟨(beqb_ff (bnot_t h22)), (beqb_ff (bnot_t h22)), (beqb_ff (bnot_t h22)), (beqb_ff (bnot_t h22)), (beqb_t h21), (bnot_t h22), h21, (beqb_t h15), (beqb_t h15), (beqb_t h15), (beqb_t h15), (beqb_t h15), (F159_ok K a6 a5 _ h24), (leads_ok (by simp [leadsAny, RV.leads, RC.leads, leadsT, hasSl_lit])), h15, z⟩
      refine cond_some hF (fun h25 hF => ?_) (fun h25 hF => ?_)
      ·
       have q242 : PQ hn99 fun l => (.test r23 true :: .test (bnot true) false :: .int (nlen (len r19)) (nlen (len r19)) :: l) := fun z => ⟨h25, (bnot_t rfl), rfl, z⟩
       refine bind_some hF (fun y27 h26 hF => ?_)
       refine sum_some hF (fun w28 hx hF => ?_) (fun w29 hx hF => ?_)
       ·
        subst hx
        obtain rfl := Option.some.inj hF
        have pz : HoldAll E H hn99 [.loop 0 c99_0 (F99_l0_0_S a6 r16.1.only_ r19 [] 0) .ret (F99_l0_0_X0 a6 r16.1.only_ r19 w28)] := ⟨(F99_l0_0_ok K a6 r16.1.only_ r19 K [] 0 _ h26), trivial⟩
        exact fn_playC hn99 (r := F99_res (0, ([], (false, 8)))) (q236 (q237 (q238 (q239 (q240 (q241 (q242 pz))))))) (by kernel_rfl) (by kernel_rfl)
       subst hx
       obtain rfl := Option.some.inj hF
       have pz : HoldAll E H hn99 [.loop 0 c99_0 (F99_l0_0_S a6 r16.1.only_ r19 [] 0) (.exit 0) (F99_l0_0_X1 a6 r16.1.only_ r19 w29)] := ⟨(F99_l0_0_ok K a6 r16.1.only_ r19 K [] 0 _ h26), trivial⟩
       exact fn_playC hn99 (r := F99_res (a6, (w29, (true, 0)))) (q236 (q237 (q238 (q239 (q240 (q241 (q242 pz))))))) (by kernel_rfl) (by kernel_rfl)
      refine cond_some hF (fun h30 hF => ?_) (fun h30 hF => ?_)
      ·
       have q243 : PQ hn99 fun l => (.test r23 false :: .test (bnot (ieq a4 a2.Source)) false :: .int (nlen (len r19)) (nlen (len r19)) :: l) := fun z => ⟨h25, (bnot_t h30), rfl, z⟩
       refine bind_some hF (fun y32 h31 hF => ?_)
       refine sum_some hF (fun w33 hx hF => ?_) (fun w34 hx hF => ?_)
       ·
        subst hx
        obtain rfl := Option.some.inj hF
        have pz : HoldAll E H hn99 [.loop 0 c99_0 (F99_l0_0_S a5 r16.1.only_ r19 [] 0) .ret (F99_l0_0_X0 a5 r16.1.only_ r19 w33)] := ⟨(F99_l0_0_ok K a5 r16.1.only_ r19 K [] 0 _ h31), trivial⟩
        exact fn_playC hn99 (r := F99_res (0, ([], (false, 8)))) (q236 (q237 (q238 (q239 (q240 (q241 (q243 pz))))))) (by kernel_rfl) (by kernel_rfl)
       subst hx
       obtain rfl := Option.some.inj hF
       have pz : HoldAll E H hn99 [.loop 0 c99_0 (F99_l0_0_S a5 r16.1.only_ r19 [] 0) (.exit 0) (F99_l0_0_X1 a5 r16.1.only_ r19 w34)] := ⟨(F99_l0_0_ok K a5 r16.1.only_ r19 K [] 0 _ h31), trivial⟩
       exact fn_playC hn99 (r := F99_res (a5, (w34, (true, 0)))) (q236 (q237 (q238 (q239 (q240 (q241 (q243 pz))))))) (by kernel_rfl) (by kernel_rfl)
      obtain rfl := Option.some.inj hF
      have pz : HoldAll E H hn99 [.test r23 false, .test (bnot (ieq a4 a2.Source)) true] := ⟨h25, (bnot_f h30), trivial⟩
      exact fn_playC hn99 (r := F99_res (a5, ([], (true, 0)))) (q236 (q237 (q238 (q239 (q240 (q241 pz)))))) (by kernel_rfl) (by kernel_rfl)
     refine bind_some hF (fun r35 h36 hF => ?_)
     have q244 : PQ hn99 fun l => (.test (beqb (bnot r16.1.only_) false) false :: .test (beqb (bnot r16.1.only_) false) false :: .test (beqb (bnot r16.1.only_) false) false :: .test (beqb (bnot r16.1.only_) false) false :: .test (beqb (ieq a3 0) true) true :: .test (bnot r16.1.only_) true :: .test (ieq a3 0) true :: .test (beqb a7 true) true :: .test (beqb a7 true) true :: .test (beqb a7 true) true :: .test (beqb a7 true) true :: .test (beqb a7 true) true :: .call 159 [.one (.lit (.int .i64 a6)), .one (.lit (.int .i64 a5))] (F159_res r35) :: .test (leadsAny (Res.mk [(.one (.im (.lit (.bool r35))))] [])) false :: .test a7 true :: l) := fun z => ⟨(beqb_ft (bnot_f h22)), (beqb_ft (bnot_f h22)), (beqb_ft (bnot_f h22)), (beqb_ft (bnot_f h22)), (beqb_t h21), (bnot_f h22), h21, (beqb_t h15), (beqb_t h15), (beqb_t h15), (beqb_t h15), (beqb_t h15), (F159_ok K a6 a5 _ h36), (leads_ok (by simp [leadsAny, RV.leads, RC.leads, leadsT, hasSl_lit])), h15, z⟩
     refine cond_some hF (fun h37 hF => ?_) (fun h37 hF => ?_)
     ·
      have q245 : PQ hn99 fun l => (.test r35 true :: .test (bnot true) false :: .int (nlen (len r19)) (nlen (len r19)) :: l) := fun z => ⟨h37, (bnot_t rfl), rfl, z⟩
      refine bind_some hF (fun y39 h38 hF => ?_)
      refine sum_some hF (fun w40 hx hF => ?_) (fun w41 hx hF => ?_)
      ·
       subst hx
       obtain rfl := Option.some.inj hF
       have pz : HoldAll E H hn99 [.loop 0 c99_0 (F99_l0_0_S a6 r16.1.only_ r19 [] 0) .ret (F99_l0_0_X0 a6 r16.1.only_ r19 w40)] := ⟨(F99_l0_0_ok K a6 r16.1.only_ r19 K [] 0 _ h38), trivial⟩
       exact fn_playC hn99 (r := F99_res (0, ([], (false, 8)))) (q236 (q237 (q238 (q239 (q240 (q244 (q245 pz))))))) (by kernel_rfl) (by kernel_rfl)
      subst hx
      obtain rfl := Option.some.inj hF
      have pz : HoldAll E H hn99 [.loop 0 c99_0 (F99_l0_0_S a6 r16.1.only_ r19 [] 0) (.exit 0) (F99_l0_0_X1 a6 r16.1.only_ r19 w41)] := ⟨(F99_l0_0_ok K a6 r16.1.only_ r19 K [] 0 _ h38), trivial⟩
      exact fn_playC hn99 (r := F99_res (a6, (w41, (true, 0)))) (q236 (q237 (q238 (q239 (q240 (q244 (q245 pz))))))) (by kernel_rfl) (by kernel_rfl)
     have q246 : PQ hn99 fun l => (.test r35 false :: .test (bnot true) false :: .int (nlen (len r19)) (nlen (len r19)) :: l) := fun z => ⟨h37, (bnot_t rfl), rfl, z⟩
     refine bind_some hF (fun y43 h42 hF => ?_)
     refine sum_some hF (fun w44 hx hF => ?_) (fun w45 hx hF => ?_)
     ·
      subst hx
      obtain rfl := Option.some.inj hF
      have pz : HoldAll E H hn99 [.loop 0 c99_0 (F99_l0_0_S a5 r16.1.only_ r19 [] 0) .ret (F99_l0_0_X0 a5 r16.1.only_ r19 w44)] := ⟨(F99_l0_0_ok K a5 r16.1.only_ r19 K [] 0 _ h42), trivial⟩
      exact fn_playC hn99 (r := F99_res (0, ([], (false, 8)))) (q236 (q237 (q238 (q239 (q240 (q244 (q246 pz))))))) (by kernel_rfl) (by kernel_rfl)
     subst hx
     obtain rfl := Option.some.inj hF
     have pz : HoldAll E H hn99 [.loop 0 c99_0 (F99_l0_0_S a5 r16.1.only_ r19 [] 0) (.exit 0) (F99_l0_0_X1 a5 r16.1.only_ r19 w45)] := ⟨(F99_l0_0_ok K a5 r16.1.only_ r19 K [] 0 _ h42), trivial⟩
     exact fn_playC hn99 (r := F99_res (a5, (w45, (true, 0)))) (q236 (q237 (q238 (q239 (q240 (q244 (q246 pz))))))) (by kernel_rfl) (by kernel_rfl)
    refine bind_some hF (fun r46 h47 hF => ?_)
    have q247 : PQ hn99 fun l => (.test (beqb (ieq a3 0) true) false :: .test (beqb (ieq a3 0) true) false :: .test (beqb (ieq a3 0) true) false :: .test (beqb (ieq a3 0) true) false :: .test (beqb (ieq a3 0) true) false :: .test (ieq a3 0) false :: .test (beqb a7 true) true :: .test (beqb a7 true) true :: .test (beqb a7 true) true :: .test (beqb a7 true) true :: .test (beqb a7 true) true :: .call 159 [.one (.lit (.int .i64 a6)), .one (.lit (.int .i64 a5))] (F159_res r46) :: .test (leadsAny (Res.mk [(.one (.im (.lit (.bool r46))))] [])) false :: .test a7 true :: l) := fun z => ⟨(beqb_t h21), (beqb_t h21), (beqb_t h21), (beqb_t h21), (beqb_t h21), h21, (beqb_t h15), (beqb_t h15), (beqb_t h15), (beqb_t h15), (beqb_t h15), (F159_ok K a6 a5 _ h47), (leads_ok (by simp [leadsAny, RV.leads, RC.leads, leadsT, hasSl_lit])), h15, z⟩
    refine cond_some hF (fun h48 hF => ?_) (fun h48 hF => ?_)
    ·
     have q248 : PQ hn99 fun l => (.test r46 true :: .test (bnot true) false :: .int (nlen (len r19)) (nlen (len r19)) :: l) := fun z => ⟨h48, (bnot_t rfl), rfl, z⟩
     refine bind_some hF (fun y50 h49 hF => ?_)
     refine sum_some hF (fun w51 hx hF => ?_) (fun w52 hx hF => ?_)
     ·
      subst hx
      obtain rfl := Option.some.inj hF
      have pz : HoldAll E H hn99 [.loop 0 c99_0 (F99_l0_0_S a6 r16.1.only_ r19 [] 0) .ret (F99_l0_0_X0 a6 r16.1.only_ r19 w51)] := ⟨(F99_l0_0_ok K a6 r16.1.only_ r19 K [] 0 _ h49), trivial⟩
      exact fn_playC hn99 (r := F99_res (0, ([], (false, 8)))) (q236 (q237 (q238 (q239 (q247 (q248 pz)))))) (by kernel_rfl) (by kernel_rfl)
     subst hx
     obtain rfl := Option.some.inj hF
     have pz : HoldAll E H hn99 [.loop 0 c99_0 (F99_l0_0_S a6 r16.1.only_ r19 [] 0) (.exit 0) (F99_l0_0_X1 a6 r16.1.only_ r19 w52)] := ⟨(F99_l0_0_ok K a6 r16.1.only_ r19 K [] 0 _ h49), trivial⟩
     exact fn_playC hn99 (r := F99_res (a6, (w52, (true, 0)))) (q236 (q237 (q238 (q239 (q247 (q248 pz)))))) (by kernel_rfl) (by kernel_rfl)
    obtain rfl := Option.some.inj hF
    have pz : HoldAll E H hn99 [.test r46 false, .test (bnot false) true] := ⟨h48, (bnot_f rfl), trivial⟩
    exact fn_playC hn99 (r := F99_res (a5, ([], (true, 0)))) (q236 (q237 (q238 (q239 (q247 pz))))) (by kernel_rfl) (by kernel_rfl)
   refine cond_some hF (fun h53 hF => ?_) (fun h53 hF => ?_)
   ·
    refine bind_some hF (fun r54 h55 hF => ?_)
    have q249 : PQ hn99 fun l => (.test (igt a3 40) false :: .test (bnot a7) false :: .call 143 [.one (.lit (.int .i64 a2.Prog))] (F143_res1 r16) :: .test (leadsAny (Res.mk [(.agg [(.im (.lit (fnV 158))), (.im (.lit (fnV 159))), (.im (.lit (.bool r16.1.only_))), (.im (.lit (fnV 161)))]), (.one (.im (.lit (.bool r16.2))))] [])) false :: .call 68 [.agg (eGGraph a1), .one (.lit (.int .i64 a4))] (F68_res r54) :: .test (leadsAny (Res.mk [(.one (.own 89 (.sl (len r54) (flat eGEdge r54))))] [])) false :: .test false false :: l) := fun z => ⟨(igt_eq h14), (bnot_t h15), (F143_ok1 _ h53 (F143_ok K a2.Prog _ h17)), (leads_ok (by simp [leadsAny, RV.leads, RC.leads, leadsT, hasSl_lit, flat_ns eGEdge_ns])), (F68_ok K a1 a4 _ h55), (leads_ok (by simp [leadsAny, RV.leads, RC.leads, leadsT, hasSl_lit, flat_ns eGEdge_ns])), rfl, z⟩
    refine cond_some hF (fun h56 hF => ?_) (fun h56 hF => ?_)
    ·
     have q250 : PQ hn99 fun l => (.test (beqb (ieq a3 0) true) true :: .test (beqb (ieq a3 0) true) true :: .test (beqb (ieq a3 0) true) true :: .test (beqb (ieq a3 0) true) true :: l) := fun z => ⟨(beqb_t h56), (beqb_t h56), (beqb_t h56), (beqb_t h56), z⟩
     refine cond_some hF (fun h57 hF => ?_) (fun h57 hF => ?_)
     ·
      refine bind_some hF (fun r58 h59 hF => ?_)
      have q251 : PQ hn99 fun l => (.test (beqb (bnot r16.1.only_) false) true :: .test (beqb (bnot r16.1.only_) false) true :: .test (beqb (bnot r16.1.only_) false) true :: .test (beqb (bnot r16.1.only_) false) true :: .test (beqb (ieq a3 0) true) true :: .test (bnot r16.1.only_) false :: .test (ieq a3 0) true :: .test (beqb a7 true) true :: .test (beqb a7 true) true :: .test (beqb a7 true) true :: .test (beqb a7 true) true :: .test (beqb a7 true) true :: .call 159 [.one (.lit (.int .i64 a6)), .one (.lit (.int .i64 a5))] (F159_res r58) :: .test (leadsAny (Res.mk [(.one (.im (.lit (.bool r58))))] [])) false :: .test a7 true :: l) := fun z => ⟨(beqb_ff (bnot_t h57)), (beqb_ff (bnot_t h57)), (beqb_ff (bnot_t h57)), (beqb_ff (bnot_t h57)), (beqb_t h56), (bnot_t h57), h56, (beqb_t h15), (beqb_t h15), (beqb_t h15), (beqb_t h15), (beqb_t h15), (F159_ok K a6 a5 _ h59), (leads_ok (by simp [leadsAny, RV.leads, RC.leads, leadsT, hasSl_lit])), h15, z⟩
      refine cond_some hF (fun h60 hF => ?_) (fun h60 hF => ?_)
      ·
       have q252 : PQ hn99 fun l => (.test r58 true :: .test (bnot true) false :: .int (nlen (len r54)) (nlen (len r54)) :: l) := fun z => ⟨h60, (bnot_t rfl), rfl, z⟩
       refine bind_some hF (fun y62 h61 hF => ?_)
       refine sum_some hF (fun w63 hx hF => ?_) (fun w64 hx hF => ?_)
       ·
        subst hx
        obtain rfl := Option.some.inj hF
        have pz : HoldAll E H hn99 [.loop 0 c99_0 (F99_l0_1_S a6 r16.1.only_ r54 [] 0) .ret (F99_l0_1_X0 a6 r16.1.only_ r54 w63)] := ⟨(F99_l0_1_ok K a6 r16.1.only_ r54 K [] 0 _ h61), trivial⟩
        exact fn_playC hn99 (r := F99_res (0, ([], (false, 8)))) (q236 (q237 (q238 (q249 (q250 (q251 (q252 pz))))))) (by kernel_rfl) (by kernel_rfl)
       subst hx
       obtain rfl := Option.some.inj hF
       have pz : HoldAll E H hn99 [.loop 0 c99_0 (F99_l0_1_S a6 r16.1.only_ r54 [] 0) (.exit 0) (F99_l0_1_X1 a6 r16.1.only_ r54 w64)] := ⟨(F99_l0_1_ok K a6 r16.1.only_ r54 K [] 0 _ h61), trivial⟩
       exact fn_playC hn99 (r := F99_res (a6, (w64, (true, 0)))) (q236 (q237 (q238 (q249 (q250 (q251 (q252 pz))))))) (by kernel_rfl) (by kernel_rfl)
      refine cond_some hF (fun h65 hF => ?_) (fun h65 hF => ?_)
      ·
       have q253 : PQ hn99 fun l => (.test r58 false :: .test (bnot (ieq a4 a2.Source)) false :: .int (nlen (len r54)) (nlen (len r54)) :: l) := fun z => ⟨h60, (bnot_t h65), rfl, z⟩
       refine bind_some hF (fun y67 h66 hF => ?_)
       refine sum_some hF (fun w68 hx hF => ?_) (fun w69 hx hF => ?_)
       ·
        subst hx
        obtain rfl := Option.some.inj hF
        have pz : HoldAll E H hn99 [.loop 0 c99_0 (F99_l0_1_S a5 r16.1.only_ r54 [] 0) .ret (F99_l0_1_X0 a5 r16.1.only_ r54 w68)] := ⟨(F99_l0_1_ok K a5 r16.1.only_ r54 K [] 0 _ h66), trivial⟩
        exact fn_playC hn99 (r := F99_res (0, ([], (false, 8)))) (q236 (q237 (q238 (q249 (q250 (q251 (q253 pz))))))) (by kernel_rfl) (by kernel_rfl)
       subst hx
       obtain rfl := Option.some.inj hF
       have pz : HoldAll E H hn99 [.loop 0 c99_0 (F99_l0_1_S a5 r16.1.only_ r54 [] 0) (.exit 0) (F99_l0_1_X1 a5 r16.1.only_ r54 w69)] := ⟨(F99_l0_1_ok K a5 r16.1.only_ r54 K [] 0 _ h66), trivial⟩
       exact fn_playC hn99 (r := F99_res (a5, (w69, (true, 0)))) (q236 (q237 (q238 (q249 (q250 (q251 (q253 pz))))))) (by kernel_rfl) (by kernel_rfl)
      obtain rfl := Option.some.inj hF
      have pz : HoldAll E H hn99 [.test r58 false, .test (bnot (ieq a4 a2.Source)) true] := ⟨h60, (bnot_f h65), trivial⟩
      exact fn_playC hn99 (r := F99_res (a5, ([], (true, 0)))) (q236 (q237 (q238 (q249 (q250 (q251 pz)))))) (by kernel_rfl) (by kernel_rfl)
     refine bind_some hF (fun r70 h71 hF => ?_)
     have q254 : PQ hn99 fun l => (.test (beqb (bnot r16.1.only_) false) false :: .test (beqb (bnot r16.1.only_) false) false :: .test (beqb (bnot r16.1.only_) false) false :: .test (beqb (bnot r16.1.only_) false) false :: .test (beqb (ieq a3 0) true) true :: .test (bnot r16.1.only_) true :: .test (ieq a3 0) true :: .test (beqb a7 true) true :: .test (beqb a7 true) true :: .test (beqb a7 true) true :: .test (beqb a7 true) true :: .test (beqb a7 true) true :: .call 159 [.one (.lit (.int .i64 a6)), .one (.lit (.int .i64 a5))] (F159_res r70) :: .test (leadsAny (Res.mk [(.one (.im (.lit (.bool r70))))] [])) false :: .test a7 true :: l) := fun z => ⟨(beqb_ft (bnot_f h57)), (beqb_ft (bnot_f h57)), (beqb_ft (bnot_f h57)), (beqb_ft (bnot_f h57)), (beqb_t h56), (bnot_f h57), h56, (beqb_t h15), (beqb_t h15), (beqb_t h15), (beqb_t h15), (beqb_t h15), (F159_ok K a6 a5 _ h71), (leads_ok (by simp [leadsAny, RV.leads, RC.leads, leadsT, hasSl_lit])), h15, z⟩
     refine cond_some hF (fun h72 hF => ?_) (fun h72 hF => ?_)
     ·
      have q255 : PQ hn99 fun l => (.test r70 true :: .test (bnot true) false :: .int (nlen (len r54)) (nlen (len r54)) :: l) := fun z => ⟨h72, (bnot_t rfl), rfl, z⟩
      refine bind_some hF (fun y74 h73 hF => ?_)
      refine sum_some hF (fun w75 hx hF => ?_) (fun w76 hx hF => ?_)
      ·
       subst hx
       obtain rfl := Option.some.inj hF
       have pz : HoldAll E H hn99 [.loop 0 c99_0 (F99_l0_1_S a6 r16.1.only_ r54 [] 0) .ret (F99_l0_1_X0 a6 r16.1.only_ r54 w75)] := ⟨(F99_l0_1_ok K a6 r16.1.only_ r54 K [] 0 _ h73), trivial⟩
       exact fn_playC hn99 (r := F99_res (0, ([], (false, 8)))) (q236 (q237 (q238 (q249 (q250 (q254 (q255 pz))))))) (by kernel_rfl) (by kernel_rfl)
      subst hx
      obtain rfl := Option.some.inj hF
      have pz : HoldAll E H hn99 [.loop 0 c99_0 (F99_l0_1_S a6 r16.1.only_ r54 [] 0) (.exit 0) (F99_l0_1_X1 a6 r16.1.only_ r54 w76)] := ⟨(F99_l0_1_ok K a6 r16.1.only_ r54 K [] 0 _ h73), trivial⟩
      exact fn_playC hn99 (r := F99_res (a6, (w76, (true, 0)))) (q236 (q237 (q238 (q249 (q250 (q254 (q255 pz))))))) (by kernel_rfl) (by kernel_rfl)
     have q256 : PQ hn99 fun l => (.test r70 false :: .test (bnot true) false :: .int (nlen (len r54)) (nlen (len r54)) :: l) := fun z => ⟨h72, (bnot_t rfl), rfl, z⟩
     refine bind_some hF (fun y78 h77 hF => ?_)
     refine sum_some hF (fun w79 hx hF => ?_) (fun w80 hx hF => ?_)
     ·
      subst hx
      obtain rfl := Option.some.inj hF
      have pz : HoldAll E H hn99 [.loop 0 c99_0 (F99_l0_1_S a5 r16.1.only_ r54 [] 0) .ret (F99_l0_1_X0 a5 r16.1.only_ r54 w79)] := ⟨(F99_l0_1_ok K a5 r16.1.only_ r54 K [] 0 _ h77), trivial⟩
      exact fn_playC hn99 (r := F99_res (0, ([], (false, 8)))) (q236 (q237 (q238 (q249 (q250 (q254 (q256 pz))))))) (by kernel_rfl) (by kernel_rfl)
     subst hx
     obtain rfl := Option.some.inj hF
     have pz : HoldAll E H hn99 [.loop 0 c99_0 (F99_l0_1_S a5 r16.1.only_ r54 [] 0) (.exit 0) (F99_l0_1_X1 a5 r16.1.only_ r54 w80)] := ⟨(F99_l0_1_ok K a5 r16.1.only_ r54 K [] 0 _ h77), trivial⟩
     exact fn_playC hn99 (r := F99_res (a5, (w80, (true, 0)))) (q236 (q237 (q238 (q249 (q250 (q254 (q256 pz))))))) (by kernel_rfl) (by kernel_rfl)
    refine bind_some hF (fun r81 h82 hF => ?_)
    have q257 : PQ hn99 fun l => (.test (beqb (ieq a3 0) true) false :: .test (beqb (ieq a3 0) true) false :: .test (beqb (ieq a3 0) true) false :: .test (beqb (ieq a3 0) true) false :: .test (beqb (ieq a3 0) true) false :: .test (ieq a3 0) false :: .test (beqb a7 true) true :: .test (beqb a7 true) true :: .test (beqb a7 true) true :: .test (beqb a7 true) true :: .test (beqb a7 true) true :: .call 159 [.one (.lit (.int .i64 a6)), .one (.lit (.int .i64 a5))] (F159_res r81) :: .test (leadsAny (Res.mk [(.one (.im (.lit (.bool r81))))] [])) false :: .test a7 true :: l) := fun z => ⟨(beqb_t h56), (beqb_t h56), (beqb_t h56), (beqb_t h56), (beqb_t h56), h56, (beqb_t h15), (beqb_t h15), (beqb_t h15), (beqb_t h15), (beqb_t h15), (F159_ok K a6 a5 _ h82), (leads_ok (by simp [leadsAny, RV.leads, RC.leads, leadsT, hasSl_lit])), h15, z⟩
    refine cond_some hF (fun h83 hF => ?_) (fun h83 hF => ?_)
    ·
     have q258 : PQ hn99 fun l => (.test r81 true :: .test (bnot true) false :: .int (nlen (len r54)) (nlen (len r54)) :: l) := fun z => ⟨h83, (bnot_t rfl), rfl, z⟩
     refine bind_some hF (fun y85 h84 hF => ?_)
     refine sum_some hF (fun w86 hx hF => ?_) (fun w87 hx hF => ?_)
     ·
      subst hx
      obtain rfl := Option.some.inj hF
      have pz : HoldAll E H hn99 [.loop 0 c99_0 (F99_l0_1_S a6 r16.1.only_ r54 [] 0) .ret (F99_l0_1_X0 a6 r16.1.only_ r54 w86)] := ⟨(F99_l0_1_ok K a6 r16.1.only_ r54 K [] 0 _ h84), trivial⟩
      exact fn_playC hn99 (r := F99_res (0, ([], (false, 8)))) (q236 (q237 (q238 (q249 (q257 (q258 pz)))))) (by kernel_rfl) (by kernel_rfl)
     subst hx
     obtain rfl := Option.some.inj hF
     have pz : HoldAll E H hn99 [.loop 0 c99_0 (F99_l0_1_S a6 r16.1.only_ r54 [] 0) (.exit 0) (F99_l0_1_X1 a6 r16.1.only_ r54 w87)] := ⟨(F99_l0_1_ok K a6 r16.1.only_ r54 K [] 0 _ h84), trivial⟩
     exact fn_playC hn99 (r := F99_res (a6, (w87, (true, 0)))) (q236 (q237 (q238 (q249 (q257 (q258 pz)))))) (by kernel_rfl) (by kernel_rfl)
    obtain rfl := Option.some.inj hF
    have pz : HoldAll E H hn99 [.test r81 false, .test (bnot false) true] := ⟨h83, (bnot_f rfl), trivial⟩
    exact fn_playC hn99 (r := F99_res (a5, ([], (true, 0)))) (q236 (q237 (q238 (q249 (q257 pz))))) (by kernel_rfl) (by kernel_rfl)
   refine cond_some hF (fun h88 hF => ?_) (fun h88 hF => ?_)
   ·
    refine bind_some hF (fun r89 h90 hF => ?_)
    have q259 : PQ hn99 fun l => (.test (igt a3 40) false :: .test (bnot a7) false :: .call 143 [.one (.lit (.int .i64 a2.Prog))] (F143_res2 r16) :: .test (leadsAny (Res.mk [(.agg [(.im (.lit (fnV 162))), (.im (.lit (fnV 159))), (.im (.lit (.bool r16.1.only_))), (.im (.lit (fnV 163)))]), (.one (.im (.lit (.bool r16.2))))] [])) false :: .call 68 [.agg (eGGraph a1), .one (.lit (.int .i64 a4))] (F68_res r89) :: .test (leadsAny (Res.mk [(.one (.own 89 (.sl (len r89) (flat eGEdge r89))))] [])) false :: .test false false :: l) := fun z => ⟨(igt_eq h14), (bnot_t h15), (F143_ok2 _ h88 (F143_ok K a2.Prog _ h17)), (leads_ok (by simp [leadsAny, RV.leads, RC.leads, leadsT, hasSl_lit, flat_ns eGEdge_ns])), (F68_ok K a1 a4 _ h90), (leads_ok (by simp [leadsAny, RV.leads, RC.leads, leadsT, hasSl_lit, flat_ns eGEdge_ns])), rfl, z⟩
    refine cond_some hF (fun h91 hF => ?_) (fun h91 hF => ?_)
    ·
     have q260 : PQ hn99 fun l => (.test (beqb (ieq a3 0) true) true :: .test (beqb (ieq a3 0) true) true :: .test (beqb (ieq a3 0) true) true :: .test (beqb (ieq a3 0) true) true :: l) := fun z => ⟨(beqb_t h91), (beqb_t h91), (beqb_t h91), (beqb_t h91), z⟩
     refine cond_some hF (fun h92 hF => ?_) (fun h92 hF => ?_)
     ·
      refine bind_some hF (fun r93 h94 hF => ?_)
      have q261 : PQ hn99 fun l => (.test (beqb (bnot r16.1.only_) false) true :: .test (beqb (bnot r16.1.only_) false) true :: .test (beqb (bnot r16.1.only_) false) true :: .test (beqb (bnot r16.1.only_) false) true :: .test (beqb (ieq a3 0) true) true :: .test (bnot r16.1.only_) false :: .test (ieq a3 0) true :: .test (beqb a7 true) true :: .test (beqb a7 true) true :: .test (beqb a7 true) true :: .test (beqb a7 true) true :: .test (beqb a7 true) true :: .call 159 [.one (.lit (.int .i64 a6)), .one (.lit (.int .i64 a5))] (F159_res r93) :: .test (leadsAny (Res.mk [(.one (.im (.lit (.bool r93))))] [])) false :: .test a7 true :: l) := fun z => ⟨(beqb_ff (bnot_t h92)), (beqb_ff (bnot_t h92)), (beqb_ff (bnot_t h92)), (beqb_ff (bnot_t h92)), (beqb_t h91), (bnot_t h92), h91, (beqb_t h15), (beqb_t h15), (beqb_t h15), (beqb_t h15), (beqb_t h15), (F159_ok K a6 a5 _ h94), (leads_ok (by simp [leadsAny, RV.leads, RC.leads, leadsT, hasSl_lit])), h15, z⟩
      refine cond_some hF (fun h95 hF => ?_) (fun h95 hF => ?_)
      ·
       have q262 : PQ hn99 fun l => (.test r93 true :: .test (bnot true) false :: .int (nlen (len r89)) (nlen (len r89)) :: l) := fun z => ⟨h95, (bnot_t rfl), rfl, z⟩
       refine bind_some hF (fun y97 h96 hF => ?_)
       refine sum_some hF (fun w98 hx hF => ?_) (fun w99 hx hF => ?_)
       ·
        subst hx
        obtain rfl := Option.some.inj hF
        have pz : HoldAll E H hn99 [.loop 0 c99_0 (F99_l0_2_S a6 r16.1.only_ r89 [] 0) .ret (F99_l0_2_X0 a6 r16.1.only_ r89 w98)] := ⟨(F99_l0_2_ok K a6 r16.1.only_ r89 K [] 0 _ h96), trivial⟩
        exact fn_playC hn99 (r := F99_res (0, ([], (false, 8)))) (q236 (q237 (q238 (q259 (q260 (q261 (q262 pz))))))) (by kernel_rfl) (by kernel_rfl)
       subst hx
       obtain rfl := Option.some.inj hF
       have pz : HoldAll E H hn99 [.loop 0 c99_0 (F99_l0_2_S a6 r16.1.only_ r89 [] 0) (.exit 0) (F99_l0_2_X1 a6 r16.1.only_ r89 w99)] := ⟨(F99_l0_2_ok K a6 r16.1.only_ r89 K [] 0 _ h96), trivial⟩
       exact fn_playC hn99 (r := F99_res (a6, (w99, (true, 0)))) (q236 (q237 (q238 (q259 (q260 (q261 (q262 pz))))))) (by kernel_rfl) (by kernel_rfl)
      refine cond_some hF (fun h100 hF => ?_) (fun h100 hF => ?_)
      ·
       have q263 : PQ hn99 fun l => (.test r93 false :: .test (bnot (ieq a4 a2.Source)) false :: .int (nlen (len r89)) (nlen (len r89)) :: l) := fun z => ⟨h95, (bnot_t h100), rfl, z⟩
       refine bind_some hF (fun y102 h101 hF => ?_)
       refine sum_some hF (fun w103 hx hF => ?_) (fun w104 hx hF => ?_)
       ·
        subst hx
        obtain rfl := Option.some.inj hF
        have pz : HoldAll E H hn99 [.loop 0 c99_0 (F99_l0_2_S a5 r16.1.only_ r89 [] 0) .ret (F99_l0_2_X0 a5 r16.1.only_ r89 w103)] := ⟨(F99_l0_2_ok K a5 r16.1.only_ r89 K [] 0 _ h101), trivial⟩
        exact fn_playC hn99 (r := F99_res (0, ([], (false, 8)))) (q236 (q237 (q238 (q259 (q260 (q261 (q263 pz))))))) (by kernel_rfl) (by kernel_rfl)
       subst hx
       obtain rfl := Option.some.inj hF
       have pz : HoldAll E H hn99 [.loop 0 c99_0 (F99_l0_2_S a5 r16.1.only_ r89 [] 0) (.exit 0) (F99_l0_2_X1 a5 r16.1.only_ r89 w104)] := ⟨(F99_l0_2_ok K a5 r16.1.only_ r89 K [] 0 _ h101), trivial⟩
       exact fn_playC hn99 (r := F99_res (a5, (w104, (true, 0)))) (q236 (q237 (q238 (q259 (q260 (q261 (q263 pz))))))) (by kernel_rfl) (by kernel_rfl)
      obtain rfl := Option.some.inj hF
      have pz : HoldAll E H hn99 [.test r93 false, .test (bnot (ieq a4 a2.Source)) true] := ⟨h95, (bnot_f h100), trivial⟩
      exact fn_playC hn99 (r := F99_res (a5, ([], (true, 0)))) (q236 (q237 (q238 (q259 (q260 (q261 pz)))))) (by kernel_rfl) (by kernel_rfl)
     refine bind_some hF (fun r105 h106 hF => ?_)
     have q264 : PQ hn99 fun l => (.test (beqb (bnot r16.1.only_) false) false :: .test (beqb (bnot r16.1.only_) false) false :: .test (beqb (bnot r16.1.only_) false) false :: .test (beqb (bnot r16.1.only_) false) false :: .test (beqb (ieq a3 0) true) true :: .test (bnot r16.1.only_) true :: .test (ieq a3 0) true :: .test (beqb a7 true) true :: .test (beqb a7 true) true :: .test (beqb a7 true) true :: .test (beqb a7 true) true :: .test (beqb a7 true) true :: .call 159 [.one (.lit (.int .i64 a6)), .one (.lit (.int .i64 a5))] (F159_res r105) :: .test (leadsAny (Res.mk [(.one (.im (.lit (.bool r105))))] [])) false :: .test a7 true :: l) := fun z => ⟨(beqb_ft (bnot_f h92)), (beqb_ft (bnot_f h92)), (beqb_ft (bnot_f h92)), (beqb_ft (bnot_f h92)), (beqb_t h91), (bnot_f h92), h91, (beqb_t h15), (beqb_t h15), (beqb_t h15), (beqb_t h15), (beqb_t h15), (F159_ok K a6 a5 _ h106), (leads_ok (by simp [leadsAny, RV.leads, RC.leads, leadsT, hasSl_lit])), h15, z⟩
     refine cond_some hF (fun h107 hF => ?_) (fun h107 hF => ?_)
     ·
      have q265 : PQ hn99 fun l => (.test r105 true :: .test (bnot true) false :: .int (nlen (len r89)) (nlen (len r89)) :: l) := fun z => ⟨h107, (bnot_t rfl), rfl, z⟩
      refine bind_some hF (fun y109 h108 hF => ?_)
      refine sum_some hF (fun w110 hx hF => ?_) (fun w111 hx hF => ?_)
      ·
       subst hx
       obtain rfl := Option.some.inj hF
       have pz : HoldAll E H hn99 [.loop 0 c99_0 (F99_l0_2_S a6 r16.1.only_ r89 [] 0) .ret (F99_l0_2_X0 a6 r16.1.only_ r89 w110)] := ⟨(F99_l0_2_ok K a6 r16.1.only_ r89 K [] 0 _ h108), trivial⟩
       exact fn_playC hn99 (r := F99_res (0, ([], (false, 8)))) (q236 (q237 (q238 (q259 (q260 (q264 (q265 pz))))))) (by kernel_rfl) (by kernel_rfl)
      subst hx
      obtain rfl := Option.some.inj hF
      have pz : HoldAll E H hn99 [.loop 0 c99_0 (F99_l0_2_S a6 r16.1.only_ r89 [] 0) (.exit 0) (F99_l0_2_X1 a6 r16.1.only_ r89 w111)] := ⟨(F99_l0_2_ok K a6 r16.1.only_ r89 K [] 0 _ h108), trivial⟩
      exact fn_playC hn99 (r := F99_res (a6, (w111, (true, 0)))) (q236 (q237 (q238 (q259 (q260 (q264 (q265 pz))))))) (by kernel_rfl) (by kernel_rfl)
     have q266 : PQ hn99 fun l => (.test r105 false :: .test (bnot true) false :: .int (nlen (len r89)) (nlen (len r89)) :: l) := fun z => ⟨h107, (bnot_t rfl), rfl, z⟩
     refine bind_some hF (fun y113 h112 hF => ?_)
     refine sum_some hF (fun w114 hx hF => ?_) (fun w115 hx hF => ?_)
     ·
      subst hx
      obtain rfl := Option.some.inj hF
      have pz : HoldAll E H hn99 [.loop 0 c99_0 (F99_l0_2_S a5 r16.1.only_ r89 [] 0) .ret (F99_l0_2_X0 a5 r16.1.only_ r89 w114)] := ⟨(F99_l0_2_ok K a5 r16.1.only_ r89 K [] 0 _ h112), trivial⟩
      exact fn_playC hn99 (r := F99_res (0, ([], (false, 8)))) (q236 (q237 (q238 (q259 (q260 (q264 (q266 pz))))))) (by kernel_rfl) (by kernel_rfl)
     subst hx
     obtain rfl := Option.some.inj hF
     have pz : HoldAll E H hn99 [.loop 0 c99_0 (F99_l0_2_S a5 r16.1.only_ r89 [] 0) (.exit 0) (F99_l0_2_X1 a5 r16.1.only_ r89 w115)] := ⟨(F99_l0_2_ok K a5 r16.1.only_ r89 K [] 0 _ h112), trivial⟩
     exact fn_playC hn99 (r := F99_res (a5, (w115, (true, 0)))) (q236 (q237 (q238 (q259 (q260 (q264 (q266 pz))))))) (by kernel_rfl) (by kernel_rfl)
    refine bind_some hF (fun r116 h117 hF => ?_)
    have q267 : PQ hn99 fun l => (.test (beqb (ieq a3 0) true) false :: .test (beqb (ieq a3 0) true) false :: .test (beqb (ieq a3 0) true) false :: .test (beqb (ieq a3 0) true) false :: .test (beqb (ieq a3 0) true) false :: .test (ieq a3 0) false :: .test (beqb a7 true) true :: .test (beqb a7 true) true :: .test (beqb a7 true) true :: .test (beqb a7 true) true :: .test (beqb a7 true) true :: .call 159 [.one (.lit (.int .i64 a6)), .one (.lit (.int .i64 a5))] (F159_res r116) :: .test (leadsAny (Res.mk [(.one (.im (.lit (.bool r116))))] [])) false :: .test a7 true :: l) := fun z => ⟨(beqb_t h91), (beqb_t h91), (beqb_t h91), (beqb_t h91), (beqb_t h91), h91, (beqb_t h15), (beqb_t h15), (beqb_t h15), (beqb_t h15), (beqb_t h15), (F159_ok K a6 a5 _ h117), (leads_ok (by simp [leadsAny, RV.leads, RC.leads, leadsT, hasSl_lit])), h15, z⟩
    refine cond_some hF (fun h118 hF => ?_) (fun h118 hF => ?_)
    ·
     have q268 : PQ hn99 fun l => (.test r116 true :: .test (bnot true) false :: .int (nlen (len r89)) (nlen (len r89)) :: l) := fun z => ⟨h118, (bnot_t rfl), rfl, z⟩
     refine bind_some hF (fun y120 h119 hF => ?_)
     refine sum_some hF (fun w121 hx hF => ?_) (fun w122 hx hF => ?_)
     ·
      subst hx
      obtain rfl := Option.some.inj hF
      have pz : HoldAll E H hn99 [.loop 0 c99_0 (F99_l0_2_S a6 r16.1.only_ r89 [] 0) .ret (F99_l0_2_X0 a6 r16.1.only_ r89 w121)] := ⟨(F99_l0_2_ok K a6 r16.1.only_ r89 K [] 0 _ h119), trivial⟩
      exact fn_playC hn99 (r := F99_res (0, ([], (false, 8)))) (q236 (q237 (q238 (q259 (q267 (q268 pz)))))) (by kernel_rfl) (by kernel_rfl)
     subst hx
     obtain rfl := Option.some.inj hF
     have pz : HoldAll E H hn99 [.loop 0 c99_0 (F99_l0_2_S a6 r16.1.only_ r89 [] 0) (.exit 0) (F99_l0_2_X1 a6 r16.1.only_ r89 w122)] := ⟨(F99_l0_2_ok K a6 r16.1.only_ r89 K [] 0 _ h119), trivial⟩
     exact fn_playC hn99 (r := F99_res (a6, (w122, (true, 0)))) (q236 (q237 (q238 (q259 (q267 (q268 pz)))))) (by kernel_rfl) (by kernel_rfl)
    obtain rfl := Option.some.inj hF
    have pz : HoldAll E H hn99 [.test r116 false, .test (bnot false) true] := ⟨h118, (bnot_f rfl), trivial⟩
    exact fn_playC hn99 (r := F99_res (a5, ([], (true, 0)))) (q236 (q237 (q238 (q259 (q267 pz))))) (by kernel_rfl) (by kernel_rfl)
   refine cond_some hF (fun h123 hF => ?_) (fun h123 hF => ?_)
   ·
    refine bind_some hF (fun r124 h125 hF => ?_)
    have q269 : PQ hn99 fun l => (.test (igt a3 40) false :: .test (bnot a7) false :: .call 143 [.one (.lit (.int .i64 a2.Prog))] (F143_res3 r16) :: .test (leadsAny (Res.mk [(.agg [(.im (.lit (fnV 164))), (.im (.lit (fnV 165))), (.im (.lit (.bool r16.1.only_))), (.im (.lit (fnV 163)))]), (.one (.im (.lit (.bool r16.2))))] [])) false :: .call 68 [.agg (eGGraph a1), .one (.lit (.int .i64 a4))] (F68_res r124) :: .test (leadsAny (Res.mk [(.one (.own 89 (.sl (len r124) (flat eGEdge r124))))] [])) false :: .test false false :: l) := fun z => ⟨(igt_eq h14), (bnot_t h15), (F143_ok3 _ h123 (F143_ok K a2.Prog _ h17)), (leads_ok (by simp [leadsAny, RV.leads, RC.leads, leadsT, hasSl_lit, flat_ns eGEdge_ns])), (F68_ok K a1 a4 _ h125), (leads_ok (by simp [leadsAny, RV.leads, RC.leads, leadsT, hasSl_lit, flat_ns eGEdge_ns])), rfl, z⟩
    refine cond_some hF (fun h126 hF => ?_) (fun h126 hF => ?_)
    ·
     have q270 : PQ hn99 fun l => (.test (beqb (ieq a3 0) true) true :: .test (beqb (ieq a3 0) true) true :: .test (beqb (ieq a3 0) true) true :: .test (beqb (ieq a3 0) true) true :: l) := fun z => ⟨(beqb_t h126), (beqb_t h126), (beqb_t h126), (beqb_t h126), z⟩
     refine cond_some hF (fun h127 hF => ?_) (fun h127 hF => ?_)
     ·
      refine bind_some hF (fun r128 h129 hF => ?_)
      have q271 : PQ hn99 fun l => (.test (beqb (bnot r16.1.only_) false) true :: .test (beqb (bnot r16.1.only_) false) true :: .test (beqb (bnot r16.1.only_) false) true :: .test (beqb (bnot r16.1.only_) false) true :: .test (beqb (ieq a3 0) true) true :: .test (bnot r16.1.only_) false :: .test (ieq a3 0) true :: .test (beqb a7 true) true :: .test (beqb a7 true) true :: .test (beqb a7 true) true :: .test (beqb a7 true) true :: .test (beqb a7 true) true :: .call 165 [.one (.lit (.int .i64 a6)), .one (.lit (.int .i64 a5))] (F165_res r128) :: .test (leadsAny (Res.mk [(.one (.im (.lit (.bool r128))))] [])) false :: .test a7 true :: l) := fun z => ⟨(beqb_ff (bnot_t h127)), (beqb_ff (bnot_t h127)), (beqb_ff (bnot_t h127)), (beqb_ff (bnot_t h127)), (beqb_t h126), (bnot_t h127), h126, (beqb_t h15), (beqb_t h15), (beqb_t h15), (beqb_t h15), (beqb_t h15), (F165_ok K a6 a5 _ h129), (leads_ok (by simp [leadsAny, RV.leads, RC.leads, leadsT, hasSl_lit])), h15, z⟩
      refine cond_some hF (fun h130 hF => ?_) (fun h130 hF => ?_)
      ·
       have q272 : PQ hn99 fun l => (.test r128 true :: .test (bnot true) false :: .int (nlen (len r124)) (nlen (len r124)) :: l) := fun z => ⟨h130, (bnot_t rfl), rfl, z⟩
       refine bind_some hF (fun y132 h131 hF => ?_)
       refine sum_some hF (fun w133 hx hF => ?_) (fun w134 hx hF => ?_)
       ·
        subst hx
        obtain rfl := Option.some.inj hF
        have pz : HoldAll E H hn99 [.loop 0 c99_0 (F99_l0_3_S a6 r16.1.only_ r124 [] 0) .ret (F99_l0_3_X0 a6 r16.1.only_ r124 w133)] := ⟨(F99_l0_3_ok K a6 r16.1.only_ r124 K [] 0 _ h131), trivial⟩
        exact fn_playC hn99 (r := F99_res (0, ([], (false, 8)))) (q236 (q237 (q238 (q269 (q270 (q271 (q272 pz))))))) (by kernel_rfl) (by kernel_rfl)
       subst hx
       obtain rfl := Option.some.inj hF
       have pz : HoldAll E H hn99 [.loop 0 c99_0 (F99_l0_3_S a6 r16.1.only_ r124 [] 0) (.exit 0) (F99_l0_3_X1 a6 r16.1.only_ r124 w134)] := ⟨(F99_l0_3_ok K a6 r16.1.only_ r124 K [] 0 _ h131), trivial⟩
       exact fn_playC hn99 (r := F99_res (a6, (w134, (true, 0)))) (q236 (q237 (q238 (q269 (q270 (q271 (q272 pz))))))) (by kernel_rfl) (by kernel_rfl)
      refine cond_some hF (fun h135 hF => ?_) (fun h135 hF => ?_)
      ·
       have q273 : PQ hn99 fun l => (.test r128 false :: .test (bnot (ieq a4 a2.Source)) false :: .int (nlen (len r124)) (nlen (len r124)) :: l) := fun z => ⟨h130, (bnot_t h135), rfl, z⟩
       refine bind_some hF (fun y137 h136 hF => ?_)
       refine sum_some hF (fun w138 hx hF => ?_) (fun w139 hx hF => ?_)
       ·
        subst hx
        obtain rfl := Option.some.inj hF
        have pz : HoldAll E H hn99 [.loop 0 c99_0 (F99_l0_3_S a5 r16.1.only_ r124 [] 0) .ret (F99_l0_3_X0 a5 r16.1.only_ r124 w138)] := ⟨(F99_l0_3_ok K a5 r16.1.only_ r124 K [] 0 _ h136), trivial⟩
        exact fn_playC hn99 (r := F99_res (0, ([], (false, 8)))) (q236 (q237 (q238 (q269 (q270 (q271 (q273 pz))))))) (by kernel_rfl) (by kernel_rfl)
       subst hx
       obtain rfl := Option.some.inj hF
       have pz : HoldAll E H hn99 [.loop 0 c99_0 (F99_l0_3_S a5 r16.1.only_ r124 [] 0) (.exit 0) (F99_l0_3_X1 a5 r16.1.only_ r124 w139)] := ⟨(F99_l0_3_ok K a5 r16.1.only_ r124 K [] 0 _ h136), trivial⟩
       exact fn_playC hn99 (r := F99_res (a5, (w139, (true, 0)))) (q236 (q237 (q238 (q269 (q270 (q271 (q273 pz))))))) (by kernel_rfl) (by kernel_rfl)
      obtain rfl := Option.some.inj hF
      have pz : HoldAll E H hn99 [.test r128 false, .test (bnot (ieq a4 a2.Source)) true] := ⟨h130, (bnot_f h135), trivial⟩
      exact fn_playC hn99 (r := F99_res (a5, ([], (true, 0)))) (q236 (q237 (q238 (q269 (q270 (q271 pz)))))) (by kernel_rfl) (by kernel_rfl)
     refine bind_some hF (fun r140 h141 hF => ?_)
     have q274 : PQ hn99 fun l => (.test (beqb (bnot r16.1.only_) false) false :: .test (beqb (bnot r16.1.only_) false) false :: .test (beqb (bnot r16.1.only_) false) false :: .test (beqb (bnot r16.1.only_) false) false :: .test (beqb (ieq a3 0) true) true :: .test (bnot r16.1.only_) true :: .test (ieq a3 0) true :: .test (beqb a7 true) true :: .test (beqb a7 true) true :: .test (beqb a7 true) true :: .test (beqb a7 true) true :: .test (beqb a7 true) true :: .call 165 [.one (.lit (.int .i64 a6)), .one (.lit (.int .i64 a5))] (F165_res r140) :: .test (leadsAny (Res.mk [(.one (.im (.lit (.bool r140))))] [])) false :: .test a7 true :: l) := fun z => ⟨(beqb_ft (bnot_f h127)), (beqb_ft (bnot_f h127)), (beqb_ft (bnot_f h127)), (beqb_ft (bnot_f h127)), (beqb_t h126), (bnot_f h127), h126, (beqb_t h15), (beqb_t h15), (beqb_t h15), (beqb_t h15), (beqb_t h15), (F165_ok K a6 a5 _ h141), (leads_ok (by simp [leadsAny, RV.leads, RC.leads, leadsT, hasSl_lit])), h15, z⟩
     refine cond_some hF (fun h142 hF => ?_) (fun h142 hF => ?_)
     ·
      have q275 : PQ hn99 fun l => (.test r140 true :: .test (bnot true) false :: .int (nlen (len r124)) (nlen (len r124)) :: l) := fun z => ⟨h142, (bnot_t rfl), rfl, z⟩
      refine bind_some hF (fun y144 h143 hF => ?_)
      refine sum_some hF (fun w145 hx hF => ?_) (fun w146 hx hF => ?_)
      ·
       subst hx
       obtain rfl := Option.some.inj hF
       have pz : HoldAll E H hn99 [.loop 0 c99_0 (F99_l0_3_S a6 r16.1.only_ r124 [] 0) .ret (F99_l0_3_X0 a6 r16.1.only_ r124 w145)] := ⟨(F99_l0_3_ok K a6 r16.1.only_ r124 K [] 0 _ h143), trivial⟩
       exact fn_playC hn99 (r := F99_res (0, ([], (false, 8)))) (q236 (q237 (q238 (q269 (q270 (q274 (q275 pz))))))) (by kernel_rfl) (by kernel_rfl)
      subst hx
      obtain rfl := Option.some.inj hF
      have pz : HoldAll E H hn99 [.loop 0 c99_0 (F99_l0_3_S a6 r16.1.only_ r124 [] 0) (.exit 0) (F99_l0_3_X1 a6 r16.1.only_ r124 w146)] := ⟨(F99_l0_3_ok K a6 r16.1.only_ r124 K [] 0 _ h143), trivial⟩
      exact fn_playC hn99 (r := F99_res (a6, (w146, (true, 0)))) (q236 (q237 (q238 (q269 (q270 (q274 (q275 pz))))))) (by kernel_rfl) (by kernel_rfl)
     have q276 : PQ hn99 fun l => (.test r140 false :: .test (bnot true) false :: .int (nlen (len r124)) (nlen (len r124)) :: l) := fun z => ⟨h142, (bnot_t rfl), rfl, z⟩
     refine bind_some hF (fun y148 h147 hF => ?_)
     refine sum_some hF (fun w149 hx hF => ?_) (fun w150 hx hF => ?_)
     ·
      subst hx
      obtain rfl := Option.some.inj hF
      have pz : HoldAll E H hn99 [.loop 0 c99_0 (F99_l0_3_S a5 r16.1.only_ r124 [] 0) .ret (F99_l0_3_X0 a5 r16.1.only_ r124 w149)] := ⟨(F99_l0_3_ok K a5 r16.1.only_ r124 K [] 0 _ h147), trivial⟩
      exact fn_playC hn99 (r := F99_res (0, ([], (false, 8)))) (q236 (q237 (q238 (q269 (q270 (q274 (q276 pz))))))) (by kernel_rfl) (by kernel_rfl)
     subst hx
     obtain rfl := Option.some.inj hF
     have pz : HoldAll E H hn99 [.loop 0 c99_0 (F99_l0_3_S a5 r16.1.only_ r124 [] 0) (.exit 0) (F99_l0_3_X1 a5 r16.1.only_ r124 w150)] := ⟨(F99_l0_3_ok K a5 r16.1.only_ r124 K [] 0 _ h147), trivial⟩
     exact fn_playC hn99 (r := F99_res (a5, (w150, (true, 0)))) (q236 (q237 (q238 (q269 (q270 (q274 (q276 pz))))))) (by kernel_rfl) (by kernel_rfl)
    refine bind_some hF (fun r151 h152 hF => ?_)
    have q277 : PQ hn99 fun l => (.test (beqb (ieq a3 0) true) false :: .test (beqb (ieq a3 0) true) false :: .test (beqb (ieq a3 0) true) false :: .test (beqb (ieq a3 0) true) false :: .test (beqb (ieq a3 0) true) false :: .test (ieq a3 0) false :: .test (beqb a7 true) true :: .test (beqb a7 true) true :: .test (beqb a7 true) true :: .test (beqb a7 true) true :: .test (beqb a7 true) true :: .call 165 [.one (.lit (.int .i64 a6)), .one (.lit (.int .i64 a5))] (F165_res r151) :: .test (leadsAny (Res.mk [(.one (.im (.lit (.bool r151))))] [])) false :: .test a7 true :: l) := fun z => ⟨(beqb_t h126), (beqb_t h126), (beqb_t h126), (beqb_t h126), (beqb_t h126), h126, (beqb_t h15), (beqb_t h15), (beqb_t h15), (beqb_t h15), (beqb_t h15), (F165_ok K a6 a5 _ h152), (leads_ok (by simp [leadsAny, RV.leads, RC.leads, leadsT, hasSl_lit])), h15, z⟩
    refine cond_some hF (fun h153 hF => ?_) (fun h153 hF => ?_)
    ·
     have q278 : PQ hn99 fun l => (.test r151 true :: .test (bnot true) false :: .int (nlen (len r124)) (nlen (len r124)) :: l) := fun z => ⟨h153, (bnot_t rfl), rfl, z⟩
     refine bind_some hF (fun y155 h154 hF => ?_)
     refine sum_some hF (fun w156 hx hF => ?_) (fun w157 hx hF => ?_)
     ·
      subst hx
      obtain rfl := Option.some.inj hF
      have pz : HoldAll E H hn99 [.loop 0 c99_0 (F99_l0_3_S a6 r16.1.only_ r124 [] 0) .ret (F99_l0_3_X0 a6 r16.1.only_ r124 w156)] := ⟨(F99_l0_3_ok K a6 r16.1.only_ r124 K [] 0 _ h154), trivial⟩
      exact fn_playC hn99 (r := F99_res (0, ([], (false, 8)))) (q236 (q237 (q238 (q269 (q277 (q278 pz)))))) (by kernel_rfl) (by kernel_rfl)
     subst hx
     obtain rfl := Option.some.inj hF
     have pz : HoldAll E H hn99 [.loop 0 c99_0 (F99_l0_3_S a6 r16.1.only_ r124 [] 0) (.exit 0) (F99_l0_3_X1 a6 r16.1.only_ r124 w157)] := ⟨(F99_l0_3_ok K a6 r16.1.only_ r124 K [] 0 _ h154), trivial⟩
     exact fn_playC hn99 (r := F99_res (a6, (w157, (true, 0)))) (q236 (q237 (q238 (q269 (q277 (q278 pz)))))) (by kernel_rfl) (by kernel_rfl)
    obtain rfl := Option.some.inj hF
    have pz : HoldAll E H hn99 [.test r151 false, .test (bnot false) true] := ⟨h153, (bnot_f rfl), trivial⟩
    exact fn_playC hn99 (r := F99_res (a5, ([], (true, 0)))) (q236 (q237 (q238 (q269 (q277 pz))))) (by kernel_rfl) (by kernel_rfl)
   refine cond_some hF (fun h158 hF => ?_) (fun h158 hF => ?_)
   ·
    refine bind_some hF (fun r159 h160 hF => ?_)
    refine bind_some hF (fun r161 h162 hF => ?_)
    obtain rfl := Option.some.inj hF
    have pz : HoldAll E H hn99 [.test (igt a3 40) false, .test (bnot a7) false, .call 143 [.one (.lit (.int .i64 a2.Prog))] (F143_res4 r16), .test (leadsAny (Res.mk [(.agg [(.im (.lit (fnV 166))), (.im (.lit .nilFunc)), (.im (.lit (.bool r16.1.only_))), (.im (.lit (fnV 163)))]), (.one (.im (.lit (.bool r16.2))))] [])) false, .call 68 [.agg (eGGraph a1), .one (.lit (.int .i64 a4))] (F68_res r159), .test (leadsAny (Res.mk [(.one (.own 89 (.sl (len r159) (flat eGEdge r159))))] [])) false, .test true true, .call 146 [.one (.sl (len r159) (flat eGEdge r159)), .one (.lit (.int .i64 a3)), .one (.lit (.int .i64 a5)), .one (.lit (.int .i64 a6))] (F146_res r161), .test (leadsAny (Res.mk [(.one (.im (.lit (.int .i64 r161.1)))), (.one (.own 130 (.sl (len r161.2.1) (flat eGMsg r161.2.1)))), (.one (.im (.lit (.bool r161.2.2.1)))), (.one (.im (.lit (.int .i64 r161.2.2.2))))] [])) false] := ⟨(igt_eq h14), (bnot_t h15), (F143_ok4 _ h158 (F143_ok K a2.Prog _ h17)), (leads_ok (by simp [leadsAny, RV.leads, RC.leads, leadsT, hasSl_lit, flat_ns eGEdge_ns, flat_ns eGMsg_ns])), (F68_ok K a1 a4 _ h160), (leads_ok (by simp [leadsAny, RV.leads, RC.leads, leadsT, hasSl_lit, flat_ns eGEdge_ns, flat_ns eGMsg_ns])), rfl, (F146_ok K r159 a3 a5 a6 _ h162), (leads_ok (by simp [leadsAny, RV.leads, RC.leads, leadsT, hasSl_lit, flat_ns eGEdge_ns, flat_ns eGMsg_ns])), trivial⟩
    exact fn_playC hn99 (r := F99_res (r161.1, (r161.2.1, (r161.2.2.1, r161.2.2.2)))) (q236 (q237 (q238 pz))) (by kernel_rfl) (by kernel_rfl)
   refine cond_some hF (fun h163 hF => ?_) (fun _ hF => nomatch hF)
   refine bind_some hF (fun r164 h165 hF => ?_)
   refine bind_some hF (fun r166 h167 hF => ?_)
   obtain rfl := Option.some.inj hF
   have pz : HoldAll E H hn99 [.test (igt a3 40) false, .test (bnot a7) false, .call 143 [.one (.lit (.int .i64 a2.Prog))] (F143_res5 r16), .test (leadsAny (Res.mk [(.agg [(.im (.lit .nilFunc)), (.im (.lit .nilFunc)), (.im (.lit (.bool r16.1.only_))), (.im (.lit .nilFunc))]), (.one (.im (.lit (.bool r16.2))))] [])) false, .call 68 [.agg (eGGraph a1), .one (.lit (.int .i64 a4))] (F68_res r164), .test (leadsAny (Res.mk [(.one (.own 89 (.sl (len r164) (flat eGEdge r164))))] [])) false, .test true true, .call 146 [.one (.sl (len r164) (flat eGEdge r164)), .one (.lit (.int .i64 a3)), .one (.lit (.int .i64 a5)), .one (.lit (.int .i64 a6))] (F146_res r166), .test (leadsAny (Res.mk [(.one (.im (.lit (.int .i64 r166.1)))), (.one (.own 130 (.sl (len r166.2.1) (flat eGMsg r166.2.1)))), (.one (.im (.lit (.bool r166.2.2.1)))), (.one (.im (.lit (.int .i64 r166.2.2.2))))] [])) false] := ⟨(igt_eq h14), (bnot_t h15), (F143_ok5 _ h163 (F143_ok K a2.Prog _ h17)), (leads_ok (by simp [leadsAny, RV.leads, RC.leads, leadsT, hasSl_lit, flat_ns eGEdge_ns, flat_ns eGMsg_ns])), (F68_ok K a1 a4 _ h165), (leads_ok (by simp [leadsAny, RV.leads, RC.leads, leadsT, hasSl_lit, flat_ns eGEdge_ns, flat_ns eGMsg_ns])), rfl, (F146_ok K r164 a3 a5 a6 _ h167), (leads_ok (by simp [leadsAny, RV.leads, RC.leads, leadsT, hasSl_lit, flat_ns eGEdge_ns, flat_ns eGMsg_ns])), trivial⟩
   exact fn_playC hn99 (r := F99_res (r166.1, (r166.2.1, (r166.2.2.1, r166.2.2.2)))) (q236 (q237 (q238 pz))) (by kernel_rfl) (by kernel_rfl)
  refine bind_some hF (fun r168 h169 hF => ?_)
  refine cond_some hF (fun h170 hF => ?_) (fun h170 hF => ?_)
  ·
   refine bind_some hF (fun r171 h172 hF => ?_)
   have q279 : PQ hn99 fun l => (.test (igt a3 40) false :: .test (bnot a7) true :: .call 143 [.one (.lit (.int .i64 a2.Prog))] (F143_res0 r168) :: .test (leadsAny (Res.mk [(.agg [(.im (.lit (fnV 158))), (.im (.lit (fnV 159))), (.im (.lit (.bool r168.1.only_))), (.im (.lit (fnV 160)))]), (.one (.im (.lit (.bool r168.2))))] [])) false :: .call 68 [.agg (eGGraph a1), .one (.lit (.int .i64 a4))] (F68_res r171) :: .test (leadsAny (Res.mk [(.one (.own 89 (.sl (len r171) (flat eGEdge r171))))] [])) false :: .test false false :: l) := fun z => ⟨(igt_eq h14), (bnot_f h15), (F143_ok0 _ h170 (F143_ok K a2.Prog _ h169)), (leads_ok (by simp [leadsAny, RV.leads, RC.leads, leadsT, hasSl_lit, flat_ns eGEdge_ns])), (F68_ok K a1 a4 _ h172), (leads_ok (by simp [leadsAny, RV.leads, RC.leads, leadsT, hasSl_lit, flat_ns eGEdge_ns])), rfl, z⟩
   refine cond_some hF (fun h173 hF => ?_) (fun h173 hF => ?_)
   ·
    have q280 : PQ hn99 fun l => (.test (beqb (ieq a3 0) true) true :: .test (beqb (ieq a3 0) true) true :: .test (beqb (ieq a3 0) true) true :: .test (beqb (ieq a3 0) true) true :: l) := fun z => ⟨(beqb_t h173), (beqb_t h173), (beqb_t h173), (beqb_t h173), z⟩
    refine cond_some hF (fun h174 hF => ?_) (fun h174 hF => ?_)
    ·
     have q281 : PQ hn99 fun l => (.test (beqb (bnot r168.1.only_) false) true :: .test (beqb (bnot r168.1.only_) false) true :: .test (beqb (bnot r168.1.only_) false) true :: .test (beqb (bnot r168.1.only_) false) true :: .test (beqb (ieq a3 0) true) true :: .test (bnot r168.1.only_) false :: .test (ieq a3 0) true :: .test (beqb a7 true) false :: .test (beqb a7 true) false :: .test (beqb a7 true) false :: .test (beqb a7 true) false :: .test (beqb a7 true) false :: .test a7 false :: .test false false :: l) := fun z => ⟨(beqb_ff (bnot_t h174)), (beqb_ff (bnot_t h174)), (beqb_ff (bnot_t h174)), (beqb_ff (bnot_t h174)), (beqb_t h173), (bnot_t h174), h173, (beqb_t h15), (beqb_t h15), (beqb_t h15), (beqb_t h15), (beqb_t h15), h15, rfl, z⟩
     refine cond_some hF (fun h175 hF => ?_) (fun h175 hF => ?_)
     ·
      refine bind_some hF (fun y177 h176 hF => ?_)
      refine sum_some hF (fun w178 hx hF => ?_) (fun w179 hx hF => ?_)
      ·
       subst hx
       obtain rfl := Option.some.inj hF
       have pz : HoldAll E H hn99 [.test (bnot (ieq a4 a2.Source)) false, .int (nlen (len r171)) (nlen (len r171)), .loop 0 c99_0 (F99_l0_0_S a5 r168.1.only_ r171 [] 0) .ret (F99_l0_0_X0 a5 r168.1.only_ r171 w178)] := ⟨(bnot_t h175), rfl, (F99_l0_0_ok K a5 r168.1.only_ r171 K [] 0 _ h176), trivial⟩
       exact fn_playC hn99 (r := F99_res (0, ([], (false, 8)))) (q236 (q237 (q238 (q279 (q280 (q281 pz)))))) (by kernel_rfl) (by kernel_rfl)
      subst hx
      obtain rfl := Option.some.inj hF
      have pz : HoldAll E H hn99 [.test (bnot (ieq a4 a2.Source)) false, .int (nlen (len r171)) (nlen (len r171)), .loop 0 c99_0 (F99_l0_0_S a5 r168.1.only_ r171 [] 0) (.exit 0) (F99_l0_0_X1 a5 r168.1.only_ r171 w179)] := ⟨(bnot_t h175), rfl, (F99_l0_0_ok K a5 r168.1.only_ r171 K [] 0 _ h176), trivial⟩
      exact fn_playC hn99 (r := F99_res (a5, (w179, (true, 0)))) (q236 (q237 (q238 (q279 (q280 (q281 pz)))))) (by kernel_rfl) (by kernel_rfl)
     obtain rfl := Option.some.inj hF
     have pz : HoldAll E H hn99 [.test (bnot (ieq a4 a2.Source)) true] := ⟨(bnot_f h175), trivial⟩
     exact fn_playC hn99 (r := F99_res (a5, ([], (true, 0)))) (q236 (q237 (q238 (q279 (q280 (q281 pz)))))) (by kernel_rfl) (by kernel_rfl)
    have q282 : PQ hn99 fun l => (.test (beqb (bnot r168.1.only_) false) false :: .test (beqb (bnot r168.1.only_) false) false :: .test (beqb (bnot r168.1.only_) false) false :: .test (beqb (bnot r168.1.only_) false) false :: .test (beqb (ieq a3 0) true) true :: .test (bnot r168.1.only_) true :: .test (ieq a3 0) true :: .test (beqb a7 true) false :: .test (beqb a7 true) false :: .test (beqb a7 true) false :: .test (beqb a7 true) false :: .test (beqb a7 true) false :: .test a7 false :: .test false false :: .test (bnot true) false :: .int (nlen (len r171)) (nlen (len r171)) :: l) := fun z => ⟨(beqb_ft (bnot_f h174)), (beqb_ft (bnot_f h174)), (beqb_ft (bnot_f h174)), (beqb_ft (bnot_f h174)), (beqb_t h173), (bnot_f h174), h173, (beqb_t h15), (beqb_t h15), (beqb_t h15), (beqb_t h15), (beqb_t h15), h15, rfl, (bnot_t rfl), rfl, z⟩
    refine bind_some hF (fun y181 h180 hF => ?_)
    refine sum_some hF (fun w182 hx hF => ?_) (fun w183 hx hF => ?_)
    ·
     subst hx
     obtain rfl := Option.some.inj hF
     have pz : HoldAll E H hn99 [.loop 0 c99_0 (F99_l0_0_S a5 r168.1.only_ r171 [] 0) .ret (F99_l0_0_X0 a5 r168.1.only_ r171 w182)] := ⟨(F99_l0_0_ok K a5 r168.1.only_ r171 K [] 0 _ h180), trivial⟩
     exact fn_playC hn99 (r := F99_res (0, ([], (false, 8)))) (q236 (q237 (q238 (q279 (q280 (q282 pz)))))) (by kernel_rfl) (by kernel_rfl)
    subst hx
    obtain rfl := Option.some.inj hF
    have pz : HoldAll E H hn99 [.loop 0 c99_0 (F99_l0_0_S a5 r168.1.only_ r171 [] 0) (.exit 0) (F99_l0_0_X1 a5 r168.1.only_ r171 w183)] := ⟨(F99_l0_0_ok K a5 r168.1.only_ r171 K [] 0 _ h180), trivial⟩
    exact fn_playC hn99 (r := F99_res (a5, (w183, (true, 0)))) (q236 (q237 (q238 (q279 (q280 (q282 pz)))))) (by kernel_rfl) (by kernel_rfl)
   obtain rfl := Option.some.inj hF
   have pz : HoldAll E H hn99 [.test (beqb (ieq a3 0) true) false, .test (beqb (ieq a3 0) true) false, .test (beqb (ieq a3 0) true) false, .test (beqb (ieq a3 0) true) false, .test (beqb (ieq a3 0) true) false, .test (ieq a3 0) false, .test (beqb a7 true) false, .test (beqb a7 true) false, .test (beqb a7 true) false, .test (beqb a7 true) false, .test (beqb a7 true) false, .test a7 false, .test false false, .test (bnot false) true] := ⟨(beqb_t h173), (beqb_t h173), (beqb_t h173), (beqb_t h173), (beqb_t h173), h173, (beqb_t h15), (beqb_t h15), (beqb_t h15), (beqb_t h15), (beqb_t h15), h15, rfl, (bnot_f rfl), trivial⟩
   exact fn_playC hn99 (r := F99_res (a5, ([], (true, 0)))) (q236 (q237 (q238 (q279 pz)))) (by kernel_rfl) (by kernel_rfl)
  refine cond_some hF (fun h184 hF => ?_) (fun h184 hF => ?_)
  ·
   refine bind_some hF (fun r185 h186 hF => ?_)
   have q283 : PQ hn99 fun l => (.test (igt a3 40) false :: .test (bnot a7) true :: .call 143 [.one (.lit (.int .i64 a2.Prog))] (F143_res1 r168) :: .test (leadsAny (Res.mk [(.agg [(.im (.lit (fnV 158))), (.im (.lit (fnV 159))), (.im (.lit (.bool r168.1.only_))), (.im (.lit (fnV 161)))]), (.one (.im (.lit (.bool r168.2))))] [])) false :: .call 68 [.agg (eGGraph a1), .one (.lit (.int .i64 a4))] (F68_res r185) :: .test (leadsAny (Res.mk [(.one (.own 89 (.sl (len r185) (flat eGEdge r185))))] [])) false :: .test false false :: l) := fun z => ⟨(igt_eq h14), (bnot_f h15), (F143_ok1 _ h184 (F143_ok K a2.Prog _ h169)), (leads_ok (by simp [leadsAny, RV.leads, RC.leads, leadsT, hasSl_lit, flat_ns eGEdge_ns])), (F68_ok K a1 a4 _ h186), (leads_ok (by simp [leadsAny, RV.leads, RC.leads, leadsT, hasSl_lit, flat_ns eGEdge_ns])), rfl, z⟩
   refine cond_some hF (fun h187 hF => ?_) (fun h187 hF => ?_)
   ·
    have q284 : PQ hn99 fun l => (.test (beqb (ieq a3 0) true) true :: .test (beqb (ieq a3 0) true) true :: .test (beqb (ieq a3 0) true) true :: .test (beqb (ieq a3 0) true) true :: l) := fun z => ⟨(beqb_t h187), (beqb_t h187), (beqb_t h187), (beqb_t h187), z⟩
    refine cond_some hF (fun h188 hF => ?_) (fun h188 hF => ?_)
    ·
     have q285 : PQ hn99 fun l => (.test (beqb (bnot r168.1.only_) false) true :: .test (beqb (bnot r168.1.only_) false) true :: .test (beqb (bnot r168.1.only_) false) true :: .test (beqb (bnot r168.1.only_) false) true :: .test (beqb (ieq a3 0) true) true :: .test (bnot r168.1.only_) false :: .test (ieq a3 0) true :: .test (beqb a7 true) false :: .test (beqb a7 true) false :: .test (beqb a7 true) false :: .test (beqb a7 true) false :: .test (beqb a7 true) false :: .test a7 false :: .test false false :: l) := fun z => ⟨(beqb_ff (bnot_t h188)), (beqb_ff (bnot_t h188)), (beqb_ff (bnot_t h188)), (beqb_ff (bnot_t h188)), (beqb_t h187), (bnot_t h188), h187, (beqb_t h15), (beqb_t h15), (beqb_t h15), (beqb_t h15), (beqb_t h15), h15, rfl, z⟩
     refine cond_some hF (fun h189 hF => ?_) (fun h189 hF => ?_)
     ·
      refine bind_some hF (fun y191 h190 hF => ?_)
      refine sum_some hF (fun w192 hx hF => ?_) (fun w193 hx hF => ?_)
      ·
       subst hx
       obtain rfl := Option.some.inj hF
       have pz : HoldAll E H hn99 [.test (bnot (ieq a4 a2.Source)) false, .int (nlen (len r185)) (nlen (len r185)), .loop 0 c99_0 (F99_l0_1_S a5 r168.1.only_ r185 [] 0) .ret (F99_l0_1_X0 a5 r168.1.only_ r185 w192)] := ⟨(bnot_t h189), rfl, (F99_l0_1_ok K a5 r168.1.only_ r185 K [] 0 _ h190), trivial⟩
       exact fn_playC hn99 (r := F99_res (0, ([], (false, 8)))) (q236 (q237 (q238 (q283 (q284 (q285 pz)))))) (by kernel_rfl) (by kernel_rfl)
      subst hx
      obtain rfl := Option.some.inj hF
      have pz : HoldAll E H hn99 [.test (bnot (ieq a4 a2.Source)) false, .int (nlen (len r185)) (nlen (len r185)), .loop 0 c99_0 (F99_l0_1_S a5 r168.1.only_ r185 [] 0) (.exit 0) (F99_l0_1_X1 a5 r168.1.only_ r185 w193)] := ⟨(bnot_t h189), rfl, (F99_l0_1_ok K a5 r168.1.only_ r185 K [] 0 _ h190), trivial⟩
      exact fn_playC hn99 (r := F99_res (a5, (w193, (true, 0)))) (q236 (q237 (q238 (q283 (q284 (q285 pz)))))) (by kernel_rfl) (by kernel_rfl)
     obtain rfl := Option.some.inj hF
     have pz : HoldAll E H hn99 [.test (bnot (ieq a4 a2.Source)) true] := ⟨(bnot_f h189), trivial⟩
     exact fn_playC hn99 (r := F99_res (a5, ([], (true, 0)))) (q236 (q237 (q238 (q283 (q284 (q285 pz)))))) (by kernel_rfl) (by kernel_rfl)
    have q286 : PQ hn99 fun l => (.test (beqb (bnot r168.1.only_) false) false :: .test (beqb (bnot r168.1.only_) false) false :: .test (beqb (bnot r168.1.only_) false) false :: .test (beqb (bnot r168.1.only_) false) false :: .test (beqb (ieq a3 0) true) true :: .test (bnot r168.1.only_) true :: .test (ieq a3 0) true :: .test (beqb a7 true) false :: .test (beqb a7 true) false :: .test (beqb a7 true) false :: .test (beqb a7 true) false :: .test (beqb a7 true) false :: .test a7 false :: .test false false :: .test (bnot true) false :: .int (nlen (len r185)) (nlen (len r185)) :: l) := fun z => ⟨(beqb_ft (bnot_f h188)), (beqb_ft (bnot_f h188)), (beqb_ft (bnot_f h188)), (beqb_ft (bnot_f h188)), (beqb_t h187), (bnot_f h188), h187, (beqb_t h15), (beqb_t h15), (beqb_t h15), (beqb_t h15), (beqb_t h15), h15, rfl, (bnot_t rfl), rfl, z⟩
    refine bind_some hF (fun y195 h194 hF => ?_)
    refine sum_some hF (fun w196 hx hF => ?_) (fun w197 hx hF => ?_)
    ·
     subst hx
     obtain rfl := Option.some.inj hF
     have pz : HoldAll E H hn99 [.loop 0 c99_0 (F99_l0_1_S a5 r168.1.only_ r185 [] 0) .ret (F99_l0_1_X0 a5 r168.1.only_ r185 w196)] := ⟨(F99_l0_1_ok K a5 r168.1.only_ r185 K [] 0 _ h194), trivial⟩
     exact fn_playC hn99 (r := F99_res (0, ([], (false, 8)))) (q236 (q237 (q238 (q283 (q284 (q286 pz)))))) (by kernel_rfl) (by kernel_rfl)
    subst hx
    obtain rfl := Option.some.inj hF
    have pz : HoldAll E H hn99 [.loop 0 c99_0 (F99_l0_1_S a5 r168.1.only_ r185 [] 0) (.exit 0) (F99_l0_1_X1 a5 r168.1.only_ r185 w197)] := ⟨(F99_l0_1_ok K a5 r168.1.only_ r185 K [] 0 _ h194), trivial⟩
    exact fn_playC hn99 (r := F99_res (a5, (w197, (true, 0)))) (q236 (q237 (q238 (q283 (q284 (q286 pz)))))) (by kernel_rfl) (by kernel_rfl)
   obtain rfl := Option.some.inj hF
   have pz : HoldAll E H hn99 [.test (beqb (ieq a3 0) true) false, .test (beqb (ieq a3 0) true) false, .test (beqb (ieq a3 0) true) false, .test (beqb (ieq a3 0) true) false, .test (beqb (ieq a3 0) true) false, .test (ieq a3 0) false, .test (beqb a7 true) false, .test (beqb a7 true) false, .test (beqb a7 true) false, .test (beqb a7 true) false, .test (beqb a7 true) false, .test a7 false, .test false false, .test (bnot false) true] := ⟨(beqb_t h187), (beqb_t h187), (beqb_t h187), (beqb_t h187), (beqb_t h187), h187, (beqb_t h15), (beqb_t h15), (beqb_t h15), (beqb_t h15), (beqb_t h15), h15, rfl, (bnot_f rfl), trivial⟩
   exact fn_playC hn99 (r := F99_res (a5, ([], (true, 0)))) (q236 (q237 (q238 (q283 pz)))) (by kernel_rfl) (by kernel_rfl)
  refine cond_some hF (fun h198 hF => ?_) (fun h198 hF => ?_)
  ·
   refine bind_some hF (fun r199 h200 hF => ?_)
   have q287 : PQ hn99 fun l => (.test (igt a3 40) false :: .test (bnot a7) true :: .call 143 [.one (.lit (.int .i64 a2.Prog))] (F143_res2 r168) :: .test (leadsAny (Res.mk [(.agg [(.im (.lit (fnV 162))), (.im (.lit (fnV 159))), (.im (.lit (.bool r168.1.only_))), (.im (.lit (fnV 163)))]), (.one (.im (.lit (.bool r168.2))))] [])) false :: .call 68 [.agg (eGGraph a1), .one (.lit (.int .i64 a4))] (F68_res r199) :: .test (leadsAny (Res.mk [(.one (.own 89 (.sl (len r199) (flat eGEdge r199))))] [])) false :: .test false false :: l) := fun z => ⟨(igt_eq h14), (bnot_f h15), (F143_ok2 _ h198 (F143_ok K a2.Prog _ h169)), (leads_ok (by simp [leadsAny, RV.leads, RC.leads, leadsT, hasSl_lit, flat_ns eGEdge_ns])), (F68_ok K a1 a4 _ h200), (leads_ok (by simp [leadsAny, RV.leads, RC.leads, leadsT, hasSl_lit, flat_ns eGEdge_ns])), rfl, z⟩
   refine cond_some hF (fun h201 hF => ?_) (fun h201 hF => ?_)
   ·
    have q288 : PQ hn99 fun l => (.test (beqb (ieq a3 0) true) true :: .test (beqb (ieq a3 0) true) true :: .test (beqb (ieq a3 0) true) true :: .test (beqb (ieq a3 0) true) true :: l) := fun z => ⟨(beqb_t h201), (beqb_t h201), (beqb_t h201), (beqb_t h201), z⟩
    refine cond_some hF (fun h202 hF => ?_) (fun h202 hF => ?_)
    ·
     have q289 : PQ hn99 fun l => (.test (beqb (bnot r168.1.only_) false) true :: .test (beqb (bnot r168.1.only_) false) true :: .test (beqb (bnot r168.1.only_) false) true :: .test (beqb (bnot r168.1.only_) false) true :: .test (beqb (ieq a3 0) true) true :: .test (bnot r168.1.only_) false :: .test (ieq a3 0) true :: .test (beqb a7 true) false :: .test (beqb a7 true) false :: .test (beqb a7 true) false :: .test (beqb a7 true) false :: .test (beqb a7 true) false :: .test a7 false :: .test false false :: l) := fun z => ⟨(beqb_ff (bnot_t h202)), (beqb_ff (bnot_t h202)), (beqb_ff (bnot_t h202)), (beqb_ff (bnot_t h202)), (beqb_t h201), (bnot_t h202), h201, (beqb_t h15), (beqb_t h15), (beqb_t h15), (beqb_t h15), (beqb_t h15), h15, rfl, z⟩
     refine cond_some hF (fun h203 hF => ?_) (fun h203 hF => ?_)
     ·
      refine bind_some hF (fun y205 h204 hF => ?_)
      refine sum_some hF (fun w206 hx hF => ?_) (fun w207 hx hF => ?_)
      ·
       subst hx
       obtain rfl := Option.some.inj hF
       have pz : HoldAll E H hn99 [.test (bnot (ieq a4 a2.Source)) false, .int (nlen (len r199)) (nlen (len r199)), .loop 0 c99_0 (F99_l0_2_S a5 r168.1.only_ r199 [] 0) .ret (F99_l0_2_X0 a5 r168.1.only_ r199 w206)] := ⟨(bnot_t h203), rfl, (F99_l0_2_ok K a5 r168.1.only_ r199 K [] 0 _ h204), trivial⟩
       exact fn_playC hn99 (r := F99_res (0, ([], (false, 8)))) (q236 (q237 (q238 (q287 (q288 (q289 pz)))))) (by kernel_rfl) (by kernel_rfl)
      subst hx
      obtain rfl := Option.some.inj hF
      have pz : HoldAll E H hn99 [.test (bnot (ieq a4 a2.Source)) false, .int (nlen (len r199)) (nlen (len r199)), .loop 0 c99_0 (F99_l0_2_S a5 r168.1.only_ r199 [] 0) (.exit 0) (F99_l0_2_X1 a5 r168.1.only_ r199 w207)] := ⟨(bnot_t h203), rfl, (F99_l0_2_ok K a5 r168.1.only_ r199 K [] 0 _ h204), trivial⟩
      exact fn_playC hn99 (r := F99_res (a5, (w207, (true, 0)))) (q236 (q237 (q238 (q287 (q288 (q289 pz)))))) (by kernel_rfl) (by kernel_rfl)
     obtain rfl := Option.some.inj hF
     have pz : HoldAll E H hn99 [.test (bnot (ieq a4 a2.Source)) true] := ⟨(bnot_f h203), trivial⟩
     exact fn_playC hn99 (r := F99_res (a5, ([], (true, 0)))) (q236 (q237 (q238 (q287 (q288 (q289 pz)))))) (by kernel_rfl) (by kernel_rfl)
    have q290 : PQ hn99 fun l => (.test (beqb (bnot r168.1.only_) false) false :: .test (beqb (bnot r168.1.only_) false) false :: .test (beqb (bnot r168.1.only_) false) false :: .test (beqb (bnot r168.1.only_) false) false :: .test (beqb (ieq a3 0) true) true :: .test (bnot r168.1.only_) true :: .test (ieq a3 0) true :: .test (beqb a7 true) false :: .test (beqb a7 true) false :: .test (beqb a7 true) false :: .test (beqb a7 true) false :: .test (beqb a7 true) false :: .test a7 false :: .test false false :: .test (bnot true) false :: .int (nlen (len r199)) (nlen (len r199)) :: l) := fun z => ⟨(beqb_ft (bnot_f h202)), (beqb_ft (bnot_f h202)), (beqb_ft (bnot_f h202)), (beqb_ft (bnot_f h202)), (beqb_t h201), (bnot_f h202), h201, (beqb_t h15), (beqb_t h15), (beqb_t h15), (beqb_t h15), (beqb_t h15), h15, rfl, (bnot_t rfl), rfl, z⟩
    refine bind_some hF (fun y209 h208 hF => ?_)
    refine sum_some hF (fun w210 hx hF => ?_) (fun w211 hx hF => ?_)
    ·
     subst hx
     obtain rfl := Option.some.inj hF
     have pz : HoldAll E H hn99 [.loop 0 c99_0 (F99_l0_2_S a5 r168.1.only_ r199 [] 0) .ret (F99_l0_2_X0 a5 r168.1.only_ r199 w210)] := ⟨(F99_l0_2_ok K a5 r168.1.only_ r199 K [] 0 _ h208), trivial⟩
     exact fn_playC hn99 (r := F99_res (0, ([], (false, 8)))) (q236 (q237 (q238 (q287 (q288 (q290 pz)))))) (by kernel_rfl) (by kernel_rfl)
    subst hx
    obtain rfl := Option.some.inj hF
    have pz : HoldAll E H hn99 [.loop 0 c99_0 (F99_l0_2_S a5 r168.1.only_ r199 [] 0) (.exit 0) (F99_l0_2_X1 a5 r168.1.only_ r199 w211)] := ⟨(F99_l0_2_ok K a5 r168.1.only_ r199 K [] 0 _ h208), trivial⟩
    exact fn_playC hn99 (r := F99_res (a5, (w211, (true, 0)))) (q236 (q237 (q238 (q287 (q288 (q290 pz)))))) (by kernel_rfl) (by kernel_rfl)
   obtain rfl := Option.some.inj hF
   have pz : HoldAll E H hn99 [.test (beqb (ieq a3 0) true) false, .test (beqb (ieq a3 0) true) false, .test (beqb (ieq a3 0) true) false, .test (beqb (ieq a3 0) true) false, .test (beqb (ieq a3 0) true) false, .test (ieq a3 0) false, .test (beqb a7 true) false, .test (beqb a7 true) false, .test (beqb a7 true) false, .test (beqb a7 true) false, .test (beqb a7 true) false, .test a7 false, .test false false, .test (bnot false) true] := ⟨(beqb_t h201), (beqb_t h201), (beqb_t h201), (beqb_t h201), (beqb_t h201), h201, (beqb_t h15), (beqb_t h15), (beqb_t h15), (beqb_t h15), (beqb_t h15), h15, rfl, (bnot_f rfl), trivial⟩
   exact fn_playC hn99 (r := F99_res (a5, ([], (true, 0)))) (q236 (q237 (q238 (q287 pz)))) (by kernel_rfl) (by kernel_rfl)
  refine cond_some hF (fun h212 hF => ?_) (fun h212 hF => ?_)
  ·
   refine bind_some hF (fun r213 h214 hF => ?_)
   have q291 : PQ hn99 fun l => (.test (igt a3 40) false :: .test (bnot a7) true :: .call 143 [.one (.lit (.int .i64 a2.Prog))] (F143_res3 r168) :: .test (leadsAny (Res.mk [(.agg [(.im (.lit (fnV 164))), (.im (.lit (fnV 165))), (.im (.lit (.bool r168.1.only_))), (.im (.lit (fnV 163)))]), (.one (.im (.lit (.bool r168.2))))] [])) false :: .call 68 [.agg (eGGraph a1), .one (.lit (.int .i64 a4))] (F68_res r213) :: .test (leadsAny (Res.mk [(.one (.own 89 (.sl (len r213) (flat eGEdge r213))))] [])) false :: .test false false :: l) := fun z => ⟨(igt_eq h14), (bnot_f h15), (F143_ok3 _ h212 (F143_ok K a2.Prog _ h169)), (leads_ok (by simp [leadsAny, RV.leads, RC.leads, leadsT, hasSl_lit, flat_ns eGEdge_ns])), (F68_ok K a1 a4 _ h214), (leads_ok (by simp [leadsAny, RV.leads, RC.leads, leadsT, hasSl_lit, flat_ns eGEdge_ns])), rfl, z⟩
   refine cond_some hF (fun h215 hF => ?_) (fun h215 hF => ?_)
   ·
    have q292 : PQ hn99 fun l => (.test (beqb (ieq a3 0) true) true :: .test (beqb (ieq a3 0) true) true :: .test (beqb (ieq a3 0) true) true :: .test (beqb (ieq a3 0) true) true :: l) := fun z => ⟨(beqb_t h215), (beqb_t h215), (beqb_t h215), (beqb_t h215), z⟩
    refine cond_some hF (fun h216 hF => ?_) (fun h216 hF => ?_)
    ·
     have q293 : PQ hn99 fun l => (.test (beqb (bnot r168.1.only_) false) true :: .test (beqb (bnot r168.1.only_) false) true :: .test (beqb (bnot r168.1.only_) false) true :: .test (beqb (bnot r168.1.only_) false) true :: .test (beqb (ieq a3 0) true) true :: .test (bnot r168.1.only_) false :: .test (ieq a3 0) true :: .test (beqb a7 true) false :: .test (beqb a7 true) false :: .test (beqb a7 true) false :: .test (beqb a7 true) false :: .test (beqb a7 true) false :: .test a7 false :: .test false false :: l) := fun z => ⟨(beqb_ff (bnot_t h216)), (beqb_ff (bnot_t h216)), (beqb_ff (bnot_t h216)), (beqb_ff (bnot_t h216)), (beqb_t h215), (bnot_t h216), h215, (beqb_t h15), (beqb_t h15), (beqb_t h15), (beqb_t h15), (beqb_t h15), h15, rfl, z⟩
     refine cond_some hF (fun h217 hF => ?_) (fun h217 hF => ?_)
     ·
      refine bind_some hF (fun y219 h218 hF => ?_)
      refine sum_some hF (fun w220 hx hF => ?_) (fun w221 hx hF => ?_)
      ·
       subst hx
       obtain rfl := Option.some.inj hF
       have pz : HoldAll E H hn99 [.test (bnot (ieq a4 a2.Source)) false, .int (nlen (len r213)) (nlen (len r213)), .loop 0 c99_0 (F99_l0_3_S a5 r168.1.only_ r213 [] 0) .ret (F99_l0_3_X0 a5 r168.1.only_ r213 w220)] := ⟨(bnot_t h217), rfl, (F99_l0_3_ok K a5 r168.1.only_ r213 K [] 0 _ h218), trivial⟩
       exact fn_playC hn99 (r := F99_res (0, ([], (false, 8)))) (q236 (q237 (q238 (q291 (q292 (q293 pz)))))) (by kernel_rfl) (by kernel_rfl)
      subst hx
      obtain rfl := Option.some.inj hF
      have pz : HoldAll E H hn99 [.test (bnot (ieq a4 a2.Source)) false, .int (nlen (len r213)) (nlen (len r213)), .loop 0 c99_0 (F99_l0_3_S a5 r168.1.only_ r213 [] 0) (.exit 0) (F99_l0_3_X1 a5 r168.1.only_ r213 w221)] := ⟨(bnot_t h217), rfl, (F99_l0_3_ok K a5 r168.1.only_ r213 K [] 0 _ h218), trivial⟩
      exact fn_playC hn99 (r := F99_res (a5, (w221, (true, 0)))) (q236 (q237 (q238 (q291 (q292 (q293 pz)))))) (by kernel_rfl) (by kernel_rfl)
     obtain rfl := Option.some.inj hF
     have pz : HoldAll E H hn99 [.test (bnot (ieq a4 a2.Source)) true] := ⟨(bnot_f h217), trivial⟩
     exact fn_playC hn99 (r := F99_res (a5, ([], (true, 0)))) (q236 (q237 (q238 (q291 (q292 (q293 pz)))))) (by kernel_rfl) (by kernel_rfl)
    have q294 : PQ hn99 fun l => (.test (beqb (bnot r168.1.only_) false) false :: .test (beqb (bnot r168.1.only_) false) false :: .test (beqb (bnot r168.1.only_) false) false :: .test (beqb (bnot r168.1.only_) false) false :: .test (beqb (ieq a3 0) true) true :: .test (bnot r168.1.only_) true :: .test (ieq a3 0) true :: .test (beqb a7 true) false :: .test (beqb a7 true) false :: .test (beqb a7 true) false :: .test (beqb a7 true) false :: .test (beqb a7 true) false :: .test a7 false :: .test false false :: .test (bnot true) false :: .int (nlen (len r213)) (nlen (len r213)) :: l) := fun z => ⟨(beqb_ft (bnot_f h216)), (beqb_ft (bnot_f h216)), (beqb_ft (bnot_f h216)), (beqb_ft (bnot_f h216)), (beqb_t h215), (bnot_f h216), h215, (beqb_t h15), (beqb_t h15), (beqb_t h15), (beqb_t h15), (beqb_t h15), h15, rfl, (bnot_t rfl), rfl, z⟩
    refine bind_some hF (fun y223 h222 hF => ?_)
    refine sum_some hF (fun w224 hx hF => ?_) (fun w225 hx hF => ?_)
    ·
     subst hx
     obtain rfl := Option.some.inj hF
     have pz : HoldAll E H hn99 [.loop 0 c99_0 (F99_l0_3_S a5 r168.1.only_ r213 [] 0) .ret (F99_l0_3_X0 a5 r168.1.only_ r213 w224)] := ⟨(F99_l0_3_ok K a5 r168.1.only_ r213 K [] 0 _ h222), trivial⟩
     exact fn_playC hn99 (r := F99_res (0, ([], (false, 8)))) (q236 (q237 (q238 (q291 (q292 (q294 pz)))))) (by kernel_rfl) (by kernel_rfl)
    subst hx
    obtain rfl := Option.some.inj hF
    have pz : HoldAll E H hn99 [.loop 0 c99_0 (F99_l0_3_S a5 r168.1.only_ r213 [] 0) (.exit 0) (F99_l0_3_X1 a5 r168.1.only_ r213 w225)] := ⟨(F99_l0_3_ok K a5 r168.1.only_ r213 K [] 0 _ h222), trivial⟩
    exact fn_playC hn99 (r := F99_res (a5, (w225, (true, 0)))) (q236 (q237 (q238 (q291 (q292 (q294 pz)))))) (by kernel_rfl) (by kernel_rfl)
   obtain rfl := Option.some.inj hF
   have pz : HoldAll E H hn99 [.test (beqb (ieq a3 0) true) false, .test (beqb (ieq a3 0) true) false, .test (beqb (ieq a3 0) true) false, .test (beqb (ieq a3 0) true) false, .test (beqb (ieq a3 0) true) false, .test (ieq a3 0) false, .test (beqb a7 true) false, .test (beqb a7 true) false, .test (beqb a7 true) false, .test (beqb a7 true) false, .test (beqb a7 true) false, .test a7 false, .test false false, .test (bnot false) true] := ⟨(beqb_t h215), (beqb_t h215), (beqb_t h215), (beqb_t h215), (beqb_t h215), h215, (beqb_t h15), (beqb_t h15), (beqb_t h15), (beqb_t h15), (beqb_t h15), h15, rfl, (bnot_f rfl), trivial⟩
   exact fn_playC hn99 (r := F99_res (a5, ([], (true, 0)))) (q236 (q237 (q238 (q291 pz)))) (by kernel_rfl) (by kernel_rfl)
  refine cond_some hF (fun h226 hF => ?_) (fun h226 hF => ?_)
  ·
   refine bind_some hF (fun r227 h228 hF => ?_)
   refine bind_some hF (fun r229 h230 hF => ?_)
   obtain rfl := Option.some.inj hF
   have pz : HoldAll E H hn99 [.test (igt a3 40) false, .test (bnot a7) true, .call 143 [.one (.lit (.int .i64 a2.Prog))] (F143_res4 r168), .test (leadsAny (Res.mk [(.agg [(.im (.lit (fnV 166))), (.im (.lit .nilFunc)), (.im (.lit (.bool r168.1.only_))), (.im (.lit (fnV 163)))]), (.one (.im (.lit (.bool r168.2))))] [])) false, .call 68 [.agg (eGGraph a1), .one (.lit (.int .i64 a4))] (F68_res r227), .test (leadsAny (Res.mk [(.one (.own 89 (.sl (len r227) (flat eGEdge r227))))] [])) false, .test true true, .call 146 [.one (.sl (len r227) (flat eGEdge r227)), .one (.lit (.int .i64 a3)), .one (.lit (.int .i64 a5)), .one (.lit (.int .i64 0))] (F146_res r229), .test (leadsAny (Res.mk [(.one (.im (.lit (.int .i64 r229.1)))), (.one (.own 130 (.sl (len r229.2.1) (flat eGMsg r229.2.1)))), (.one (.im (.lit (.bool r229.2.2.1)))), (.one (.im (.lit (.int .i64 r229.2.2.2))))] [])) false] := ⟨(igt_eq h14), (bnot_f h15), (F143_ok4 _ h226 (F143_ok K a2.Prog _ h169)), (leads_ok (by simp [leadsAny, RV.leads, RC.leads, leadsT, hasSl_lit, flat_ns eGEdge_ns, flat_ns eGMsg_ns])), (F68_ok K a1 a4 _ h228), (leads_ok (by simp [leadsAny, RV.leads, RC.leads, leadsT, hasSl_lit, flat_ns eGEdge_ns, flat_ns eGMsg_ns])), rfl, (F146_ok K r227 a3 a5 0 _ h230), (leads_ok (by simp [leadsAny, RV.leads, RC.leads, leadsT, hasSl_lit, flat_ns eGEdge_ns, flat_ns eGMsg_ns])), trivial⟩
   exact fn_playC hn99 (r := F99_res (r229.1, (r229.2.1, (r229.2.2.1, r229.2.2.2)))) (q236 (q237 (q238 pz))) (by kernel_rfl) (by kernel_rfl)
  refine cond_some hF (fun h231 hF => ?_) (fun _ hF => nomatch hF)
  refine bind_some hF (fun r232 h233 hF => ?_)
  refine bind_some hF (fun r234 h235 hF => ?_)
  obtain rfl := Option.some.inj hF
  have pz : HoldAll E H hn99 [.test (igt a3 40) false, .test (bnot a7) true, .call 143 [.one (.lit (.int .i64 a2.Prog))] (F143_res5 r168), .test (leadsAny (Res.mk [(.agg [(.im (.lit .nilFunc)), (.im (.lit .nilFunc)), (.im (.lit (.bool r168.1.only_))), (.im (.lit .nilFunc))]), (.one (.im (.lit (.bool r168.2))))] [])) false, .call 68 [.agg (eGGraph a1), .one (.lit (.int .i64 a4))] (F68_res r232), .test (leadsAny (Res.mk [(.one (.own 89 (.sl (len r232) (flat eGEdge r232))))] [])) false, .test true true, .call 146 [.one (.sl (len r232) (flat eGEdge r232)), .one (.lit (.int .i64 a3)), .one (.lit (.int .i64 a5)), .one (.lit (.int .i64 0))] (F146_res r234), .test (leadsAny (Res.mk [(.one (.im (.lit (.int .i64 r234.1)))), (.one (.own 130 (.sl (len r234.2.1) (flat eGMsg r234.2.1)))), (.one (.im (.lit (.bool r234.2.2.1)))), (.one (.im (.lit (.int .i64 r234.2.2.2))))] [])) false] := ⟨(igt_eq h14), (bnot_f h15), (F143_ok5 _ h231 (F143_ok K a2.Prog _ h169)), (leads_ok (by simp [leadsAny, RV.leads, RC.leads, leadsT, hasSl_lit, flat_ns eGEdge_ns, flat_ns eGMsg_ns])), (F68_ok K a1 a4 _ h233), (leads_ok (by simp [leadsAny, RV.leads, RC.leads, leadsT, hasSl_lit, flat_ns eGEdge_ns, flat_ns eGMsg_ns])), rfl, (F146_ok K r232 a3 a5 0 _ h235), (leads_ok (by simp [leadsAny, RV.leads, RC.leads, leadsT, hasSl_lit, flat_ns eGEdge_ns, flat_ns eGMsg_ns])), trivial⟩
  exact fn_playC hn99 (r := F99_res (r234.1, (r234.2.1, (r234.2.2.1, r234.2.2.2)))) (q236 (q237 (q238 pz))) (by kernel_rfl) (by kernel_rfl)
 obtain rfl := Option.some.inj hF
 have pz : HoldAll E H hn99 [.call 94 [.agg (eGGraph a1), .agg (eGJob a2)] (F94_res r8), .test (leadsAny (Res.mk [(.one (.im (.lit (.int .i64 r8))))] [])) false, .test (ine r8 0) true] := ⟨(F94_ok K a1 a2 _ h9), (leads_ok (by simp [leadsAny, RV.leads, RC.leads, leadsT, hasSl_lit, flat_ns eGJob_ns])), (ine_f h10), trivial⟩
 exact fn_playC hn99 (r := F99_res (0, ([], (false, r8)))) pz (by kernel_rfl) (by kernel_rfl)
noncomputable def hn171 : Hint := { H 171 with nt := 37, prot := 0 }
def F171_res (r1 : Int × Bool) : Res := ⟨[(.one (.im (.lit (.int .i64 r1.1)))), (.one (.im (.lit (.bool r1.2))))], []⟩
def F171 (K : Nat) (a1 : Int) (a2 : Int) : Option (Int × Bool) :=
 bif (ieq a1 0) then
  (some (0, true))
 else
 bif (ieq a2 0) then
  (some (0, true))
 else
 bif (ieq a1 (-1)) then
  (bif (ieq a1 (-9223372036854775808)) then
   (some (0, false))
  else
  bif (ieq a2 (-9223372036854775808)) then
   (some (0, false))
  else
  some ((wmul .i64 a1 a2), true))
 else
 bif (ieq a2 (-1)) then
  (bif (ieq a1 (-9223372036854775808)) then
   (some (0, false))
  else
  bif (ieq a2 (-9223372036854775808)) then
   (some (0, false))
  else
  some ((wmul .i64 a1 a2), true))
 else
 bif (izero a2) then none else
 bif (ieq (wquo .i64 (wmul .i64 a1 a2) a2) a1) then
  (some ((wmul .i64 a1 a2), true))
 else
 some (0, false)
theorem F171_ok (K : Nat) (a1 : Int) (a2 : Int) (r : Int × Bool) (hF : F171 K a1 a2 = some r) : Evt E H 171 [.one (.lit (.int .i64 a1)), .one (.lit (.int .i64 a2))] (F171_res r) := by
 rw [F171] at hF
 refine cond_some hF (fun h3 hF => ?_) (fun h3 hF => ?_)
 ·
  obtain rfl := Option.some.inj hF
  have pz : HoldAll E H hn171 [.test (beqb (ieq a1 0) false) false, .test (beqb (ieq a1 0) false) false, .test (ieq a1 0) true, .test true true] := ⟨(beqb_ft h3), (beqb_ft h3), h3, rfl, trivial⟩
  exact fn_playC hn171 (r := F171_res (0, true)) pz (by kernel_rfl) (by kernel_rfl)
 have q13 : PQ hn171 fun l => (.test (beqb (ieq a1 0) false) true :: .test (beqb (ieq a1 0) false) true :: .test (ieq a1 0) false :: l) := fun z => ⟨(beqb_ff h3), (beqb_ff h3), h3, z⟩
 refine cond_some hF (fun h4 hF => ?_) (fun h4 hF => ?_)
 ·
  obtain rfl := Option.some.inj hF
  have pz : HoldAll E H hn171 [.test (ieq a2 0) true] := ⟨h4, trivial⟩
  exact fn_playC hn171 (r := F171_res (0, true)) (q13 pz) (by kernel_rfl) (by kernel_rfl)
 refine cond_some hF (fun h5 hF => ?_) (fun h5 hF => ?_)
 ·
  have q14 : PQ hn171 fun l => (.test (ieq a2 0) false :: .test (beqb (ieq a1 (-1)) false) false :: .test (beqb (ieq a1 (-1)) false) false :: .test (ieq a1 (-1)) true :: .test true true :: l) := fun z => ⟨h4, (beqb_ft h5), (beqb_ft h5), h5, rfl, z⟩
  refine cond_some hF (fun h6 hF => ?_) (fun h6 hF => ?_)
  ·
   obtain rfl := Option.some.inj hF
   have pz : HoldAll E H hn171 [.test (beqb (ieq a1 (-9223372036854775808)) false) false, .test (beqb (ieq a1 (-9223372036854775808)) false) false, .test (ieq a1 (-9223372036854775808)) true, .test true true] := ⟨(beqb_ft h6), (beqb_ft h6), h6, rfl, trivial⟩
   exact fn_playC hn171 (r := F171_res (0, false)) (q13 (q14 pz)) (by kernel_rfl) (by kernel_rfl)
  have q15 : PQ hn171 fun l => (.test (beqb (ieq a1 (-9223372036854775808)) false) true :: .test (beqb (ieq a1 (-9223372036854775808)) false) true :: .test (ieq a1 (-9223372036854775808)) false :: l) := fun z => ⟨(beqb_ff h6), (beqb_ff h6), h6, z⟩
  refine cond_some hF (fun h7 hF => ?_) (fun h7 hF => ?_)
  ·
   obtain rfl := Option.some.inj hF
   have pz : HoldAll E H hn171 [.test (ieq a2 (-9223372036854775808)) true] := ⟨h7, trivial⟩
   exact fn_playC hn171 (r := F171_res (0, false)) (q13 (q14 (q15 pz))) (by kernel_rfl) (by kernel_rfl)
  obtain rfl := Option.some.inj hF
  have pz : HoldAll E H hn171 [.test (ieq a2 (-9223372036854775808)) false, .int (wmul .i64 a1 a2) (wmul .i64 a1 a2)] := ⟨h7, rfl, trivial⟩
  exact fn_playC hn171 (r := F171_res ((wmul .i64 a1 a2), true)) (q13 (q14 (q15 pz))) (by kernel_rfl) (by kernel_rfl)
 have q16 : PQ hn171 fun l => (.test (ieq a2 0) false :: .test (beqb (ieq a1 (-1)) false) true :: .test (beqb (ieq a1 (-1)) false) true :: .test (ieq a1 (-1)) false :: l) := fun z => ⟨h4, (beqb_ff h5), (beqb_ff h5), h5, z⟩
 refine cond_some hF (fun h8 hF => ?_) (fun h8 hF => ?_)
 ·
  refine cond_some hF (fun h9 hF => ?_) (fun h9 hF => ?_)
  ·
   obtain rfl := Option.some.inj hF
   have pz : HoldAll E H hn171 [.test (ieq a2 (-1)) true, .test (beqb (ieq a1 (-9223372036854775808)) false) false, .test (beqb (ieq a1 (-9223372036854775808)) false) false, .test (ieq a1 (-9223372036854775808)) true, .test true true] := ⟨h8, (beqb_ft h9), (beqb_ft h9), h9, rfl, trivial⟩
   exact fn_playC hn171 (r := F171_res (0, false)) (q13 (q16 pz)) (by kernel_rfl) (by kernel_rfl)
  have q17 : PQ hn171 fun l => (.test (ieq a2 (-1)) true :: .test (beqb (ieq a1 (-9223372036854775808)) false) true :: .test (beqb (ieq a1 (-9223372036854775808)) false) true :: .test (ieq a1 (-9223372036854775808)) false :: l) := fun z => ⟨h8, (beqb_ff h9), (beqb_ff h9), h9, z⟩
  refine cond_some hF (fun h10 hF => ?_) (fun h10 hF => ?_)
  ·
   obtain rfl := Option.some.inj hF
   have pz : HoldAll E H hn171 [.test (ieq a2 (-9223372036854775808)) true] := ⟨h10, trivial⟩
   exact fn_playC hn171 (r := F171_res (0, false)) (q13 (q16 (q17 pz))) (by kernel_rfl) (by kernel_rfl)
  obtain rfl := Option.some.inj hF
  have pz : HoldAll E H hn171 [.test (ieq a2 (-9223372036854775808)) false, .int (wmul .i64 a1 a2) (wmul .i64 a1 a2)] := ⟨h10, rfl, trivial⟩
  exact fn_playC hn171 (r := F171_res ((wmul .i64 a1 a2), true)) (q13 (q16 (q17 pz))) (by kernel_rfl) (by kernel_rfl)
 refine cond_some hF (fun _ hF => nomatch hF) (fun h11 hF => ?_)
 have q18 : PQ hn171 fun l => (.test (ieq a2 (-1)) false :: .int (wmul .i64 a1 a2) (wmul .i64 a1 a2) :: .test (izero a2) false :: .int (wquo .i64 (wmul .i64 a1 a2) a2) (wquo .i64 (wmul .i64 a1 a2) a2) :: l) := fun z => ⟨h8, rfl, h11, rfl, z⟩
 refine cond_some hF (fun h12 hF => ?_) (fun h12 hF => ?_)
 ·
  obtain rfl := Option.some.inj hF
  have pz : HoldAll E H hn171 [.test (ine (wquo .i64 (wmul .i64 a1 a2) a2) a1) false] := ⟨(ine_t h12), trivial⟩
  exact fn_playC hn171 (r := F171_res ((wmul .i64 a1 a2), true)) (q13 (q16 (q18 pz))) (by kernel_rfl) (by kernel_rfl)
 obtain rfl := Option.some.inj hF
 have pz : HoldAll E H hn171 [.test (ine (wquo .i64 (wmul .i64 a1 a2) a2) a1) true] := ⟨(ine_f h12), trivial⟩
 exact fn_playC hn171 (r := F171_res (0, false)) (q13 (q16 (q18 pz))) (by kernel_rfl) (by kernel_rfl)
noncomputable def hn168 : Hint := { H 168 with nt := 23, prot := 0 }
def F168_res (r1 : Int × Bool) : Res := ⟨[(.one (.im (.lit (.int .i64 r1.1)))), (.one (.im (.lit (.bool r1.2))))], []⟩
def F168 (K : Nat) (a1 : Int) (a2 : Int) (a3 : Int) : Option (Int × Bool) :=
 bif (ilt a3 1) then
  (some (0, false))
 else
 (F171 K a1 a2).bind fun r4 =>
 bif r4.2 then
  (bif (izero a3) then none else
  some ((wquo .i64 r4.1 a3), true))
 else
 some (0, false)
theorem F168_ok (K : Nat) (a1 : Int) (a2 : Int) (a3 : Int) (r : Int × Bool) (hF : F168 K a1 a2 a3 = some r) : Evt E H 168 [.one (.lit (.int .i64 a1)), .one (.lit (.int .i64 a2)), .one (.lit (.int .i64 a3))] (F168_res r) := by
 rw [F168] at hF
 refine cond_some hF (fun h4 hF => ?_) (fun h4 hF => ?_)
 ·
  obtain rfl := Option.some.inj hF
  have pz : HoldAll E H hn168 [.test (ilt a3 1) true] := ⟨h4, trivial⟩
  exact fn_playC hn168 (r := F168_res (0, false)) pz (by kernel_rfl) (by kernel_rfl)
 refine bind_some hF (fun r5 h6 hF => ?_)
 have q9 : PQ hn168 fun l => (.test (ilt a3 1) false :: .call 171 [.one (.lit (.int .i64 a1)), .one (.lit (.int .i64 a2))] (F171_res r5) :: .test (leadsAny (Res.mk [(.one (.im (.lit (.int .i64 r5.1)))), (.one (.im (.lit (.bool r5.2))))] [])) false :: l) := fun z => ⟨h4, (F171_ok K a1 a2 _ h6), (leads_ok (by simp [leadsAny, RV.leads, RC.leads, leadsT, hasSl_lit])), z⟩
 refine cond_some hF (fun h7 hF => ?_) (fun h7 hF => ?_)
 ·
  refine cond_some hF (fun _ hF => nomatch hF) (fun h8 hF => ?_)
  obtain rfl := Option.some.inj hF
  have pz : HoldAll E H hn168 [.test (bnot r5.2) false, .test (izero a3) false, .int (wquo .i64 r5.1 a3) (wquo .i64 r5.1 a3)] := ⟨(bnot_t h7), h8, rfl, trivial⟩
  exact fn_playC hn168 (r := F168_res ((wquo .i64 r5.1 a3), true)) (q9 pz) (by kernel_rfl) (by kernel_rfl)
 obtain rfl := Option.some.inj hF
 have pz : HoldAll E H hn168 [.test (bnot r5.2) true] := ⟨(bnot_f h7), trivial⟩
 exact fn_playC hn168 (r := F168_res (0, false)) (q9 pz) (by kernel_rfl) (by kernel_rfl)
noncomputable def hn147 : Hint := { H 147 with nt := 17, prot := 0 }
def F147_res (r1 : Int × Bool) : Res := ⟨[(.one (.im (.lit (.int .i64 r1.1)))), (.one (.im (.lit (.bool r1.2))))], []⟩
def F147 (K : Nat) (a1 : Int) : Option (Int × Bool) :=
 (F168 K a1 85 100).bind fun r2 =>
 bif r2.2 then
  ((F145 K 150000 r2.1).bind fun r3 =>
  some (r3.1, r3.2))
 else
 some (0, false)
theorem F147_ok (K : Nat) (a1 : Int) (r : Int × Bool) (hF : F147 K a1 = some r) : Evt E H 147 [.one (.lit (.int .i64 a1))] (F147_res r) := by
 rw [F147] at hF
 refine bind_some hF (fun r2 h3 hF => ?_)
 refine cond_some hF (fun h4 hF => ?_) (fun h4 hF => ?_)
 ·
  refine bind_some hF (fun r5 h6 hF => ?_)
  obtain rfl := Option.some.inj hF
  have pz : HoldAll E H hn147 [.call 168 [.one (.lit (.int .i64 a1)), .one (.lit (.int .i64 85)), .one (.lit (.int .i64 100))] (F168_res r2), .test (leadsAny (Res.mk [(.one (.im (.lit (.int .i64 r2.1)))), (.one (.im (.lit (.bool r2.2))))] [])) false, .test (bnot r2.2) false, .call 145 [.one (.lit (.int .i64 150000)), .one (.lit (.int .i64 r2.1))] (F145_res r5), .test (leadsAny (Res.mk [(.one (.im (.lit (.int .i64 r5.1)))), (.one (.im (.lit (.bool r5.2))))] [])) false] := ⟨(F168_ok K a1 85 100 _ h3), (leads_ok (by simp [leadsAny, RV.leads, RC.leads, leadsT, hasSl_lit])), (bnot_t h4), (F145_ok K 150000 r2.1 _ h6), (leads_ok (by simp [leadsAny, RV.leads, RC.leads, leadsT, hasSl_lit])), trivial⟩
  exact fn_playC hn147 (r := F147_res (r5.1, r5.2)) pz (by kernel_rfl) (by kernel_rfl)
 obtain rfl := Option.some.inj hF
 have pz : HoldAll E H hn147 [.call 168 [.one (.lit (.int .i64 a1)), .one (.lit (.int .i64 85)), .one (.lit (.int .i64 100))] (F168_res r2), .test (leadsAny (Res.mk [(.one (.im (.lit (.int .i64 r2.1)))), (.one (.im (.lit (.bool r2.2))))] [])) false, .test (bnot r2.2) true] := ⟨(F168_ok K a1 85 100 _ h3), (leads_ok (by simp [leadsAny, RV.leads, RC.leads, leadsT, hasSl_lit])), (bnot_f h4), trivial⟩
 exact fn_playC hn147 (r := F147_res (0, false)) pz (by kernel_rfl) (by kernel_rfl)
noncomputable def hn148 : Hint := { H 148 with nt := 33, prot := 0 }
def F148_res (r1 : Int × Bool) : Res := ⟨[(.one (.im (.lit (.int .i64 r1.1)))), (.one (.im (.lit (.bool r1.2))))], []⟩
def F148 (K : Nat) (a1 : Int) (a2 : Int) (a3 : GEdge) (a4 : Int) : Option (Int × Bool) :=
 bif (ieq a1 1) then
  ((F145 K a2 a3.W).bind fun r5 =>
  some (r5.1, r5.2))
 else
 bif (ieq a1 3) then
  ((F145 K a2 1).bind fun r6 =>
  some (r6.1, r6.2))
 else
 bif (ieq a1 5) then
  ((F168 K a2 1 a4).bind fun r7 =>
  some (r7.1, r7.2))
 else
 some (a2, true)
theorem F148_ok (K : Nat) (a1 : Int) (a2 : Int) (a3 : GEdge) (a4 : Int) (r : Int × Bool) (hF : F148 K a1 a2 a3 a4 = some r) : Evt E H 148 [.one (.lit (.int .i64 a1)), .one (.lit (.int .i64 a2)), .agg (eGEdge a3), .one (.lit (.int .i64 a4))] (F148_res r) := by
 rw [F148] at hF
 refine cond_some hF (fun h5 hF => ?_) (fun h5 hF => ?_)
 ·
  refine bind_some hF (fun r6 h7 hF => ?_)
  obtain rfl := Option.some.inj hF
  have pz : HoldAll E H hn148 [.test (ieq a1 1) true, .call 145 [.one (.lit (.int .i64 a2)), .one (.lit (.int .i64 a3.W))] (F145_res r6), .test (leadsAny (Res.mk [(.one (.im (.lit (.int .i64 r6.1)))), (.one (.im (.lit (.bool r6.2))))] [])) false] := ⟨h5, (F145_ok K a2 a3.W _ h7), (leads_ok (by simp [leadsAny, RV.leads, RC.leads, leadsT, hasSl_lit])), trivial⟩
  exact fn_playC hn148 (r := F148_res (r6.1, r6.2)) pz (by kernel_rfl) (by kernel_rfl)
 refine cond_some hF (fun h8 hF => ?_) (fun h8 hF => ?_)
 ·
  refine bind_some hF (fun r9 h10 hF => ?_)
  obtain rfl := Option.some.inj hF
  have pz : HoldAll E H hn148 [.test (ieq a1 1) false, .test (ieq a1 3) true, .call 145 [.one (.lit (.int .i64 a2)), .one (.lit (.int .i64 1))] (F145_res r9), .test (leadsAny (Res.mk [(.one (.im (.lit (.int .i64 r9.1)))), (.one (.im (.lit (.bool r9.2))))] [])) false] := ⟨h5, h8, (F145_ok K a2 1 _ h10), (leads_ok (by simp [leadsAny, RV.leads, RC.leads, leadsT, hasSl_lit])), trivial⟩
  exact fn_playC hn148 (r := F148_res (r9.1, r9.2)) pz (by kernel_rfl) (by kernel_rfl)
 refine cond_some hF (fun h11 hF => ?_) (fun h11 hF => ?_)
 ·
  refine bind_some hF (fun r12 h13 hF => ?_)
  obtain rfl := Option.some.inj hF
  have pz : HoldAll E H hn148 [.test (ieq a1 1) false, .test (ieq a1 3) false, .test (ieq a1 5) true, .call 168 [.one (.lit (.int .i64 a2)), .one (.lit (.int .i64 1)), .one (.lit (.int .i64 a4))] (F168_res r12), .test (leadsAny (Res.mk [(.one (.im (.lit (.int .i64 r12.1)))), (.one (.im (.lit (.bool r12.2))))] [])) false] := ⟨h5, h8, h11, (F168_ok K a2 1 a4 _ h13), (leads_ok (by simp [leadsAny, RV.leads, RC.leads, leadsT, hasSl_lit])), trivial⟩
  exact fn_playC hn148 (r := F148_res (r12.1, r12.2)) pz (by kernel_rfl) (by kernel_rfl)
 obtain rfl := Option.some.inj hF
 have pz : HoldAll E H hn148 [.test (ieq a1 1) false, .test (ieq a1 3) false, .test (ieq a1 5) false] := ⟨h5, h8, h11, trivial⟩
 exact fn_playC hn148 (r := F148_res (a2, true)) pz (by kernel_rfl) (by kernel_rfl)
noncomputable def hn100 : Hint := { H 100 with nt := 145, prot := 0 }
noncomputable def c100_0 : Code := loopOf E 100 0
def F100_res (r1 : GTurned) : Res := ⟨[(.agg [(.im (.lit (.int .i64 r1.Val))), (.own 130 (.sl (len r1.Out) (flat eGMsg r1.Out))), (.im (.lit (.bool r1.Rest))), (.im (.lit (.int .i64 r1.E)))])], []⟩
def F100_l0_0 (K : Nat) (v1 : Int) (v2 : Int) (v3 : Int) (v4 : Int) (v5 : Int) (v6 : Bool) (v7 : List GEdge) : Nat → List GMsg → Int → Option ((Unit) ⊕ (List GMsg))
 | 0, _, _ => none
 | k + 1, v8, v9 =>
  bif (ilt v9 (nlen (len v7))) then
   (bif v6 then
    (bif (inr v9 (len v7)) then
    (elAt v7 v9).bind fun x10 =>
    (F148 K v2 v1 x10 (nlen (len v7))).bind fun r11 =>
    bif r11.2 then
     (bif (apok (len v8) 1 16) then
     F100_l0_0 K v1 v2 v3 v4 v5 v6 v7 k (appL v8 [(GMsg.mk x10.To r11.1)]) (wadd .i64 v9 1)
     else none)
    else
    some (.inl ())
    else none)
   else
   some (.inr v8))
  else
  some (.inr v8)
def F100_l0_0_S (v1 : Int) (v2 : Int) (v3 : Int) (v4 : Int) (v5 : Int) (v6 : Bool) (v7 : List GEdge) (v8 : List GMsg) (v9 : Int) : TS := .on [256, 257, 512, 513, 514, 515, 516, 896, 897, 898, 899, 900, 1088, 1089, 1344, 1345, 1346, 1347, 1348, 1408, 1409, 1472, 1473] [(256, ⟨.one, 0, nob⟩), (257, ⟨.im, 0, (.lit (.int .i64 v1))⟩), (512, ⟨(.box 64 4), 0, nob⟩), (513, ⟨.im, 0, (.lit (.int .i64 v2))⟩), (514, ⟨.im, 0, (.lit (.int .i64 v3))⟩), (515, ⟨.im, 0, (.lit (.int .i64 v4))⟩), (516, ⟨.im, 0, (.lit (.int .i64 v5))⟩), (896, ⟨(.box 126 4), 0, nob⟩), (897, ⟨.im, 0, (.lit (.int .i64 0))⟩), (898, ⟨(.own 130), 0, (.sl 0 [])⟩), (899, ⟨.im, 0, (.lit (.bool false))⟩), (900, ⟨.im, 0, (.lit (.int .i64 0))⟩), (1088, ⟨.one, 0, nob⟩), (1089, ⟨.im, 0, (.lit (.bool v6))⟩), (1344, ⟨(.box 126 4), 0, nob⟩), (1345, ⟨.im, 0, (.lit (.int .i64 v1))⟩), (1346, ⟨(.own 130), 0, (.sl (len v8) (flat eGMsg v8))⟩), (1347, ⟨.im, 0, (.lit (.bool (bnot v6)))⟩), (1348, ⟨.im, 0, (.lit (.int .i64 0))⟩), (1408, ⟨.one, 0, nob⟩), (1409, ⟨(.own 89), 0, (.sl (len v7) (flat eGEdge v7))⟩), (1472, ⟨.one, 0, nob⟩), (1473, ⟨.im, 0, (.lit (.int .i64 v9))⟩)]
def F100_l0_0_X0 (v1 : Int) (v2 : Int) (v3 : Int) (v4 : Int) (v5 : Int) (v6 : Bool) (v7 : List GEdge) (w8 : Unit) : TS := .on [896, 897, 898, 899, 900] [(896, ⟨(.box 126 4), 0, nob⟩), (897, ⟨.im, 0, (.lit (.int .i64 0))⟩), (898, ⟨(.own 130), 0, (.sl 0 [])⟩), (899, ⟨.im, 0, (.lit (.bool false))⟩), (900, ⟨.im, 0, (.lit (.int .i64 8))⟩)]
def F100_l0_0_X1 (v1 : Int) (v2 : Int) (v3 : Int) (v4 : Int) (v5 : Int) (v6 : Bool) (v7 : List GEdge) (w8 : List GMsg) : TS := .on [896, 897, 898, 899, 900, 1344, 1345, 1346, 1347, 1348] [(896, ⟨(.box 126 4), 0, nob⟩), (897, ⟨.im, 0, (.lit (.int .i64 0))⟩), (898, ⟨(.own 130), 0, (.sl 0 [])⟩), (899, ⟨.im, 0, (.lit (.bool false))⟩), (900, ⟨.im, 0, (.lit (.int .i64 0))⟩), (1344, ⟨(.box 126 4), 0, nob⟩), (1345, ⟨.im, 0, (.lit (.int .i64 v1))⟩), (1346, ⟨(.own 130), 0, (.sl (len w8) (flat eGMsg w8))⟩), (1347, ⟨.im, 0, (.lit (.bool (bnot v6)))⟩), (1348, ⟨.im, 0, (.lit (.int .i64 0))⟩)]
theorem F100_l0_0_ok (K : Nat) (v1 : Int) (v2 : Int) (v3 : Int) (v4 : Int) (v5 : Int) (v6 : Bool) (v7 : List GEdge) : ∀ (k : Nat) (v8 : List GMsg) (v9 : Int) (r : (Unit) ⊕ (List GMsg)), F100_l0_0 K v1 v2 v3 v4 v5 v6 v7 k v8 v9 = some r → (Sum.elim (fun w => LoopEv E H hn100 0 c100_0 (F100_l0_0_S v1 v2 v3 v4 v5 v6 v7 v8 v9) .ret (F100_l0_0_X0 v1 v2 v3 v4 v5 v6 v7 w)) (fun w => LoopEv E H hn100 0 c100_0 (F100_l0_0_S v1 v2 v3 v4 v5 v6 v7 v8 v9) (.exit 0) (F100_l0_0_X1 v1 v2 v3 v4 v5 v6 v7 w))) r := by
 intro k
 induction k with
 | zero => intro v8 v9 r hF; cases hF
 | succ k ih =>
  intro v8 v9 r hF
  rw [F100_l0_0] at hF
  refine cond_some hF (fun h10 hF => ?_) (fun h10 hF => ?_)
  ·
   have q19 : PQ hn100 fun l => (.int (nlen (len v7)) (nlen (len v7)) :: .test (beqb (ilt v9 (nlen (len v7))) true) true :: .test (ilt v9 (nlen (len v7))) true :: l) := fun z => ⟨rfl, (beqb_t h10), h10, z⟩
   refine cond_some hF (fun h11 hF => ?_) (fun h11 hF => ?_)
   ·
    refine cond_some hF (fun h12 hF => ?_) (fun _ hF => nomatch hF)
    refine bind_some hF (fun x13 h14 hF => ?_)
    refine bind_some hF (fun r15 h16 hF => ?_)
    have q20 : PQ hn100 fun l => (.test v6 true :: .test (inr v9 (len v7)) true :: .sub (flat eGEdge v7) (nidx v9 3) 3 [(.lit (.int .i64 x13.From)), (.lit (.int .i64 x13.To)), (.lit (.int .i64 x13.W))] :: .int (nlen (len v7)) (nlen (len v7)) :: .call 148 [.one (.lit (.int .i64 v2)), .one (.lit (.int .i64 v1)), .agg (eGEdge x13), .one (.lit (.int .i64 (nlen (len v7))))] (F148_res r15) :: .test (leadsAny (Res.mk [(.one (.im (.lit (.int .i64 r15.1)))), (.one (.im (.lit (.bool r15.2))))] [])) false :: l) := fun z => ⟨h11, h12, ⟨rfl, sub_flat0 eGEdge_len h14 3 (by decide)⟩, rfl, (F148_ok K v2 v1 x13 (nlen (len v7)) _ h16), (leads_ok (by simp [leadsAny, RV.leads, RC.leads, leadsT, hasSl_lit, flat_ns eGEdge_ns])), z⟩
    refine cond_some hF (fun h17 hF => ?_) (fun h17 hF => ?_)
    ·
     refine cond_some hF (fun h18 hF => ?_) (fun _ hF => nomatch hF)
     have pz : HoldAll E H hn100 [.test (bnot r15.2) false, .test (inr v9 (len v7)) true, .sub (flat eGEdge v7) (nadd (nidx v9 3) 1) 1 [(.lit (.int .i64 x13.To))], .test (leqm [(.lit (.int .i64 x13.To)), (.lit (.int .i64 r15.1))] 1 2) true, .test (apok (len v8) 1 16) true, .sl (nadd (len v8) 1) (lapp (flat eGMsg v8) [(.lit (.int .i64 x13.To)), (.lit (.int .i64 r15.1))]) (len (α := GMsg) (appL v8 [(GMsg.mk x13.To r15.1)])) (flat eGMsg (appL v8 [(GMsg.mk x13.To r15.1)])), .int (wadd .i64 v9 1) (wadd .i64 v9 1)] := ⟨(bnot_t h17), h12, ⟨rfl, sub_flat eGEdge_len h14 1 1 (by decide)⟩, rfl, h18, (app_ok (enc := eGMsg) (v8 : List GMsg) [(GMsg.mk x13.To r15.1)]), rfl, trivial⟩
     have h0 := ih _ _ _ hF
     have hn := fun ex ts' => loop_nextC (h := hn100) (l := 0) (c := c100_0) (ts := F100_l0_0_S v1 v2 v3 v4 v5 v6 v7 v8 v9) (ts1 := (F100_l0_0_S v1 v2 v3 v4 v5 v6 v7 (appL v8 [(GMsg.mk x13.To r15.1)]) (wadd .i64 v9 1))) (ex := ex) (ts' := ts') (q19 (q20 pz)) (by kernel_rfl)
     cases r with
     | inl w => exact hn _ _ h0
     | inr w => exact hn _ _ h0
    obtain rfl := Option.some.inj hF
    have pz : HoldAll E H hn100 [.test (bnot r15.2) true] := ⟨(bnot_f h17), trivial⟩
    exact loop_endC (h := hn100) (l := 0) (c := c100_0) (ts := F100_l0_0_S v1 v2 v3 v4 v5 v6 v7 v8 v9) (ts' := F100_l0_0_X0 v1 v2 v3 v4 v5 v6 v7 ()) (ex := .ret) (q19 (q20 pz)) (by kernel_rfl) trivial
   obtain rfl := Option.some.inj hF
   have pz : HoldAll E H hn100 [.test v6 false] := ⟨h11, trivial⟩
   exact loop_endC (h := hn100) (l := 0) (c := c100_0) (ts := F100_l0_0_S v1 v2 v3 v4 v5 v6 v7 v8 v9) (ts' := F100_l0_0_X1 v1 v2 v3 v4 v5 v6 v7 v8) (ex := (.exit 0)) (q19 pz) (by kernel_rfl) trivial
  obtain rfl := Option.some.inj hF
  have pz : HoldAll E H hn100 [.int (nlen (len v7)) (nlen (len v7)), .test (beqb (ilt v9 (nlen (len v7))) true) false, .test (ilt v9 (nlen (len v7))) false, .test false false] := ⟨rfl, (beqb_t h10), h10, rfl, trivial⟩
  exact loop_endC (h := hn100) (l := 0) (c := c100_0) (ts := F100_l0_0_S v1 v2 v3 v4 v5 v6 v7 v8 v9) (ts' := F100_l0_0_X1 v1 v2 v3 v4 v5 v6 v7 v8) (ex := (.exit 0)) pz (by kernel_rfl) trivial
def F100_l0_1 (K : Nat) (v1 : Int) (v2 : Int) (v3 : Int) (v4 : Int) (v5 : Int) (v6 : List GEdge) : Nat → List GMsg → Int → Option ((Unit) ⊕ (List GMsg))
 | 0, _, _ => none
 | k + 1, v7, v8 =>
  bif (ilt v8 (nlen (len v6))) then
   (bif (inr v8 (len v6)) then
   (elAt v6 v8).bind fun x9 =>
   (F148 K v2 v1 x9 (nlen (len v6))).bind fun r10 =>
   bif r10.2 then
    (bif (apok (len v7) 1 16) then
    F100_l0_1 K v1 v2 v3 v4 v5 v6 k (appL v7 [(GMsg.mk x9.To r10.1)]) (wadd .i64 v8 1)
    else none)
   else
   some (.inl ())
   else none)
  else
  some (.inr v7)
def F100_l0_1_S (v1 : Int) (v2 : Int) (v3 : Int) (v4 : Int) (v5 : Int) (v6 : List GEdge) (v7 : List GMsg) (v8 : Int) : TS := .on [256, 257, 512, 513, 514, 515, 516, 896, 897, 898, 899, 900, 1088, 1089, 1344, 1345, 1346, 1347, 1348, 1408, 1409, 1472, 1473] [(256, ⟨.one, 0, nob⟩), (257, ⟨.im, 0, (.lit (.int .i64 v1))⟩), (512, ⟨(.box 64 4), 0, nob⟩), (513, ⟨.im, 0, (.lit (.int .i64 v2))⟩), (514, ⟨.im, 0, (.lit (.int .i64 v3))⟩), (515, ⟨.im, 0, (.lit (.int .i64 v4))⟩), (516, ⟨.im, 0, (.lit (.int .i64 v5))⟩), (896, ⟨(.box 126 4), 0, nob⟩), (897, ⟨.im, 0, (.lit (.int .i64 0))⟩), (898, ⟨(.own 130), 0, (.sl 0 [])⟩), (899, ⟨.im, 0, (.lit (.bool false))⟩), (900, ⟨.im, 0, (.lit (.int .i64 0))⟩), (1088, ⟨.one, 0, nob⟩), (1089, ⟨.im, 0, (.lit (.bool true))⟩), (1344, ⟨(.box 126 4), 0, nob⟩), (1345, ⟨.im, 0, (.lit (.int .i64 v1))⟩), (1346, ⟨(.own 130), 0, (.sl (len v7) (flat eGMsg v7))⟩), (1347, ⟨.im, 0, (.lit (.bool true))⟩), (1348, ⟨.im, 0, (.lit (.int .i64 0))⟩), (1408, ⟨.one, 0, nob⟩), (1409, ⟨(.own 89), 0, (.sl (len v6) (flat eGEdge v6))⟩), (1472, ⟨.one, 0, nob⟩), (1473, ⟨.im, 0, (.lit (.int .i64 v8))⟩)]
def F100_l0_1_X0 (v1 : Int) (v2 : Int) (v3 : Int) (v4 : Int) (v5 : Int) (v6 : List GEdge) (w7 : Unit) : TS := .on [896, 897, 898, 899, 900] [(896, ⟨(.box 126 4), 0, nob⟩), (897, ⟨.im, 0, (.lit (.int .i64 0))⟩), (898, ⟨(.own 130), 0, (.sl 0 [])⟩), (899, ⟨.im, 0, (.lit (.bool false))⟩), (900, ⟨.im, 0, (.lit (.int .i64 8))⟩)]
def F100_l0_1_X1 (v1 : Int) (v2 : Int) (v3 : Int) (v4 : Int) (v5 : Int) (v6 : List GEdge) (w7 : List GMsg) : TS := .on [896, 897, 898, 899, 900, 1344, 1345, 1346, 1347, 1348] [(896, ⟨(.box 126 4), 0, nob⟩), (897, ⟨.im, 0, (.lit (.int .i64 0))⟩), (898, ⟨(.own 130), 0, (.sl 0 [])⟩), (899, ⟨.im, 0, (.lit (.bool false))⟩), (900, ⟨.im, 0, (.lit (.int .i64 0))⟩), (1344, ⟨(.box 126 4), 0, nob⟩), (1345, ⟨.im, 0, (.lit (.int .i64 v1))⟩), (1346, ⟨(.own 130), 0, (.sl (len w7) (flat eGMsg w7))⟩), (1347, ⟨.im, 0, (.lit (.bool true))⟩), (1348, ⟨.im, 0, (.lit (.int .i64 0))⟩)]
theorem F100_l0_1_ok (K : Nat) (v1 : Int) (v2 : Int) (v3 : Int) (v4 : Int) (v5 : Int) (v6 : List GEdge) : ∀ (k : Nat) (v7 : List GMsg) (v8 : Int) (r : (Unit) ⊕ (List GMsg)), F100_l0_1 K v1 v2 v3 v4 v5 v6 k v7 v8 = some r → (Sum.elim (fun w => LoopEv E H hn100 0 c100_0 (F100_l0_1_S v1 v2 v3 v4 v5 v6 v7 v8) .ret (F100_l0_1_X0 v1 v2 v3 v4 v5 v6 w)) (fun w => LoopEv E H hn100 0 c100_0 (F100_l0_1_S v1 v2 v3 v4 v5 v6 v7 v8) (.exit 0) (F100_l0_1_X1 v1 v2 v3 v4 v5 v6 w))) r := by
 intro k
 induction k with
 | zero => intro v7 v8 r hF; cases hF
 | succ k ih =>
  intro v7 v8 r hF
  rw [F100_l0_1] at hF
  refine cond_some hF (fun h9 hF => ?_) (fun h9 hF => ?_)
  ·
   refine cond_some hF (fun h10 hF => ?_) (fun _ hF => nomatch hF)
   refine bind_some hF (fun x11 h12 hF => ?_)
   refine bind_some hF (fun r13 h14 hF => ?_)
   have q17 : PQ hn100 fun l => (.int (nlen (len v6)) (nlen (len v6)) :: .test (beqb (ilt v8 (nlen (len v6))) true) true :: .test (ilt v8 (nlen (len v6))) true :: .test true true :: .test (inr v8 (len v6)) true :: .sub (flat eGEdge v6) (nidx v8 3) 3 [(.lit (.int .i64 x11.From)), (.lit (.int .i64 x11.To)), (.lit (.int .i64 x11.W))] :: .int (nlen (len v6)) (nlen (len v6)) :: .call 148 [.one (.lit (.int .i64 v2)), .one (.lit (.int .i64 v1)), .agg (eGEdge x11), .one (.lit (.int .i64 (nlen (len v6))))] (F148_res r13) :: .test (leadsAny (Res.mk [(.one (.im (.lit (.int .i64 r13.1)))), (.one (.im (.lit (.bool r13.2))))] [])) false :: l) := fun z => ⟨rfl, (beqb_t h9), h9, rfl, h10, ⟨rfl, sub_flat0 eGEdge_len h12 3 (by decide)⟩, rfl, (F148_ok K v2 v1 x11 (nlen (len v6)) _ h14), (leads_ok (by simp [leadsAny, RV.leads, RC.leads, leadsT, hasSl_lit, flat_ns eGEdge_ns])), z⟩
   refine cond_some hF (fun h15 hF => ?_) (fun h15 hF => ?_)
   ·
    refine cond_some hF (fun h16 hF => ?_) (fun _ hF => nomatch hF)
    have pz : HoldAll E H hn100 [.test (bnot r13.2) false, .test (inr v8 (len v6)) true, .sub (flat eGEdge v6) (nadd (nidx v8 3) 1) 1 [(.lit (.int .i64 x11.To))], .test (leqm [(.lit (.int .i64 x11.To)), (.lit (.int .i64 r13.1))] 1 2) true, .test (apok (len v7) 1 16) true, .sl (nadd (len v7) 1) (lapp (flat eGMsg v7) [(.lit (.int .i64 x11.To)), (.lit (.int .i64 r13.1))]) (len (α := GMsg) (appL v7 [(GMsg.mk x11.To r13.1)])) (flat eGMsg (appL v7 [(GMsg.mk x11.To r13.1)])), .int (wadd .i64 v8 1) (wadd .i64 v8 1)] := ⟨(bnot_t h15), h10, ⟨rfl, sub_flat eGEdge_len h12 1 1 (by decide)⟩, rfl, h16, (app_ok (enc := eGMsg) (v7 : List GMsg) [(GMsg.mk x11.To r13.1)]), rfl, trivial⟩
    have h0 := ih _ _ _ hF
    have hn := fun ex ts' => loop_nextC (h := hn100) (l := 0) (c := c100_0) (ts := F100_l0_1_S v1 v2 v3 v4 v5 v6 v7 v8) (ts1 := (F100_l0_1_S v1 v2 v3 v4 v5 v6 (appL v7 [(GMsg.mk x11.To r13.1)]) (wadd .i64 v8 1))) (ex := ex) (ts' := ts') (q17 pz) (by kernel_rfl)
    cases r with
    | inl w => exact hn _ _ h0
    | inr w => exact hn _ _ h0
   obtain rfl := Option.some.inj hF
   have pz : HoldAll E H hn100 [.test (bnot r13.2) true] := ⟨(bnot_f h15), trivial⟩
   exact loop_endC (h := hn100) (l := 0) (c := c100_0) (ts := F100_l0_1_S v1 v2 v3 v4 v5 v6 v7 v8) (ts' := F100_l0_1_X0 v1 v2 v3 v4 v5 v6 ()) (ex := .ret) (q17 pz) (by kernel_rfl) trivial
  obtain rfl := Option.some.inj hF
  have pz : HoldAll E H hn100 [.int (nlen (len v6)) (nlen (len v6)), .test (beqb (ilt v8 (nlen (len v6))) true) false, .test (ilt v8 (nlen (len v6))) false, .test false false] := ⟨rfl, (beqb_t h9), h9, rfl, trivial⟩
  exact loop_endC (h := hn100) (l := 0) (c := c100_0) (ts := F100_l0_1_S v1 v2 v3 v4 v5 v6 v7 v8) (ts' := F100_l0_1_X1 v1 v2 v3 v4 v5 v6 v7) (ex := (.exit 0)) pz (by kernel_rfl) trivial
def F100_l0_2 (K : Nat) (v1 : Int) (v2 : Int) (v3 : Int) (v4 : Int) (v5 : Int) (v6 : Bool) (v7 : List GEdge) : Nat → List GMsg → Int → Option ((Unit) ⊕ (List GMsg))
 | 0, _, _ => none
 | k + 1, v8, v9 =>
  bif (ilt v9 (nlen (len v7))) then
   (bif v6 then
    (bif (inr v9 (len v7)) then
    (elAt v7 v9).bind fun x10 =>
    (F148 K v2 v1 x10 (nlen (len v7))).bind fun r11 =>
    bif r11.2 then
     (bif (apok (len v8) 1 16) then
     F100_l0_2 K v1 v2 v3 v4 v5 v6 v7 k (appL v8 [(GMsg.mk x10.To r11.1)]) (wadd .i64 v9 1)
     else none)
    else
    some (.inl ())
    else none)
   else
   some (.inr v8))
  else
  some (.inr v8)
def F100_l0_2_S (v1 : Int) (v2 : Int) (v3 : Int) (v4 : Int) (v5 : Int) (v6 : Bool) (v7 : List GEdge) (v8 : List GMsg) (v9 : Int) : TS := .on [256, 257, 512, 513, 514, 515, 516, 896, 897, 898, 899, 900, 1088, 1089, 1344, 1345, 1346, 1347, 1348, 1408, 1409, 1472, 1473] [(256, ⟨.one, 0, nob⟩), (257, ⟨.im, 0, (.lit (.int .i64 v1))⟩), (512, ⟨(.box 64 4), 0, nob⟩), (513, ⟨.im, 0, (.lit (.int .i64 v2))⟩), (514, ⟨.im, 0, (.lit (.int .i64 v3))⟩), (515, ⟨.im, 0, (.lit (.int .i64 v4))⟩), (516, ⟨.im, 0, (.lit (.int .i64 v5))⟩), (896, ⟨(.box 126 4), 0, nob⟩), (897, ⟨.im, 0, (.lit (.int .i64 0))⟩), (898, ⟨(.own 130), 0, (.sl 0 [])⟩), (899, ⟨.im, 0, (.lit (.bool false))⟩), (900, ⟨.im, 0, (.lit (.int .i64 0))⟩), (1088, ⟨.one, 0, nob⟩), (1089, ⟨.im, 0, (.lit (.bool v6))⟩), (1344, ⟨(.box 126 4), 0, nob⟩), (1345, ⟨.im, 0, (.lit (.int .i64 v1))⟩), (1346, ⟨(.own 130), 0, (.sl (len v8) (flat eGMsg v8))⟩), (1347, ⟨.im, 0, (.lit (.bool true))⟩), (1348, ⟨.im, 0, (.lit (.int .i64 0))⟩), (1408, ⟨.one, 0, nob⟩), (1409, ⟨(.own 89), 0, (.sl (len v7) (flat eGEdge v7))⟩), (1472, ⟨.one, 0, nob⟩), (1473, ⟨.im, 0, (.lit (.int .i64 v9))⟩)]
def F100_l0_2_X0 (v1 : Int) (v2 : Int) (v3 : Int) (v4 : Int) (v5 : Int) (v6 : Bool) (v7 : List GEdge) (w8 : Unit) : TS := .on [896, 897, 898, 899, 900] [(896, ⟨(.box 126 4), 0, nob⟩), (897, ⟨.im, 0, (.lit (.int .i64 0))⟩), (898, ⟨(.own 130), 0, (.sl 0 [])⟩), (899, ⟨.im, 0, (.lit (.bool false))⟩), (900, ⟨.im, 0, (.lit (.int .i64 8))⟩)]
def F100_l0_2_X1 (v1 : Int) (v2 : Int) (v3 : Int) (v4 : Int) (v5 : Int) (v6 : Bool) (v7 : List GEdge) (w8 : List GMsg) : TS := .on [896, 897, 898, 899, 900, 1344, 1345, 1346, 1347, 1348] [(896, ⟨(.box 126 4), 0, nob⟩), (897, ⟨.im, 0, (.lit (.int .i64 0))⟩), (898, ⟨(.own 130), 0, (.sl 0 [])⟩), (899, ⟨.im, 0, (.lit (.bool false))⟩), (900, ⟨.im, 0, (.lit (.int .i64 0))⟩), (1344, ⟨(.box 126 4), 0, nob⟩), (1345, ⟨.im, 0, (.lit (.int .i64 v1))⟩), (1346, ⟨(.own 130), 0, (.sl (len w8) (flat eGMsg w8))⟩), (1347, ⟨.im, 0, (.lit (.bool true))⟩), (1348, ⟨.im, 0, (.lit (.int .i64 0))⟩)]
theorem F100_l0_2_ok (K : Nat) (v1 : Int) (v2 : Int) (v3 : Int) (v4 : Int) (v5 : Int) (v6 : Bool) (v7 : List GEdge) : ∀ (k : Nat) (v8 : List GMsg) (v9 : Int) (r : (Unit) ⊕ (List GMsg)), F100_l0_2 K v1 v2 v3 v4 v5 v6 v7 k v8 v9 = some r → (Sum.elim (fun w => LoopEv E H hn100 0 c100_0 (F100_l0_2_S v1 v2 v3 v4 v5 v6 v7 v8 v9) .ret (F100_l0_2_X0 v1 v2 v3 v4 v5 v6 v7 w)) (fun w => LoopEv E H hn100 0 c100_0 (F100_l0_2_S v1 v2 v3 v4 v5 v6 v7 v8 v9) (.exit 0) (F100_l0_2_X1 v1 v2 v3 v4 v5 v6 v7 w))) r := by
 intro k
 induction k with
 | zero => intro v8 v9 r hF; cases hF
 | succ k ih =>
  intro v8 v9 r hF
  rw [F100_l0_2] at hF
  refine cond_some hF (fun h10 hF => ?_) (fun h10 hF => ?_)
  ·
   have q19 : PQ hn100 fun l => (.int (nlen (len v7)) (nlen (len v7)) :: .test (beqb (ilt v9 (nlen (len v7))) true) true :: .test (ilt v9 (nlen (len v7))) true :: l) := fun z => ⟨rfl, (beqb_t h10), h10, z⟩
   refine cond_some hF (fun h11 hF => ?_) (fun h11 hF => ?_)
   ·
    refine cond_some hF (fun h12 hF => ?_) (fun _ hF => nomatch hF)
    refine bind_some hF (fun x13 h14 hF => ?_)
    refine bind_some hF (fun r15 h16 hF => ?_)
    have q20 : PQ hn100 fun l => (.test v6 true :: .test (inr v9 (len v7)) true :: .sub (flat eGEdge v7) (nidx v9 3) 3 [(.lit (.int .i64 x13.From)), (.lit (.int .i64 x13.To)), (.lit (.int .i64 x13.W))] :: .int (nlen (len v7)) (nlen (len v7)) :: .call 148 [.one (.lit (.int .i64 v2)), .one (.lit (.int .i64 v1)), .agg (eGEdge x13), .one (.lit (.int .i64 (nlen (len v7))))] (F148_res r15) :: .test (leadsAny (Res.mk [(.one (.im (.lit (.int .i64 r15.1)))), (.one (.im (.lit (.bool r15.2))))] [])) false :: l) := fun z => ⟨h11, h12, ⟨rfl, sub_flat0 eGEdge_len h14 3 (by decide)⟩, rfl, (F148_ok K v2 v1 x13 (nlen (len v7)) _ h16), (leads_ok (by simp [leadsAny, RV.leads, RC.leads, leadsT, hasSl_lit, flat_ns eGEdge_ns])), z⟩
    refine cond_some hF (fun h17 hF => ?_) (fun h17 hF => ?_)
    ·
     refine cond_some hF (fun h18 hF => ?_) (fun _ hF => nomatch hF)
     have pz : HoldAll E H hn100 [.test (bnot r15.2) false, .test (inr v9 (len v7)) true, .sub (flat eGEdge v7) (nadd (nidx v9 3) 1) 1 [(.lit (.int .i64 x13.To))], .test (leqm [(.lit (.int .i64 x13.To)), (.lit (.int .i64 r15.1))] 1 2) true, .test (apok (len v8) 1 16) true, .sl (nadd (len v8) 1) (lapp (flat eGMsg v8) [(.lit (.int .i64 x13.To)), (.lit (.int .i64 r15.1))]) (len (α := GMsg) (appL v8 [(GMsg.mk x13.To r15.1)])) (flat eGMsg (appL v8 [(GMsg.mk x13.To r15.1)])), .int (wadd .i64 v9 1) (wadd .i64 v9 1)] := ⟨(bnot_t h17), h12, ⟨rfl, sub_flat eGEdge_len h14 1 1 (by decide)⟩, rfl, h18, (app_ok (enc := eGMsg) (v8 : List GMsg) [(GMsg.mk x13.To r15.1)]), rfl, trivial⟩
     have h0 := ih _ _ _ hF
     have hn := fun ex ts' => loop_nextC (h := hn100) (l := 0) (c := c100_0) (ts := F100_l0_2_S v1 v2 v3 v4 v5 v6 v7 v8 v9) (ts1 := (F100_l0_2_S v1 v2 v3 v4 v5 v6 v7 (appL v8 [(GMsg.mk x13.To r15.1)]) (wadd .i64 v9 1))) (ex := ex) (ts' := ts') (q19 (q20 pz)) (by kernel_rfl)
     cases r with
     | inl w => exact hn _ _ h0
     | inr w => exact hn _ _ h0
    obtain rfl := Option.some.inj hF
    have pz : HoldAll E H hn100 [.test (bnot r15.2) true] := ⟨(bnot_f h17), trivial⟩
    exact loop_endC (h := hn100) (l := 0) (c := c100_0) (ts := F100_l0_2_S v1 v2 v3 v4 v5 v6 v7 v8 v9) (ts' := F100_l0_2_X0 v1 v2 v3 v4 v5 v6 v7 ()) (ex := .ret) (q19 (q20 pz)) (by kernel_rfl) trivial
   obtain rfl := Option.some.inj hF
   have pz : HoldAll E H hn100 [.test v6 false] := ⟨h11, trivial⟩
   exact loop_endC (h := hn100) (l := 0) (c := c100_0) (ts := F100_l0_2_S v1 v2 v3 v4 v5 v6 v7 v8 v9) (ts' := F100_l0_2_X1 v1 v2 v3 v4 v5 v6 v7 v8) (ex := (.exit 0)) (q19 pz) (by kernel_rfl) trivial
  obtain rfl := Option.some.inj hF
  have pz : HoldAll E H hn100 [.int (nlen (len v7)) (nlen (len v7)), .test (beqb (ilt v9 (nlen (len v7))) true) false, .test (ilt v9 (nlen (len v7))) false, .test false false] := ⟨rfl, (beqb_t h10), h10, rfl, trivial⟩
  exact loop_endC (h := hn100) (l := 0) (c := c100_0) (ts := F100_l0_2_S v1 v2 v3 v4 v5 v6 v7 v8 v9) (ts' := F100_l0_2_X1 v1 v2 v3 v4 v5 v6 v7 v8) (ex := (.exit 0)) pz (by kernel_rfl) trivial
def F100_l0_3 (K : Nat) (v1 : Int) (v2 : Int) (v3 : Int) (v4 : Int) (v5 : Int) (v6 : List GEdge) : Nat → List GMsg → Int → Option (((List GMsg)) ⊕ (Unit))
 | 0, _, _ => none
 | k + 1, v7, v8 =>
  bif (ilt v8 (nlen (len v6))) then
   (bif (ieq v1 v1) then
    (some (.inl v7))
   else
   bif (inr v8 (len v6)) then
   (elAt v6 v8).bind fun x9 =>
   (F148 K v2 v1 x9 (nlen (len v6))).bind fun r10 =>
   bif r10.2 then
    (bif (apok (len v7) 1 16) then
    F100_l0_3 K v1 v2 v3 v4 v5 v6 k (appL v7 [(GMsg.mk x9.To r10.1)]) (wadd .i64 v8 1)
    else none)
   else
   some (.inr ())
   else none)
  else
  some (.inl v7)
def F100_l0_3_S (v1 : Int) (v2 : Int) (v3 : Int) (v4 : Int) (v5 : Int) (v6 : List GEdge) (v7 : List GMsg) (v8 : Int) : TS := .on [256, 257, 512, 513, 514, 515, 516, 896, 897, 898, 899, 900, 1088, 1089, 1344, 1345, 1346, 1347, 1348, 1408, 1409, 1472, 1473] [(256, ⟨.one, 0, nob⟩), (257, ⟨.im, 0, (.lit (.int .i64 v1))⟩), (512, ⟨(.box 64 4), 0, nob⟩), (513, ⟨.im, 0, (.lit (.int .i64 v2))⟩), (514, ⟨.im, 0, (.lit (.int .i64 v3))⟩), (515, ⟨.im, 0, (.lit (.int .i64 v4))⟩), (516, ⟨.im, 0, (.lit (.int .i64 v5))⟩), (896, ⟨(.box 126 4), 0, nob⟩), (897, ⟨.im, 0, (.lit (.int .i64 0))⟩), (898, ⟨(.own 130), 0, (.sl 0 [])⟩), (899, ⟨.im, 0, (.lit (.bool false))⟩), (900, ⟨.im, 0, (.lit (.int .i64 0))⟩), (1088, ⟨.one, 0, nob⟩), (1089, ⟨.im, 0, (.lit (.bool (ine v1 v1)))⟩), (1344, ⟨(.box 126 4), 0, nob⟩), (1345, ⟨.im, 0, (.lit (.int .i64 v1))⟩), (1346, ⟨(.own 130), 0, (.sl (len v7) (flat eGMsg v7))⟩), (1347, ⟨.im, 0, (.lit (.bool true))⟩), (1348, ⟨.im, 0, (.lit (.int .i64 0))⟩), (1408, ⟨.one, 0, nob⟩), (1409, ⟨(.own 89), 0, (.sl (len v6) (flat eGEdge v6))⟩), (1472, ⟨.one, 0, nob⟩), (1473, ⟨.im, 0, (.lit (.int .i64 v8))⟩)]
def F100_l0_3_X0 (v1 : Int) (v2 : Int) (v3 : Int) (v4 : Int) (v5 : Int) (v6 : List GEdge) (w7 : List GMsg) : TS := .on [896, 897, 898, 899, 900, 1344, 1345, 1346, 1347, 1348] [(896, ⟨(.box 126 4), 0, nob⟩), (897, ⟨.im, 0, (.lit (.int .i64 0))⟩), (898, ⟨(.own 130), 0, (.sl 0 [])⟩), (899, ⟨.im, 0, (.lit (.bool false))⟩), (900, ⟨.im, 0, (.lit (.int .i64 0))⟩), (1344, ⟨(.box 126 4), 0, nob⟩), (1345, ⟨.im, 0, (.lit (.int .i64 v1))⟩), (1346, ⟨(.own 130), 0, (.sl (len w7) (flat eGMsg w7))⟩), (1347, ⟨.im, 0, (.lit (.bool true))⟩), (1348, ⟨.im, 0, (.lit (.int .i64 0))⟩)]
def F100_l0_3_X1 (v1 : Int) (v2 : Int) (v3 : Int) (v4 : Int) (v5 : Int) (v6 : List GEdge) (w7 : Unit) : TS := .on [896, 897, 898, 899, 900] [(896, ⟨(.box 126 4), 0, nob⟩), (897, ⟨.im, 0, (.lit (.int .i64 0))⟩), (898, ⟨(.own 130), 0, (.sl 0 [])⟩), (899, ⟨.im, 0, (.lit (.bool false))⟩), (900, ⟨.im, 0, (.lit (.int .i64 8))⟩)]
theorem F100_l0_3_ok (K : Nat) (v1 : Int) (v2 : Int) (v3 : Int) (v4 : Int) (v5 : Int) (v6 : List GEdge) : ∀ (k : Nat) (v7 : List GMsg) (v8 : Int) (r : ((List GMsg)) ⊕ (Unit)), F100_l0_3 K v1 v2 v3 v4 v5 v6 k v7 v8 = some r → (Sum.elim (fun w => LoopEv E H hn100 0 c100_0 (F100_l0_3_S v1 v2 v3 v4 v5 v6 v7 v8) (.exit 0) (F100_l0_3_X0 v1 v2 v3 v4 v5 v6 w)) (fun w => LoopEv E H hn100 0 c100_0 (F100_l0_3_S v1 v2 v3 v4 v5 v6 v7 v8) .ret (F100_l0_3_X1 v1 v2 v3 v4 v5 v6 w))) r := by
 intro k
 induction k with
 | zero => intro v7 v8 r hF; cases hF
 | succ k ih =>
  intro v7 v8 r hF
  rw [F100_l0_3] at hF
  refine cond_some hF (fun h9 hF => ?_) (fun h9 hF => ?_)
  ·
   have q18 : PQ hn100 fun l => (.int (nlen (len v6)) (nlen (len v6)) :: .test (beqb (ilt v8 (nlen (len v6))) true) true :: .test (ilt v8 (nlen (len v6))) true :: l) := fun z => ⟨rfl, (beqb_t h9), h9, z⟩
   refine cond_some hF (fun h10 hF => ?_) (fun h10 hF => ?_)
   ·
    obtain rfl := Option.some.inj hF
    have pz : HoldAll E H hn100 [.test (ine v1 v1) false] := ⟨(ine_t h10), trivial⟩
    exact loop_endC (h := hn100) (l := 0) (c := c100_0) (ts := F100_l0_3_S v1 v2 v3 v4 v5 v6 v7 v8) (ts' := F100_l0_3_X0 v1 v2 v3 v4 v5 v6 v7) (ex := (.exit 0)) (q18 pz) (by kernel_rfl) trivial
   refine cond_some hF (fun h11 hF => ?_) (fun _ hF => nomatch hF)
   refine bind_some hF (fun x12 h13 hF => ?_)
   refine bind_some hF (fun r14 h15 hF => ?_)
   have q19 : PQ hn100 fun l => (.test (ine v1 v1) true :: .test (inr v8 (len v6)) true :: .sub (flat eGEdge v6) (nidx v8 3) 3 [(.lit (.int .i64 x12.From)), (.lit (.int .i64 x12.To)), (.lit (.int .i64 x12.W))] :: .int (nlen (len v6)) (nlen (len v6)) :: .call 148 [.one (.lit (.int .i64 v2)), .one (.lit (.int .i64 v1)), .agg (eGEdge x12), .one (.lit (.int .i64 (nlen (len v6))))] (F148_res r14) :: .test (leadsAny (Res.mk [(.one (.im (.lit (.int .i64 r14.1)))), (.one (.im (.lit (.bool r14.2))))] [])) false :: l) := fun z => ⟨(ine_f h10), h11, ⟨rfl, sub_flat0 eGEdge_len h13 3 (by decide)⟩, rfl, (F148_ok K v2 v1 x12 (nlen (len v6)) _ h15), (leads_ok (by simp [leadsAny, RV.leads, RC.leads, leadsT, hasSl_lit, flat_ns eGEdge_ns])), z⟩
   refine cond_some hF (fun h16 hF => ?_) (fun h16 hF => ?_)
   ·
    refine cond_some hF (fun h17 hF => ?_) (fun _ hF => nomatch hF)
    have pz : HoldAll E H hn100 [.test (bnot r14.2) false, .test (inr v8 (len v6)) true, .sub (flat eGEdge v6) (nadd (nidx v8 3) 1) 1 [(.lit (.int .i64 x12.To))], .test (leqm [(.lit (.int .i64 x12.To)), (.lit (.int .i64 r14.1))] 1 2) true, .test (apok (len v7) 1 16) true, .sl (nadd (len v7) 1) (lapp (flat eGMsg v7) [(.lit (.int .i64 x12.To)), (.lit (.int .i64 r14.1))]) (len (α := GMsg) (appL v7 [(GMsg.mk x12.To r14.1)])) (flat eGMsg (appL v7 [(GMsg.mk x12.To r14.1)])), .int (wadd .i64 v8 1) (wadd .i64 v8 1)] := ⟨(bnot_t h16), h11, ⟨rfl, sub_flat eGEdge_len h13 1 1 (by decide)⟩, rfl, h17, (app_ok (enc := eGMsg) (v7 : List GMsg) [(GMsg.mk x12.To r14.1)]), rfl, trivial⟩
    have h0 := ih _ _ _ hF
    have hn := fun ex ts' => loop_nextC (h := hn100) (l := 0) (c := c100_0) (ts := F100_l0_3_S v1 v2 v3 v4 v5 v6 v7 v8) (ts1 := (F100_l0_3_S v1 v2 v3 v4 v5 v6 (appL v7 [(GMsg.mk x12.To r14.1)]) (wadd .i64 v8 1))) (ex := ex) (ts' := ts') (q18 (q19 pz)) (by kernel_rfl)
    cases r with
    | inl w => exact hn _ _ h0
    | inr w => exact hn _ _ h0
   obtain rfl := Option.some.inj hF
   have pz : HoldAll E H hn100 [.test (bnot r14.2) true] := ⟨(bnot_f h16), trivial⟩
   exact loop_endC (h := hn100) (l := 0) (c := c100_0) (ts := F100_l0_3_S v1 v2 v3 v4 v5 v6 v7 v8) (ts' := F100_l0_3_X1 v1 v2 v3 v4 v5 v6 ()) (ex := .ret) (q18 (q19 pz)) (by kernel_rfl) trivial
  obtain rfl := Option.some.inj hF
  have pz : HoldAll E H hn100 [.int (nlen (len v6)) (nlen (len v6)), .test (beqb (ilt v8 (nlen (len v6))) true) false, .test (ilt v8 (nlen (len v6))) false, .test false false] := ⟨rfl, (beqb_t h9), h9, rfl, trivial⟩
  exact loop_endC (h := hn100) (l := 0) (c := c100_0) (ts := F100_l0_3_S v1 v2 v3 v4 v5 v6 v7 v8) (ts' := F100_l0_3_X0 v1 v2 v3 v4 v5 v6 v7) (ex := (.exit 0)) pz (by kernel_rfl) trivial
end Go.Proofs.Ytnjanliihnadjaa.Tm

/- Messages in order: the reference's sort. Conditions: none. -/
import Derived.Test.YtnjanliihnadjaaSm
import Derived.Test.YtnjanliihnadjaaFR
set_option linter.unusedVariables false
set_option linter.unusedSimpArgs false
namespace Go.Proofs.Ytnjanliihnadjaa.Tm
open Go

def leM (a b : GMsg) : Bool := ilt a.To b.To || (ieq a.To b.To && ile a.V b.V)
theorem leM_iff {a b : GMsg} : leM a b = true ↔ a.To < b.To ∨ a.To = b.To ∧ a.V ≤ b.V := by simp [leM, ilt, ieq, ile]
theorem leM_f {a b : GMsg} : leM a b = false ↔ ¬ (a.To < b.To ∨ a.To = b.To ∧ a.V ≤ b.V) := by rw [← leM_iff]; simp
theorem leM_trans {a b c : GMsg} (h : leM a b = true) (g : leM b c = true) : leM a c = true := by rw [leM_iff] at *; omega
theorem leM_anti {a b : GMsg} (h : leM a b = true) (g : leM b a = true) : a = b := by
  rw [leM_iff] at h g
  cases a; cases b
  simp only [GMsg.mk.injEq]
  dsimp only at h g
  omega
theorem leM_total {a b : GMsg} (h : leM a b = false) : leM b a = true := by rw [leM_f] at h; rw [leM_iff]; omega
def srtM (l : List GMsg) : Prop := l.Pairwise fun a b => leM a b = true
theorem srtM_eq {l l' : List GMsg} (h : srtM l) (h' : srtM l') (hp : l.Perm l') : l = l' :=
  List.Perm.eq_of_pairwise (fun a b _ _ h1 h2 => leM_anti h1 h2) h h' hp

def bubR : List GMsg → GMsg → List GMsg → List GMsg
  | [], x, Q => x :: Q
  | y :: R, x, Q => bif leM y x then (y :: R).reverse ++ x :: Q else bubR R x (y :: Q)
def sortM (l : List GMsg) : List GMsg := l.foldl (fun acc x => bubR acc.reverse x []) []

theorem bubR_perm (x : GMsg) : ∀ (R Q : List GMsg), (bubR R x Q).Perm (R.reverse ++ x :: Q)
  | [], Q => List.Perm.refl _
  | y :: R, Q => by
    rw [bubR]
    cases leM y x
    · refine (bubR_perm x R (y :: Q)).trans ?_
      rw [List.reverse_cons, List.append_assoc]
      exact List.Perm.append_left _ (List.Perm.swap y x Q)
    · exact List.Perm.refl _

theorem bubR_srt (x : GMsg) : ∀ (R Q : List GMsg), srtM (R.reverse ++ Q) → (∀ q ∈ Q, leM x q = true) → srtM (bubR R x Q)
  | [], Q, h, hx => List.pairwise_cons.2 ⟨hx, h⟩
  | y :: R, Q, h, hx => by
    rw [bubR]
    cases hy : leM y x
    · refine bubR_srt x R (y :: Q) ?_ fun q hq => ?_
      · rw [List.reverse_cons, List.append_assoc] at h; exact h
      · rcases List.mem_cons.1 hq with e | e
        · subst e; exact leM_total hy
        · exact hx q e
    · obtain ⟨h1, h2, h3⟩ := List.pairwise_append.1 h
      refine List.pairwise_append.2 ⟨h1, List.pairwise_cons.2 ⟨hx, h2⟩, fun a ha b hb => ?_⟩
      have hay : a = y ∨ leM a y = true := by
        rw [List.reverse_cons] at ha h1
        obtain ⟨_, _, h6⟩ := List.pairwise_append.1 h1
        rcases List.mem_append.1 ha with e | e
        · exact .inr (h6 a e y (by simp))
        · exact .inl (List.mem_singleton.1 e)
      rcases List.mem_cons.1 hb with e | e
      · subst e
        rcases hay with e | e
        · subst e; exact hy
        · exact leM_trans e hy
      · exact h3 a ha b e

theorem sort_go : ∀ (l acc : List GMsg), srtM acc → srtM (l.foldl (fun acc x => bubR acc.reverse x []) acc) ∧ (l.foldl (fun acc x => bubR acc.reverse x []) acc).Perm (acc ++ l)
  | [], acc, h => ⟨h, by simp⟩
  | x :: l, acc, h => by
    have h1 : srtM (bubR acc.reverse x []) := bubR_srt x acc.reverse [] (by simpa using h) (fun q hq => (nomatch hq))
    have h2 : (bubR acc.reverse x []).Perm (acc ++ [x]) := by simpa using bubR_perm x acc.reverse []
    obtain ⟨a, b⟩ := sort_go l _ h1
    refine ⟨a, b.trans ?_⟩
    have := h2.append_right l
    simpa using this
theorem sortM_srt (l : List GMsg) : srtM (sortM l) := (sort_go l [] List.Pairwise.nil).1
theorem sortM_perm (l : List GMsg) : (sortM l).Perm l := by
  have := (sort_go l [] List.Pairwise.nil).2
  rwa [List.nil_append] at this
theorem sortM_len (l : List GMsg) : (sortM l).length = l.length := (sortM_perm l).length_eq
theorem sortM_eq {l r : List GMsg} (h : srtM r) (hp : r.Perm l) : sortM l = r := srtM_eq (sortM_srt l) h ((sortM_perm l).trans hp.symm)
theorem sortM_congr {l l' : List GMsg} (hp : l.Perm l') : sortM l = sortM l' := sortM_eq (sortM_srt l') ((sortM_perm l').trans hp.symm)

theorem swap_at {α : Type} (A : List α) (y x : α) (Q : List α) : (A ++ y :: x :: Q)[A.length]? = some y ∧ (A ++ y :: x :: Q)[A.length + 1]? = some x ∧ (A ++ y :: x :: Q).set A.length x = A ++ x :: x :: Q ∧ (A ++ x :: x :: Q)[A.length + 1]? = some x ∧ (A ++ x :: x :: Q).set (A.length + 1) y = A ++ x :: y :: Q := by
  refine ⟨by simp, ?_, ?_, ?_, ?_⟩
  · rw [List.getElem?_append_right (by omega)]; simp
  · rw [List.set_append_right (h := by omega)]; simp
  · rw [List.getElem?_append_right (by omega)]; simp
  · rw [List.set_append_right (h := by omega)]; simp

theorem F91_bub (K : Nat) (a : List GMsg) (v : Int) (x : GMsg) : ∀ (R Q : List GMsg) (k : Nat), R.length < k → R.length < 1000000 → F91_l1_1 K a v k (R.reverse ++ x :: Q) (R.length : Int) = some (bubR R x Q) := by
  intro R
  induction R with
  | nil =>
    intro Q k hk _
    obtain ⟨k, rfl⟩ : ∃ q, k = q + 1 := ⟨k - 1, by omega⟩
    rw [F91_l1_1]; rfl
  | cons y R ih =>
    intro Q k hk hl
    obtain ⟨k, rfl⟩ : ∃ q, k = q + 1 := ⟨k - 1, by omega⟩
    simp only [List.length_cons] at hk hl
    have e0 : (y :: R).reverse ++ x :: Q = R.reverse ++ y :: x :: Q := by simp
    obtain ⟨s1, s2, s3, s4, s5⟩ := swap_at R.reverse y x Q
    rw [List.length_reverse] at s1 s2 s3 s4 s5
    have hlen : (R.reverse ++ y :: x :: Q).length = R.length + (Q.length + 2) := by simp
    have w : wsub .i64 ((R.length + 1 : Nat) : Int) 1 = ((R.length : Nat) : Int) := by
      show IntKind.i64.wrap _ = _
      rw [IntKind.wrap_i64]; omega
    have i1 : inr ((R.length : Nat) : Int) (len (R.reverse ++ y :: x :: Q)) = true := decide_eq_true ⟨by omega, by show ((R.length : Nat) : Int) < (((R.reverse ++ y :: x :: Q).length : Nat) : Int); omega⟩
    have i2 : inr ((R.length + 1 : Nat) : Int) (len (R.reverse ++ y :: x :: Q)) = true := decide_eq_true ⟨by omega, by show ((R.length + 1 : Nat) : Int) < (((R.reverse ++ y :: x :: Q).length : Nat) : Int); omega⟩
    have p1 : putAt (R.reverse ++ y :: x :: Q) ((R.length : Nat) : Int) x = R.reverse ++ x :: x :: Q := by unfold putAt; rw [Int.toNat_natCast]; exact s3
    have i3 : inr ((R.length + 1 : Nat) : Int) (len (R.reverse ++ x :: x :: Q)) = true := decide_eq_true ⟨by omega, by show ((R.length + 1 : Nat) : Int) < (((R.reverse ++ x :: x :: Q).length : Nat) : Int); simp; omega⟩
    have p2 : putAt (R.reverse ++ x :: x :: Q) ((R.length + 1 : Nat) : Int) y = R.reverse ++ x :: y :: Q := by unfold putAt; rw [Int.toNat_natCast]; exact s5
    have g1 : elAt (R.reverse ++ y :: x :: Q) ((R.length : Nat) : Int) = some y := by rw [elAt_nat]; exact s1
    have g2 : elAt (R.reverse ++ y :: x :: Q) ((R.length + 1 : Nat) : Int) = some x := by rw [elAt_nat]; exact s2
    have g3 : elAt (R.reverse ++ x :: x :: Q) ((R.length + 1 : Nat) : Int) = some x := by rw [elAt_nat]; exact s4
    rw [e0, List.length_cons, F91_l1_1, ilt_iff.2 (by omega : (0 : Int) < ((R.length + 1 : Nat) : Int)), cond_true, w, i1, cond_true, g1, Option.bind_some, i2, cond_true, g2, Option.bind_some, p1, i3, g3, bubR, leM]
    have sw := ih (y :: Q) k (by omega) (by omega)
    cases ilt y.To x.To
    · cases ieq y.To x.To
      · simp only [cond_false, cond_true, Option.bind_some, p2, Bool.false_or, Bool.false_and]; exact sw
      · cases ile y.V x.V
        · simp only [cond_false, cond_true, Option.bind_some, p2, Bool.false_or, Bool.true_and]; exact sw
        · simp
    · simp

theorem F91_spec {K : Nat} (l : List GMsg) (hl : l.length < 100000) (hK : l.length < K) : F91 K l = some (sortM l) := by
  let step : Nat → GMsg → List GMsg → (List GMsg → Option (List GMsg)) → Option (List GMsg) := fun i x a c =>
    bif (apok (len a) 1 16) then (F91_l1_1 K l (i : Int) K (appL a [x]) (wsub .i64 (nlen (len (α := GMsg) (appL a [x]))) 1)).bind fun w => c w else none
  have h := scanI (l := l) (L := fun k s i => F91_l0_0 K l k s i) step (fun s => some s) (fun k s i _ => rfl) (by omega) K [] 0 (by omega) (by omega)
  have hw : ∀ (r : List GMsg) (i : Nat) (a : List GMsg), a.length + r.length ≤ l.length → goI step (fun s => some s) i r a = some (r.foldl (fun acc x => bubR acc.reverse x []) a) := by
    intro r
    induction r with
    | nil => intro i a _; rfl
    | cons x r ih =>
      intro i a ha
      simp only [List.length_cons] at ha
      rw [goI]
      show (bif (apok (len a) 1 16) then (F91_l1_1 K l (i : Int) K (appL a [x]) (wsub .i64 (nlen (len (α := GMsg) (appL a [x]))) 1)).bind fun w => goI step (fun s => some s) (i + 1) r w else none) = _
      have ap : apok (len a) 1 16 = true := decide_eq_true ⟨by show a.length + 1 ≤ _; omega, by show (a.length + 1) * 16 ≤ _; omega⟩
      have w : wsub .i64 (nlen (len (α := GMsg) (appL a [x]))) 1 = ((a.reverse.length : Nat) : Int) := by
        have : nlen (len (α := GMsg) (appL a [x])) = ((a.length + 1 : Nat) : Int) := by simp [nlen, len, appL]
        rw [this, List.length_reverse]
        show IntKind.i64.wrap _ = _
        rw [IntKind.wrap_i64]; omega
      have e : appL a [x] = a.reverse.reverse ++ x :: [] := by simp [appL]
      have hb := (bubR_perm x a.reverse []).length_eq
      rw [ap, cond_true, w, e, F91_bub K l (i : Int) x a.reverse [] K (by simp; omega) (by simp; omega), Option.bind_some, ih (i + 1) _ (by rw [hb]; simp; omega)]; rfl
  rw [List.drop_zero, hw l 0 [] (by simp)] at h
  have h' : F91_l0_0 K l K [] 0 = some (sortM l) := h
  rw [F91, h']; rfl

theorem F90_spec {K : Nat} (ls : List (List GMsg)) (h1 : ls.length < 10000) (h2 : ls.length < K) (h3 : (ls.flatten).length < 100000) (h4 : (ls.flatten).length < K) : F90 K ls = some (sortM ls.flatten) := by
  let step : List GMsg → List GMsg → (List GMsg → Option (List GMsg)) → Option (List GMsg) := fun x a c => bif (apok (len a) (len x) 16) then c (appL a x) else none
  have h := scanL (l := ls) (L := fun k s i => F90_l0_0 K ls k s i) step (fun s => some s) (fun k s i _ => rfl) (by omega) h2 []
  have hw : ∀ (r : List (List GMsg)) (a : List GMsg), a.length + r.flatten.length < 100000 → goL step (fun s => some s) r a = some (a ++ r.flatten) := by
    intro r
    induction r with
    | nil => intro a _; simp [goL]
    | cons x r ih =>
      intro a ha
      rw [List.flatten_cons, List.length_append] at ha
      rw [goL]
      show (bif (apok (len a) (len x) 16) then goL step (fun s => some s) r (appL a x) else none) = _
      have ap : apok (len a) (len x) 16 = true := decide_eq_true ⟨by show a.length + x.length ≤ _; omega, by show (a.length + x.length) * 16 ≤ _; omega⟩
      rw [ap, cond_true, ih _ (by simp only [appL, List.length_append]; omega)]; simp [appL]
  rw [hw ls [] (by simpa using h3), List.nil_append] at h
  have h' : F90_l0_0 K ls K [] 0 = some ls.flatten := h
  rw [F90, h', Option.bind_some, F91_spec _ h3 h4]; rfl
end Go.Proofs.Ytnjanliihnadjaa.Tm

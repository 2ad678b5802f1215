/- Which partitions and states are right. Conditions: none. -/
import Derived.Test.YtnjanliihnadjaaQa
import Derived.Test.YtnjanliihnadjaaFP
import Derived.Test.YtnjanliihnadjaaFPs
import Derived.Test.YtnjanliihnadjaaFQr
set_option linter.unusedVariables false
set_option linter.unusedSimpArgs false
namespace Go.Proofs.Ytnjanliihnadjaa.Tm
open Go

def inOkS (n parts p : Int) : Int → List GMsg → Bool
  | _, [] => true
  | prev, m :: r => ilt prev m.To && (ilt m.To n && (ieq (m.To % parts) p && inOkS n parts p m.To r))
def inSt (n : Int) : Int → List GMsg → Bool
  | _, [] => true
  | prev, m :: r => ilt prev m.To && (ilt m.To n && inSt n m.To r)

def sumU (b : Bool) : Unit ⊕ Unit := bif b then .inr () else .inl ()
theorem sumU_elim (b : Bool) : (some (sumU b)).bind (fun y => Sum.elim (fun w => some false) (fun w => some true) y) = some b := by cases b <;> rfl
theorem not_ile {a b : Int} : ile a b = !(ilt b a) := by
  unfold ile ilt; by_cases h : b < a <;> simp [h] <;> omega

def partRight (g : GGraph) (j : GJob) (x : GPart) : Bool :=
  ieq (jcheck g j) 0 && (ile 0 x.P && (ilt x.P j.Parts && (ile 0 x.Step && (ile x.Step 40 && (ieq (x.Vals.length : Int) (countS g j x.P) && (ieq (x.Rest.length : Int) (countS g j x.P) && inOkS g.N j.Parts x.P (-1) x.In))))))

theorem F80_loop {K : Nat} (g : GGraph) (j : GJob) (x : GPart) (hp : 1 ≤ j.Parts) (hl : x.In.length < 1000000) (hK : x.In.length < K) : F80_l0_0 K g j x K (-1) 0 = some (sumU (inOkS g.N j.Parts x.P (-1) x.In)) := by
  let step : GMsg → Int → (Int → Option (Unit ⊕ Unit)) → Option (Unit ⊕ Unit) := fun m s c =>
    bif (ile m.To s) then (some (.inl ())) else bif (ile g.N m.To) then (some (.inl ())) else bif (izero j.Parts) then none else bif (ieq (wrem m.To j.Parts) x.P) then c m.To else some (.inl ())
  have h := scanL (l := x.In) (L := fun k s i => F80_l0_0 K g j x k s i) step (fun _ => some (.inr ())) (fun k s i _ => rfl) (by omega) (K := K) hK (-1)
  have hz : izero j.Parts = false := decide_eq_false (by omega)
  have hw : ∀ (l : List GMsg) (s : Int), -1 ≤ s → goL step (fun _ => some (.inr ())) l s = some (sumU (inOkS g.N j.Parts x.P s l)) := by
    intro l
    induction l with
    | nil => intro s _; rfl
    | cons m l ih =>
      intro s hs
      rw [goL]
      show (bif (ile m.To s) then (some (.inl ())) else bif (ile g.N m.To) then (some (.inl ())) else bif (izero j.Parts) then none else bif (ieq (wrem m.To j.Parts) x.P) then goL step (fun _ => some (.inr ())) l m.To else some (.inl ())) = _
      rw [inOkS, hz, not_ile, not_ile]
      cases h1 : ilt s m.To
      · rfl
      · have h1' := ilt_iff.1 h1
        rw [wrem_emod (by omega), ih m.To (by omega)]
        cases ilt m.To g.N <;> cases ieq (m.To % j.Parts) x.P <;> rfl
  rw [hw _ _ (by omega)] at h
  exact h

theorem F80_spec {K : Nat} (hK : 1000 ≤ K) (g : GGraph) (j : GJob) (x : GPart) (hl : x.In.length < 1000000) (hk : x.In.length < K) (hp : -9223372036854775808 ≤ x.P ∧ x.P ≤ 9223372036854775807) : F80 K g j x = some (partRight g j x) := by
  rw [F80, F94_spec (by omega), Option.bind_some, partRight]
  cases hc : ieq (jcheck g j) 0
  · rfl
  · obtain ⟨hg, p1, p2, p3, p4, p5, p6, p7, p8⟩ := jcheck_ok hc
    rw [cond_true, F77_spec (by omega) g j x.P hp, hc, F80_loop g j x p7 hl hk]
    have n1 : nlen (len x.Vals) = (x.Vals.length : Int) := rfl
    have n2 : nlen (len x.Rest) = (x.Rest.length : Int) := rfl
    rw [ilt_not' x.P 0, not_ile (a := j.Parts), ilt_not' x.Step 0, ilt_not' 40 x.Step, n1, n2, cond_true, Option.bind_some, sumU_elim]
    cases ile 0 x.P <;> cases ilt x.P j.Parts <;> cases ile 0 x.Step <;> cases ile x.Step 40 <;> cases ieq (x.Vals.length : Int) (countS g j x.P) <;> cases ieq (x.Rest.length : Int) (countS g j x.P) <;> rfl

theorem any_verts {g : GGraph} {j : GJob} (hp : 1 ≤ j.Parts) (p to : Int) : (((vertsS g j p).map Int.ofNat).any fun v => ieq v to) = (ile 0 to && (ilt to g.N && ieq (to % j.Parts) p)) := by
  rw [Bool.eq_iff_iff]
  simp only [List.any_map, List.any_eq_true, Function.comp, Bool.and_eq_true, ile_iff, ilt_iff, ieq_iff]
  constructor
  · rintro ⟨v, hv, e⟩
    have := (mem_verts hp).1 hv
    have e' : (v : Int) = to := e
    rw [← e']; exact ⟨by omega, this⟩
  · rintro ⟨h0, h1, h2⟩
    obtain ⟨v, rfl⟩ := Int.eq_ofNat_of_zero_le h0
    exact ⟨v, (mem_verts hp).2 ⟨h1, h2⟩, rfl⟩

theorem F81_inner {K : Nat} (x : GPart) (l : List Int) (v : Int) (m : GMsg) (hl : l.length < 1000000) (hk : l.length < K) : F81_l1_1 K x l v m K false 0 = some (l.any fun v => ieq v m.To) := by
  have h := scanL (l := l) (L := fun k s i => F81_l1_1 K x l v m k s i) (fun y s c => bif s then c true else c (ieq y m.To)) (fun s => some s) (fun k s i _ => by
    show F81_l1_1 K x l v m (k + 1) s i = _
    rw [F81_l1_1]
    rcases at_idx l i with ⟨z, e1, e2, e3, e4⟩ | ⟨e1, e2⟩
    · rw [e2, e3, e4]; cases s <;> rfl
    · rw [e2]; rfl) (by omega) (K := K) hk false
  have hw : ∀ (l : List Int) (s : Bool), goL (fun y s c => bif s then c true else c (ieq y m.To)) (fun s => some s) l s = some (s || l.any fun v => ieq v m.To) := by
    intro l
    induction l with
    | nil => intro s; simp [goL]
    | cons y l ih =>
      intro s
      rw [goL]
      cases s
      · rw [cond_false, ih, List.any_cons, Bool.false_or]
      · rw [cond_true, ih]; rfl
  rw [hw, Bool.false_or] at h
  exact h

theorem verts_len (g : GGraph) (j : GJob) (hn : g.N ≤ 24) (p : Int) : (vertsS g j p).length ≤ 24 := by
  unfold vertsS vertsN
  refine Nat.le_trans (List.length_filter_le _ _) ?_
  simp; omega

theorem F81_loop {K : Nat} (hK : 1000 ≤ K) (g : GGraph) (j : GJob) (x : GPart) (hp : 1 ≤ j.Parts) (hn : g.N ≤ 24) (hl : x.In.length < 1000000) (hk : x.In.length < K) : F81_l0_0 K x ((vertsS g j x.P).map Int.ofNat) K 0 = some (sumU (inOkS g.N j.Parts x.P (-1) x.In)) := by
  have hv := verts_len g j hn x.P
  let step : Nat → GMsg → Unit → (Unit → Option (Unit ⊕ Unit)) → Option (Unit ⊕ Unit) := fun i m _ c =>
      (F81_l1_1 K x ((vertsS g j x.P).map Int.ofNat) (i : Int) m K false 0).bind fun w3384 =>
      bif w3384 then
        (bif (ilt 0 (i : Int)) then
          (bif (inr (wsub .i64 (i : Int) 1) (len x.In)) then
          (elAt x.In (wsub .i64 (i : Int) 1)).bind fun x3389 =>
          bif (ile m.To x3389.To) then (some (.inl ())) else c ()
          else none)
        else c ())
      else some (.inl ())
  have h := scanI (l := x.In) (L := fun k (_ : Unit) i => F81_l0_0 K x ((vertsS g j x.P).map Int.ofNat) k i) step (fun _ => some (.inr ())) (fun k st i hi => rfl) (by omega) K () 0 (by omega) (by omega)
  have hw : ∀ (r : List GMsg) (i : Nat), x.In.drop i = r → goI step (fun _ => some (.inr ())) i r () = some (sumU (inOkS g.N j.Parts x.P (match prevOf x.In i with | none => -1 | some d => if 0 ≤ d.To then d.To else -1) r)) ∨ (∃ d, prevOf x.In i = some d ∧ d.To < 0) := by
    intro r
    induction r with
    | nil => intro i _; exact .inl rfl
    | cons m r ih =>
      intro i hr
      obtain ⟨n1, n2, hi⟩ := prev_next hr
      by_cases hneg : ∃ d, prevOf x.In i = some d ∧ d.To < 0
      · exact .inr hneg
      left
      rw [goI]
      show ((F81_l1_1 K x ((vertsS g j x.P).map Int.ofNat) (i : Int) m K false 0).bind fun w3384 =>
      bif w3384 then
        (bif (ilt 0 (i : Int)) then
          (bif (inr (wsub .i64 (i : Int) 1) (len x.In)) then
          (elAt x.In (wsub .i64 (i : Int) 1)).bind fun x3389 =>
          bif (ile m.To x3389.To) then (some (.inl ())) else goI step (fun _ => some (.inr ())) (i + 1) r ()
          else none)
        else goI step (fun _ => some (.inr ())) (i + 1) r ())
      else some (.inl ())) = _
      rw [F81_inner x _ _ m (by simp; omega) (by simp; omega), any_verts hp, Option.bind_some]
      cases h0 : ile 0 m.To
      · have := ile_f.1 h0
        have hno : ∀ a : Int, -1 ≤ a → ilt a m.To = false := fun a ha => ilt_f.2 (by omega)
        have hprev : (-1 : Int) ≤ (match prevOf x.In i with | none => -1 | some d => if 0 ≤ d.To then d.To else -1) := by
          split
          · omega
          · split <;> omega
        rw [inOkS, hno _ hprev]; rfl
      · have hm0 := ile_iff.1 h0
        have nx : goI step (fun _ => some (.inr ())) (i + 1) r () = some (sumU (inOkS g.N j.Parts x.P m.To r)) := by
          rcases ih (i + 1) n2 with q | ⟨d, q1, q2⟩
          · rw [n1] at q
            dsimp only at q
            rw [if_pos hm0] at q; exact q
          · rw [n1] at q1; cases q1; omega
        rw [nx, inOkS]
        cases i with
        | zero =>
          have e1 : ilt 0 ((0 : Nat) : Int) = false := rfl
          have e2 : (match prevOf x.In 0 with | none => (-1 : Int) | some d => if 0 ≤ d.To then d.To else -1) = -1 := rfl
          rw [e1, e2, ilt_iff.2 (by omega : (-1 : Int) < m.To)]
          cases ilt m.To g.N <;> cases ieq (m.To % j.Parts) x.P <;> rfl
        | succ q =>
          obtain ⟨d, p1, p2, p3, p4⟩ := prev_at (l := x.In) (i := q + 1) (by omega) hi (by omega)
          have hd : ¬ d.To < 0 := fun hh => hneg ⟨d, p1, hh⟩
          have e1 : ilt 0 ((q + 1 : Nat) : Int) = true := ilt_iff.2 (by omega)
          rw [e1, p2, p3, p4, p1]
          simp only [Option.bind_some, cond_true, Bool.true_and, not_ile (a := m.To), if_pos (show 0 ≤ d.To by omega)]
          cases ilt d.To m.To <;> cases ilt m.To g.N <;> cases ieq (m.To % j.Parts) x.P <;> rfl
  rcases hw x.In 0 rfl with q | ⟨d, q1, _⟩
  · rw [List.drop_zero, q] at h; exact h
  · cases q1

theorem F81_spec {K : Nat} (hK : 1000 ≤ K) (g : GGraph) (j : GJob) (x : GPart) (hl : x.In.length < 1000000) (hk : x.In.length < K) : F81 K g j x = some (partRight g j x) := by
  rw [F81, F59_spec (by omega), Option.bind_some, partRight]
  cases hc : ieq (jcheck g j) 0
  · rfl
  · obtain ⟨hg, p1, p2, p3, p4, p5, p6, p7, p8⟩ := jcheck_ok hc
    obtain ⟨g1, g2, _, _⟩ := gcheck_ok hg
    have n3 : nlen (len ((vertsS g j x.P).map Int.ofNat)) = countS g j x.P := by simp [nlen, len, countS]
    rw [cond_true, F139_spec (by omega) p7 p8 g2, Option.bind_some, F81_loop hK g j x p7 g2 hl hk, n3]
    have n1 : nlen (len x.Vals) = (x.Vals.length : Int) := rfl
    have n2 : nlen (len x.Rest) = (x.Rest.length : Int) := rfl
    rw [ilt_not' x.P 0, not_ile (a := j.Parts), ilt_not' x.Step 0, ilt_not' 40 x.Step, n1, n2, sumU_elim]
    cases ile 0 x.P <;> cases ilt x.P j.Parts <;> cases ile 0 x.Step <;> cases ile x.Step 40 <;> cases ieq (x.Vals.length : Int) (countS g j x.P) <;> cases ieq (x.Rest.length : Int) (countS g j x.P) <;> rfl

/-! ### States -/
def stRight (g : GGraph) (j : GJob) (s : GState) : Bool :=
  ieq (jcheck g j) 0 && (ile 0 s.Step && (ile s.Step 40 && (ieq (s.Vals.length : Int) g.N && (ieq (s.Rest.length : Int) g.N && inSt g.N (-1) s.In))))

theorem F104_loop {K : Nat} (g : GGraph) (s : GState) (hl : s.In.length < 1000000) (hK : s.In.length < K) : F104_l0_0 K g s K (-1) 0 = some (sumU (inSt g.N (-1) s.In)) := by
  let step : GMsg → Int → (Int → Option (Unit ⊕ Unit)) → Option (Unit ⊕ Unit) := fun m s c =>
    bif (ile m.To s) then (some (.inl ())) else bif (ile g.N m.To) then (some (.inl ())) else c m.To
  have h := scanL (l := s.In) (L := fun k v i => F104_l0_0 K g s k v i) step (fun _ => some (.inr ())) (fun k s i _ => rfl) (by omega) (K := K) hK (-1)
  have hw : ∀ (l : List GMsg) (v : Int), goL step (fun _ => some (.inr ())) l v = some (sumU (inSt g.N v l)) := by
    intro l
    induction l with
    | nil => intro s; rfl
    | cons m l ih =>
      intro v
      rw [goL]
      show (bif (ile m.To v) then (some (.inl ())) else bif (ile g.N m.To) then (some (.inl ())) else goL step (fun _ => some (.inr ())) l m.To) = _
      rw [inSt, not_ile, not_ile, ih]
      cases ilt v m.To <;> cases ilt m.To g.N <;> rfl
  rw [hw] at h
  exact h

theorem F104_spec {K : Nat} (hK : 1000 ≤ K) (g : GGraph) (j : GJob) (s : GState) (hl : s.In.length < 1000000) (hk : s.In.length < K) : F104 K g j s = some (stRight g j s) := by
  rw [F104, F94_spec (by omega), Option.bind_some, stRight]
  cases hc : ieq (jcheck g j) 0
  · rfl
  · rw [cond_true, F104_loop g s hl hk]
    have n1 : nlen (len s.Vals) = (s.Vals.length : Int) := rfl
    have n2 : nlen (len s.Rest) = (s.Rest.length : Int) := rfl
    rw [ilt_not' s.Step 0, ilt_not' 40 s.Step, n1, n2, sumU_elim]
    cases ile 0 s.Step <;> cases ile s.Step 40 <;> cases ieq (s.Vals.length : Int) g.N <;> cases ieq (s.Rest.length : Int) g.N <;> rfl

theorem F88_loop {K : Nat} (g : GGraph) (s : GState) (hl : s.In.length < 1000000) (hK : s.In.length < K) : F88_l0_0 K g s K 0 = some (sumU (inSt g.N (-1) s.In)) := by
  let step : Nat → GMsg → Unit → (Unit → Option (Unit ⊕ Unit)) → Option (Unit ⊕ Unit) := fun i m _ c =>
      bif (ilt m.To 0) then (some (.inl ())) else bif (ile g.N m.To) then (some (.inl ())) else
      bif (ilt 0 (i : Int)) then
        (bif (inr (wsub .i64 (i : Int) 1) (len s.In)) then
        (elAt s.In (wsub .i64 (i : Int) 1)).bind fun d => bif (ile m.To d.To) then (some (.inl ())) else c ()
        else none)
      else c ()
  have h := scanI (l := s.In) (L := fun k (_ : Unit) i => F88_l0_0 K g s k i) step (fun _ => some (.inr ())) (fun k st i hi => rfl) (by omega) K () 0 (by omega) (by omega)
  have hw : ∀ (r : List GMsg) (i : Nat), s.In.drop i = r → (∀ d, prevOf s.In i = some d → 0 ≤ d.To) → goI step (fun _ => some (.inr ())) i r () = some (sumU (inSt g.N (match prevOf s.In i with | none => -1 | some d => d.To) r)) := by
    intro r
    induction r with
    | nil => intro i _ _; rfl
    | cons m r ih =>
      intro i hr hp
      obtain ⟨n1, n2, hi⟩ := prev_next hr
      rw [goI]
      show (bif (ilt m.To 0) then (some (.inl ())) else bif (ile g.N m.To) then (some (.inl ())) else
      bif (ilt 0 (i : Int)) then
        (bif (inr (wsub .i64 (i : Int) 1) (len s.In)) then
        (elAt s.In (wsub .i64 (i : Int) 1)).bind fun d => bif (ile m.To d.To) then (some (.inl ())) else goI step (fun _ => some (.inr ())) (i + 1) r ()
        else none)
      else goI step (fun _ => some (.inr ())) (i + 1) r ()) = _
      cases h0 : ilt m.To 0
      · have hm0 := ilt_f.1 h0
        have nx := ih (i + 1) n2 (fun d hd => by rw [n1] at hd; cases hd; exact hm0)
        rw [n1] at nx
        dsimp only at nx
        rw [nx, inSt, not_ile]
        cases i with
        | zero =>
          have e1 : ilt 0 ((0 : Nat) : Int) = false := rfl
          have e2 : (match prevOf s.In 0 with | none => (-1 : Int) | some d => d.To) = -1 := rfl
          rw [e1, e2, ilt_iff.2 (by omega : (-1 : Int) < m.To)]
          cases ilt m.To g.N <;> rfl
        | succ q =>
          obtain ⟨d, p1, p2, p3, p4⟩ := prev_at (l := s.In) (i := q + 1) (by omega) hi (by omega)
          have e1 : ilt 0 ((q + 1 : Nat) : Int) = true := ilt_iff.2 (by omega)
          rw [e1, p2, p3, p4, p1]
          simp only [Option.bind_some, cond_true, cond_false, not_ile (a := m.To)]
          cases ilt d.To m.To <;> cases ilt m.To g.N <;> rfl
      · have hm0 := ilt_iff.1 h0
        have hno : ∀ a : Int, -1 ≤ a → ilt a m.To = false := fun a ha => ilt_f.2 (by omega)
        have hprev : (-1 : Int) ≤ (match prevOf s.In i with | none => -1 | some d => d.To) := by
          split
          · omega
          · rename_i d hd; have := hp d hd; omega
        rw [inSt, hno _ hprev]; rfl
  have := hw s.In 0 rfl (fun d hd => by cases hd)
  rw [List.drop_zero, this] at h
  exact h

theorem F88_spec {K : Nat} (hK : 1000 ≤ K) (g : GGraph) (j : GJob) (s : GState) (hl : s.In.length < 1000000) (hk : s.In.length < K) : F88 K g j s = some (stRight g j s) := by
  rw [F88, F59_spec (by omega), Option.bind_some, stRight]
  cases hc : ieq (jcheck g j) 0
  · rfl
  · rw [cond_true, F88_loop g s hl hk]
    have n1 : nlen (len s.Vals) = (s.Vals.length : Int) := rfl
    have n2 : nlen (len s.Rest) = (s.Rest.length : Int) := rfl
    rw [ilt_not' s.Step 0, ilt_not' 40 s.Step, n1, n2, sumU_elim]
    cases ile 0 s.Step <;> cases ile s.Step 40 <;> cases ieq (s.Vals.length : Int) g.N <;> cases ieq (s.Rest.length : Int) g.N <;> rfl

end Go.Proofs.Ytnjanliihnadjaa.Tm

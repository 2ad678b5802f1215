/- Check of graphs: the program's and the reference's. Conditions: none. -/
import Derived.Test.YtnjanliihnadjaaSq
import Derived.Test.YtnjanliihnadjaaFG
set_option linter.unusedVariables false
namespace Go.Proofs.Ytnjanliihnadjaa.Tm
open Go

def badE (n : Int) (e : GEdge) : Int :=
  bif ilt e.From 0 || ile n e.From || ilt e.To 0 || ile n e.To then 4 else bif ilt e.W 0 || ilt 4611686018427387904 e.W then 1 else 0
def ordE (d e : GEdge) : Int := bif ieq d.From e.From && ieq d.To e.To then 5 else bif ilt e.From d.From || (ieq d.From e.From && ilt e.To d.To) then 6 else 0

def gchk (n : Int) : Option GEdge → List GEdge → Int
  | _, [] => 0
  | prev, e :: r => bif ieq (badE n e) 0 then (match prev with
    | none => gchk n (some e) r
    | some d => bif ieq (ordE d e) 0 then gchk n (some e) r else ordE d e) else badE n e

def gcheck (g : GGraph) : Int := bif ilt g.N 1 || ilt 24 g.N then 1 else bif ilt 80 (nlen (len g.Edges)) then 3 else gchk g.N none g.Edges

def prevOf {α : Type} (l : List α) : Nat → Option α
  | 0 => none
  | i + 1 => l[i]?

theorem wsub_one {i : Nat} (h0 : 0 < i) (h : i < 4611686018427387904) : wsub .i64 (i : Int) 1 = ((i - 1 : Nat) : Int) := by
  show IntKind.i64.wrap ((i : Int) - 1) = _
  rw [IntKind.wrap_i64]; omega

theorem prev_at {α : Type} {l : List α} {i : Nat} (h0 : 0 < i) (hi : i < l.length) (hl : l.length < 4611686018427387904) :
    ∃ d, prevOf l i = some d ∧ wsub .i64 (i : Int) 1 = ((i - 1 : Nat) : Int) ∧ inr ((i - 1 : Nat) : Int) (len l) = true ∧ elAt l ((i - 1 : Nat) : Int) = some d := by
  obtain ⟨j, rfl⟩ : ∃ j, i = j + 1 := ⟨i - 1, by omega⟩
  refine ⟨l[j], by simp [prevOf], wsub_one h0 (by omega), decide_eq_true ⟨by omega, by show ((j + 1 - 1 : Nat) : Int) < (l.length : Int); omega⟩, ?_⟩
  rw [elAt_nat]
  simp

theorem prev_next {α : Type} {l : List α} {i : Nat} {x : α} {r : List α} (h : l.drop i = x :: r) : prevOf l (i + 1) = some x ∧ l.drop (i + 1) = r ∧ i < l.length := by
  have hi := lt_of_drop' h
  have := List.drop_eq_getElem_cons hi
  rw [h] at this
  injection this with a b
  exact ⟨by simp [prevOf, hi, a], b.symm, hi⟩

def sumI (v : Int) : Int ⊕ Unit := bif ieq v 0 then .inr () else .inl v

theorem F132_spec (K : Nat) (e : GEdge) (n : Int) : F132 K e n = some (badE n e) := by
  rw [F132, badE]
  cases ilt e.From 0 <;> cases ile n e.From <;> cases ilt e.To 0 <;> cases ile n e.To <;> cases ilt e.W 0 <;> cases ilt 4611686018427387904 e.W <;> rfl

theorem badE_ok {n : Int} {e : GEdge} (h : ieq (badE n e) 0 = true) : 0 ≤ e.From ∧ e.From < n ∧ 0 ≤ e.To ∧ e.To < n ∧ 0 ≤ e.W ∧ e.W ≤ 4611686018427387904 := by
  rw [badE] at h
  cases h1 : ilt e.From 0 || ile n e.From || ilt e.To 0 || ile n e.To
  · cases h2 : ilt e.W 0 || ilt 4611686018427387904 e.W
    · simp only [Bool.or_eq_false_iff, ilt_f, ile_f] at h1 h2
      omega
    · rw [h1, h2] at h; cases h
  · rw [h1] at h; cases h

theorem F133_spec (K : Nat) {n : Int} {d e : GEdge} (hn : n ≤ 24) (hd : ieq (badE n d) 0 = true) (he : ieq (badE n e) 0 = true) :
    F133 K d e = some (bif ieq d.From e.From then d.To - e.To else d.From - e.From) := by
  have h1 := badE_ok hd
  have h2 := badE_ok he
  rw [F133]
  have e1 : wsub .i64 d.To e.To = d.To - e.To := by show IntKind.i64.wrap _ = _; rw [IntKind.wrap_i64]; omega
  have e2 : wsub .i64 d.From e.From = d.From - e.From := by show IntKind.i64.wrap _ = _; rw [IntKind.wrap_i64]; omega
  rw [e1, e2]
  cases ieq d.From e.From <;> rfl

theorem F64_loop {K : Nat} (hK : 100 ≤ K) (g : GGraph) (hl : g.Edges.length ≤ 80) (hn : g.N ≤ 24) : F64_l0_0 K g K 0 = some (sumI (gchk g.N none g.Edges)) := by
  let step : Nat → GEdge → Unit → (Unit → Option (Int ⊕ Unit)) → Option (Int ⊕ Unit) := fun i x _ c =>
    (F132 K x g.N).bind fun r => bif (ieq r 0) then (bif (ieq (i : Int) 0) then c () else bif (inr (wsub .i64 (i : Int) 1) (len g.Edges)) then
        (elAt g.Edges (wsub .i64 (i : Int) 1)).bind fun d => (F133 K d x).bind fun r => bif (ieq r 0) then (some (.inl 5)) else bif (ilt 0 r) then (some (.inl 6)) else c ()
        else none) else some (.inl r)
  let fin : Unit → Option (Int ⊕ Unit) := fun _ => some (.inr ())
  have h := scanI (l := g.Edges) (L := fun k (_ : Unit) i => F64_l0_0 K g k i) step fin (fun k st i hi => rfl) (by omega) K () 0 (by omega) (by omega)
  have hw : ∀ (r : List GEdge) (i : Nat), g.Edges.drop i = r → (∀ d, prevOf g.Edges i = some d → ieq (badE g.N d) 0 = true) → (i = 0 ∨ i ≤ g.Edges.length) → goI step fin i r () = some (sumI (gchk g.N (prevOf g.Edges i) r)) := by
    intro r
    induction r with
    | nil => intro i _ _ _; rfl
    | cons x r ih =>
      intro i hr hp _
      obtain ⟨n1, n2, hi⟩ := prev_next hr
      rw [goI]
      show ((F132 K x g.N).bind fun r' => bif (ieq r' 0) then (bif (ieq (i : Int) 0) then goI step fin (i + 1) r () else bif (inr (wsub .i64 (i : Int) 1) (len g.Edges)) then
        (elAt g.Edges (wsub .i64 (i : Int) 1)).bind fun d => (F133 K d x).bind fun r' => bif (ieq r' 0) then (some (.inl 5)) else bif (ilt 0 r') then (some (.inl 6)) else goI step fin (i + 1) r ()
        else none) else some (.inl r')) = _
      rw [F132_spec, Option.bind_some]
      cases hb : ieq (badE g.N x) 0
      · have hne : badE g.N x ≠ 0 := ieq_f.1 hb
        cases prevOf g.Edges i <;> simp only [gchk, hb, cond_false, sumI]
      · have nx : goI step fin (i + 1) r () = some (sumI (gchk g.N (some x) r)) := by
          have := ih (i + 1) n2 (fun d hd => by rw [n1] at hd; cases hd; exact hb) (.inr (by omega))
          rw [n1] at this; exact this
        rw [cond_true, nx]
        cases i with
        | zero =>
          have : ieq ((0 : Nat) : Int) 0 = true := rfl
          rw [this, cond_true]
          show _ = some (sumI (gchk g.N none (x :: r)))
          rw [gchk, hb]; rfl
        | succ j =>
          obtain ⟨d, p1, p2, p3, p4⟩ := prev_at (l := g.Edges) (i := j + 1) (by omega) hi (by omega)
          have hd := hp d p1
          have : ieq ((j + 1 : Nat) : Int) 0 = false := ieq_f.2 (by omega)
          rw [this, cond_false, p2, p3, cond_true, p4, Option.bind_some, F133_spec K hn hd hb, Option.bind_some, p1, gchk, hb, cond_true]
          have b1 := badE_ok hd
          have b2 := badE_ok hb
          by_cases q1 : d.From = x.From
          · have i1 : ieq d.From x.From = true := ieq_iff.2 q1
            rw [i1, cond_true]
            by_cases q2 : d.To = x.To
            · have o5 : ordE d x = 5 := by simp [ordE, ieq_iff.2 q1, ieq_iff.2 q2]
              have : ieq (d.To - x.To) 0 = true := ieq_iff.2 (by omega)
              rw [this, cond_true, o5]; rfl
            · have : ieq (d.To - x.To) 0 = false := ieq_f.2 (by omega)
              rw [this, cond_false]
              have j2 : ieq d.To x.To = false := ieq_f.2 q2
              by_cases q3 : x.To < d.To
              · have o6 : ordE d x = 6 := by simp [ordE, i1, j2, ilt_iff.2 q3]
                have : ilt 0 (d.To - x.To) = true := ilt_iff.2 (by omega)
                rw [this, cond_true, o6]; rfl
              · have o0 : ordE d x = 0 := by simp [ordE, i1, j2, ilt_f.2 (show d.To ≤ x.To by omega), ilt_f.2 (show d.From ≤ x.From by omega)]
                have : ilt 0 (d.To - x.To) = false := ilt_f.2 (by omega)
                rw [this, cond_false, o0]; rfl
          · have i1 : ieq d.From x.From = false := ieq_f.2 q1
            rw [i1, cond_false]
            have : ieq (d.From - x.From) 0 = false := ieq_f.2 (by omega)
            rw [this, cond_false]
            by_cases q3 : x.From < d.From
            · have o6 : ordE d x = 6 := by simp [ordE, i1, ilt_iff.2 q3]
              have : ilt 0 (d.From - x.From) = true := ilt_iff.2 (by omega)
              rw [this, cond_true, o6]; rfl
            · have o0 : ordE d x = 0 := by simp [ordE, i1, ilt_f.2 (show d.From ≤ x.From by omega)]
              have : ilt 0 (d.From - x.From) = false := ilt_f.2 (by omega)
              rw [this, cond_false, o0]; rfl
  have := hw g.Edges 0 rfl (fun d hd => by cases hd) (.inl rfl)
  rw [List.drop_zero, this] at h
  exact h

theorem sumI_elim (v : Int) : (some (sumI v)).bind (fun y => Sum.elim (fun w => some w) (fun w => some 0) y) = some v := by
  unfold sumI
  cases h : ieq v 0
  · rfl
  · have : v = 0 := ieq_iff.1 h
    subst this; rfl

theorem F64_spec {K : Nat} (hK : 100 ≤ K) (g : GGraph) : F64 K g = some (gcheck g) := by
  rw [F64, gcheck]
  cases ilt g.N 1
  · cases h2 : ilt 24 g.N
    · cases h3 : ilt 80 (nlen (len g.Edges))
      · have hl : g.Edges.length ≤ 80 := by have := ilt_f.1 h3; simp only [nlen, len] at this; omega
        have hn := ilt_f.1 h2
        rw [F64_loop hK g hl hn]
        exact sumI_elim _
      · rfl
    · rfl
  · rfl

theorem F65_loop {K : Nat} (hK : 100 ≤ K) (g : GGraph) (hl : g.Edges.length ≤ 80) : F65_l0_0 K g K 0 = some (sumI (gchk g.N none g.Edges)) := by
  let chk : Nat → GEdge → Option (Int ⊕ Unit) → Option (Int ⊕ Unit) := fun i x c =>
      bif (ilt 0 (i : Int)) then
        (bif (inr (wsub .i64 (i : Int) 1) (len g.Edges)) then
        (elAt g.Edges (wsub .i64 (i : Int) 1)).bind fun d =>
        bif (ieq d.From x.From) then
          (bif (ieq d.To x.To) then (some (.inl 5)) else bif (ilt x.From d.From) then (some (.inl 6)) else bif (ilt x.To d.To) then (some (.inl 6)) else c)
        else bif (ilt x.From d.From) then (some (.inl 6)) else c
        else none)
      else c
  let step : Nat → GEdge → Unit → (Unit → Option (Int ⊕ Unit)) → Option (Int ⊕ Unit) := fun i x _ c =>
      bif (ilt x.From 0) then (some (.inl 4)) else bif (ilt x.To 0) then (some (.inl 4)) else bif (ile g.N x.From) then (some (.inl 4)) else bif (ile g.N x.To) then (some (.inl 4)) else
      bif (ilt x.W 0) then (some (.inl 1)) else bif (ilt 4611686018427387904 x.W) then (some (.inl 1)) else chk i x (c ())
  let fin : Unit → Option (Int ⊕ Unit) := fun _ => some (.inr ())
  have h := scanI (l := g.Edges) (L := fun k (_ : Unit) i => F65_l0_0 K g k i) step fin (fun k st i hi => rfl) (by omega) K () 0 (by omega) (by omega)
  have hstep : ∀ i x c, step i x () c = bif ieq (badE g.N x) 0 then chk i x (c ()) else some (.inl (badE g.N x)) := by
    intro i x c
    show (bif (ilt x.From 0) then (some (.inl 4)) else bif (ilt x.To 0) then (some (.inl 4)) else bif (ile g.N x.From) then (some (.inl 4)) else bif (ile g.N x.To) then (some (.inl 4)) else
      bif (ilt x.W 0) then (some (.inl 1)) else bif (ilt 4611686018427387904 x.W) then (some (.inl 1)) else chk i x (c ())) = _
    rw [badE]
    cases ilt x.From 0 <;> cases ile g.N x.From <;> cases ilt x.To 0 <;> cases ile g.N x.To <;> cases ilt x.W 0 <;> cases ilt 4611686018427387904 x.W <;> rfl
  have hw : ∀ (r : List GEdge) (i : Nat), g.Edges.drop i = r → goI step fin i r () = some (sumI (gchk g.N (prevOf g.Edges i) r)) := by
    intro r
    induction r with
    | nil => intro i _; rfl
    | cons x r ih =>
      intro i hr
      obtain ⟨n1, n2, hi⟩ := prev_next hr
      rw [goI, hstep]
      cases hb : ieq (badE g.N x) 0
      · have hne : badE g.N x ≠ 0 := ieq_f.1 hb
        cases prevOf g.Edges i <;> simp only [gchk, hb, cond_false, sumI]
      · have nx := ih (i + 1) n2
        rw [n1] at nx
        rw [cond_true, nx]
        cases i with
        | zero =>
          show some (sumI (gchk g.N (some x) r)) = some (sumI (gchk g.N none (x :: r)))
          rw [gchk, hb]; rfl
        | succ j =>
          obtain ⟨d, p1, p2, p3, p4⟩ := prev_at (l := g.Edges) (i := j + 1) (by omega) hi (by omega)
          have : ilt 0 ((j + 1 : Nat) : Int) = true := ilt_iff.2 (by omega)
          show (bif (ilt 0 ((j + 1 : Nat) : Int)) then
            (bif (inr (wsub .i64 ((j + 1 : Nat) : Int) 1) (len g.Edges)) then
            (elAt g.Edges (wsub .i64 ((j + 1 : Nat) : Int) 1)).bind fun d =>
            bif (ieq d.From x.From) then
              (bif (ieq d.To x.To) then (some (.inl 5)) else bif (ilt x.From d.From) then (some (.inl 6)) else bif (ilt x.To d.To) then (some (.inl 6)) else some (sumI (gchk g.N (some x) r)))
            else bif (ilt x.From d.From) then (some (.inl 6)) else some (sumI (gchk g.N (some x) r))
            else none)
          else some (sumI (gchk g.N (some x) r))) = _
          rw [this, cond_true, p2, p3, cond_true, p4, Option.bind_some, p1, gchk, hb, cond_true, ordE]
          cases hf : ieq d.From x.From
          · cases ilt x.From d.From <;> rfl
          · have : ilt x.From d.From = false := ilt_f.2 (by have := ieq_iff.1 hf; omega)
            rw [this]
            cases ieq d.To x.To <;> cases ilt x.To d.To <;> rfl
  have := hw g.Edges 0 rfl
  rw [List.drop_zero, this] at h
  exact h

theorem F65_spec {K : Nat} (hK : 100 ≤ K) (g : GGraph) : F65 K g = some (gcheck g) := by
  rw [F65, gcheck]
  cases ilt g.N 1
  · cases h2 : ilt 24 g.N
    · cases h3 : ilt 80 (nlen (len g.Edges))
      · have hl : g.Edges.length ≤ 80 := by have := ilt_f.1 h3; simp only [nlen, len] at this; omega
        rw [F65_loop hK g hl]
        exact sumI_elim _
      · rfl
    · rfl
  · rfl

/-- What a graph that is right is. -/
theorem gcheck_ok {g : GGraph} (h : ieq (gcheck g) 0 = true) : 1 ≤ g.N ∧ g.N ≤ 24 ∧ g.Edges.length ≤ 80 ∧ gchk g.N none g.Edges = 0 := by
  rw [gcheck] at h
  cases h1 : ilt g.N 1 || ilt 24 g.N
  · rw [h1, cond_false] at h
    cases h2 : ilt 80 (nlen (len g.Edges))
    · rw [h2, cond_false] at h
      simp only [Bool.or_eq_false_iff, ilt_f] at h1
      have := ilt_f.1 h2
      simp only [nlen, len] at this
      exact ⟨by omega, by omega, by omega, ieq_iff.1 h⟩
    · rw [h2] at h; cases h
  · rw [h1] at h; cases h

theorem gchk_mem {n : Int} : ∀ {l : List GEdge} {p : Option GEdge}, gchk n p l = 0 → ∀ e ∈ l, ieq (badE n e) 0 = true
  | [], _, _, e, h => by cases h
  | x :: l, p, h, e, he => by
    unfold gchk at h
    cases hb : ieq (badE n x) 0
    · rw [hb, cond_false] at h; rw [h] at hb; cases hb
    · rw [hb, cond_true] at h
      rcases List.mem_cons.1 he with q | q
      · subst q; exact hb
      · cases p with
        | none => exact gchk_mem h e q
        | some d =>
          dsimp only at h
          cases ho : ieq (ordE d x) 0
          · rw [ho, cond_false] at h; rw [h] at ho; cases ho
          · rw [ho, cond_true] at h; exact gchk_mem h e q
end Go.Proofs.Ytnjanliihnadjaa.Tm

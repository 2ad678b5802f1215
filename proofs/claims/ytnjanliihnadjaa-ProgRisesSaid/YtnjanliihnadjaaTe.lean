/- The plain law of ProgRises. Conditions: none. -/
import Derived.Test.YtnjanliihnadjaaTc
import Derived.Test.YtnjanliihnadjaaFL26
import Derived.Test.YtnjanliihnadjaaWf
set_option linter.unusedVariables false
set_option linter.unusedSimpArgs false
namespace Go.Proofs.Ytnjanliihnadjaa.Tm
open Go

theorem F26_loop {K : Nat} (l : List GMsg) (o : List GEdge) (hm : l = [] ∨ l.map (·.To) = o.map (·.To)) (hl : l.length ≤ 80) (hK : l.length < K) : F26_l0_0 K l o K 0 = some (.inr ()) := by
  let step : Nat → GMsg → Unit → (Unit → Option (Unit ⊕ Unit)) → Option (Unit ⊕ Unit) := fun i x _ c =>
    bif (inr (i : Int) (len o)) then
      (elAt o (i : Int)).bind fun y => bif (ieq x.To y.To) then c () else some (.inl ())
      else none
  have h := scanI (l := l) (L := fun k (_ : Unit) i => F26_l0_0 K l o k i) step (fun _ => some (.inr ())) (fun k st i hi => rfl) (by omega) K () 0 (by omega) (by omega)
  have hw : ∀ (r : List GMsg) (i : Nat), l.drop i = r → goI step (fun _ => some (.inr ())) i r () = some (.inr ()) := by
    intro r
    induction r with
    | nil => intro i _; rfl
    | cons x r ih =>
      intro i hr
      obtain ⟨n1', n2, hi⟩ := prev_next hr
      have n1 : l[i]? = some x := n1'
      have ho : ∃ y, o[i]? = some y ∧ y.To = x.To := by
        rcases hm with hm | hm
        · rw [hm] at n1; simp at n1
        · have h1 : (l.map (·.To))[i]? = some x.To := by rw [List.getElem?_map, n1]; rfl
          rw [hm, List.getElem?_map] at h1
          cases ho : o[i]? with
          | none => rw [ho] at h1; cases h1
          | some y => rw [ho] at h1; injection h1 with h1; exact ⟨y, rfl, h1⟩
      obtain ⟨y, hy, he⟩ := ho
      have hio : i < o.length := by
        rcases Nat.lt_or_ge i o.length with q | q
        · exact q
        · rw [List.getElem?_eq_none q] at hy; cases hy
      have e1 : inr (i : Int) (len o) = true := decide_eq_true ⟨by omega, by show (i : Int) < (o.length : Int); omega⟩
      have e2 : elAt o (i : Int) = some y := by rw [elAt_nat]; exact hy
      rw [goI]
      show (bif (inr (i : Int) (len o)) then
        (elAt o (i : Int)).bind fun y => bif (ieq x.To y.To) then goI step (fun _ => some (.inr ())) (i + 1) r () else some (.inl ())
        else none) = _
      rw [e1, e2, cond_true, Option.bind_some, ieq_iff.2 he.symm, cond_true]
      exact ih (i + 1) n2
  have := hw l 0 rfl
  rw [List.drop_zero, this] at h
  exact h

theorem law26 (g : GGraph) (j : GJob) (a : GAsked) (_ : WGGraph g) (_ : WGJob j) (ha : WGAsked a) : F26 1000 g j a = some true := by
  generalize hq : 1000 = K
  have hK : 1000 ≤ K := by omega
  have hl := turn_len (g := g) (j := j) (step := a.Step) (v := a.V) (val := a.Val) (got := a.Got) (sm := a.Some)
  rw [F26, F92, F99_spec (by omega) g j a.Step a.V a.Some (asked_wf ha).1 (asked_wf ha).2, F69_spec (by omega), Option.bind_some]
  cases igt (nlen (len g.Edges)) 200
  · rw [cond_false, Option.bind_some]
    cases he : ieq (turnS g j a.Step a.V a.Val a.Got a.Some).2.2.2 0
    · obtain ⟨b1, b2⟩ := turn_bad he
      rw [b1, b2]; rfl
    · have ho := turn_out he
      have hg := fun h5 => (turn_good (g := g) (j := j) (step := a.Step) (v := a.V) (val := a.Val) (got := a.Got) (sm := a.Some) he h5).1
      have hjc := fun h5 => (turn_good (g := g) (j := j) (step := a.Step) (v := a.V) (val := a.Val) (got := a.Got) (sm := a.Some) he h5).2
      generalize ht : turnS g j a.Step a.V a.Val a.Got a.Some = t at *
      have lp : F26_l0_0 K t.2.1 (outs g a.V) K 0 = some (.inr ()) := F26_loop _ _ ho hl (by omega)
      have ll : ieq (nlen (len t.2.1)) 0 = false → ieq (nlen (len t.2.1)) (nlen (len (outs g a.V))) = true := fun hz => by
        rcases ho with hz' | hz'
        · rw [hz'] at hz; cases hz
        · have := congrArg List.length hz'
          simp only [List.length_map] at this
          refine ieq_iff.2 ?_
          show (t.2.1.length : Int) = ((outs g a.V).length : Int)
          omega
      simp only [cond_true, Option.bind_some, lp, Sum.elim_inr]
      have tail : (bif ieq (nlen (len t.2.1)) 0 then some true else bif ieq (nlen (len t.2.1)) (nlen (len (outs g a.V))) then some true else some false) = some true := by
        cases hz : ieq (nlen (len t.2.1)) 0
        · rw [ll hz]; rfl
        · rfl
      rw [tail]
      cases h4 : ieq j.Prog 4
      · cases h5 : ilt j.Prog 4
        · rfl
        · have h5' := ilt_iff.1 h5
          have h4' := ieq_f.1 h4
          have hp5 : ieq j.Prog 5 = false := ieq_f.2 (by omega)
          have hlt : ilt a.Val t.1 = false := by
            obtain ⟨_, p1, p2, _⟩ := jcheck_ok (hjc hp5)
            rw [hg hp5, turnV, foldS, h4, hp5, pbad, ilt_f.2 p1, ilt_f.2 p2]
            cases a.Some
            · exact ilt_f.2 (Int.le_refl _)
            · simp only [Bool.or_false, cond_true, cond_false]
              cases hb : ilt a.Got a.Val
              · exact ilt_f.2 (Int.le_refl _)
              · have := ilt_iff.1 hb
                exact ilt_f.2 (by simp only [cond_true]; omega)
          rw [hlt]; rfl
      · have h4' := ieq_iff.1 h4
        have hp5 : ieq j.Prog 5 = false := ieq_f.2 (by omega)
        have hlt : ilt t.1 a.Val = false := by
          rw [hg hp5, turnV, foldS, h4, hp5, h4']
          cases a.Some
          · exact ilt_f.2 (Int.le_refl _)
          · have eb : pbad 4 = false := rfl
            simp only [eb, cond_true, cond_false]
            cases hb : ilt a.Val a.Got
            · exact ilt_f.2 (Int.le_refl _)
            · have := ilt_iff.1 hb
              exact ilt_f.2 (by simp only [cond_true]; omega)
        have hp4 : ilt j.Prog 4 = false := ilt_f.2 (by omega)
        rw [hlt, hp4]; rfl
  · rfl


end Go.Proofs.Ytnjanliihnadjaa.Tm

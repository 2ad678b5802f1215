/- Turn in the reference; what an answer of Turn has. Conditions: none. -/
import Derived.Test.YtnjanliihnadjaaTb
import Derived.Test.YtnjanliihnadjaaWf
set_option linter.unusedVariables false
set_option linter.unusedSimpArgs false
namespace Go.Proofs.Ytnjanliihnadjaa.Tm
open Go

def turned (t : Int × List GMsg × Bool × Int) : GTurned := GTurned.mk t.1 t.2.1 t.2.2.1 t.2.2.2
theorem tsum (rest : Bool) (val : Int) (o : Option (List GMsg)) : Sum.elim (fun w => some (GTurned.mk 0 [] false 8)) (fun w => some (GTurned.mk val w rest 0)) (sumO o) = some (turned (sendO rest val o)) := by
  cases o <;> rfl
theorem tcond (rest : Bool) (val : Int) (m : Bool) (x y : Unit ⊕ List GMsg) : Sum.elim (fun w => some (GTurned.mk 0 [] false 8)) (fun w => some (GTurned.mk val w rest 0)) (bif m then x else y) = bif m then Sum.elim (fun w => some (GTurned.mk 0 [] false 8)) (fun w => some (GTurned.mk val w rest 0)) x else Sum.elim (fun w => some (GTurned.mk 0 [] false 8)) (fun w => some (GTurned.mk val w rest 0)) y := by
  cases m <;> rfl

theorem F100_spec {K : Nat} (hK : 100 ≤ K) (g : GGraph) (j : GJob) (step v : Int) {val got : Int} (sm : Bool) (hv : i64 val) (hg : i64 got) : F100 K g j step v val got sm = some (turned (turnS g j step v val got sm)) := by
  rw [F100, F59_spec hK, Option.bind_some, turnS]
  cases hc : ieq (jcheck g j) 0
  · rfl
  · obtain ⟨hgc, p1, p2, p3, p4, p5, p6, p7, p8⟩ := jcheck_ok hc
    rw [cond_true, cond_true]
    cases h1 : ilt v 0
    · cases h2 : ile g.N v
      · cases h3 : ilt step 0
        · cases h4 : ilt 40 step
          · have i0 : i64 0 := by unfold i64; omega
            have hf : i64 (foldS j.Prog val got).1 := foldS_i64 hv hg
            have fl : ine val val = false := ine_t (ieq_refl val)
            simp only [cond_false, F69_spec hK, Option.bind_some, F147_spec K hg, F147_spec K i0, F98_spec K j.Prog hv hg]
            cases q5 : ieq j.Prog 5
            · simp only [cond_false, loop100_1 hK g v hv, loop100_1 hK g v hf, loop100_2 hK g v hv, loop100_2 hK g v hf, loop100_3 hK g v, Option.bind_some, tsum, Sum.elim_inl, tcond, Sum.elim_inr, moveS, turnM, turnV]
              cases sm
              · simp only [cond_false, fl]
                cases ieq j.Prog 1 <;> cases ieq j.Prog 3 <;> cases ieq v j.Source <;> cases ieq step 0 <;> rfl
              · simp only [cond_true]
                cases ieq j.Prog 1 <;> cases ieq j.Prog 3 <;> cases ieq v j.Source <;> cases ieq step 0 <;> simp only [cond_true, cond_false, Bool.and_true, Bool.and_false, Bool.true_and, Bool.false_and, Bool.or_true, Bool.or_false] <;> first | rfl | (cases ine (foldS j.Prog val got).1 val <;> rfl)
            · have q := ieq_iff.1 q5
              rw [q]
              simp only [cond_true, loop100_0 hK g v hv, loop100_0 hK g v sumS_i64, Option.bind_some, tsum, Sum.elim_inl, tcond, Sum.elim_inr, rankS, rankW]
              have hm : ilt step 10 = !(ile 10 step) := by
                cases h : ile 10 step
                · have := ile_f.1 h; exact ilt_iff.2 (by omega)
                · have := ile_iff.1 h; exact ilt_f.2 (by omega)
              simp only [hm]
              cases sm <;> cases ilt 0 step <;> cases ile 10 step <;> simp only [cond_true, cond_false, Bool.not_true, Bool.not_false] <;> first | rfl | (cases (sumS got).2 <;> rfl) | (cases (sumS 0).2 <;> rfl)
          · rfl
        · rfl
      · rfl
    · rfl

theorem asked_wf {a : GAsked} (h : WGAsked a) : i64 a.Val ∧ i64 a.Got := ⟨i64_wf h.2.2.1, i64_wf h.2.2.2.1⟩

theorem sendA_To {p val many : Int} : ∀ {l : List GEdge} {s r : List GMsg}, sendA p val many l s = some r → r.map (·.To) = s.map (·.To) ++ l.map (·.To)
  | [], s, r, h => by injection h with h; subst h; simp
  | e :: l, s, r, h => by
    rw [sendA] at h
    cases hq : (sendS p val e many).2
    · rw [hq] at h; cases h
    · rw [hq, cond_true] at h
      rw [sendA_To h]; simp

theorem turn_out {g : GGraph} {j : GJob} {step v val got : Int} {sm : Bool} (h : ieq (turnS g j step v val got sm).2.2.2 0 = true) :
    (turnS g j step v val got sm).2.1 = [] ∨ ((turnS g j step v val got sm).2.1.map (·.To) = (outs g v).map (·.To)) := by
  have hs : ∀ (b : Bool) (w : Int) (p : Int), (sendO b w (sendA p w (manyO g v) (outs g v) [])).2.1 = [] ∨ (sendO b w (sendA p w (manyO g v) (outs g v) [])).2.1.map (·.To) = (outs g v).map (·.To) := fun b w p => by
    cases hq : sendA p w (manyO g v) (outs g v) []
    · left; rfl
    · right; have := sendA_To hq; simpa [sendO] using this
  rw [turnS]
  cases ieq (jcheck g j) 0
  · left; rfl
  · cases ilt v 0
    · cases ile g.N v
      · cases ilt step 0
        · cases ilt 40 step
          · simp only [cond_true, cond_false]
            cases ieq j.Prog 5
            · rw [cond_false, moveS]
              cases turnM j.Prog j.Source step v val (turnV j.Prog val got sm)
              · left; rfl
              · exact hs _ _ _
            · rw [cond_true, rankS]
              cases (rankW step val got sm).2
              · left; rfl
              · cases ile 10 step
                · exact hs _ _ _
                · left; rfl
          · left; rfl
        · left; rfl
      · left; rfl
    · left; rfl

theorem turn_bad {g : GGraph} {j : GJob} {step v val got : Int} {sm : Bool} (h : ieq (turnS g j step v val got sm).2.2.2 0 = false) : (turnS g j step v val got sm).1 = 0 ∧ (turnS g j step v val got sm).2.1 = [] := by
  have hs : ∀ (b : Bool) (w : Int) (o : Option (List GMsg)), ieq (sendO b w o).2.2.2 0 = false → (sendO b w o).1 = 0 ∧ (sendO b w o).2.1 = [] := fun b w o => by
    cases o
    · intro _; exact ⟨rfl, rfl⟩
    · intro h; cases h
  rw [turnS] at h ⊢
  cases hc : ieq (jcheck g j) 0
  · exact ⟨rfl, rfl⟩
  · rw [hc] at h
    cases h1 : ilt v 0
    · cases h2 : ile g.N v
      · cases h3 : ilt step 0
        · cases h4 : ilt 40 step
          · rw [h1, h2, h3, h4] at h
            simp only [cond_true, cond_false] at h ⊢
            cases h5 : ieq j.Prog 5
            · rw [h5, cond_false, moveS] at h
              rw [cond_false, moveS]
              cases hm : turnM j.Prog j.Source step v val (turnV j.Prog val got sm)
              · rw [hm] at h; cases h
              · rw [hm] at h; exact hs _ _ _ h
            · rw [h5, cond_true, rankS] at h
              rw [cond_true, rankS]
              cases hw : (rankW step val got sm).2
              · exact ⟨rfl, rfl⟩
              · rw [hw] at h
                cases h10 : ile 10 step
                · rw [h10] at h; exact hs _ _ _ h
                · rw [h10] at h; cases h
          · exact ⟨rfl, rfl⟩
        · exact ⟨rfl, rfl⟩
      · exact ⟨rfl, rfl⟩
    · exact ⟨rfl, rfl⟩

theorem turn_good {g : GGraph} {j : GJob} {step v val got : Int} {sm : Bool} (h : ieq (turnS g j step v val got sm).2.2.2 0 = true) (hp : ieq j.Prog 5 = false) : (turnS g j step v val got sm).1 = turnV j.Prog val got sm ∧ ieq (jcheck g j) 0 = true := by
  have hs : ∀ (b : Bool) (w : Int) (o : Option (List GMsg)), ieq (sendO b w o).2.2.2 0 = true → (sendO b w o).1 = w := fun b w o => by
    cases o
    · intro h; cases h
    · intro _; rfl
  rw [turnS] at h ⊢
  cases hc : ieq (jcheck g j) 0
  · rw [hc, cond_false] at h
    have h' : ieq (jcheck g j) 0 = true := h
    rw [hc] at h'; cases h'
  · refine ⟨?_, rfl⟩
    rw [hc] at h
    cases h1 : ilt v 0
    · cases h2 : ile g.N v
      · cases h3 : ilt step 0
        · cases h4 : ilt 40 step
          · rw [h1, h2, h3, h4, hp] at h
            simp only [hp, cond_true, cond_false] at h ⊢
            rw [moveS] at h ⊢
            cases hm : turnM j.Prog j.Source step v val (turnV j.Prog val got sm)
            · rfl
            · rw [hm] at h; exact hs _ _ _ h
          · rw [h1, h2, h3, h4] at h; cases h
        · rw [h1, h2, h3] at h; cases h
      · rw [h1, h2] at h; cases h
    · rw [h1] at h; cases h

theorem turn_len {g : GGraph} {j : GJob} {step v val got : Int} {sm : Bool} : (turnS g j step v val got sm).2.1.length ≤ 80 := by
  have ho := outs_len (g := g) (v := v)
  cases h : ieq (turnS g j step v val got sm).2.2.2 0
  · rw [(turn_bad h).2]; simp
  · rcases turn_out h with hz | hz
    · rw [hz]; simp
    · have := congrArg List.length hz
      simp only [List.length_map] at this
      omega


end Go.Proofs.Ytnjanliihnadjaa.Tm

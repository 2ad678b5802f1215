/- The plain law of ProgRests. Conditions: none. -/
import Derived.Test.YtnjanliihnadjaaTc
import Derived.Test.YtnjanliihnadjaaFL27
import Derived.Test.YtnjanliihnadjaaWf
set_option linter.unusedVariables false
set_option linter.unusedSimpArgs false
namespace Go.Proofs.Ytnjanliihnadjaa.Tm
open Go

theorem law27 (g : GGraph) (j : GJob) (step v val : Int) (_ : WGGraph g) (_ : WGJob j) (_ : (Lit.int .i64 step).wf = true) (_ : (Lit.int .i64 v).wf = true) (hv : (Lit.int .i64 val).wf = true) : F27 1000 g j step v val = some true := by
  generalize hq : 1000 = K
  have hK : 1000 ≤ K := by omega
  rw [F27, F92, F59_spec (by omega), Option.bind_some]
  cases igt (nlen (len g.Edges)) 200
  · rw [cond_false]
    cases h5 : ieq j.Prog 5
    · rw [cond_false]
      cases hs : ilt step 1
      · cases hs2 : ilt 40 step
        · rw [cond_false, cond_false, F99_spec (by omega) g j step v false (i64_wf hv) (by unfold i64; omega), Option.bind_some, Option.bind_some, turnS]
          have hs0 : ilt step 0 = false := ilt_f.2 (by have := ilt_f.1 hs; omega)
          cases hc : ieq (jcheck g j) 0
          · simp only [cond_false, hc]
          · have hs3 : ieq step 0 = false := ieq_f.2 (by have := ilt_f.1 hs; omega)
            have fl : ine val val = false := ine_t (ieq_refl val)
            rw [h5, hs0, hs2, moveS, turnM, turnV, hs3]
            simp only [cond_false, cond_true, Bool.false_and, fl]
            cases h1 : ilt v 0
            · cases h2 : ile g.N v
              · simp only [cond_false, ieq_refl, cond_true]; rfl
              · rfl
            · rfl
        · rfl
      · rfl
    · rfl
  · rfl

end Go.Proofs.Ytnjanliihnadjaa.Tm

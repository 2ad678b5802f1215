/- The plain law of GraphPrints. Conditions: none. -/
import Derived.Test.YtnjanliihnadjaaGc
import Derived.Test.YtnjanliihnadjaaFL10
set_option linter.unusedVariables false
namespace Go.Proofs.Ytnjanliihnadjaa.Tm
open Go

theorem law10 (g : GGraph) (_ : WGGraph g) : F10 1000 g = some true := by
  have hK : 100 ≤ 1000 := by omega
  generalize 1000 = K at hK
  rw [F10, F62, F66_spec hK, F65_spec hK, Option.bind_some]
  cases igt (nlen (len g.Edges)) 200
  · rw [cond_false]
    cases hc : ieq (gcheck g) 0
    · have : seqs (tx []) (bs []) = true := seqs_refl _
      simp only [Option.bind_some, hc, cond_false, this, cond_true, ieq_refl]
    · simp only [Option.bind_some, hc, cond_true, F67_spec hK g hc, seqs_refl]
      have : ieq 0 0 = true := rfl
      rw [this]; rfl
  · rfl
end Go.Proofs.Ytnjanliihnadjaa.Tm

/- The plain law of ProgTurns. Conditions: none. -/
import Derived.Test.YtnjanliihnadjaaTc
import Derived.Test.YtnjanliihnadjaaSm
import Derived.Test.YtnjanliihnadjaaFL25
import Derived.Test.YtnjanliihnadjaaWf
set_option linter.unusedVariables false
set_option linter.unusedSimpArgs false
namespace Go.Proofs.Ytnjanliihnadjaa.Tm
open Go

theorem law25 (g : GGraph) (j : GJob) (a : GAsked) (_ : WGGraph g) (_ : WGJob j) (ha : WGAsked a) : F25 1000 g j a = some true := by
  generalize hq : 1000 = K
  have hK : 1000 ≤ K := by omega
  have hl := turn_len (g := g) (j := j) (step := a.Step) (v := a.V) (val := a.Val) (got := a.Got) (sm := a.Some)
  rw [F25, F92, F99_spec (by omega) g j a.Step a.V a.Some (asked_wf ha).1 (asked_wf ha).2, F100_spec (by omega) g j a.Step a.V a.Some (asked_wf ha).1 (asked_wf ha).2, Option.bind_some]
  cases igt (nlen (len g.Edges)) 200
  · simp only [cond_false, Option.bind_some, turned, ieq_refl, cond_true, beqb_refl, same89 (K := K) _ (show (turnS g j a.Step a.V a.Val a.Got a.Some).2.1.length < 1000000 by omega) (show _ < K by omega)]
  · rfl


end Go.Proofs.Ytnjanliihnadjaa.Tm

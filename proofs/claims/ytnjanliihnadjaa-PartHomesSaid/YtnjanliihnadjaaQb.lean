/- The plain laws of PartHomes. Conditions: none. -/
import Derived.Test.YtnjanliihnadjaaQa
import Derived.Test.YtnjanliihnadjaaFL15
import Derived.Test.YtnjanliihnadjaaWf
import Derived.OpenShut
set_option linter.unusedVariables false
namespace Go.Proofs.Ytnjanliihnadjaa.Tm
open Go

theorem law15 (g : GGraph) (j : GJob) (v p : Int) (_ : WGGraph g) (_ : WGJob j) (hv : (Lit.int .i64 v).wf = true) (hp : (Lit.int .i64 p).wf = true) : F15 1000 g j v p = some true := by
  have hK : 100 ≤ 1000 := by omega
  generalize 1000 = K at hK
  have v1 := bounds_i64 hv
  have p1 := bounds_i64 hp
  rw [F15, F73, F75_spec, F76_spec K j v1, F77_spec hK g j p p1, F78_spec hK]
  cases igt (nlen (len g.Edges)) 200 <;> simp only [Option.bind_some, cond_true, cond_false, ieq_refl]
end Go.Proofs.Ytnjanliihnadjaa.Tm

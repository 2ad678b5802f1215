/- The plain laws of PartRights and SeqRights. Conditions: none. -/
import Derived.Test.YtnjanliihnadjaaQc
import Derived.Test.YtnjanliihnadjaaFL16
import Derived.Test.YtnjanliihnadjaaWf
import Derived.OpenShut
set_option linter.unusedVariables false
namespace Go.Proofs.Ytnjanliihnadjaa.Tm
open Go

def broadP (x : GPart) : Bool := ilt 100 (nlen (len x.Vals)) || (ilt 100 (nlen (len x.Rest)) || ilt 300 (nlen (len x.In)))
theorem F79_spec (K : Nat) (x : GPart) : F79 K x = some (broadP x) := by
  have : igt (nlen (len x.In)) 300 = ilt 300 (nlen (len x.In)) := rfl
  rw [F79, this, broadP]
  cases ilt 100 (nlen (len x.Vals)) <;> cases ilt 100 (nlen (len x.Rest)) <;> rfl
theorem broadP_f {x : GPart} (h : broadP x = false) : x.Vals.length ≤ 100 ∧ x.Rest.length ≤ 100 ∧ x.In.length ≤ 300 := by
  simp only [broadP, Bool.or_eq_false_iff, ilt_f, nlen, len] at h
  omega

theorem law16 (g : GGraph) (j : GJob) (x : GPart) (_ : WGGraph g) (_ : WGJob j) (hx : WGPart x) : F16 1000 g j x = some true := by
  generalize hq : 1000 = K
  have hK : 1000 ≤ K := by omega
  have p1 := bounds_i64 hx.1
  rw [F16, F73, F79_spec, Option.bind_some]
  cases igt (nlen (len g.Edges)) 200
  · rw [cond_false, Option.bind_some]
    cases hb : broadP x
    · obtain ⟨b1, b2, b3⟩ := broadP_f hb
      rw [cond_false, F80_spec hK g j x (by omega) (by omega) p1, F81_spec hK g j x (by omega) (by omega)]
      simp only [Option.bind_some, beqb_refl, cond_true]
    · rfl
  · rfl
end Go.Proofs.Ytnjanliihnadjaa.Tm

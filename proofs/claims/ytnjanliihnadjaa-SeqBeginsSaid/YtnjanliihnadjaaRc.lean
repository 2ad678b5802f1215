/- The plain law of PartSplits. Conditions: none. -/
import Derived.Test.YtnjanliihnadjaaRb
import Derived.Test.YtnjanliihnadjaaFL17
import Derived.Test.YtnjanliihnadjaaWf
set_option linter.unusedVariables false
namespace Go.Proofs.Ytnjanliihnadjaa.Tm
open Go

def wideS7 (s : GState) : Bool := ilt 100 (nlen (len s.Vals)) || (ilt 100 (nlen (len s.Rest)) || ilt 300 (nlen (len s.In)))
theorem F82_spec (K : Nat) (s : GState) : F82 K s = some (wideS7 s) := by
  have : igt (nlen (len s.In)) 300 = ilt 300 (nlen (len s.In)) := rfl
  rw [F82, this, wideS7]
  cases ilt 100 (nlen (len s.Vals)) <;> cases ilt 100 (nlen (len s.Rest)) <;> rfl
theorem wideS7_f {s : GState} (h : wideS7 s = false) : s.Vals.length ≤ 100 ∧ s.Rest.length ≤ 100 ∧ s.In.length ≤ 300 := by
  simp only [wideS7, Bool.or_eq_false_iff, ilt_f, nlen, len] at h
  omega

theorem law17 (g : GGraph) (j : GJob) (s : GState) (_ : WGGraph g) (_ : WGJob j) (_ : WGState s) : F17 1000 g j s = some true := by
  generalize hq : 1000 = K
  have hK : 1000 ≤ K := by omega
  rw [F17, F73, F82_spec, Option.bind_some]
  cases igt (nlen (len g.Edges)) 200
  · rw [cond_false, Option.bind_some]
    cases hb : wideS7 s
    · obtain ⟨b1, b2, b3⟩ := wideS7_f hb
      obtain ⟨f1, f2⟩ := split_fit hK g j s b3
      rw [cond_false, F83_spec hK g j s (by omega), F61_spec hK g j s (by omega)]
      simp only [Option.bind_some, same84 (K := K) (splitR g j s).1 (by omega) (by omega) f2, cond_true, ieq_refl]
    · rfl
  · rfl
end Go.Proofs.Ytnjanliihnadjaa.Tm

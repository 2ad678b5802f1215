/- The plain law of SeqRights. Conditions: none. -/
import Derived.Test.YtnjanliihnadjaaQc
import Derived.Test.YtnjanliihnadjaaFL28
import Derived.Test.YtnjanliihnadjaaWf
set_option linter.unusedVariables false
namespace Go.Proofs.Ytnjanliihnadjaa.Tm
open Go

def restsS (s : GState) : Bool := s.Rest.all id && ieq (nlen (len s.In)) 0

theorem rest_go (l : List Bool) : goL (fun r (_ : Unit) c => bif r then c () else some (.inl ())) (fun _ => some (.inr ())) l () = (some (sumU (l.all id)) : Option (Unit ⊕ Unit)) := by
  induction l with
  | nil => rfl
  | cons r l ih => cases r <;> simp [goL, ih, sumU]

theorem F105_spec (K : Nat) (x : GState) (h : x.Rest.length < 4611686018427387904) (hK : x.Rest.length < K) : F105 K x = some (restsS x) := by
  have e : F105_l0_0 K x K 0 = _ := scanL (L := fun k (_ : Unit) i => F105_l0_0 K x k i) (fun r _ c => bif r then c () else some (.inl ())) (fun _ => some (.inr ())) (fun k s i _ => rfl) h hK ()
  rw [F105, e, rest_go, restsS]
  cases x.Rest.all id <;> rfl
theorem F106_specS (K : Nat) (x : GState) (h : x.Rest.length < 4611686018427387904) (hK : x.Rest.length < K) : F106 K x = some (restsS x) := by
  have e : F106_l0_0 K x K 0 = _ := scanL (L := fun k (_ : Unit) i => F106_l0_0 K x k i) (fun r _ c => bif r then c () else some (.inl ())) (fun _ => some (.inr ())) (fun k s i _ => rfl) h hK ()
  rw [F106, e, rest_go, restsS]
  cases x.Rest.all id <;> rfl

def wideS (s : GState) : Bool := ilt 100 (nlen (len s.Vals)) || (ilt 100 (nlen (len s.Rest)) || ilt 300 (nlen (len s.In)))
theorem F102_spec (K : Nat) (s : GState) : F102 K s = some (wideS s) := by
  have : igt (nlen (len s.In)) 300 = ilt 300 (nlen (len s.In)) := rfl
  rw [F102, this, wideS]
  cases ilt 100 (nlen (len s.Vals)) <;> cases ilt 100 (nlen (len s.Rest)) <;> rfl
theorem wideS_f {s : GState} (h : wideS s = false) : s.Vals.length ≤ 100 ∧ s.Rest.length ≤ 100 ∧ s.In.length ≤ 300 := by
  simp only [wideS, Bool.or_eq_false_iff, ilt_f, nlen, len] at h
  omega

theorem law28 (g : GGraph) (j : GJob) (s : GState) (_ : WGGraph g) (_ : WGJob j) (_ : WGState s) : F28 1000 g j s = some true := by
  generalize hq : 1000 = K
  have hK : 1000 ≤ K := by omega
  rw [F28, F101, F102_spec, Option.bind_some]
  cases igt (nlen (len g.Edges)) 200
  · rw [cond_false, Option.bind_some]
    cases hb : wideS s
    · obtain ⟨b1, b2, b3⟩ := wideS_f hb
      rw [cond_false, F104_spec hK g j s (by omega) (by omega), F88_spec hK g j s (by omega) (by omega), F105_spec K s (by omega) (by omega), F106_specS K s (by omega) (by omega)]
      simp only [Option.bind_some, beqb_refl, cond_true]
    · rfl
  · rfl
end Go.Proofs.Ytnjanliihnadjaa.Tm

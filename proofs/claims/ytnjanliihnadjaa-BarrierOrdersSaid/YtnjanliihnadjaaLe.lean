/- What is found in a list of parts. Conditions: none. -/
import Derived.Test.YtnjanliihnadjaaLd
set_option linter.unusedVariables false
namespace Go.Proofs.Ytnjanliihnadjaa.Tm
open Go

theorem F128_loop (K : Nat) (l : List GPart) (p : Int) (hlen : l.length ≤ 1099511627776) : ∀ (k i : Nat), l.length - i < k →
    F128_l0_0 K l p k i = some (match (l.drop i).find? (fun y => ieq y.P p) with | some x => .inl (x.P, (x.Step, (x.Vals, (x.Rest, x.In)))) | none => .inr ()) := by
  intro k
  induction k with
  | zero => intro i h; omega
  | succ k ih =>
    intro i h
    rw [F128_l0_0]
    rcases at_idx l i with ⟨x, e1, e2, e3, e4⟩ | ⟨e1, e2⟩
    · have hi := lt_of_drop e1
      rw [e1, e2, e3, e4]
      simp only [cond_true, Option.bind_some]
      rw [wadd_nat (by omega), List.find?_cons]
      cases hq : ieq x.P p
      · rw [cond_false]; exact ih (i + 1) (by omega)
      · rfl
    · rw [e1, e2]; rfl

def zeroP : GPart := GPart.mk 0 0 [] [] []

theorem F128_spec (K : Nat) (l : List GPart) (p : Int) (hlen : l.length ≤ 1099511627776) (hK : l.length < K) :
    F128 K l p = some (match l.find? (fun y => ieq y.P p) with | some x => (x, true) | none => (zeroP, false)) := by
  have e : F128_l0_0 K l p K 0 = _ := F128_loop K l p hlen K 0 (by omega)
  rw [List.drop_zero] at e
  rw [F128, e, Option.bind_some]
  cases l.find? (fun y => ieq y.P p) <;> rfl

end Go.Proofs.Ytnjanliihnadjaa.Tm

/- Words for the plain laws: numbers that do not wrap, walks over lists. Conditions: none. -/
import Derived.Test.YtnjanliihnadjaaKb
import Derived.IntWalk
set_option linter.unusedVariables false
namespace Go.Proofs.Ytnjanliihnadjaa.Tm
open Go

theorem nlen_len {α : Type} (l : List α) : nlen (len l) = (l.length : Int) := rfl
theorem elAt_nat {α : Type} (l : List α) (i : Nat) : elAt l (i : Int) = l[i]? := by simp [elAt]

theorem wadd_ok {a b : Int} (h1 : -9223372036854775808 ≤ a + b) (h2 : a + b < 9223372036854775808) : wadd .i64 a b = a + b := by
  show IntKind.i64.wrap (a + b) = a + b
  rw [IntKind.wrap_i64]
  omega
theorem wadd_nat {i : Nat} (h : i < 4611686018427387904) : wadd .i64 (i : Int) 1 = ((i + 1 : Nat) : Int) := by
  rw [wadd_ok (by omega) (by omega)]; simp

/-- At index i of l: an element and the rest, or the end. -/
theorem at_idx {α : Type} (l : List α) (i : Nat) :
    (∃ x, l.drop i = x :: l.drop (i + 1) ∧ ilt (i : Int) (nlen (len l)) = true ∧ inr (i : Int) (len l) = true ∧ elAt l (i : Int) = some x) ∨
    (l.drop i = [] ∧ ilt (i : Int) (nlen (len l)) = false) := by
  by_cases h : i < l.length
  · left
    refine ⟨l[i], List.drop_eq_getElem_cons h, ?_, ?_, ?_⟩
    · simp [ilt, nlen, len]; omega
    · simp [inr, len]; omega
    · rw [elAt_nat]; simp [h]
  · right
    refine ⟨List.drop_eq_nil_of_le (by omega), ?_⟩
    simp [ilt, nlen, len]; omega

end Go.Proofs.Ytnjanliihnadjaa.Tm

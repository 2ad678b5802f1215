/- The plain law of BarrierBegins. Conditions: none. -/
import Derived.Test.YtnjanliihnadjaaFL3
set_option linter.unusedVariables false
namespace Go.Proofs.Ytnjanliihnadjaa.Tm
open Go

theorem ilt_not (a b : Int) : ilt a b = !(ile b a) := by
  unfold ilt ile
  by_cases h : a < b <;> simp [h] <;> omega
theorem ieq_self (a : Int) : ieq a a = true := by simp [ieq]
theorem beqb_self (a : Bool) : beqb a a = true := by cases a <;> rfl

def goodE (a b c : Int) : Bool := ile 1 a && ile a 1099511627776 && ile 0 b && ile b 39 && ile 1 c && ile c 6

theorem F48_nil (a b c : Int) (o : Bool) : F48 1 ⟨a, b, c, [], o⟩ = some (goodE a b c) := by
  have e1 : ile 40 b = !(ile b 39) := by
    unfold ile; by_cases h : b ≤ 39 <;> simp [h] <;> omega
  have e2 : ilt 6 c = !(ile c 6) := ilt_not _ _
  have e3 : F48_l0_0 1 ⟨a, b, c, [], o⟩ 1 (-1) 0 = some (.inr ()) := rfl
  simp only [F48, e1, e3, ilt_not, goodE]
  cases ile 1 a <;> cases ile a 1099511627776 <;> cases ile 0 b <;> cases ile b 39 <;> cases ile 1 c <;> cases ile c 6 <;> rfl

theorem F49_nil (a b c : Int) (o : Bool) : F49 1 ⟨a, b, c, [], o⟩ = some (goodE a b c) := by
  have e3 : ∀ v, F49_l0_0 1 ⟨a, b, c, [], o⟩ 1 v 0 = some v := by intro v; cases v <;> rfl
  simp only [F49, e3, goodE]
  cases ile 1 a <;> cases ile a 1099511627776 <;> cases ile 0 b <;> cases ile b 39 <;> cases ile 1 c <;> cases ile c 6 <;> rfl

theorem F43_nil (a b c : Int) (o : Bool) : F43 1 ⟨a, b, c, [], o⟩ ⟨a, b, c, [], o⟩ = some true := by
  have e : F84 1 [] [] = some true := rfl
  simp only [F43, ieq_self, beqb_self, e]; rfl

theorem law3 (a b c : Int) : F3 1 a b c = some true := by
  simp only [F3, F41, F42, F44, F48_nil, F49_nil]
  cases goodE a b c
  · simp only [Option.bind_some, cond_false, F43_nil, ieq_self, cond_true]
  · simp only [Option.bind_some, cond_true, F43_nil, ieq_self]

end Go.Proofs.Ytnjanliihnadjaa.Tm

/- Right of barriers: the program's and the reference's agree. Conditions: none. -/
import Derived.Test.YtnjanliihnadjaaSp
import Derived.Test.YtnjanliihnadjaaLawA
set_option linter.unusedVariables false
namespace Go.Proofs.Ytnjanliihnadjaa.Tm
open Go

def chain (parts step : Int) : Int → List GPart → Bool
  | _, [] => true
  | v, x :: l => !(ile x.P v) && !(ile parts x.P) && ieq x.Step (wadd .i64 step 1) && chain parts step x.P l

theorem F48_loop (K : Nat) (a : GBarrier) (hlen : a.Came.length < 1152921504606846976) : ∀ (k i : Nat) (v : Int), a.Came.length - i < k →
    F48_l0_0 K a k v i = some (bif chain a.Parts a.Step v (a.Came.drop i) then .inr () else .inl ()) := by
  intro k
  induction k with
  | zero =>
    intro i v h
    omega
  | succ k ih =>
    intro i v h
    rw [F48_l0_0]
    rcases at_idx a.Came i with ⟨x, e1, e2, e3, e4⟩ | ⟨e1, e2⟩
    · have hi : i < a.Came.length := by
        rcases Nat.lt_or_ge i a.Came.length with g | g
        · exact g
        · rw [List.drop_eq_nil_of_le g] at e1; cases e1
      rw [e1, e2, e3, e4, cond_true, cond_true, Option.bind_some, wadd_nat (by omega)]
      simp only [chain]
      cases ile x.P v
      · cases ile a.Parts x.P
        · cases ieq x.Step (wadd .i64 a.Step 1)
          · rfl
          · exact ih (i + 1) x.P (by omega)
        · rfl
      · rfl
    · rw [e1, e2]; rfl

/-- What stands before index i. -/
def before (l : List GPart) : Nat → Int
  | 0 => -1
  | i + 1 => match l[i]? with
    | some x => x.P
    | none => -1

theorem F49_no (K : Nat) (a : GBarrier) (k : Nat) (i : Int) (h : 0 < k) : F49_l0_0 K a k false i = some false := by
  cases k with
  | zero => omega
  | succ k => rfl

theorem F49_loop (K : Nat) (a : GBarrier) (hlen : a.Came.length < 1152921504606846976) : ∀ (k i : Nat), a.Came.length - i + 1 < k → -1 ≤ before a.Came i →
    F49_l0_0 K a k true i = some (chain a.Parts a.Step (before a.Came i) (a.Came.drop i)) := by
  intro k
  induction k with
  | zero =>
    intro i h
    omega
  | succ k ih =>
    intro i h hb
    rw [F49_l0_0]
    rcases at_idx a.Came i with ⟨x, e1, e2, e3, e4⟩ | ⟨e1, e2⟩
    · have hi : i < a.Came.length := by
        rcases Nat.lt_or_ge i a.Came.length with g | g
        · exact g
        · rw [List.drop_eq_nil_of_le g] at e1; cases e1
      have hx : a.Came[i]? = some x := by rw [← elAt_nat]; exact e4
      have hn : before a.Came (i + 1) = x.P := by simp only [before, hx]
      rw [e1, e2, e3, e4]
      simp only [cond_true, Option.bind_some]
      rw [wadd_nat (by omega)]
      simp only [chain]
      have n1 : ilt x.P a.Parts = !(ile a.Parts x.P) := ilt_not _ _
      rw [n1]
      cases h0 : ile 0 x.P
      · have : ile x.P (before a.Came i) = true := by
          simp only [ile, decide_eq_true_eq, decide_eq_false_iff_not] at h0 ⊢
          omega
        rw [this, cond_false, F49_no _ _ _ _ (by omega)]; rfl
      · rw [cond_true]
        cases h1 : ile a.Parts x.P
        · simp only [Bool.not_false, cond_true]
          cases h2 : ieq x.Step (wadd .i64 a.Step 1)
          · simp only [cond_false, F49_no _ _ _ _ (show 0 < k by omega), Bool.and_false, Bool.false_and]
          · simp only [cond_true, Bool.and_true]
            have hge : (0 : Int) ≤ x.P := by simpa [ile] using h0
            have step := ih (i + 1) (by omega) (by rw [hn]; omega)
            rw [hn] at step
            cases i with
            | zero =>
              have z : ieq ((0 : Nat) : Int) 0 = true := rfl
              have q : ile x.P (before a.Came 0) = false := decide_eq_false (show ¬ x.P ≤ -1 by omega)
              rw [z, q, cond_true, step]; rfl
            | succ j =>
              have z : ieq ((j + 1 : Nat) : Int) 0 = false := by simp [ieq]; omega
              have hj : j < a.Came.length := by omega
              have w : wsub .i64 ((j + 1 : Nat) : Int) 1 = (j : Int) := by
                show IntKind.i64.wrap (((j + 1 : Nat) : Int) - 1) = _
                rw [IntKind.wrap_i64]; omega
              have y1 : inr (j : Int) (len a.Came) = true := by simp [inr, len]; omega
              have y2 : elAt a.Came (j : Int) = some a.Came[j] := by rw [elAt_nat]; simp [hj]
              have q : before a.Came (j + 1) = a.Came[j].P := by simp [before, hj]
              rw [z, cond_false, w, y1, cond_true, y2, Option.bind_some, q, ilt_not]
              cases h3 : ile x.P a.Came[j].P
              · rw [Bool.not_false, step, Bool.true_and]
              · rw [Bool.not_true, F49_no _ _ _ _ (by omega), Bool.false_and]
        · simp only [Bool.not_true, cond_false, F49_no _ _ _ _ (show 0 < k by omega), Bool.and_false, Bool.false_and]
    · rw [e1, e2]; rfl

def right (a : GBarrier) : Bool := goodE a.Epoch a.Step a.Parts && chain a.Parts a.Step (-1) a.Came

theorem F48_spec (K : Nat) (a : GBarrier) (hlen : a.Came.length < 1152921504606846976) (hK : a.Came.length + 1 < K) : F48 K a = some (right a) := by
  have e1 : ile 40 a.Step = !(ile a.Step 39) := by
    unfold ile; by_cases h : a.Step ≤ 39 <;> simp [h] <;> omega
  have e2 : ilt 6 a.Parts = !(ile a.Parts 6) := ilt_not _ _
  have e3 := F48_loop K a hlen K 0 (-1) (by omega)
  have e4 : F48_l0_0 K a K (-1) 0 = some (bif chain a.Parts a.Step (-1) a.Came then .inr () else .inl ()) := e3
  simp only [F48, e1, e4, ilt_not, right, goodE]
  cases ile 1 a.Epoch <;> cases ile a.Epoch 1099511627776 <;> cases ile 0 a.Step <;> cases ile a.Step 39 <;> cases ile 1 a.Parts <;> cases ile a.Parts 6 <;> cases chain a.Parts a.Step (-1) a.Came <;> rfl

theorem F49_spec (K : Nat) (a : GBarrier) (hlen : a.Came.length < 1152921504606846976) (hK : a.Came.length + 1 < K) : F49 K a = some (right a) := by
  have e4 : ∀ v, F49_l0_0 K a K v 0 = some (v && chain a.Parts a.Step (-1) a.Came) := by
    intro v
    cases v
    · exact F49_no K a K 0 (by omega)
    · have := F49_loop K a hlen K 0 (by omega) (by simp [before])
      rw [Bool.true_and]
      exact this
  obtain ⟨k, rfl⟩ : ∃ k, K = k + 1 := ⟨K - 1, by omega⟩
  simp only [F49, e4, right, goodE, F49_l0_1, F49_l0_2, F49_l0_3, F49_l0_4, F49_l0_5]
  cases ile 1 a.Epoch <;> cases ile a.Epoch 1099511627776 <;> cases ile 0 a.Step <;> cases ile a.Step 39 <;> cases ile 1 a.Parts <;> cases ile a.Parts 6 <;> cases chain a.Parts a.Step (-1) a.Came <;> rfl

end Go.Proofs.Ytnjanliihnadjaa.Tm

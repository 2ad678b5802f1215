/- A part put into a barrier: the program's way and the reference's way end alike. Conditions: none. -/
import Derived.Test.YtnjanliihnadjaaLe
set_option linter.unusedVariables false
namespace Go.Proofs.Ytnjanliihnadjaa.Tm
open Go

def ins (x : GPart) : List GPart → List GPart
  | [] => [x]
  | y :: l => bif ilt x.P y.P then x :: y :: l else y :: ins x l

def anyGt (x : GPart) (l : List GPart) : Bool := l.any fun y => ilt x.P y.P
def anyEq (x : GPart) (l : List GPart) : Bool := l.any fun y => ieq y.P x.P

theorem ins_none {x : GPart} : ∀ {l : List GPart}, anyGt x l = false → ins x l = l ++ [x]
  | [], _ => rfl
  | y :: l, h => by
    have h' : (ilt x.P y.P || anyGt x l) = false := h
    rw [Bool.or_eq_false_iff] at h'
    rw [ins, h'.1, cond_false, ins_none h'.2]; rfl

theorem apok_nat (n m : Nat) (h : n + m ≤ 1099511627776) : apok n m 88 = true := by
  refine decide_eq_true ⟨by omega, by omega⟩

theorem F53_put (K : Nat) (a : GBarrier) (x : GPart) (hlen : a.Came.length ≤ 274877906944) : ∀ (k i : Nat) (out : List GPart), a.Came.length - i < k → out.length ≤ i + 1 → anyEq x (a.Came.drop i) = false →
    F53_l0_0 K a x k out true i = some (.inr (out ++ a.Came.drop i, true)) := by
  intro k
  induction k with
  | zero => intro i out h; omega
  | succ k ih =>
    intro i out h ho hq
    rw [F53_l0_0]
    rcases at_idx a.Came i with ⟨y, e1, e2, e3, e4⟩ | ⟨e1, e2⟩
    · have hi := lt_of_drop e1
      rw [e1] at hq
      have hq' : (ieq y.P x.P || anyEq x (a.Came.drop (i + 1))) = false := hq
      rw [Bool.or_eq_false_iff] at hq'
      rw [e1, e2, e3, e4]
      simp only [cond_true, Option.bind_some, hq'.1, cond_false]
      rw [apok_nat _ _ (by show out.length + 1 ≤ _; omega), cond_true, wadd_nat (by omega), ih (i + 1) _ (by omega) (by simp [appL]; omega) hq'.2]
      simp [appL]
    · rw [e1, e2]; simp

theorem F53_eq (K : Nat) (a : GBarrier) (x : GPart) (hlen : a.Came.length ≤ 274877906944) : ∀ (k i : Nat) (out : List GPart) (b : Bool), a.Came.length - i < k → out.length ≤ 2 * i + 1 → anyEq x (a.Came.drop i) = true →
    F53_l0_0 K a x k out b i = some (.inl ()) := by
  intro k
  induction k with
  | zero => intro i out b h; omega
  | succ k ih =>
    intro i out b h ho hq
    rw [F53_l0_0]
    rcases at_idx a.Came i with ⟨y, e1, e2, e3, e4⟩ | ⟨e1, e2⟩
    · have hi := lt_of_drop e1
      rw [e1] at hq
      have hq' : (ieq y.P x.P || anyEq x (a.Came.drop (i + 1))) = true := hq
      rw [e2, e3, e4]
      simp only [cond_true, Option.bind_some]
      cases hy : ieq y.P x.P
      · rw [hy, Bool.false_or] at hq'
        rw [cond_false, wadd_nat (by omega), apok_nat (len out) 1 (by show out.length + 1 ≤ _; omega)]
        cases b
        · simp only [cond_false, cond_true]
          cases ilt x.P y.P
          · rw [cond_false]; exact ih (i + 1) _ false (by omega) (by simp [appL]; omega) hq'
          · have e5 : apok (len (α := GPart) (appL out [x])) 1 88 = true := apok_nat _ _ (by simp [len, appL]; omega)
            rw [cond_true, e5, cond_true]
            exact ih (i + 1) _ true (by omega) (by simp [appL]; omega) hq'
        · simp only [cond_true]
          exact ih (i + 1) _ true (by omega) (by simp [appL]; omega) hq'
      · rfl
    · rw [e1] at hq; cases hq

theorem F53_no (K : Nat) (a : GBarrier) (x : GPart) (hlen : a.Came.length ≤ 274877906944) : ∀ (k i : Nat) (out : List GPart), a.Came.length - i < k → out.length ≤ i → anyEq x (a.Came.drop i) = false →
    F53_l0_0 K a x k out false i = some (.inr (bif anyGt x (a.Came.drop i) then (out ++ ins x (a.Came.drop i), true) else (out ++ a.Came.drop i, false))) := by
  intro k
  induction k with
  | zero => intro i out h; omega
  | succ k ih =>
    intro i out h ho hq
    rw [F53_l0_0]
    rcases at_idx a.Came i with ⟨y, e1, e2, e3, e4⟩ | ⟨e1, e2⟩
    · have hi := lt_of_drop e1
      rw [e1] at hq
      have hq' : (ieq y.P x.P || anyEq x (a.Came.drop (i + 1))) = false := hq
      rw [Bool.or_eq_false_iff] at hq'
      have hg : anyGt x (y :: a.Came.drop (i + 1)) = (ilt x.P y.P || anyGt x (a.Came.drop (i + 1))) := rfl
      rw [e1, e2, e3, e4, hg, ins]
      simp only [cond_true, Option.bind_some, hq'.1, cond_false]
      rw [apok_nat (len out) 1 (by show out.length + 1 ≤ _; omega), wadd_nat (by omega)]
      cases hl : ilt x.P y.P
      · rw [cond_false, cond_true, ih (i + 1) _ (by omega) (by simp [appL]; omega) hq'.2]
        simp [appL]
      · have e5 : apok (len (α := GPart) (appL out [x])) 1 88 = true := apok_nat _ _ (by simp [len, appL]; omega)
        rw [cond_true, cond_true, e5, cond_true, F53_put K a x hlen k (i + 1) _ (by omega) (by simp [appL]; omega) hq'.2]
        simp [appL]
    · rw [e1, e2]; simp [anyGt]

end Go.Proofs.Ytnjanliihnadjaa.Tm

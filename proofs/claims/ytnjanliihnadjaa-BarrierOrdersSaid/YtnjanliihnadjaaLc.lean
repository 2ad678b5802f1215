/- Copies of barriers are the barriers; equality of barriers with themselves. Conditions: none. -/
import Derived.Test.YtnjanliihnadjaaLb
import Derived.Test.YtnjanliihnadjaaFB
set_option linter.unusedVariables false
namespace Go.Proofs.Ytnjanliihnadjaa.Tm
open Go

theorem copyL_rep {α : Type} (l : List α) (z : α) : copyL l (repL (nlen (len l)) z) = l := by
  simp [copyL, repL, len, nlen]

theorem mkok_nat {α : Type} (l : List α) (z : Nat) (h : l.length ≤ 1099511627776) (hz : z ≤ 96) : mkok (nlen (len l)) (nlen (len l)) z = true := by
  refine decide_eq_true ⟨?_, Int.le_refl _, ?_, ?_⟩
  · show (0 : Int) ≤ (l.length : Int); omega
  · show (l.length : Int) ≤ _; omega
  · show (l.length : Int) * (z : Int) ≤ _
    have : (l.length : Int) * (z : Int) ≤ 1099511627776 * 96 := Int.mul_le_mul (by omega) (by omega) (by omega) (by omega)
    omega

def smallP (x : GPart) : Prop := x.Vals.length ≤ 1099511627776 ∧ x.Rest.length ≤ 1099511627776 ∧ x.In.length ≤ 1099511627776

theorem F129_spec (K : Nat) (x : GPart) (h : smallP x) : F129 K x = some x := by
  simp only [F129, copyL_rep, mkok_nat x.Vals 8 h.1 (by omega), mkok_nat x.Rest 1 h.2.1 (by omega), mkok_nat x.In 16 h.2.2 (by omega), cond_true]

theorem F127_loop (K : Nat) (a : GBarrier) (hlen : a.Came.length ≤ 1099511627776) (hs : ∀ x ∈ a.Came, smallP x) : ∀ (k i : Nat) (v : List GPart), a.Came.length - i < k → i ≤ a.Came.length → v.length = a.Came.length → v.take i = a.Came.take i →
    F127_l0_0 K a k v i = some a.Came := by
  intro k
  induction k with
  | zero => intro i v h; omega
  | succ k ih =>
    intro i v h hi hv ht
    rw [F127_l0_0]
    have hl : nlen (len (α := GPart) (repL (α := GPart) (nlen (len a.Came)) (GPart.mk 0 0 [] [] []))) = nlen (len a.Came) := by simp [nlen, len, repL]
    rw [hl]
    rcases at_idx a.Came i with ⟨x, e1, e2, e3, e4⟩ | ⟨e1, e2⟩
    · have hi : i < a.Came.length := by
        rcases Nat.lt_or_ge i a.Came.length with g | g
        · exact g
        · rw [List.drop_eq_nil_of_le g] at e1; cases e1
      have hx : a.Came[i]? = some x := by rw [← elAt_nat]; exact e4
      have hx' : a.Came[i] = x := by rw [List.getElem?_eq_getElem hi] at hx; exact Option.some.inj hx
      have hm : x ∈ a.Came := by rw [← hx']; exact List.getElem_mem hi
      have y1 : inr (i : Int) (len v) = true := by simp [inr, len, hv]; omega
      have y2 : elAt v (i : Int) = some v[i] := by rw [elAt_nat]; simp [hv, hi]
      rw [e2, cond_true, e3, cond_true, e4, Option.bind_some, F129_spec K x (hs x hm), Option.bind_some, y1, cond_true, y2, Option.bind_some, wadd_nat (by omega)]
      refine ih (i + 1) _ (by omega) (by omega) (by simp [putAt, hv]) ?_
      have e : putAt v (i : Int) x = v.set i x := by simp [putAt]
      rw [e, List.take_set, List.take_add_one, List.take_add_one, ht]
      rw [List.getElem?_eq_getElem hi, List.getElem?_eq_getElem (by omega : i < v.length)]
      rw [List.set_append]
      simp [hx', Nat.min_eq_left (Nat.le_of_lt hi)]
    · have hge : a.Came.length ≤ i := List.drop_eq_nil_iff.1 e1
      rw [e2, cond_false]
      have : i = a.Came.length := by omega
      subst this
      rw [List.take_length, ← hv, List.take_length] at ht
      rw [ht]

theorem F127_spec (K : Nat) (a : GBarrier) (hlen : a.Came.length ≤ 1099511627776) (hK : a.Came.length < K) (hs : ∀ x ∈ a.Came, smallP x) : F127 K a = some a := by
  have e := F127_loop K a hlen hs K 0 (repL (nlen (len a.Came)) (GPart.mk 0 0 [] [] [])) (by omega) (by omega) (by simp [repL, nlen, len]) rfl
  have e' : F127_l0_0 K a K (repL (nlen (len a.Came)) (GPart.mk 0 0 [] [] [])) 0 = some a.Came := e
  simp only [F127, mkok_nat a.Came 88 hlen (by omega), cond_true, e', Option.bind_some]

end Go.Proofs.Ytnjanliihnadjaa.Tm

/- Each barrier is the same as itself. Conditions: none. -/
import Derived.Test.YtnjanliihnadjaaLc
set_option linter.unusedVariables false
namespace Go.Proofs.Ytnjanliihnadjaa.Tm
open Go

theorem lt_of_drop {α : Type} {l r : List α} {i : Nat} {x : α} (h : l.drop i = x :: r) : i < l.length := by
  rcases Nat.lt_or_ge i l.length with g | g
  · exact g
  · rw [List.drop_eq_nil_of_le g] at h; cases h

theorem F140_self (K : Nat) (l : List Int) (hlen : l.length ≤ 1099511627776) (hK : l.length < K) : F140 K l l = some true := by
  have lp : ∀ (k i : Nat), l.length - i < k → F140_l0_0 K l l k i = some (.inr ()) := by
    intro k
    induction k with
    | zero => intro i h; omega
    | succ k ih =>
      intro i h
      rw [F140_l0_0]
      rcases at_idx l i with ⟨x, e1, e2, e3, e4⟩ | ⟨e1, e2⟩
      · have hi := lt_of_drop e1
        rw [e2, e3, e4]
        simp only [cond_true, Option.bind_some, ieq_self]
        rw [wadd_nat (by omega)]
        exact ih (i + 1) (by omega)
      · rw [e2]; rfl
  have e : F140_l0_0 K l l K 0 = some (.inr ()) := lp K 0 (by omega)
  simp only [F140, ieq_self, cond_true, e, Option.bind_some, Sum.elim_inr]

theorem F141_self (K : Nat) (l : List Bool) (hlen : l.length ≤ 1099511627776) (hK : l.length < K) : F141 K l l = some true := by
  have lp : ∀ (k i : Nat), l.length - i < k → F141_l0_0 K l l k i = some (.inr ()) := by
    intro k
    induction k with
    | zero => intro i h; omega
    | succ k ih =>
      intro i h
      rw [F141_l0_0]
      rcases at_idx l i with ⟨x, e1, e2, e3, e4⟩ | ⟨e1, e2⟩
      · have hi := lt_of_drop e1
        rw [e2, e3, e4]
        simp only [cond_true, Option.bind_some, beqb_self]
        rw [wadd_nat (by omega)]
        exact ih (i + 1) (by omega)
      · rw [e2]; rfl
  have e : F141_l0_0 K l l K 0 = some (.inr ()) := lp K 0 (by omega)
  simp only [F141, ieq_self, cond_true, e, Option.bind_some, Sum.elim_inr]

theorem F89_self (K : Nat) (l : List GMsg) (hlen : l.length ≤ 1099511627776) (hK : l.length < K) : F89 K l l = some true := by
  have lp : ∀ (k i : Nat), l.length - i < k → F89_l0_0 K l l k i = some (.inr ()) := by
    intro k
    induction k with
    | zero => intro i h; omega
    | succ k ih =>
      intro i h
      rw [F89_l0_0]
      rcases at_idx l i with ⟨x, e1, e2, e3, e4⟩ | ⟨e1, e2⟩
      · have hi := lt_of_drop e1
        rw [e2, e3, e4]
        simp only [cond_true, Option.bind_some, ieq_self]
        rw [wadd_nat (by omega)]
        exact ih (i + 1) (by omega)
      · rw [e2]; rfl
  have e : F89_l0_0 K l l K 0 = some (.inr ()) := lp K 0 (by omega)
  simp only [F89, ieq_self, cond_true, e, Option.bind_some, Sum.elim_inr]

def roomP (K : Nat) (x : GPart) : Prop := smallP x ∧ x.Vals.length < K ∧ x.Rest.length < K ∧ x.In.length < K

theorem F118_self (K : Nat) (x : GPart) (h : roomP K x) : F118 K x x = some true := by
  simp only [F118, ieq_self, cond_true, F140_self K x.Vals h.1.1 h.2.1, F141_self K x.Rest h.1.2.1 h.2.2.1, F89_self K x.In h.1.2.2 h.2.2.2, Option.bind_some]

theorem F84_self (K : Nat) (l : List GPart) (hlen : l.length ≤ 1099511627776) (hK : l.length < K) (hs : ∀ x ∈ l, roomP K x) : F84 K l l = some true := by
  have lp : ∀ (k i : Nat), l.length - i < k → F84_l0_0 K l l k i = some (.inr ()) := by
    intro k
    induction k with
    | zero => intro i h; omega
    | succ k ih =>
      intro i h
      rw [F84_l0_0]
      rcases at_idx l i with ⟨x, e1, e2, e3, e4⟩ | ⟨e1, e2⟩
      · have hi := lt_of_drop e1
        have hm : x ∈ l := List.mem_of_mem_drop (by rw [e1]; exact List.mem_cons_self)
        rw [e2, e3, e4]
        simp only [cond_true, Option.bind_some, F118_self K x (hs x hm)]
        rw [wadd_nat (by omega)]
        exact ih (i + 1) (by omega)
      · rw [e2]; rfl
  have e : F84_l0_0 K l l K 0 = some (.inr ()) := lp K 0 (by omega)
  simp only [F84, ieq_self, cond_true, e, Option.bind_some, Sum.elim_inr]

theorem F43_self (K : Nat) (a : GBarrier) (hlen : a.Came.length ≤ 1099511627776) (hK : a.Came.length < K) (hs : ∀ x ∈ a.Came, roomP K x) : F43 K a a = some true := by
  simp only [F43, ieq_self, beqb_self, cond_true, F84_self K a.Came hlen hK hs, Option.bind_some]

end Go.Proofs.Ytnjanliihnadjaa.Tm

/- Words for the plain laws: loops over lists, whole. Conditions: none. -/
import Derived.Test.YtnjanliihnadjaaSp
set_option linter.unusedVariables false
namespace Go.Proofs.Ytnjanliihnadjaa.Tm
open Go

/-- A walk over a list, with what is carried on; the index is told. -/
def goI {α σ β : Type} (step : Nat → α → σ → (σ → Option β) → Option β) (fin : σ → Option β) : Nat → List α → σ → Option β
  | _, [], s => fin s
  | i, x :: r, s => step i x s (goI step fin (i + 1) r)

/-- A walk over a list, with what is carried on. -/
def goL {α σ β : Type} (step : α → σ → (σ → Option β) → Option β) (fin : σ → Option β) : List α → σ → Option β
  | [], s => fin s
  | x :: r, s => step x s (goL step fin r)

theorem lt_of_drop' {α : Type} {l : List α} {i : Nat} {x : α} {r : List α} (h : l.drop i = x :: r) : i < l.length := by
  rcases Nat.lt_or_ge i l.length with g | g
  · exact g
  · rw [List.drop_eq_nil_of_le g] at h; cases h

theorem scanI {α σ β : Type} {l : List α} {L : Nat → σ → Int → Option β} (step : Nat → α → σ → (σ → Option β) → Option β) (fin : σ → Option β)
    (h : ∀ k s (i : Nat), i ≤ l.length → L (k + 1) s i = bif ilt i (nlen (len l)) then (bif inr i (len l) then (elAt l i).bind fun x => step i x s (fun s' => L k s' (wadd .i64 i 1)) else none) else fin s)
    (hl : l.length < 4611686018427387904) : ∀ (k : Nat) (s : σ) (i : Nat), l.length - i < k → i ≤ l.length → L k s i = goI step fin i (l.drop i) s := by
  intro k
  induction k with
  | zero => intro s i h; omega
  | succ k ih =>
    intro s i hk hi
    rw [h k s i hi]
    rcases at_idx l i with ⟨x, e1, e2, e3, e4⟩ | ⟨e1, e2⟩
    · have hlt := lt_of_drop' e1
      rw [e1, e2, e3, e4]
      simp only [cond_true, Option.bind_some, goI]
      congr 1
      funext s'
      rw [wadd_nat (by omega)]
      exact ih s' (i + 1) (by omega) (by omega)
    · rw [e1, e2]; rfl

theorem scanL {α σ β : Type} {l : List α} {L : Nat → σ → Int → Option β} (step : α → σ → (σ → Option β) → Option β) (fin : σ → Option β)
    (h : ∀ k s (i : Nat), i ≤ l.length → L (k + 1) s i = bif ilt i (nlen (len l)) then (bif inr i (len l) then (elAt l i).bind fun x => step x s (fun s' => L k s' (wadd .i64 i 1)) else none) else fin s)
    (hl : l.length < 4611686018427387904) {K : Nat} (hK : l.length < K) (s : σ) : L K s 0 = goL step fin l s := by
  have e : ∀ (i : Nat) (r : List α) (s : σ), goI (fun _ => step) fin i r s = goL step fin r s := by
    intro i r
    induction r generalizing i with
    | nil => intro s; rfl
    | cons x r ih =>
      intro s
      simp only [goI, goL]
      congr 1
      funext s'
      exact ih (i + 1) s'
  have := scanI (fun _ => step) fin h hl K s 0 (by omega) (by omega)
  rw [e, List.drop_zero] at this
  exact this

theorem ilt_not' (a b : Int) : ilt a b = !(ile b a) := by
  unfold ilt ile
  by_cases h : a < b <;> simp [h] <;> omega
theorem ieq_refl (a : Int) : ieq a a = true := by simp [ieq]
theorem beqb_refl (a : Bool) : beqb a a = true := by cases a <;> rfl
theorem ile_iff {a b : Int} : ile a b = true ↔ a ≤ b := decide_eq_true_iff
theorem ilt_iff {a b : Int} : ilt a b = true ↔ a < b := decide_eq_true_iff
theorem ieq_iff {a b : Int} : ieq a b = true ↔ a = b := by simp [ieq]
theorem ile_f {a b : Int} : ile a b = false ↔ b < a := by simp [ile]
theorem ilt_f {a b : Int} : ilt a b = false ↔ b ≤ a := by simp [ilt]
theorem ieq_f {a b : Int} : ieq a b = false ↔ a ≠ b := by simp [ieq]
theorem inr_iff {i : Int} {n : Nat} : inr i n = true ↔ 0 ≤ i ∧ i < n := decide_eq_true_iff
theorem elAt_cons {α : Type} {l : List α} {i : Int} {x : α} (h : l[i.toNat]? = some x) : elAt l i = some x := h

end Go.Proofs.Ytnjanliihnadjaa.Tm

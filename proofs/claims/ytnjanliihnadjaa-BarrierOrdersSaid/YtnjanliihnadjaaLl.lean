/- The plain law of BarrierStale. Conditions: none. -/
import Derived.Test.YtnjanliihnadjaaLk
import Derived.Test.YtnjanliihnadjaaFL7
set_option linter.unusedVariables false
namespace Go.Proofs.Ytnjanliihnadjaa.Tm
open Go

/-- What is looked at: few partitions, none of them broad. -/
theorem great_cases {K : Nat} (a : GBarrier) (hK : 1000 ≤ K) : F46 K a = some true ∨ (F46 K a = some false ∧ fine 30 a) := by
  cases h30 : ilt 30 (nlen (len a.Came))
  · have hl : a.Came.length ≤ 30 := by have := of_decide_eq_false h30; simp only [nlen, len] at this; omega
    rw [F46_spec K a (by omega) (by omega), h30, Bool.false_or]
    cases hb : a.Came.any broad
    · right
      refine ⟨rfl, hl, fun y hy => ?_⟩
      cases hc : broad y
      · rfl
      · have : a.Came.any broad = true := List.any_eq_true.2 ⟨y, hy, hc⟩
        rw [hb] at this; cases this
    · left; rfl
  · left; rw [F46, h30]; rfl

theorem law7K (K : Nat) (hK : 1000 ≤ K) (a : GBarrier) (e s : Int) (x : GPart) : F7 K a e s x = some true := by
  rcases great_cases a hK with hg | ⟨hg, hf⟩
  · rw [F7, hg]; rfl
  · rw [F7, hg, Option.bind_some, cond_false, F47_spec, Option.bind_some]
    cases hx : broad x
    · have hl := hf.1
      have hs : ∀ y ∈ a.Came, smallP y := fun y hy => (narrow_room (hf.2 y hy) (K := K) (by omega)).1
      have f49 : F49 K a = some (right a) := F49_spec K a (by omega) (by omega)
      have f43 : F43 K a a = some true := fine_same hf (by omega) (by omega)
      have f52 := F52_spec K a e x (by omega) (by omega) (by omega) hs (narrow_room hx (K := K) (by omega)).1
      have f54 := F54_spec K a e s (by omega) (by omega) hs
      have f44 : F44 K a = some a := rfl
      rw [cond_false, f44, Option.bind_some, f49, Option.bind_some]
      cases hr : right a
      · rfl
      · rw [cond_true, f52, f54]
        cases h1 : ieq e a.Epoch
        · simp only [pput, pfail, hr, h1, cond_true, cond_false, Option.bind_some, ieq_self, f44, f43]
        · cases h2 : ieq x.Step (wadd .i64 a.Step 1)
          · cases h3 : ieq s a.Step
            · simp only [pput, pfail, hr, h1, h2, h3, cond_true, cond_false, Option.bind_some, ieq_self, f44, f43]
            · simp only [pput, pfail, hr, h1, h2, h3, cond_true, cond_false, Option.bind_some, ieq_self, f44, f43]
          · cases h3 : ieq s a.Step
            · simp only [pput, pfail, hr, h1, h2, h3, cond_true, cond_false, Option.bind_some, ieq_self, f44, f43]
            · rfl
    · rfl

theorem law7 (a : GBarrier) (e s : Int) (x : GPart) : F7 1000 a e s x = some true := law7K 1000 (Nat.le_refl _) a e s x

end Go.Proofs.Ytnjanliihnadjaa.Tm

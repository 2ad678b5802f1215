/- The plain law of BarrierSays. Conditions: none. -/
import Derived.Test.YtnjanliihnadjaaLj
set_option linter.unusedVariables false
namespace Go.Proofs.Ytnjanliihnadjaa.Tm
open Go

theorem chain_len {parts step : Int} : ∀ {l : List GPart} {v : Int}, chain parts step v l = true → v < parts → (l.length : Int) ≤ parts - 1 - v
  | [], v, _, hv => by simp; omega
  | x :: l, v, h, hv => by
    simp only [chain, Bool.and_eq_true, Bool.not_eq_true', ile_f] at h
    have := chain_len h.2 h.1.1.2
    simp only [List.length_cons]
    omega

theorem right_len {a : GBarrier} (h : right a = true) : (a.Came.length : Int) ≤ a.Parts := by
  simp only [right, goodE, Bool.and_eq_true] at h
  have h1 := ile_iff.1 h.1.1.2
  have := chain_len h.2 (by omega)
  omega

def roomR (K : Nat) (a : GBarrier) : Prop := a.Came.length < 1000000 ∧ a.Came.length + 1 < K ∧ ∀ y ∈ a.Came, y.Rest.length < 1099511627776 ∧ y.Rest.length < K

theorem F56_spec (K : Nat) (a : GBarrier) (lim : Int) (h : roomR K a) :
    F56 K a lim = some (bif right a then (bif a.Over then (2, true) else bif ieq (nlen (len a.Came)) a.Parts then (bif a.Came.all quiet then (1, true) else bif ile lim (wadd .i64 a.Step 1) then (3, true) else (0, true)) else (0, false)) else (0, false)) := by
  obtain ⟨h1, h2, h3⟩ := h
  have e : F56_l0_0 K a lim K true 0 = _ := scanL (L := fun k s i => F56_l0_0 K a lim k s i) (fun x s c => bif s then (F123 K x).bind c else c false) (fun s => some s) (fun k s i _ => rfl) (by omega) (by omega) true
  have e2 : ∀ (l : List GPart) (s : Bool), (∀ y ∈ l, y.Rest.length < 1099511627776 ∧ y.Rest.length < K) → goL (fun x s c => bif s then (F123 K x).bind c else c false) (fun s => some s) l s = some (s && l.all quiet) := by
    intro l
    induction l with
    | nil => intro s _; cases s <;> rfl
    | cons x l ih =>
      intro s hl
      have hx := hl x List.mem_cons_self
      have ih := fun s => ih s fun y hy => hl y (List.mem_cons_of_mem _ hy)
      cases s
      · simp [goL, ih]
      · simp [goL, ih, F123_spec K x (by omega) hx.2]
  rw [e2 _ _ h3] at e
  have f48 : F48 K a = some (right a) := F48_spec K a (by omega) (by omega)
  rw [F56, f48, F50_spec K a (by omega) (by omega), e]
  cases right a <;> cases a.Over <;> cases ieq (nlen (len a.Came)) a.Parts <;> cases a.Came.all quiet <;> cases ile lim (wadd .i64 a.Step 1) <;> rfl

theorem F57_spec (K : Nat) (a : GBarrier) (lim : Int) (h : roomR K a) :
    F57 K a lim = some (bif right a then (bif a.Over then (2, true) else bif ieq (nlen (len a.Came)) a.Parts then (bif a.Came.all quiet then (1, true) else bif ile lim (wadd .i64 a.Step 1) then (3, true) else (0, true)) else (0, false)) else (0, false)) := by
  obtain ⟨h1, h2, h3⟩ := h
  have e : F57_l0_0 K a lim K 0 = _ := scanL (L := fun k (_ : Unit) i => F57_l0_0 K a lim k i) (fun x s c => (F124 K x).bind fun r => bif r then c () else bif ile lim (wadd .i64 a.Step 1) then some (.inl 3) else some (.inl 0)) (fun s => some (.inr ())) (fun k s i _ => rfl) (by omega) (by omega) ()
  have e2 : ∀ (l : List GPart), (∀ y ∈ l, y.Rest.length < 1099511627776 ∧ y.Rest.length < K) → goL (fun x (s : Unit) c => (F124 K x).bind fun r => bif r then c () else bif ile lim (wadd .i64 a.Step 1) then some (.inl 3) else some (.inl 0)) (fun s => some (.inr ())) l () =
      (some (bif l.all quiet then .inr () else bif ile lim (wadd .i64 a.Step 1) then .inl 3 else .inl 0) : Option (Int ⊕ Unit)) := by
    intro l
    induction l with
    | nil => intro _; rfl
    | cons x l ih =>
      intro hl
      have hx := hl x List.mem_cons_self
      have ih := ih fun y hy => hl y (List.mem_cons_of_mem _ hy)
      rw [goL, F124_spec K x (by omega) hx.2, Option.bind_some, ih, List.all_cons]
      cases quiet x
      · cases ile lim (wadd .i64 a.Step 1) <;> rfl
      · rfl
  rw [e2 _ h3] at e
  have f49 : F49 K a = some (right a) := F49_spec K a (by omega) (by omega)
  rw [F57, f49, e]
  cases hr : right a
  · rfl
  · have hle := right_len hr
    have hq : ieq (nlen (len a.Came)) a.Parts = !(ilt (nlen (len a.Came)) a.Parts) := by
      have : nlen (len a.Came) = (a.Came.length : Int) := rfl
      rw [this]
      unfold ieq ilt
      by_cases hb : (a.Came.length : Int) < a.Parts
      · simp [hb]; omega
      · simp [hb]; omega
    rw [hq]
    cases a.Over <;> cases ilt (nlen (len a.Came)) a.Parts <;> cases a.Came.all quiet <;> cases ile lim (wadd .i64 a.Step 1) <;> rfl

theorem law5 (a : GBarrier) (lim : Int) : F5 1000 a lim = some true := by
  cases h30 : ilt 30 (nlen (len a.Came))
  · have hl : a.Came.length ≤ 30 := by have := of_decide_eq_false h30; simp only [nlen, len] at this; omega
    rw [F5, F46_spec 1000 a (by omega) (by omega), h30, Bool.false_or, Option.bind_some]
    cases hb : a.Came.any broad
    · have hn : ∀ y ∈ a.Came, broad y = false := fun y hy => by
        cases hc : broad y
        · rfl
        · have : a.Came.any broad = true := List.any_eq_true.2 ⟨y, hy, hc⟩
          rw [hb] at this; cases this
      have hr : roomR 1000 a := ⟨by omega, by omega, fun y hy => by have := not_broad (hn y hy); omega⟩
      rw [cond_false, F56_spec 1000 a lim hr, Option.bind_some, F44, Option.bind_some]
      rw [F57_spec 1000 a lim hr, Option.bind_some, ieq_self, cond_true, beqb_self]; rfl
    · rfl
  · rw [F5, F46, h30]; rfl

end Go.Proofs.Ytnjanliihnadjaa.Tm

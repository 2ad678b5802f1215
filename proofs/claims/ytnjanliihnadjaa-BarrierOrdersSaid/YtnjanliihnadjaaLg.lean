/- A part put into a barrier, the program's way: in order of the parts. Conditions: none. -/
import Derived.Test.YtnjanliihnadjaaLf
set_option linter.unusedVariables false
namespace Go.Proofs.Ytnjanliihnadjaa.Tm
open Go

def srt : Int → List GPart → Prop
  | _, [] => True
  | v, y :: l => v < y.P ∧ srt y.P l

theorem srt_find : ∀ {l : List GPart} {v q : Int}, srt v l → q ≤ v → l.find? (fun y => ieq y.P q) = none
  | [], _, _, _, _ => rfl
  | y :: l, v, q, h, hq => by
    have : ieq y.P q = false := by simp only [ieq, beq_eq_false_iff_ne]; have := h.1; omega
    rw [List.find?_cons, this]
    exact srt_find h.2 (by have := h.1; omega)

theorem find_ins {x : GPart} {q : Int} : ∀ {l : List GPart}, anyEq x l = false → (l ++ [x]).find? (fun y => ieq y.P q) = (ins x l).find? (fun y => ieq y.P q)
  | [], _ => rfl
  | y :: l, h => by
    have h' : (ieq y.P x.P || anyEq x l) = false := h
    rw [Bool.or_eq_false_iff] at h'
    rw [ins]
    cases hl : ilt x.P y.P
    · rw [cond_false, List.cons_append, List.find?_cons, List.find?_cons]
      cases ieq y.P q
      · exact find_ins h'.2
      · rfl
    · rw [cond_true, List.find?_append]
      cases hx : ieq x.P q
      · have n1 : [x].find? (fun y => ieq y.P q) = none := by rw [List.find?_cons, hx]; rfl
        have n2 : (x :: y :: l).find? (fun y => ieq y.P q) = (y :: l).find? (fun y => ieq y.P q) := by rw [List.find?_cons, hx]
        rw [n1, n2, Option.or_none]
      · have e : x.P = q := by simpa [ieq] using hx
        have n : (y :: l).find? (fun y => ieq y.P q) = none := by
          rw [List.find?_eq_none]
          intro z hz hc
          subst e
          have : anyEq x (y :: l) = true := List.any_eq_true.2 ⟨z, hz, hc⟩
          rw [h] at this; cases this
        have n3 : [x].find? (fun y => ieq y.P q) = some x := by rw [List.find?_cons, hx]
        have n4 : (x :: y :: l).find? (fun y => ieq y.P q) = some x := by rw [List.find?_cons, hx]
        rw [n, n3, n4]; rfl

theorem F52_loop (K : Nat) (a r : GBarrier) (x : GPart) (hr : r.Came.length ≤ 274877906944) (hK : r.Came.length + 1 < K) : ∀ (k : Nat) (p : Int) (out rest : List GPart), 0 ≤ p → p ≤ 100 → a.Parts ≤ 100 → (a.Parts - p).toNat < k →
    srt (p - 1) rest → (∀ y ∈ rest, y.P < a.Parts) → (∀ q, p ≤ q → (r.Came ++ [x]).find? (fun y => ieq y.P q) = rest.find? (fun y => ieq y.P q)) → (out.length : Int) ≤ p →
    F52_l0_0 K a r x k out p = some (out ++ rest) := by
  intro k
  induction k with
  | zero => intro p out rest _ _ _ h; omega
  | succ k ih =>
    intro p out rest h0 h1 h2 hk hs hp hf ho
    rw [F52_l0_0]
    have hw : wadd .i64 p 1 = p + 1 := wadd_ok (by omega) (by omega)
    cases hc : ilt p a.Parts
    · rw [cond_false]
      have hge : a.Parts ≤ p := by simpa [ilt] using hc
      cases rest with
      | nil => simp
      | cons y l =>
        have h3 := hs.1
        have h4 := hp y List.mem_cons_self
        omega
    · have hlt : p < a.Parts := by simpa [ilt] using hc
      rw [cond_true, hw]
      have e1 : F128 K (appL r.Came [x]) p = _ := F128_spec K (r.Came ++ [x]) p (by simp; omega) (by simp; omega)
      rw [e1, hf p (Int.le_refl _), Option.bind_some]
      cases rest with
      | nil =>
        rw [List.find?_nil]
        exact ih (p + 1) out [] (by omega) (by omega) h2 (by omega) trivial hp (fun q hq => hf q (by omega)) (by omega)
      | cons y l =>
        rw [List.find?_cons]
        cases hy : ieq y.P p
        · have hne : y.P ≠ p := by simpa [ieq] using hy
          have h3 := hs.1
          have hs' : srt p (y :: l) := ⟨by omega, hs.2⟩
          have hn : l.find? (fun y => ieq y.P p) = none := srt_find hs.2 (by have := hs'.1; omega)
          dsimp only
          rw [hn]
          exact ih (p + 1) out (y :: l) (by omega) (by omega) h2 (by omega) (by rw [Int.add_sub_cancel]; exact hs') hp (fun q hq => hf q (by omega)) (by omega)
        · have he : y.P = p := by simpa [ieq] using hy
          have e5 : apok (len out) 1 88 = true := apok_nat _ _ (by show out.length + 1 ≤ _; omega)
          dsimp only
          rw [cond_true, e5, cond_true]
          have := ih (p + 1) (appL out [y]) l (by omega) (by omega) h2 (by omega) (by rw [Int.add_sub_cancel, ← he]; exact hs.2) (fun z hz => hp z (List.mem_cons_of_mem _ hz)) (fun q hq => by
            rw [hf q (by omega), List.find?_cons]
            have : ieq y.P q = false := by simp only [ieq, beq_eq_false_iff_ne]; omega
            rw [this]) (by simp [appL]; omega)
          rw [this]; simp [appL]

end Go.Proofs.Ytnjanliihnadjaa.Tm

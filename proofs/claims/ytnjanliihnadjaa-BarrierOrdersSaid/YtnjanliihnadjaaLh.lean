/- Put and Fail: the program's and the reference's answers are one. Conditions: none. -/
import Derived.Test.YtnjanliihnadjaaLg
set_option linter.unusedVariables false
namespace Go.Proofs.Ytnjanliihnadjaa.Tm
open Go

def noB : GBarrier := GBarrier.mk 0 0 0 [] false
def pput (a : GBarrier) (e : Int) (x : GPart) : GBarrier × Int :=
  bif right a then bif ieq e a.Epoch then bif ieq x.Step (wadd .i64 a.Step 1) then bif ilt x.P 0 then (a, 4) else bif ile a.Parts x.P then (a, 4) else
    bif anyEq x a.Came then (a, 5) else (GBarrier.mk a.Epoch a.Step a.Parts (ins x a.Came) a.Over, 0) else (a, 9) else (a, 9) else (noB, 1)

theorem F53_spec (K : Nat) (a : GBarrier) (e : Int) (x : GPart) (hlen : a.Came.length ≤ 274877906944) (hK : a.Came.length + 1 < K) : F53 K a e x = some (pput a e x) := by
  rw [F53, F49_spec K a (by omega) hK, Option.bind_some, pput]
  cases right a
  · rfl
  · rw [cond_true, cond_true]
    cases ieq e a.Epoch
    · rfl
    · rw [cond_true, cond_true]
      cases ieq x.Step (wadd .i64 a.Step 1)
      · rfl
      · rw [cond_true, cond_true]
        cases ilt x.P 0
        · rw [cond_false, cond_false]
          cases ile a.Parts x.P
          · rw [cond_false, cond_false]
            cases hq : anyEq x a.Came
            · have e1 : F53_l0_0 K a x K [] false 0 = _ := F53_no K a x hlen K 0 [] (by omega) (by simp) hq
              rw [List.drop_zero, List.nil_append] at e1
              rw [e1, Option.bind_some]
              cases hg : anyGt x a.Came
              · have e5 : apok (len a.Came) 1 88 = true := apok_nat _ _ (by show a.Came.length + 1 ≤ _; omega)
                simp only [cond_false, Sum.elim_inr, List.nil_append, e5, cond_true, ins_none hg, appL]
              · rfl
            · have e1 : F53_l0_0 K a x K [] false 0 = _ := F53_eq K a x hlen K 0 [] false (by omega) (by simp) hq
              rw [e1]; rfl
          · rfl
        · rfl

theorem chain_srt {parts step : Int} : ∀ {l : List GPart} {v : Int}, chain parts step v l = true → srt v l ∧ ∀ y ∈ l, y.P < parts
  | [], _, _ => ⟨trivial, fun y h => by cases h⟩
  | x :: l, v, h => by
    simp only [chain, Bool.and_eq_true, Bool.not_eq_true'] at h
    obtain ⟨⟨⟨h1, h2⟩, _⟩, h4⟩ := h
    obtain ⟨g1, g2⟩ := chain_srt h4
    have a1 : v < x.P := by have := of_decide_eq_false h1; omega
    have a2 : x.P < parts := by have := of_decide_eq_false h2; omega
    exact ⟨⟨a1, g1⟩, fun y hy => by rcases List.mem_cons.1 hy with e | e; subst e; exact a2; exact g2 y e⟩

theorem ins_srt {x : GPart} : ∀ {l : List GPart} {v : Int}, srt v l → v < x.P → anyEq x l = false → srt v (ins x l)
  | [], _, _, hx, _ => ⟨hx, trivial⟩
  | y :: l, v, h, hx, hq => by
    have h' : (ieq y.P x.P || anyEq x l) = false := hq
    rw [Bool.or_eq_false_iff] at h'
    have hne : y.P ≠ x.P := by simpa [ieq] using h'.1
    rw [ins]
    cases hl : ilt x.P y.P
    · have := of_decide_eq_false hl
      exact ⟨h.1, ins_srt h.2 (by omega) h'.2⟩
    · have := of_decide_eq_true hl
      exact ⟨hx, this, h.2⟩

theorem ins_mem {x : GPart} : ∀ {l : List GPart} {y : GPart}, y ∈ ins x l → y = x ∨ y ∈ l
  | [], y, h => by simp [ins] at h; exact .inl h
  | z :: l, y, h => by
    rw [ins] at h
    cases hl : ilt x.P z.P
    · rw [hl, cond_false] at h
      rcases List.mem_cons.1 h with e | e
      · subst e; exact .inr List.mem_cons_self
      · exact (ins_mem e).imp id (List.mem_cons_of_mem _)
    · rw [hl, cond_true] at h
      exact List.mem_cons.1 h

theorem find_anyEq (x : GPart) (l : List GPart) : (l.find? (fun y => ieq y.P x.P) = none) = (anyEq x l = false) := by
  simp [anyEq, List.find?_eq_none]

theorem F52_spec (K : Nat) (a : GBarrier) (e : Int) (x : GPart) (hlen : a.Came.length ≤ 274877906944) (hK : a.Came.length + 1 < K) (hK' : 200 < K) (hs : ∀ y ∈ a.Came, smallP y) (hx : smallP x) : F52 K a e x = some (pput a e x) := by
  rw [F52, F48_spec K a (by omega) hK, Option.bind_some, pput]
  cases hR : right a
  · rfl
  · rw [cond_true, cond_true, F127_spec K a (by omega) (by omega) hs, Option.bind_some]
    cases ieq e a.Epoch
    · rfl
    · rw [cond_true, cond_true]
      cases ieq x.Step (wadd .i64 a.Step 1)
      · rfl
      · rw [cond_true, cond_true]
        cases hx0 : ilt x.P 0
        · rw [cond_false, cond_false]
          cases hx1 : ile a.Parts x.P
          · rw [cond_false, cond_false, F128_spec K a.Came x.P (by omega) (by omega), Option.bind_some]
            cases hq : anyEq x a.Came
            · have hn : a.Came.find? (fun y => ieq y.P x.P) = none := by rw [find_anyEq]; exact hq
              have e5 : apok (len a.Came) 1 88 = true := apok_nat _ _ (by show a.Came.length + 1 ≤ _; omega)
              have p0 := of_decide_eq_false hx0
              have p1 := of_decide_eq_false hx1
              simp only [right, goodE, Bool.and_eq_true] at hR
              obtain ⟨⟨_, h6⟩, hc⟩ := hR
              have h6' := of_decide_eq_true h6
              obtain ⟨g1, g2⟩ := chain_srt hc
              have lp : F52_l0_0 K a a x K [] 0 = _ := F52_loop K a a x hlen hK K 0 [] (ins x a.Came) (by omega) (by omega) (by omega) (by omega) (ins_srt (by simpa using g1) (by omega) hq) (fun y hy => by
                rcases ins_mem hy with r | r
                · subst r; omega
                · exact g2 y r) (fun q _ => find_ins hq) (by simp)
              rw [hn]
              dsimp only
              rw [cond_false, cond_false, F129_spec K x hx, Option.bind_some, e5, cond_true, lp, Option.bind_some]
              rfl
            · have hn : ∃ y, a.Came.find? (fun y => ieq y.P x.P) = some y := by
                cases hf : a.Came.find? (fun y => ieq y.P x.P) with
                | some y => exact ⟨y, rfl⟩
                | none => rw [find_anyEq, hq] at hf; cases hf
              obtain ⟨y, hy⟩ := hn
              rw [hy]; rfl
          · rfl
        · rfl

end Go.Proofs.Ytnjanliihnadjaa.Tm

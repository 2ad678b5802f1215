/- The plain law of BarrierPlays. Conditions: none. -/
import Derived.Test.YtnjanliihnadjaaLh
import Derived.Test.YtnjanliihnadjaaFL4
set_option linter.unusedVariables false
namespace Go.Proofs.Ytnjanliihnadjaa.Tm
open Go

def pfail (a : GBarrier) (e s : Int) : GBarrier × Int :=
  bif right a then bif ieq e a.Epoch then bif ieq s a.Step then (GBarrier.mk a.Epoch a.Step a.Parts a.Came true, 0) else (a, 9) else (a, 9) else (noB, 1)

theorem F55_spec (K : Nat) (a : GBarrier) (e s : Int) (hlen : a.Came.length ≤ 274877906944) (hK : a.Came.length + 1 < K) : F55 K a e s = some (pfail a e s) := by
  rw [F55, F49_spec K a (by omega) hK, Option.bind_some, pfail]
  cases right a <;> cases ieq e a.Epoch <;> cases ieq s a.Step <;> rfl

theorem F54_spec (K : Nat) (a : GBarrier) (e s : Int) (hlen : a.Came.length ≤ 274877906944) (hK : a.Came.length + 1 < K) (hs : ∀ y ∈ a.Came, smallP y) : F54 K a e s = some (pfail a e s) := by
  rw [F54, F48_spec K a (by omega) hK, Option.bind_some, pfail, F127_spec K a (by omega) (by omega) hs]
  cases right a <;> cases ieq e a.Epoch <;> cases ieq s a.Step <;> rfl

theorem F50_spec (K : Nat) (a : GBarrier) (hlen : a.Came.length ≤ 274877906944) (hK : a.Came.length + 1 < K) : F50 K a = some (right a && ieq (nlen (len a.Came)) a.Parts) := by
  rw [F50, F48_spec K a (by omega) hK, Option.bind_some]
  cases right a <;> rfl
theorem F51_spec (K : Nat) (a : GBarrier) (hlen : a.Came.length ≤ 274877906944) (hK : a.Came.length + 1 < K) : F51 K a = some (right a && ieq (nlen (len a.Came)) a.Parts) := by
  rw [F51, F49_spec K a (by omega) hK, Option.bind_some]
  cases right a <;> rfl

def broad (x : GPart) : Bool := ilt 100 (nlen (len x.Vals)) || (ilt 100 (nlen (len x.Rest)) || ilt 100 (nlen (len x.In)))
theorem F47_spec (K : Nat) (x : GPart) : F47 K x = some (broad x) := by
  have : igt (nlen (len x.In)) 100 = ilt 100 (nlen (len x.In)) := rfl
  rw [F47, this, broad]
  cases ilt 100 (nlen (len x.Vals)) <;> cases ilt 100 (nlen (len x.Rest)) <;> rfl
theorem not_broad {x : GPart} (h : broad x = false) : x.Vals.length ≤ 100 ∧ x.Rest.length ≤ 100 ∧ x.In.length ≤ 100 := by
  simp only [broad, Bool.or_eq_false_iff] at h
  have h1 := of_decide_eq_false h.1
  have h2 := of_decide_eq_false h.2.1
  have h3 := of_decide_eq_false h.2.2
  simp only [nlen, len] at h1 h2 h3
  omega

theorem F46_spec (K : Nat) (a : GBarrier) (hlen : a.Came.length ≤ 274877906944) (hK : a.Came.length < K) : F46 K a = some (ilt 30 (nlen (len a.Came)) || a.Came.any broad) := by
  have lp : ∀ (k i : Nat), a.Came.length - i < k → F46_l0_0 K a k i = some (bif (a.Came.drop i).any broad then .inl () else .inr ()) := by
    intro k
    induction k with
    | zero => intro i h; omega
    | succ k ih =>
      intro i h
      rw [F46_l0_0]
      rcases at_idx a.Came i with ⟨x, e1, e2, e3, e4⟩ | ⟨e1, e2⟩
      · have hi := lt_of_drop e1
        rw [e1, e2, e3, e4]
        simp only [cond_true, Option.bind_some, F47_spec, List.any_cons]
        rw [wadd_nat (by omega)]
        cases broad x
        · rw [cond_false, Bool.false_or]; exact ih (i + 1) (by omega)
        · rfl
      · rw [e1, e2]; rfl
  have e : F46_l0_0 K a K 0 = _ := lp K 0 (by omega)
  rw [List.drop_zero] at e
  rw [F46, e]
  cases ilt 30 (nlen (len a.Came))
  · cases a.Came.any broad <;> rfl
  · rfl

theorem narrow_room {x : GPart} (h : broad x = false) {K : Nat} (hK : 200 < K) : roomP K x := by
  have := not_broad h
  exact ⟨⟨by omega, by omega, by omega⟩, by omega, by omega, by omega⟩

def fine (n : Nat) (b : GBarrier) : Prop := b.Came.length ≤ n ∧ ∀ y ∈ b.Came, broad y = false

theorem ins_length (x : GPart) : ∀ l : List GPart, (ins x l).length = l.length + 1
  | [] => rfl
  | y :: l => by
    rw [ins]
    cases ilt x.P y.P
    · rw [cond_false, List.length_cons, ins_length x l, List.length_cons]
    · rfl

theorem pput_fine {n : Nat} {b : GBarrier} {e : Int} {x : GPart} (h : fine n b) (hx : broad x = false) : fine (n + 1) (pput b e x).1 := by
  have hb : fine (n + 1) b := ⟨by have := h.1; omega, h.2⟩
  have h0 : fine (n + 1) noB := ⟨by simp [noB], fun y hy => by cases hy⟩
  have hi : fine (n + 1) (GBarrier.mk b.Epoch b.Step b.Parts (ins x b.Came) b.Over) :=
    ⟨by have := h.1; simp only [ins_length]; omega, fun y hy => by rcases ins_mem hy with r | r; subst r; exact hx; exact h.2 y r⟩
  unfold pput
  cases right b
  · exact h0
  · cases ieq e b.Epoch
    · exact hb
    · cases ieq x.Step (wadd .i64 b.Step 1)
      · exact hb
      · cases ilt x.P 0
        · cases ile b.Parts x.P
          · cases anyEq x b.Came
            · exact hi
            · exact hb
          · exact hb
        · exact hb

theorem pfail_fine {n : Nat} {b : GBarrier} {e s : Int} (h : fine n b) : fine (n + 1) (pfail b e s).1 := by
  have hb : fine (n + 1) b := ⟨by have := h.1; omega, h.2⟩
  have h0 : fine (n + 1) noB := ⟨by simp [noB], fun y hy => by cases hy⟩
  unfold pfail
  cases right b
  · exact h0
  · cases ieq e b.Epoch
    · exact hb
    · cases ieq s b.Step
      · exact hb
      · exact hb

theorem fine_same {K n : Nat} {b : GBarrier} (h : fine n b) (hn : n ≤ 100) (hK : 200 < K) : F43 K b b = some true :=
  F43_self K b (by have := h.1; omega) (by have := h.1; omega) (fun y hy => narrow_room (h.2 y hy) hK)

theorem F4_loop (K : Nat) (acts : List GAct) (hK : 200 < K) : ∀ (k i : Nat) (b : GBarrier), i ≤ 20 → 20 - i < k → fine (30 + i) b →
    F4_l0_0 K acts k b.Epoch b.Step b.Parts b.Came b.Over b.Epoch b.Step b.Parts b.Came b.Over i = some (.inr ()) := by
  intro k
  induction k with
  | zero => intro i b _ h; omega
  | succ k ih =>
    intro i b hi h hf
    rw [F4_l0_0]
    rcases at_idx acts i with ⟨x, e1, e2, e3, e4⟩ | ⟨e1, e2⟩
    · rw [e2, cond_true]
      cases h20 : ilt (i : Int) 20
      · rfl
      · have hlt : i < 20 := by have := of_decide_eq_true h20; omega
        rw [cond_true, e3, cond_true, e4, Option.bind_some, F47_spec, Option.bind_some, wadd_nat (by omega)]
        have hl : b.Came.length ≤ 50 := by have := hf.1; omega
        have hs : ∀ y ∈ b.Came, smallP y := fun y hy => (narrow_room (hf.2 y hy) hK).1
        cases hx : broad x.X
        · have f48 : F48 K (GBarrier.mk b.Epoch b.Step b.Parts b.Came b.Over) = some (right b) := F48_spec K b (by omega) (by omega)
          have f49 : F49 K (GBarrier.mk b.Epoch b.Step b.Parts b.Came b.Over) = some (right b) := F49_spec K b (by omega) (by omega)
          have f50 : F50 K (GBarrier.mk b.Epoch b.Step b.Parts b.Came b.Over) = _ := F50_spec K b (by omega) (by omega)
          have f51 : F51 K (GBarrier.mk b.Epoch b.Step b.Parts b.Came b.Over) = _ := F51_spec K b (by omega) (by omega)
          have f52 : F52 K (GBarrier.mk b.Epoch b.Step b.Parts b.Came b.Over) x.Epoch x.X = some (pput b x.Epoch x.X) := F52_spec K b _ _ (by omega) (by omega) hK hs (narrow_room hx hK).1
          have f53 : F53 K (GBarrier.mk b.Epoch b.Step b.Parts b.Came b.Over) x.Epoch x.X = some (pput b x.Epoch x.X) := F53_spec K b _ _ (by omega) (by omega)
          have f54 : F54 K (GBarrier.mk b.Epoch b.Step b.Parts b.Came b.Over) x.Epoch x.Step = some (pfail b x.Epoch x.Step) := F54_spec K b _ _ (by omega) (by omega) hs
          have f55 : F55 K (GBarrier.mk b.Epoch b.Step b.Parts b.Came b.Over) x.Epoch x.Step = some (pfail b x.Epoch x.Step) := F55_spec K b _ _ (by omega) (by omega)
          rw [cond_false, f48, Option.bind_some, f49, Option.bind_some, beqb_self, cond_true, f50, Option.bind_some, f51, Option.bind_some, beqb_self, cond_true]
          cases ieq x.Kind 0
          · rw [cond_false, f54, Option.bind_some, f55, Option.bind_some, ieq_self, cond_true, F44, Option.bind_some, fine_same (pfail_fine hf) (by omega) hK, Option.bind_some, cond_true]
            exact ih (i + 1) _ (by omega) (by omega) (pfail_fine hf)
          · rw [cond_true, f52, Option.bind_some, f53, Option.bind_some, ieq_self, cond_true, F44, Option.bind_some, fine_same (pput_fine hf hx) (by omega) hK, Option.bind_some, cond_true]
            exact ih (i + 1) _ (by omega) (by omega) (pput_fine hf hx)
        · rw [cond_true]
          exact ih (i + 1) b (by omega) (by omega) ⟨by have := hf.1; omega, hf.2⟩
    · rw [e2]; rfl

theorem law4 (a : GBarrier) (acts : List GAct) : F4 1000 a acts = some true := by
  cases h30 : ilt 30 (nlen (len a.Came))
  · have hl : a.Came.length ≤ 30 := by have := of_decide_eq_false h30; simp only [nlen, len] at this; omega
    rw [F4, F46_spec 1000 a (by omega) (by omega), h30, Bool.false_or, Option.bind_some]
    cases hb : a.Came.any broad
    · have hf : fine (30 + 0) a := ⟨hl, fun y hy => by
        cases hc : broad y
        · rfl
        · have : a.Came.any broad = true := List.any_eq_true.2 ⟨y, hy, hc⟩
          rw [hb] at this; cases this⟩
      have e : F4_l0_0 1000 acts 1000 a.Epoch a.Step a.Parts a.Came a.Over a.Epoch a.Step a.Parts a.Came a.Over 0 = _ := F4_loop 1000 acts (by omega) 1000 0 a (by omega) (by omega) hf
      rw [cond_false, F44, Option.bind_some, e]; rfl
    · rfl
  · rw [F4, F46, h30]; rfl

end Go.Proofs.Ytnjanliihnadjaa.Tm

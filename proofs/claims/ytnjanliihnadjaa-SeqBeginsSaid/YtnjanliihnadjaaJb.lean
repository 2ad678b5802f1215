/- Start and Fold of programs; the plain laws of ProgChecks, ProgStarts, ProgFolds, ProgGroups. Conditions: none. -/
import Derived.Test.YtnjanliihnadjaaJa
import Derived.Test.YtnjanliihnadjaaFSa
import Derived.Test.YtnjanliihnadjaaFSf
import Derived.Test.YtnjanliihnadjaaFTa
import Derived.Test.YtnjanliihnadjaaFTf
import Derived.Test.YtnjanliihnadjaaWf
import Derived.OpenShut
set_option linter.unusedVariables false
set_option linter.unusedSimpArgs false
namespace Go.Proofs.Ytnjanliihnadjaa.Tm
open Go

def i64 (n : Int) : Prop := -9223372036854775808 ≤ n ∧ n ≤ 9223372036854775807
theorem i64_wf {n : Int} (h : (Lit.int .i64 n).wf = true) : i64 n := bounds_i64 h


/-! ### Start -/
def startS (j : GJob) (v : Int) : Int := bif ieq j.Prog 2 then v else bif ieq j.Prog 4 then (31 * v * v + 7) % 1009 else bif ieq j.Prog 5 then 1000000 else bif ieq v j.Source then 0 else 9223372036854775807

theorem wmul_ok {a b : Int} (h : i64 (a * b)) : wmul .i64 a b = a * b := by
  show IntKind.i64.wrap (a * b) = _
  rw [IntKind.wrap_i64]; unfold i64 at h; omega
theorem wadd_i64 {a b : Int} (h : i64 (a + b)) : wadd .i64 a b = a + b := by
  show IntKind.i64.wrap (a + b) = _
  rw [IntKind.wrap_i64]; unfold i64 at h; omega

theorem most_ok {v : Int} (h0 : 0 ≤ v) (h : v ≤ 1000) : wrem (wadd .i64 (wmul .i64 (wmul .i64 31 v) v) 7) 1009 = (31 * v * v + 7) % 1009 ∧ wrem (wadd .i64 (wmul .i64 (wmul .i64 v v) 31) 7) 1009 = (31 * v * v + 7) % 1009 := by
  have hvv : 0 ≤ v * v ∧ v * v ≤ 1000000 := ⟨Int.mul_nonneg h0 h0, by have := Int.mul_le_mul h h h0 (by omega : (0 : Int) ≤ 1000); omega⟩
  have e1 : 31 * v * v = 31 * (v * v) := Int.mul_assoc _ _ _
  have e2 : wmul .i64 31 v = 31 * v := wmul_ok ⟨by omega, by omega⟩
  have e3 : wmul .i64 (31 * v) v = 31 * v * v := wmul_ok ⟨by omega, by omega⟩
  have e4 : wmul .i64 v v = v * v := wmul_ok ⟨by omega, by omega⟩
  have e5 : wmul .i64 (v * v) 31 = v * v * 31 := wmul_ok ⟨by omega, by omega⟩
  have e6 : wadd .i64 (31 * v * v) 7 = 31 * v * v + 7 := wadd_i64 ⟨by omega, by omega⟩
  have e7 : v * v * 31 = 31 * v * v := by omega
  rw [e2, e3, e4, e5, e7, e6]
  have : wrem (31 * v * v + 7) 1009 = (31 * v * v + 7) % 1009 := by
    show Int.tmod _ _ = _
    exact Int.tmod_eq_emod_of_nonneg (by omega)
  exact ⟨this, this⟩

theorem F96_spec (K : Nat) (j : GJob) {v : Int} (h0 : 0 ≤ v) (h : v ≤ 1000) : F96 K j v = some (startS j v) := by
  rw [F96, (most_ok h0 h).2, startS]
  cases ieq j.Prog 2 <;> cases ieq j.Prog 4 <;> cases ieq j.Prog 5 <;> cases ieq v j.Source <;> rfl

theorem F95_spec {K : Nat} (hK : 100 ≤ K) (g : GGraph) (j : GJob) (v : Int) : F95 K g j v = some (bif ieq (jcheck g j) 0 then (bif ilt v 0 || ile g.N v then (0, 4) else (startS j v, 0)) else (0, jcheck g j)) := by
  rw [F95, F94_spec hK, Option.bind_some]
  cases hc : ieq (jcheck g j) 0
  · rfl
  · obtain ⟨hg, p1, p2, p3, p4, p5, p6, p7, p8⟩ := jcheck_ok hc
    obtain ⟨g1, g2, _, _⟩ := gcheck_ok hg
    rw [cond_true, cond_true]
    cases h0 : ilt v 0
    · rw [Bool.false_or]
      cases hN : ile g.N v
      · have v0 := ilt_f.1 h0
        have v1 := ile_f.1 hN
        rw [cond_false, cond_false, cond_false, startS]
        rcases prog_cases j.Prog with q | q | q | q | q | q
        · rw [q, F143_1]
          simp only [Option.bind_some, cond_true, cond_false, af_1_1, af_1_3, af_1_2, af_1_4, af_1_5, af_1_0, af_3_1, af_3_3, af_3_2, af_3_4, af_3_5, af_3_0, af_2_1, af_2_3, af_2_2, af_2_4, af_2_5, af_2_0, af_4_1, af_4_3, af_4_2, af_4_4, af_4_5, af_4_0, af_5_1, af_5_3, af_5_2, af_5_4, af_5_5, af_5_0, af_0_1, af_0_3, af_0_2, af_0_4, af_0_5, af_0_0, F158]
          cases ieq v j.Source <;> rfl
        · rw [q, F143_2]
          simp only [Option.bind_some, cond_true, cond_false, af_1_1, af_1_3, af_1_2, af_1_4, af_1_5, af_1_0, af_3_1, af_3_3, af_3_2, af_3_4, af_3_5, af_3_0, af_2_1, af_2_3, af_2_2, af_2_4, af_2_5, af_2_0, af_4_1, af_4_3, af_4_2, af_4_4, af_4_5, af_4_0, af_5_1, af_5_3, af_5_2, af_5_4, af_5_5, af_5_0, af_0_1, af_0_3, af_0_2, af_0_4, af_0_5, af_0_0, F162]
          rfl
        · rw [q, F143_3]
          simp only [Option.bind_some, cond_true, cond_false, af_1_1, af_1_3, af_1_2, af_1_4, af_1_5, af_1_0, af_3_1, af_3_3, af_3_2, af_3_4, af_3_5, af_3_0, af_2_1, af_2_3, af_2_2, af_2_4, af_2_5, af_2_0, af_4_1, af_4_3, af_4_2, af_4_4, af_4_5, af_4_0, af_5_1, af_5_3, af_5_2, af_5_4, af_5_5, af_5_0, af_0_1, af_0_3, af_0_2, af_0_4, af_0_5, af_0_0, F158]
          cases ieq v j.Source <;> rfl
        · rw [q, F143_4]
          simp only [Option.bind_some, cond_true, cond_false, af_1_1, af_1_3, af_1_2, af_1_4, af_1_5, af_1_0, af_3_1, af_3_3, af_3_2, af_3_4, af_3_5, af_3_0, af_2_1, af_2_3, af_2_2, af_2_4, af_2_5, af_2_0, af_4_1, af_4_3, af_4_2, af_4_4, af_4_5, af_4_0, af_5_1, af_5_3, af_5_2, af_5_4, af_5_5, af_5_0, af_0_1, af_0_3, af_0_2, af_0_4, af_0_5, af_0_0, F164, (most_ok v0 (show v ≤ 1000 by omega)).1]
          rfl
        · rw [q, F143_5]
          simp only [Option.bind_some, cond_true, cond_false, af_1_1, af_1_3, af_1_2, af_1_4, af_1_5, af_1_0, af_3_1, af_3_3, af_3_2, af_3_4, af_3_5, af_3_0, af_2_1, af_2_3, af_2_2, af_2_4, af_2_5, af_2_0, af_4_1, af_4_3, af_4_2, af_4_4, af_4_5, af_4_0, af_5_1, af_5_3, af_5_2, af_5_4, af_5_5, af_5_0, af_0_1, af_0_3, af_0_2, af_0_4, af_0_5, af_0_0, F166]
          rfl
        · omega
      · rfl
    · rfl


/-! ### Sums -/
def fitsB (n : Int) : Bool := decide (-9223372036854775808 ≤ n) && decide (n ≤ 9223372036854775807)
theorem fitsB_iff {n : Int} : fitsB n = true ↔ i64 n := by simp [fitsB, i64]
theorem fitsB_f {n : Int} : fitsB n = false ↔ n < -9223372036854775808 ∨ 9223372036854775807 < n := by
  cases h : fitsB n
  · have : ¬ i64 n := fun q => by rw [fitsB_iff.2 q] at h; cases h
    unfold i64 at this
    simp only [true_iff]; omega
  · have := fitsB_iff.1 h
    unfold i64 at this
    simp only [Bool.true_eq_false, false_iff]; omega
def addS (a b : Int) : Int × Bool := bif fitsB (a + b) then (a + b, true) else (0, false)

theorem F145_spec (K : Nat) {a b : Int} (ha : i64 a) (hb : i64 b) : F145 K a b = some (addS a b) := by
  unfold i64 at ha hb
  rw [F145, addS]
  cases h1 : ilt 0 b
  · have b1 := ilt_f.1 h1
    cases h2 : ilt b 0
    · have b2 := ilt_f.1 h2
      have : b = 0 := by omega
      rw [fitsB_iff.2 (by unfold i64; omega), wadd_i64 (by unfold i64; omega)]; rfl
    · have b2 := ilt_iff.1 h2
      have ew : wsub .i64 (-9223372036854775808) b = -9223372036854775808 - b := by
        show IntKind.i64.wrap _ = _
        rw [IntKind.wrap_i64]; omega
      rw [cond_false, cond_true, ew]
      cases h3 : ilt a (-9223372036854775808 - b)
      · have := ilt_f.1 h3
        rw [fitsB_iff.2 (by unfold i64; omega), wadd_i64 (by unfold i64; omega)]; rfl
      · have := ilt_iff.1 h3
        rw [fitsB_f.2 (by omega)]; rfl
  · have b1 := ilt_iff.1 h1
    have ew : wsub .i64 9223372036854775807 b = 9223372036854775807 - b := by
      show IntKind.i64.wrap _ = _
      rw [IntKind.wrap_i64]; omega
    rw [cond_true, ew, ilt_f.2 (by omega : (0 : Int) ≤ b), cond_false]
    cases h3 : ilt (9223372036854775807 - b) a
    · have := ilt_f.1 h3
      rw [fitsB_iff.2 (by unfold i64; omega), wadd_i64 (by unfold i64; omega)]; rfl
    · have := ilt_iff.1 h3
      rw [fitsB_f.2 (by omega)]; rfl

theorem F144_spec (K : Nat) {a b : Int} (ha : i64 a) (hb : i64 b) : F144 K a b = some (addS a b) := by
  unfold i64 at ha hb
  have ew : wadd .i64 a b = bif fitsB (a + b) then a + b else bif ilt (a + b) 0 then a + b + 18446744073709551616 else a + b - 18446744073709551616 := by
    show IntKind.i64.wrap (a + b) = _
    rw [IntKind.wrap_i64]
    cases h : fitsB (a + b)
    · have := fitsB_f.1 h
      cases h2 : ilt (a + b) 0
      · have := ilt_f.1 h2; simp only [cond_false]; omega
      · have := ilt_iff.1 h2; simp only [cond_false, cond_true]; omega
    · have := fitsB_iff.1 h; unfold i64 at this; simp only [cond_true]; omega
  have eg : ∀ x : Int, ige x 0 = !(ilt x 0) := fun x => by
    unfold ige ilt
    by_cases h : x < 0 <;> simp [h] <;> omega
  rw [F144, addS, eg, eg, eg, ew]
  cases h : fitsB (a + b)
  · have h' := fitsB_f.1 h
    rcases h' with h' | h'
    · rw [ilt_iff.2 (by omega : a < 0), ilt_iff.2 (by omega : b < 0), ilt_iff.2 (by omega : a + b < 0)]
      simp only [cond_false, cond_true]
      rw [ilt_f.2 (by omega : 0 ≤ a + b + 18446744073709551616)]; rfl
    · rw [ilt_f.2 (by omega : 0 ≤ a), ilt_f.2 (by omega : 0 ≤ b), ilt_f.2 (by omega : 0 ≤ a + b)]
      simp only [cond_false, cond_true]
      rw [ilt_iff.2 (by omega : a + b - 18446744073709551616 < 0)]; rfl
  · simp only [cond_true]
    cases h1 : ilt a 0 <;> cases h2 : ilt b 0
    · rw [ilt_f.2 (by have := ilt_f.1 h1; have := ilt_f.1 h2; omega : 0 ≤ a + b)]; rfl
    · rfl
    · rfl
    · rw [ilt_iff.2 (by have := ilt_iff.1 h1; have := ilt_iff.1 h2; omega : a + b < 0)]; rfl

/-! ### Fold -/
def foldS (p a b : Int) : Int × Int := bif pbad p then (0, 1) else bif ieq p 5 then (bif (addS a b).2 then ((addS a b).1, 0) else (0, 8)) else bif ieq p 4 then (bif ilt a b then (b, 0) else (a, 0)) else bif ilt b a then (b, 0) else (a, 0)

theorem F98_spec (K : Nat) (p : Int) {a b : Int} (ha : i64 a) (hb : i64 b) : F98 K p a b = some (foldS p a b) := by
  rw [F98, F145_spec K ha hb, foldS, pbad]
  cases ilt p 1
  · cases ilt 5 p
    · cases ieq p 5
      · cases ieq p 4
        · simp only [Bool.or_false, cond_false]
          cases h1 : ilt a b <;> cases h2 : ilt b a
          · have := ilt_f.1 h1; have := ilt_f.1 h2
            have : a = b := by omega
            subst this; rfl
          · rfl
          · rfl
          · have := ilt_iff.1 h1; have := ilt_iff.1 h2; omega
        · simp only [Bool.or_false, cond_false, cond_true]
          cases h1 : ilt a b <;> cases h2 : ilt b a
          · have := ilt_f.1 h1; have := ilt_f.1 h2
            have : a = b := by omega
            subst this; rfl
          · rfl
          · rfl
          · have := ilt_iff.1 h1; have := ilt_iff.1 h2; omega
      · simp only [Bool.or_false, cond_false, cond_true, Option.bind_some]
        cases (addS a b).2 <;> rfl
    · rfl
  · rfl

theorem F97_spec (K : Nat) (p : Int) {a b : Int} (ha : i64 a) (hb : i64 b) : F97 K p a b = some (foldS p a b) := by
  rw [F97]
  rcases prog_cases p with q | q | q | q | q | q
  · subst q
    have e5 : ieq 1 5 = false := rfl
    have e4 : ieq 1 4 = false := rfl
    have eb : pbad 1 = false := rfl
    rw [F143_1, foldS, e5, e4, eb]
    simp only [Option.bind_some, cond_true, cond_false, af_1_1, af_1_3, af_1_2, af_1_4, af_1_5, af_1_0, af_3_1, af_3_3, af_3_2, af_3_4, af_3_5, af_3_0, af_2_1, af_2_3, af_2_2, af_2_4, af_2_5, af_2_0, af_4_1, af_4_3, af_4_2, af_4_4, af_4_5, af_4_0, af_5_1, af_5_3, af_5_2, af_5_4, af_5_5, af_5_0, af_0_1, af_0_3, af_0_2, af_0_4, af_0_5, af_0_0, F159]
    cases ilt b a <;> rfl
  · subst q
    have e5 : ieq 2 5 = false := rfl
    have e4 : ieq 2 4 = false := rfl
    have eb : pbad 2 = false := rfl
    rw [F143_2, foldS, e5, e4, eb]
    simp only [Option.bind_some, cond_true, cond_false, af_1_1, af_1_3, af_1_2, af_1_4, af_1_5, af_1_0, af_3_1, af_3_3, af_3_2, af_3_4, af_3_5, af_3_0, af_2_1, af_2_3, af_2_2, af_2_4, af_2_5, af_2_0, af_4_1, af_4_3, af_4_2, af_4_4, af_4_5, af_4_0, af_5_1, af_5_3, af_5_2, af_5_4, af_5_5, af_5_0, af_0_1, af_0_3, af_0_2, af_0_4, af_0_5, af_0_0, F159]
    cases ilt b a <;> rfl
  · subst q
    have e5 : ieq 3 5 = false := rfl
    have e4 : ieq 3 4 = false := rfl
    have eb : pbad 3 = false := rfl
    rw [F143_3, foldS, e5, e4, eb]
    simp only [Option.bind_some, cond_true, cond_false, af_1_1, af_1_3, af_1_2, af_1_4, af_1_5, af_1_0, af_3_1, af_3_3, af_3_2, af_3_4, af_3_5, af_3_0, af_2_1, af_2_3, af_2_2, af_2_4, af_2_5, af_2_0, af_4_1, af_4_3, af_4_2, af_4_4, af_4_5, af_4_0, af_5_1, af_5_3, af_5_2, af_5_4, af_5_5, af_5_0, af_0_1, af_0_3, af_0_2, af_0_4, af_0_5, af_0_0, F159]
    cases ilt b a <;> rfl
  · subst q
    have e5 : ieq 4 5 = false := rfl
    have e4 : ieq 4 4 = true := rfl
    have eb : pbad 4 = false := rfl
    rw [F143_4, foldS, e5, e4, eb]
    simp only [Option.bind_some, cond_true, cond_false, af_1_1, af_1_3, af_1_2, af_1_4, af_1_5, af_1_0, af_3_1, af_3_3, af_3_2, af_3_4, af_3_5, af_3_0, af_2_1, af_2_3, af_2_2, af_2_4, af_2_5, af_2_0, af_4_1, af_4_3, af_4_2, af_4_4, af_4_5, af_4_0, af_5_1, af_5_3, af_5_2, af_5_4, af_5_5, af_5_0, af_0_1, af_0_3, af_0_2, af_0_4, af_0_5, af_0_0, F165, igt]
    have : decide (b > a) = ilt a b := rfl
    rw [this]
    cases ilt a b <;> rfl
  · subst q
    have e5 : ieq 5 5 = true := rfl
    have e4 : ieq 5 4 = false := rfl
    have eb : pbad 5 = false := rfl
    rw [F143_5, foldS, e5, e4, eb]
    simp only [Option.bind_some, cond_true, cond_false, af_1_1, af_1_3, af_1_2, af_1_4, af_1_5, af_1_0, af_3_1, af_3_3, af_3_2, af_3_4, af_3_5, af_3_0, af_2_1, af_2_3, af_2_2, af_2_4, af_2_5, af_2_0, af_4_1, af_4_3, af_4_2, af_4_4, af_4_5, af_4_0, af_5_1, af_5_3, af_5_2, af_5_4, af_5_5, af_5_0, af_0_1, af_0_3, af_0_2, af_0_4, af_0_5, af_0_0, F144_spec K ha hb]
    cases (addS a b).2 <;> rfl
  · have eb : pbad p = true := by
      unfold pbad
      rcases q with q | q
      · rw [ilt_iff.2 q]; rfl
      · rw [ilt_iff.2 q, Bool.or_true]
    rw [F143_0 K q, foldS, eb]
    simp only [Option.bind_some, cond_true, cond_false, af_1_1, af_1_3, af_1_2, af_1_4, af_1_5, af_1_0, af_3_1, af_3_3, af_3_2, af_3_4, af_3_5, af_3_0, af_2_1, af_2_3, af_2_2, af_2_4, af_2_5, af_2_0, af_4_1, af_4_3, af_4_2, af_4_4, af_4_5, af_4_0, af_5_1, af_5_3, af_5_2, af_5_4, af_5_5, af_5_0, af_0_1, af_0_3, af_0_2, af_0_4, af_0_5, af_0_0]


theorem foldS_i64 {p a b : Int} (ha : i64 a) (hb : i64 b) : i64 (foldS p a b).1 := by
  have h0 : i64 0 := by unfold i64; omega
  rw [foldS]
  cases pbad p
  · cases ieq p 5
    · cases ieq p 4
      · simp only [cond_false]
        cases ilt b a
        · exact ha
        · exact hb
      · simp only [cond_false, cond_true]
        cases ilt a b
        · exact ha
        · exact hb
    · simp only [cond_false, cond_true]
      unfold addS
      cases h : fitsB (a + b)
      · exact h0
      · exact fitsB_iff.1 h
  · exact h0

theorem foldS_comm (p a b : Int) : foldS p a b = foldS p b a := by
  rw [foldS, foldS, addS, addS, Int.add_comm b a]
  cases pbad p
  · cases ieq p 5
    · simp only [cond_false]
      cases h1 : ilt a b <;> cases h2 : ilt b a
      · have := ilt_f.1 h1; have := ilt_f.1 h2
        have : a = b := by omega
        subst this; rfl
      · cases ieq p 4 <;> rfl
      · cases ieq p 4 <;> rfl
      · have := ilt_iff.1 h1; have := ilt_iff.1 h2; omega
    · rfl
  · rfl

/-- Grouping: as long as no sum is too great. -/
theorem foldS_assoc {p a b c : Int} (h1 : (foldS p a b).2 = 0) (h2 : (foldS p (foldS p a b).1 c).2 = 0) (h3 : (foldS p b c).2 = 0) : foldS p a (foldS p b c).1 = foldS p (foldS p a b).1 c := by
  cases hb : pbad p
  · cases h5 : ieq p 5
    · cases h4 : ieq p 4
      · have e : ∀ x y, foldS p x y = bif ilt y x then (y, 0) else (x, 0) := fun x y => by rw [foldS, hb, h5, h4]; rfl
        rw [e a b, e b c]
        cases q1 : ilt b a <;> cases q2 : ilt c b <;> simp only [cond_true, cond_false, e]
        · have := ilt_f.1 q1; have := ilt_f.1 q2
          rw [q1, ilt_f.2 (by omega : a ≤ c)]; rfl
        · rw [q1, q2]; rfl
        · have := ilt_iff.1 q1; have := ilt_iff.1 q2
          rw [q2, ilt_iff.2 (by omega : c < a)]; rfl
      · have e : ∀ x y, foldS p x y = bif ilt x y then (y, 0) else (x, 0) := fun x y => by rw [foldS, hb, h5, h4]; rfl
        rw [e a b, e b c]
        cases q1 : ilt a b <;> cases q2 : ilt b c <;> simp only [cond_true, cond_false, e]
        · have := ilt_f.1 q1; have := ilt_f.1 q2
          rw [q1, ilt_f.2 (by omega : c ≤ a)]; rfl
        · rw [q1, q2]; rfl
        · have := ilt_iff.1 q1; have := ilt_iff.1 q2
          rw [q2, ilt_iff.2 (by omega : a < c)]; rfl
    · have e : ∀ x y, foldS p x y = bif fitsB (x + y) then (x + y, 0) else (0, 8) := fun x y => by
        rw [foldS, hb, h5, addS]
        cases fitsB (x + y) <;> rfl
      rw [e a b] at h1 h2 ⊢
      rw [e b c] at h3 ⊢
      cases q1 : fitsB (a + b)
      · rw [q1] at h1; cases h1
      · cases q2 : fitsB (b + c)
        · rw [q2] at h3; cases h3
        · rw [q1] at h2
          simp only [cond_true, e] at h2 ⊢
          have : a + b + c = a + (b + c) := by omega
          rw [this]
  · rw [foldS, hb] at h1; cases h1


end Go.Proofs.Ytnjanliihnadjaa.Tm

/- Turn of programs: what the program and the reference compute. Conditions: none. -/
import Derived.Test.YtnjanliihnadjaaTa
import Derived.Test.YtnjanliihnadjaaGb
set_option linter.unusedVariables false
set_option linter.unusedSimpArgs false
namespace Go.Proofs.Ytnjanliihnadjaa.Tm
open Go

def sendS (p val : Int) (e : GEdge) (many : Int) : Int × Bool := bif ieq p 1 then addS val e.W else bif ieq p 3 then addS val 1 else bif ieq p 5 then ratioS val 1 many else (val, true)
def sendA (p val many : Int) : List GEdge → List GMsg → Option (List GMsg)
  | [], s => some s
  | e :: l, s => bif (sendS p val e many).2 then sendA p val many l (s ++ [GMsg.mk e.To (sendS p val e many).1]) else none
def sumO {α : Type} : Option α → Unit ⊕ α
  | none => .inl ()
  | some s => .inr s
def sendO (rest : Bool) (val : Int) : Option (List GMsg) → Int × List GMsg × Bool × Int
  | none => (0, [], false, 8)
  | some s => (val, s, rest, 0)
theorem sum_elim (rest : Bool) (val : Int) (o : Option (List GMsg)) : (some (sumO o)).bind (fun y => Sum.elim (fun w => some ((0, ([], (false, 8))) : Int × List GMsg × Bool × Int)) (fun w => some (val, (w, (rest, 0)))) y) = some (sendO rest val o) := by
  cases o <;> rfl

theorem sum_elim' (rest : Bool) (val : Int) (o : Option (List GMsg)) : Sum.elim (fun w => some ((0, ([], (false, 8))) : Int × List GMsg × Bool × Int)) (fun w => some (val, (w, (rest, 0)))) (sumO o) = some (sendO rest val o) := by
  cases o <;> rfl

theorem send_go (p val many : Int) (f : GEdge → Option (Int × Bool)) (l : List GEdge) (hf : ∀ e ∈ l, f e = some (sendS p val e many)) : ∀ (s : List GMsg), s.length + l.length ≤ 80 →
    goL (fun e (s : List GMsg) c => (f e).bind fun r => bif r.2 then (bif (apok (len s) 1 16) then c (appL s [(GMsg.mk e.To r.1)]) else none) else some (.inl ())) (fun s => some (.inr s)) l s = some (sumO (sendA p val many l s)) := by
  induction l with
  | nil => intro s _; rfl
  | cons x l ih =>
    intro s hs
    simp only [List.length_cons] at hs
    rw [goL, hf x List.mem_cons_self, Option.bind_some, sendA]
    cases (sendS p val x many).2
    · rfl
    · have ha : apok (len s) 1 16 = true := decide_eq_true ⟨by show s.length + 1 ≤ _; omega, by show (s.length + 1) * 16 ≤ _; omega⟩
      rw [cond_true, ha, cond_true, ih (fun e he => hf e (List.mem_cons_of_mem _ he)) _ (by simp [appL]; omega), cond_true]; rfl

theorem outs_W {g : GGraph} {v : Int} {e : GEdge} (h : e ∈ outs g v) : 0 ≤ e.W ∧ e.W ≤ 4611686018427387904 := by
  rw [outs] at h
  cases hc : ieq (gcheck g) 0
  · rw [hc] at h; cases h
  · obtain ⟨h1, h2, h3, h4⟩ := gcheck_ok hc
    rw [hc] at h
    have := badE_ok (gchk_mem h4 e (List.mem_filter.1 h).1)
    omega

theorem F160_spec (K : Nat) {val : Int} {e : GEdge} (many : Int) (hv : i64 val) (he : i64 e.W) : F160 K val e = some (sendS 1 val e many) := by
  rw [F160, F144_spec K hv he]; rfl
theorem F161_spec (K : Nat) {val : Int} (e : GEdge) (many : Int) (hv : i64 val) : F161 K val e = some (sendS 3 val e many) := by
  rw [F161, F144_spec K hv (by unfold i64; omega)]; rfl
theorem F148_spec (K : Nat) (p : Int) {val many : Int} {e : GEdge} (hv : i64 val) (he : i64 e.W) : F148 K p val e many = some (sendS p val e many) := by
  rw [F148, sendS, F145_spec K hv he, F145_spec K hv (show i64 1 by unfold i64; omega), F168_spec K many hv (show (1 : Int) ≤ 1 by omega) (show (1 : Int) ≤ 1000 by omega)]
  cases ieq p 1 <;> cases ieq p 3 <;> cases ieq p 5 <;> rfl

def manyO (g : GGraph) (v : Int) : Int := nlen (len (outs g v))
section loops
variable {K : Nat} (hK : 100 ≤ K) (g : GGraph) (v : Int) {val : Int} (hv : i64 val)
include hK hv
theorem loop99_0 (b : Bool) : F99_l0_0 K val b (outs g v) K [] 0 = some (sumO (sendA 1 val (manyO g v) (outs g v) [])) := by
  have hl := outs_len (g := g) (v := v)
  have e := scanL (l := outs g v) (L := fun k s i => F99_l0_0 K val b (outs g v) k s i) (fun e (s : List GMsg) c => (F160 K val e).bind fun r => bif r.2 then (bif (apok (len s) 1 16) then c (appL s [(GMsg.mk e.To r.1)]) else none) else some (.inl ())) (fun s => some (.inr s)) (fun k s i _ => rfl) (K := K) (by omega) (by omega) []
  exact e.trans (send_go 1 val (manyO g v) (F160 K val) _ (fun e he => F160_spec K _ hv (by have := outs_W he; unfold i64; omega)) [] (by simpa using hl))
theorem loop99_1 (b : Bool) : F99_l0_1 K val b (outs g v) K [] 0 = some (sumO (sendA 3 val (manyO g v) (outs g v) [])) := by
  have hl := outs_len (g := g) (v := v)
  have e := scanL (l := outs g v) (L := fun k s i => F99_l0_1 K val b (outs g v) k s i) (fun e (s : List GMsg) c => (F161 K val e).bind fun r => bif r.2 then (bif (apok (len s) 1 16) then c (appL s [(GMsg.mk e.To r.1)]) else none) else some (.inl ())) (fun s => some (.inr s)) (fun k s i _ => rfl) (K := K) (by omega) (by omega) []
  exact e.trans (send_go 3 val (manyO g v) (F161 K val) _ (fun e he => F161_spec K e _ hv) [] (by simpa using hl))
omit hv in
theorem loop99_2 (val : Int) (b : Bool) : F99_l0_2 K val b (outs g v) K [] 0 = some (sumO (sendA 2 val (manyO g v) (outs g v) [])) := by
  have hl := outs_len (g := g) (v := v)
  have e := scanL (l := outs g v) (L := fun k s i => F99_l0_2 K val b (outs g v) k s i) (fun e (s : List GMsg) c => (F163 K val e).bind fun r => bif r.2 then (bif (apok (len s) 1 16) then c (appL s [(GMsg.mk e.To r.1)]) else none) else some (.inl ())) (fun s => some (.inr s)) (fun k s i _ => rfl) (K := K) (by omega) (by omega) []
  exact e.trans (send_go 2 val (manyO g v) (F163 K val) _ (fun e he => rfl) [] (by simpa using hl))
omit hv in
theorem loop99_3 (val : Int) (b : Bool) : F99_l0_3 K val b (outs g v) K [] 0 = some (sumO (sendA 4 val (manyO g v) (outs g v) [])) := by
  have hl := outs_len (g := g) (v := v)
  have e := scanL (l := outs g v) (L := fun k s i => F99_l0_3 K val b (outs g v) k s i) (fun e (s : List GMsg) c => (F163 K val e).bind fun r => bif r.2 then (bif (apok (len s) 1 16) then c (appL s [(GMsg.mk e.To r.1)]) else none) else some (.inl ())) (fun s => some (.inr s)) (fun k s i _ => rfl) (K := K) (by omega) (by omega) []
  exact e.trans (send_go 4 val (manyO g v) (F163 K val) _ (fun e he => rfl) [] (by simpa using hl))
theorem loop146 : F146_l0_0 K (outs g v) val K [] 0 = some (sumO (sendA 5 val (manyO g v) (outs g v) [])) := by
  have hl := outs_len (g := g) (v := v)
  have e := scanL (l := outs g v) (L := fun k s i => F146_l0_0 K (outs g v) val k s i) (fun e (s : List GMsg) c => (F167 K val 1 (nlen (len (outs g v)))).bind fun r => bif r.2 then (bif (apok (len s) 1 16) then c (appL s [(GMsg.mk e.To r.1)]) else none) else some (.inl ())) (fun s => some (.inr s)) (fun k s i _ => rfl) (K := K) (by omega) (by omega) []
  exact e.trans (send_go 5 val (manyO g v) (fun _ => F167 K val 1 (nlen (len (outs g v)))) _ (fun e he => F167_spec K _ hv (by omega) (by omega)) [] (by simpa using hl))
theorem loop100_1 (p a b c : Int) : F100_l0_1 K val p a b c (outs g v) K [] 0 = some (sumO (sendA p val (manyO g v) (outs g v) [])) := by
  have hl := outs_len (g := g) (v := v)
  have e := scanL (l := outs g v) (L := fun k s i => F100_l0_1 K val p a b c (outs g v) k s i) (fun e (s : List GMsg) c => (F148 K p val e (nlen (len (outs g v)))).bind fun r => bif r.2 then (bif (apok (len s) 1 16) then c (appL s [(GMsg.mk e.To r.1)]) else none) else some (.inl ())) (fun s => some (.inr s)) (fun k s i _ => rfl) (K := K) (by omega) (by omega) []
  exact e.trans (send_go p val (manyO g v) (fun e => F148 K p val e (nlen (len (outs g v)))) _ (fun e he => F148_spec K p hv (by have := outs_W he; unfold i64; omega)) [] (by simpa using hl))
theorem loop100_0 (p a b c : Int) (m : Bool) : F100_l0_0 K val p a b c m (outs g v) K [] 0 = some (bif m then sumO (sendA p val (manyO g v) (outs g v) []) else .inr []) := by
  have hl := outs_len (g := g) (v := v)
  cases m
  · obtain ⟨k, rfl⟩ : ∃ k, K = k + 1 := ⟨K - 1, by omega⟩
    rw [F100_l0_0]
    cases ilt 0 (nlen (len (outs g v))) <;> rfl
  · have e := scanL (l := outs g v) (L := fun k s i => F100_l0_0 K val p a b c true (outs g v) k s i) (fun e (s : List GMsg) c => (F148 K p val e (nlen (len (outs g v)))).bind fun r => bif r.2 then (bif (apok (len s) 1 16) then c (appL s [(GMsg.mk e.To r.1)]) else none) else some (.inl ())) (fun s => some (.inr s)) (fun k s i _ => rfl) (K := K) (by omega) (by omega) []
    exact e.trans (send_go p val (manyO g v) (fun e => F148 K p val e (nlen (len (outs g v)))) _ (fun e he => F148_spec K p hv (by have := outs_W he; unfold i64; omega)) [] (by simpa using hl))
theorem loop100_2 (p a b c : Int) (m : Bool) : F100_l0_2 K val p a b c m (outs g v) K [] 0 = some (bif m then sumO (sendA p val (manyO g v) (outs g v) []) else .inr []) := by
  have hl := outs_len (g := g) (v := v)
  cases m
  · obtain ⟨k, rfl⟩ : ∃ k, K = k + 1 := ⟨K - 1, by omega⟩
    rw [F100_l0_2]
    cases ilt 0 (nlen (len (outs g v))) <;> rfl
  · have e := scanL (l := outs g v) (L := fun k s i => F100_l0_2 K val p a b c true (outs g v) k s i) (fun e (s : List GMsg) c => (F148 K p val e (nlen (len (outs g v)))).bind fun r => bif r.2 then (bif (apok (len s) 1 16) then c (appL s [(GMsg.mk e.To r.1)]) else none) else some (.inl ())) (fun s => some (.inr s)) (fun k s i _ => rfl) (K := K) (by omega) (by omega) []
    exact e.trans (send_go p val (manyO g v) (fun e => F148 K p val e (nlen (len (outs g v)))) _ (fun e he => F148_spec K p hv (by have := outs_W he; unfold i64; omega)) [] (by simpa using hl))
omit hv in
theorem loop100_3 (val p a b c : Int) : F100_l0_3 K val p a b c (outs g v) K [] 0 = some (.inl []) := by
  obtain ⟨k, rfl⟩ : ∃ k, K = k + 1 := ⟨K - 1, by omega⟩
  rw [F100_l0_3, ieq_refl]
  cases ilt 0 (nlen (len (outs g v))) <;> rfl
end loops

/-! ### Turn -/
def rankW (step val got : Int) (sm : Bool) : Int × Bool := bif ilt 0 step then sumS (bif sm then got else 0) else (val, true)
def rankS (step : Int) (w : Int × Bool) (many : Int) (l : List GEdge) : Int × List GMsg × Bool × Int :=
  bif w.2 then (bif ile 10 step then (w.1, [], true, 0) else sendO false w.1 (sendA 5 w.1 many l [])) else (0, [], false, 8)
def turnV (p val got : Int) (sm : Bool) : Int := bif sm then (foldS p val got).1 else val
def turnM (p src step v val w : Int) : Bool := bif ieq step 0 && (bif ieq p 1 || ieq p 3 then ieq v src else true) then true else ine w val
def moveS (p : Int) (m : Bool) (w many : Int) (l : List GEdge) : Int × List GMsg × Bool × Int :=
  bif m then sendO true w (sendA p w many l []) else (w, [], true, 0)
def turnS (g : GGraph) (j : GJob) (step v val got : Int) (sm : Bool) : Int × List GMsg × Bool × Int :=
  bif ieq (jcheck g j) 0 then
    (bif ilt v 0 then (0, [], false, 4) else bif ile g.N v then (0, [], false, 4)
     else bif ilt step 0 then (0, [], false, 1) else bif ilt 40 step then (0, [], false, 1)
     else bif ieq j.Prog 5 then rankS step (rankW step val got sm) (manyO g v) (outs g v)
     else moveS j.Prog (turnM j.Prog j.Source step v val (turnV j.Prog val got sm)) (turnV j.Prog val got sm) (manyO g v) (outs g v))
  else (0, [], false, jcheck g j)

theorem F146_spec {K : Nat} (hK : 100 ≤ K) (g : GGraph) (v step : Int) {val got : Int} (hv : i64 val) (hg : i64 got) : F146 K (outs g v) step val got = some (rankS step (rankW step val got true) (manyO g v) (outs g v)) := by
  rw [F146, F167_spec K 100 hg (by omega) (by omega), Option.bind_some, F144_spec K (by unfold i64; omega) ratioS_i64, rankW, rankS]
  cases hs : ilt 0 step
  · rw [loop146 hK g v hv, sum_elim]
    cases ile 10 step <;> rfl
  · rw [cond_true, cond_true, Option.bind_some, cond_true, sumS]
    cases (ratioS got 85 100).2
    · rfl
    · cases h2 : (addS 150000 (ratioS got 85 100).1).2
      · rw [cond_true, cond_true, h2]; rfl
      · rw [cond_true, cond_true, cond_true, h2, cond_true, loop146 hK g v addS_i64, sum_elim]
        cases ile 10 step <;> rfl

theorem F99_spec {K : Nat} (hK : 100 ≤ K) (g : GGraph) (j : GJob) (step v : Int) {val got : Int} (sm : Bool) (hv : i64 val) (hg : i64 got) : F99 K g j step v val got sm = some (turnS g j step v val got sm) := by
  rw [F99, F94_spec hK, Option.bind_some, turnS]
  cases hc : ieq (jcheck g j) 0
  · rfl
  · obtain ⟨hgc, p1, p2, p3, p4, p5, p6, p7, p8⟩ := jcheck_ok hc
    rw [cond_true, cond_true]
    cases h1 : ilt v 0
    · cases h2 : ile g.N v
      · cases h3 : ilt step 0
        · cases h4 : ilt 40 step
          · simp only [cond_false]
            rcases prog_cases j.Prog with q | q | q | q | q | q
            · have e5 : ieq 1 5 = false := rfl
              have e4 : ieq 1 4 = false := rfl
              have e1 : ieq 1 1 = true := rfl
              have e3 : ieq 1 3 = false := rfl
              have eb : pbad 1 = false := rfl
              rw [F68_spec hK, q, F143_1, turnM, turnV, foldS, e5, e4, e1, e3, eb, moveS]
              simp only [Option.bind_some, cond_true, cond_false, af_1_1, af_1_3, af_1_2, af_1_4, af_1_5, af_1_0, af_3_1, af_3_3, af_3_2, af_3_4, af_3_5, af_3_0, af_2_1, af_2_3, af_2_2, af_2_4, af_2_5, af_2_0, af_4_1, af_4_3, af_4_2, af_4_4, af_4_5, af_4_0, af_5_1, af_5_3, af_5_2, af_5_4, af_5_5, af_5_0, af_0_1, af_0_3, af_0_2, af_0_4, af_0_5, af_0_0, loop99_0 hK g v hv, loop99_0 hK g v hg, F159, sum_elim', Bool.or_true, Bool.true_or, Bool.or_false, Bool.and_true]
              cases sm
              · have : ine val val = false := ine_t (ieq_refl val)
                simp only [cond_false, this]
                cases ieq step 0 <;> cases ieq v j.Source <;> rfl
              · cases hb : ilt got val
                · have : ine val val = false := ine_t (ieq_refl val)
                  simp only [cond_true, cond_false, this]
                  cases ieq step 0 <;> cases ieq v j.Source <;> rfl
                · have : ine got val = true := ine_f (ieq_f.2 (by have := ilt_iff.1 hb; omega))
                  simp only [cond_true, cond_false, this]
                  cases ieq step 0 <;> cases ieq v j.Source <;> rfl
            · have e5 : ieq 2 5 = false := rfl
              have e4 : ieq 2 4 = false := rfl
              have e1 : ieq 2 1 = false := rfl
              have e3 : ieq 2 3 = false := rfl
              have eb : pbad 2 = false := rfl
              rw [F68_spec hK, q, F143_2, turnM, turnV, foldS, e5, e4, e1, e3, eb, moveS]
              simp only [Option.bind_some, cond_true, cond_false, af_1_1, af_1_3, af_1_2, af_1_4, af_1_5, af_1_0, af_3_1, af_3_3, af_3_2, af_3_4, af_3_5, af_3_0, af_2_1, af_2_3, af_2_2, af_2_4, af_2_5, af_2_0, af_4_1, af_4_3, af_4_2, af_4_4, af_4_5, af_4_0, af_5_1, af_5_3, af_5_2, af_5_4, af_5_5, af_5_0, af_0_1, af_0_3, af_0_2, af_0_4, af_0_5, af_0_0, loop99_2 hK g v val, loop99_2 hK g v got, F159, sum_elim', Bool.or_true, Bool.true_or, Bool.or_false, Bool.and_true]
              cases sm
              · have : ine val val = false := ine_t (ieq_refl val)
                simp only [cond_false, this]
                cases ieq step 0 <;> rfl
              · cases hb : ilt got val
                · have : ine val val = false := ine_t (ieq_refl val)
                  simp only [cond_true, cond_false, this]
                  cases ieq step 0 <;> rfl
                · have : ine got val = true := ine_f (ieq_f.2 (by have := ilt_iff.1 hb; omega))
                  simp only [cond_true, cond_false, this]
                  cases ieq step 0 <;> rfl
            · have e5 : ieq 3 5 = false := rfl
              have e4 : ieq 3 4 = false := rfl
              have e1 : ieq 3 1 = false := rfl
              have e3 : ieq 3 3 = true := rfl
              have eb : pbad 3 = false := rfl
              rw [F68_spec hK, q, F143_3, turnM, turnV, foldS, e5, e4, e1, e3, eb, moveS]
              simp only [Option.bind_some, cond_true, cond_false, af_1_1, af_1_3, af_1_2, af_1_4, af_1_5, af_1_0, af_3_1, af_3_3, af_3_2, af_3_4, af_3_5, af_3_0, af_2_1, af_2_3, af_2_2, af_2_4, af_2_5, af_2_0, af_4_1, af_4_3, af_4_2, af_4_4, af_4_5, af_4_0, af_5_1, af_5_3, af_5_2, af_5_4, af_5_5, af_5_0, af_0_1, af_0_3, af_0_2, af_0_4, af_0_5, af_0_0, loop99_1 hK g v hv, loop99_1 hK g v hg, F159, sum_elim', Bool.or_true, Bool.true_or, Bool.or_false, Bool.and_true]
              cases sm
              · have : ine val val = false := ine_t (ieq_refl val)
                simp only [cond_false, this]
                cases ieq step 0 <;> cases ieq v j.Source <;> rfl
              · cases hb : ilt got val
                · have : ine val val = false := ine_t (ieq_refl val)
                  simp only [cond_true, cond_false, this]
                  cases ieq step 0 <;> cases ieq v j.Source <;> rfl
                · have : ine got val = true := ine_f (ieq_f.2 (by have := ilt_iff.1 hb; omega))
                  simp only [cond_true, cond_false, this]
                  cases ieq step 0 <;> cases ieq v j.Source <;> rfl
            · have e5 : ieq 4 5 = false := rfl
              have e4 : ieq 4 4 = true := rfl
              have e1 : ieq 4 1 = false := rfl
              have e3 : ieq 4 3 = false := rfl
              have eb : pbad 4 = false := rfl
              rw [F68_spec hK, q, F143_4, turnM, turnV, foldS, e5, e4, e1, e3, eb, moveS]
              simp only [Option.bind_some, cond_true, cond_false, af_1_1, af_1_3, af_1_2, af_1_4, af_1_5, af_1_0, af_3_1, af_3_3, af_3_2, af_3_4, af_3_5, af_3_0, af_2_1, af_2_3, af_2_2, af_2_4, af_2_5, af_2_0, af_4_1, af_4_3, af_4_2, af_4_4, af_4_5, af_4_0, af_5_1, af_5_3, af_5_2, af_5_4, af_5_5, af_5_0, af_0_1, af_0_3, af_0_2, af_0_4, af_0_5, af_0_0, loop99_3 hK g v val, loop99_3 hK g v got, F165, igt, sum_elim', Bool.or_true, Bool.true_or, Bool.or_false, Bool.and_true]
              have hd : decide (got > val) = ilt val got := rfl
              rw [hd]
              cases sm
              · have : ine val val = false := ine_t (ieq_refl val)
                simp only [cond_false, this]
                cases ieq step 0 <;> rfl
              · cases hb : ilt val got
                · have : ine val val = false := ine_t (ieq_refl val)
                  simp only [cond_true, cond_false, this]
                  cases ieq step 0 <;> rfl
                · have : ine got val = true := ine_f (ieq_f.2 (by have := ilt_iff.1 hb; omega))
                  simp only [cond_true, cond_false, this]
                  cases ieq step 0 <;> rfl
            · have e5 : ieq 5 5 = true := rfl
              rw [F68_spec hK, q, F143_5, e5]
              simp only [Option.bind_some, cond_true, cond_false, af_1_1, af_1_3, af_1_2, af_1_4, af_1_5, af_1_0, af_3_1, af_3_3, af_3_2, af_3_4, af_3_5, af_3_0, af_2_1, af_2_3, af_2_2, af_2_4, af_2_5, af_2_0, af_4_1, af_4_3, af_4_2, af_4_4, af_4_5, af_4_0, af_5_1, af_5_3, af_5_2, af_5_4, af_5_5, af_5_0, af_0_1, af_0_3, af_0_2, af_0_4, af_0_5, af_0_0, F146_spec hK g v step hv hg, F146_spec hK g v step hv (show i64 0 by unfold i64; omega)]
              cases sm <;> rfl
            · omega
          · rfl
        · rfl
      · rfl
    · rfl

end Go.Proofs.Ytnjanliihnadjaa.Tm

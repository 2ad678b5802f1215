/- The plain law of SeqBegins: the state that a job begins with. Conditions: none. -/
import Derived.Test.YtnjanliihnadjaaVa
import Derived.Test.YtnjanliihnadjaaRf
import Derived.Test.YtnjanliihnadjaaJb
import Derived.Test.YtnjanliihnadjaaFVb
import Derived.Test.YtnjanliihnadjaaFXa
import Derived.Test.YtnjanliihnadjaaFL29
set_option linter.unusedVariables false
set_option linter.unusedSimpArgs false
namespace Go.Proofs.Ytnjanliihnadjaa.Tm
open Go

def beginS (g : GGraph) (j : GJob) : GState := GState.mk 0 ((List.range g.N.toNat).map fun (v : Nat) => startS j (v : Int)) (List.replicate g.N.toNat false) []

theorem F107_spec {K : Nat} (hK : 1000 ≤ K) (g : GGraph) (j : GJob) : F107 K g j = some (bif ieq (jcheck g j) 0 then (beginS g j, 0) else (GState.mk 0 [] [] [], jcheck g j)) := by
  rw [F107, F94_spec (by omega), Option.bind_some]
  cases hc : ieq (jcheck g j) 0
  · rfl
  · obtain ⟨hg, p1, p2, p3, p4, p5, p6, p7, p8⟩ := jcheck_ok hc
    obtain ⟨g1, g2, _, _⟩ := gcheck_ok hg
    have hmk : mkok g.N g.N 1 = true := by simp [mkok]; omega
    let step : Nat → List Int → (List Int → Option (List Int)) → Option (List Int) := fun i s c => (F95 K g j (i : Int)).bind fun r => bif (apok (len s) 1 8) then c (appL s [r.1]) else none
    have h := scanN (N := g.N) (L := fun k s i => F107_l0_0 K g j k s i) step (fun s => some s) (fun k s i _ => rfl) (by omega) (K := K) (by omega) []
    have hw : ∀ (l : List Nat) (s : List Int), s.length + l.length ≤ 1000 → (∀ v ∈ l, (v : Int) < g.N) → goL step (fun s => some s) l s = some (s ++ l.map fun (v : Nat) => startS j (v : Int)) := by
      intro l
      induction l with
      | nil => intro s _ _; simp [goL]
      | cons v l ih =>
        intro s hs hm
        simp only [List.length_cons] at hs
        have hv := hm v List.mem_cons_self
        rw [goL]
        show ((F95 K g j (v : Int)).bind fun r => bif (apok (len s) 1 8) then goL step (fun s => some s) l (appL s [r.1]) else none) = _
        have ha : apok (len s) 1 8 = true := decide_eq_true ⟨by show s.length + 1 ≤ _; omega, by show (s.length + 1) * 8 ≤ _; omega⟩
        rw [F95_spec (by omega), hc, ilt_f.2 (by omega : (0 : Int) ≤ (v : Int)), ile_f.2 (by omega : (v : Int) < g.N), Option.bind_some, ha]
        simp only [cond_true, cond_false, Bool.or_false]
        rw [ih _ (by simp [appL]; omega) (fun w hw => hm w (List.mem_cons_of_mem _ hw))]
        simp [appL]
    have h' : F107_l0_0 K g j K [] 0 = some ((List.range g.N.toNat).map fun (v : Nat) => startS j (v : Int)) := by
      rw [show F107_l0_0 K g j K [] 0 = _ from h, hw _ [] (by simp; omega) (fun v hv => by have := List.mem_range.1 hv; omega)]; simp
    rw [cond_true, hmk, cond_true, h', Option.bind_some]; rfl

theorem F108_spec {K : Nat} (hK : 1000 ≤ K) (g : GGraph) (j : GJob) (hn : 0 ≤ g.N) (hn2 : g.N ≤ 24) : F108 K g j = some (beginS g j) := by
  rw [F108]
  let step : Nat → (List Int × List Bool) → ((List Int × List Bool) → Option (List Int × List Bool)) → Option (List Int × List Bool) := fun i s c => (F96 K j (i : Int)).bind fun r => bif (apok (len s.1) 1 8) then bif (apok (len s.2) 1 1) then c (appL s.1 [r], appL s.2 [false]) else none else none
  have h := scanN (N := g.N) (L := fun k (s : List Int × List Bool) i => F108_l0_0 K g j k s.1 s.2 i) step (fun s => some s) (fun k s i _ => rfl) (by omega) (K := K) (by omega) ([], [])
  have hw : ∀ (l : List Nat) (s : List Int × List Bool), s.1.length + l.length ≤ 1000 → s.2.length + l.length ≤ 1000 → (∀ v ∈ l, (v : Int) < g.N) → goL step (fun s => some s) l s = some (s.1 ++ (l.map fun (v : Nat) => startS j (v : Int)), s.2 ++ List.replicate l.length false) := by
    intro l
    induction l with
    | nil => intro s _ _ _; simp [goL]
    | cons v l ih =>
      intro s hs hs2 hm
      simp only [List.length_cons] at hs hs2
      have hv := hm v List.mem_cons_self
      rw [goL]
      show ((F96 K j (v : Int)).bind fun r => bif (apok (len s.1) 1 8) then bif (apok (len s.2) 1 1) then goL step (fun s => some s) l (appL s.1 [r], appL s.2 [false]) else none else none) = _
      have ha : apok (len s.1) 1 8 = true := decide_eq_true ⟨by show s.1.length + 1 ≤ _; omega, by show (s.1.length + 1) * 8 ≤ _; omega⟩
      have hb : apok (len s.2) 1 1 = true := decide_eq_true ⟨by show s.2.length + 1 ≤ _; omega, by show (s.2.length + 1) * 1 ≤ _; omega⟩
      rw [F96_spec K j (by omega) (by omega), Option.bind_some, ha, hb, cond_true, cond_true, ih _ (by simp [appL]; omega) (by simp [appL]; omega) (fun w hw => hm w (List.mem_cons_of_mem _ hw))]
      simp [appL, List.replicate_succ]
  have h' : F108_l0_0 K g j K [] [] 0 = some ((List.range g.N.toNat).map (fun (v : Nat) => startS j (v : Int)), List.replicate g.N.toNat false) := by
    rw [show F108_l0_0 K g j K [] [] 0 = _ from h, hw _ ([], []) (by simp; omega) (by simp; omega) (fun v hv => by have := List.mem_range.1 hv; omega)]; simp
  rw [h', Option.bind_some]; rfl

theorem law29 (g : GGraph) (j : GJob) (_ : WGGraph g) (_ : WGJob j) : F29 1000 g j = some true := by
  generalize hq : 1000 = K
  have hK : 1000 ≤ K := by omega
  rw [F29, F101, F107_spec hK, F59_spec (by omega), Option.bind_some]
  cases igt (nlen (len g.Edges)) 200
  · rw [cond_false, Option.bind_some, Option.bind_some]
    cases hc : ieq (jcheck g j) 0
    · simp only [cond_false, ieq_refl, cond_true, same87 (K := K) (GState.mk 0 [] [] []) (by refine ⟨⟨?_, ?_⟩, ⟨?_, ?_⟩, ?_, ?_⟩ <;> simp <;> omega), Option.bind_some]
    · obtain ⟨hg, _⟩ := jcheck_ok hc
      obtain ⟨g1, g2, _, _⟩ := gcheck_ok hg
      simp only [cond_true, ieq_refl, F108_spec hK g j (by omega) g2, Option.bind_some, same87 (K := K) (beginS g j) (by refine ⟨⟨?_, ?_⟩, ⟨?_, ?_⟩, ?_, ?_⟩ <;> simp [beginS] <;> omega)]
  · rfl
end Go.Proofs.Ytnjanliihnadjaa.Tm

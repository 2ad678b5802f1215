/- The plain laws of GraphChecks and GraphOuts. Conditions: none. -/
import Derived.Test.YtnjanliihnadjaaGa
import Derived.Test.YtnjanliihnadjaaFO
import Derived.Test.YtnjanliihnadjaaWf
set_option linter.unusedVariables false
namespace Go.Proofs.Ytnjanliihnadjaa.Tm
open Go


def outs (g : GGraph) (v : Int) : List GEdge := bif ieq (gcheck g) 0 then g.Edges.filter (fun e => ieq e.From v) else []

theorem out_go (l : List GEdge) (v : Int) : ∀ (s : List GEdge), s.length + l.length ≤ 80 →
    goL (fun x (s : List GEdge) c => bif (ieq x.From v) then (bif (apok (len s) 1 24) then c (appL s [x]) else none) else c s) (fun s => some s) l s = some (s ++ l.filter (fun e => ieq e.From v)) := by
  induction l with
  | nil => intro s _; simp [goL]
  | cons x l ih =>
    intro s hs
    simp only [List.length_cons] at hs
    rw [goL]
    cases hx : ieq x.From v
    · rw [cond_false, ih s (by omega), List.filter_cons, hx]; rfl
    · have ha : apok (len s) 1 24 = true := decide_eq_true ⟨by show s.length + 1 ≤ _; omega, by show (s.length + 1) * 24 ≤ _; omega⟩
      rw [cond_true, ha, cond_true, ih _ (by simp [appL]; omega), List.filter_cons, hx]
      simp [appL]

theorem F68_spec {K : Nat} (hK : 100 ≤ K) (g : GGraph) (v : Int) : F68 K g v = some (outs g v) := by
  rw [F68, F64_spec hK, Option.bind_some, outs]
  cases hc : ieq (gcheck g) 0
  · rfl
  · obtain ⟨h1, h2, h3, h4⟩ := gcheck_ok hc
    have e : F68_l0_0 K g v K [] 0 = _ := scanL (l := g.Edges) (L := fun k s i => F68_l0_0 K g v k s i) (fun x (s : List GEdge) c => bif (ieq x.From v) then (bif (apok (len s) 1 24) then c (appL s [x]) else none) else c s) (fun s => some s) (fun k s i _ => rfl) (by omega) (by omega) []
    rw [cond_true, cond_true, e, out_go _ _ _ (by simpa using h3)]; rfl

theorem F69_spec {K : Nat} (hK : 100 ≤ K) (g : GGraph) (v : Int) : F69 K g v = some (outs g v) := by
  rw [F69, F65_spec hK, Option.bind_some, outs]
  cases hc : ieq (gcheck g) 0
  · rfl
  · obtain ⟨h1, h2, h3, h4⟩ := gcheck_ok hc
    have e : F69_l0_0 K g v K [] 0 = _ := scanL (l := g.Edges) (L := fun k s i => F69_l0_0 K g v k s i) (fun x (s : List GEdge) c => bif (ieq x.From v) then (bif (apok (len s) 1 24) then c (appL s [x]) else none) else c s) (fun s => some s) (fun k s i _ => rfl) (by omega) (by omega) []
    rw [cond_true, cond_true, e, out_go _ _ _ (by simpa using h3)]; rfl

theorem outs_len {g : GGraph} {v : Int} : (outs g v).length ≤ 80 := by
  rw [outs]
  cases hc : ieq (gcheck g) 0
  · simp
  · obtain ⟨h1, h2, h3, h4⟩ := gcheck_ok hc
    exact Nat.le_trans (List.length_filter_le _ _) h3

theorem F70_self {K : Nat} (n : Int) (l : List GEdge) (hK : l.length < K) (hl : l.length < 4611686018427387904) : F70 K (GGraph.mk n l) (GGraph.mk n l) = some true := by
  let step : Nat → GEdge → Unit → (Unit → Option (Unit ⊕ Unit)) → Option (Unit ⊕ Unit) := fun i x _ c =>
    bif (inr (i : Int) (len l)) then
      (elAt l (i : Int)).bind fun y => bif (ieq x.From y.From) then (bif (ieq x.To y.To) then (bif (ieq x.W y.W) then c () else some (.inl ())) else some (.inl ())) else some (.inl ())
      else none
  have h := scanI (l := l) (L := fun k (_ : Unit) i => F70_l0_0 K (GGraph.mk n l) (GGraph.mk n l) k i) step (fun _ => some (.inr ())) (fun k st i hi => rfl) hl K () 0 (by omega) (by omega)
  have hw : ∀ (r : List GEdge) (i : Nat), l.drop i = r → goI step (fun _ => some (.inr ())) i r () = some (.inr ()) := by
    intro r
    induction r with
    | nil => intro i _; rfl
    | cons x r ih =>
      intro i hr
      obtain ⟨n1, n2, hi⟩ := prev_next hr
      have e1 : inr (i : Int) (len l) = true := decide_eq_true ⟨by omega, by show (i : Int) < (l.length : Int); omega⟩
      have e2 : elAt l (i : Int) = some x := by rw [elAt_nat]; exact n1
      rw [goI]
      show (bif (inr (i : Int) (len l)) then
        (elAt l (i : Int)).bind fun y => bif (ieq x.From y.From) then (bif (ieq x.To y.To) then (bif (ieq x.W y.W) then goI step (fun _ => some (.inr ())) (i + 1) r () else some (.inl ())) else some (.inl ())) else some (.inl ())
        else none) = _
      rw [e1, e2]
      simp only [cond_true, Option.bind_some, ieq_iff.2]
      exact ih (i + 1) n2
  have := hw l 0 rfl
  rw [List.drop_zero, this] at h
  have h' : F70_l0_0 K (GGraph.mk n l) (GGraph.mk n l) K 0 = some (.inr ()) := h
  rw [F70, ieq_iff.2 rfl, ieq_iff.2 rfl, h']; rfl

end Go.Proofs.Ytnjanliihnadjaa.Tm

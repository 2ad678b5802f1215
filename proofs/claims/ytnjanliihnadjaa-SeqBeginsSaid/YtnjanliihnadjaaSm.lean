/- Lists and structures are the same as themselves. Conditions: none. -/
import Derived.Test.YtnjanliihnadjaaSq
import Derived.Test.YtnjanliihnadjaaFE
set_option linter.unusedVariables false
namespace Go.Proofs.Ytnjanliihnadjaa.Tm
open Go

theorem self_go {α : Type} {l : List α} (eq : α → α → Option (Unit ⊕ Unit) → Option (Unit ⊕ Unit)) (he : ∀ x ∈ l, ∀ c, eq x x c = c) : ∀ (r : List α) (i : Nat), l.drop i = r →
    goI (fun i x (_ : Unit) c => bif inr (i : Int) (len l) then (elAt l (i : Int)).bind fun y => eq x y (c ()) else none) (fun _ => some (.inr ())) i r () = some (.inr ()) := by
  intro r
  induction r with
  | nil => intro i _; rfl
  | cons x r ih =>
    intro i hr
    have hi := lt_of_drop' hr
    have hd := List.drop_eq_getElem_cons hi
    rw [hr] at hd
    injection hd with a b
    have e1 : inr (i : Int) (len l) = true := decide_eq_true ⟨by omega, by show (i : Int) < (l.length : Int); omega⟩
    have e2 : elAt l (i : Int) = some x := by rw [elAt_nat, a]; simp [hi]
    rw [goI, e1, e2, cond_true, Option.bind_some, he x (by rw [a]; exact List.getElem_mem hi)]
    exact ih (i + 1) b.symm

theorem same140 {K : Nat} (l : List Int) (hl : l.length < 1000000) (hK : l.length < K) : F140 K l l = some true := by
  have h := scanI (l := l) (L := fun k (_ : Unit) i => F140_l0_0 K l l k i) (fun i x (_ : Unit) c => bif inr (i : Int) (len l) then (elAt l (i : Int)).bind fun y => bif ieq x y then c () else some (.inl ()) else none) (fun _ => some (.inr ())) (fun k st i hi => rfl) (by omega) K () 0 (by omega) (by omega)
  have g := self_go (l := l) (fun x y c => bif ieq x y then c else some (.inl ())) (fun x _ c => by rw [ieq_refl]; rfl) l 0 rfl
  have h' : F140_l0_0 K l l K 0 = some (.inr ()) := h.trans g
  rw [F140, ieq_refl, h']; rfl
theorem same141 {K : Nat} (l : List Bool) (hl : l.length < 1000000) (hK : l.length < K) : F141 K l l = some true := by
  have h := scanI (l := l) (L := fun k (_ : Unit) i => F141_l0_0 K l l k i) (fun i x (_ : Unit) c => bif inr (i : Int) (len l) then (elAt l (i : Int)).bind fun y => bif beqb x y then c () else some (.inl ()) else none) (fun _ => some (.inr ())) (fun k st i hi => rfl) (by omega) K () 0 (by omega) (by omega)
  have g := self_go (l := l) (fun x y c => bif beqb x y then c else some (.inl ())) (fun x _ c => by rw [beqb_refl]; rfl) l 0 rfl
  have h' : F141_l0_0 K l l K 0 = some (.inr ()) := h.trans g
  rw [F141, ieq_refl, h']; rfl
theorem same89 {K : Nat} (l : List GMsg) (hl : l.length < 1000000) (hK : l.length < K) : F89 K l l = some true := by
  have h := scanI (l := l) (L := fun k (_ : Unit) i => F89_l0_0 K l l k i) (fun i x (_ : Unit) c => bif inr (i : Int) (len l) then (elAt l (i : Int)).bind fun y => bif ieq x.To y.To then (bif ieq x.V y.V then c () else some (.inl ())) else some (.inl ()) else none) (fun _ => some (.inr ())) (fun k st i hi => rfl) (by omega) K () 0 (by omega) (by omega)
  have g := self_go (l := l) (fun x y c => bif ieq x.To y.To then (bif ieq x.V y.V then c else some (.inl ())) else some (.inl ())) (fun x _ c => by rw [ieq_refl, ieq_refl]; rfl) l 0 rfl
  have h' : F89_l0_0 K l l K 0 = some (.inr ()) := h.trans g
  rw [F89, ieq_refl, h']; rfl

def fitP (K : Nat) (x : GPart) : Prop := (x.Vals.length < 1000000 ∧ x.Vals.length < K) ∧ (x.Rest.length < 1000000 ∧ x.Rest.length < K) ∧ x.In.length < 1000000 ∧ x.In.length < K
theorem same118 {K : Nat} (x : GPart) (h : fitP K x) : F118 K x x = some true := by
  rw [F118, ieq_refl, ieq_refl, same140 x.Vals h.1.1 h.1.2, same141 x.Rest h.2.1.1 h.2.1.2, same89 x.In h.2.2.1 h.2.2.2]; rfl
theorem same84 {K : Nat} (l : List GPart) (hl : l.length < 1000000) (hK : l.length < K) (hs : ∀ x ∈ l, fitP K x) : F84 K l l = some true := by
  have h := scanI (l := l) (L := fun k (_ : Unit) i => F84_l0_0 K l l k i) (fun i x (_ : Unit) c => bif inr (i : Int) (len l) then (elAt l (i : Int)).bind fun y => (F118 K x y).bind fun r => bif r then c () else some (.inl ()) else none) (fun _ => some (.inr ())) (fun k st i hi => rfl) (by omega) K () 0 (by omega) (by omega)
  have g := self_go (l := l) (fun x y c => (F118 K x y).bind fun r => bif r then c else some (.inl ())) (fun x hx c => by rw [same118 x (hs x hx)]; rfl) l 0 rfl
  have h' : F84_l0_0 K l l K 0 = some (.inr ()) := h.trans g
  rw [F84, ieq_refl, h']; rfl

/-- Two lists in strict order with the same members are one. -/
theorem sorted_ext {α : Type} {lt : α → α → Prop} (asym : ∀ a b, lt a b → ¬ lt b a) : ∀ {l l' : List α}, l.Pairwise lt → l'.Pairwise lt → (∀ x, x ∈ l ↔ x ∈ l') → l = l'
  | [], [], _, _, _ => rfl
  | [], b :: l', _, _, h => absurd ((h b).2 List.mem_cons_self) (by simp)
  | a :: l, [], _, _, h => absurd ((h a).1 List.mem_cons_self) (by simp)
  | a :: l, b :: l', h1, h2, h => by
    obtain ⟨p1, p2⟩ := List.pairwise_cons.1 h1
    obtain ⟨q1, q2⟩ := List.pairwise_cons.1 h2
    have hab : a = b := by
      rcases List.mem_cons.1 ((h a).1 List.mem_cons_self) with e | e
      · exact e
      · rcases List.mem_cons.1 ((h b).2 List.mem_cons_self) with e' | e'
        · exact e'.symm
        · exact absurd (p1 b e') (asym _ _ (q1 a e))
    subst hab
    congr 1
    refine sorted_ext asym p2 q2 fun x => ⟨fun hx => ?_, fun hx => ?_⟩
    · rcases List.mem_cons.1 ((h x).1 (List.mem_cons_of_mem _ hx)) with e | e
      · subst e; exact absurd (p1 x hx) (fun q => asym _ _ q q)
      · exact e
    · rcases List.mem_cons.1 ((h x).2 (List.mem_cons_of_mem _ hx)) with e | e
      · subst e; exact absurd (q1 x hx) (fun q => asym _ _ q q)
      · exact e
end Go.Proofs.Ytnjanliihnadjaa.Tm

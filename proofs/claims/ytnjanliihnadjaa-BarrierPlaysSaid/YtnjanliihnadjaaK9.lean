/- The tree machine: moves that change memory. Conditions: none. -/
import Derived.Test.YtnjanliihnadjaaK8
namespace Go.Proofs.Ytnjanliihnadjaa.Tm
open Go

section
variable {P : Program} {G : Ctx} {hm : Option Nat} {s : St}

/-- A row that nobody holds but the hand: made, or made anew. -/
def St.fresh (s : St) (τ : Nat) (w' : World) (x : Pd) : St := { s with w := w', ow := give s.ow x.v (.pd τ), pd := upd s.pd τ (some x) }

theorem OkH.fresh (h : OkH P G hm none s) (τ : Nat) {w' : World} {Y : Nat → Prop} (hk : Keep Y s.w w') (hY : ∀ b, Y b → s.ow b = .pd τ) (x : Pd)
    (hx : OwnOk P w' s.S x.e x.t x.v) (hb : ∀ b, x.v.ownBlock = some b → s.ow b = .pd τ ∨ (s.w.heap.size ≤ b ∧ b < w'.heap.size)) :
    OkH P G hm none (s.fresh τ w' x) ∧ Ev s (s.fresh τ w' x) := by
  have hno : ∀ b, s.w.heap.size ≤ b → s.ow b = .no := fun b hge => by
    cases hq : s.ow b <;> first | rfl | (have := h.lt b (by rw [hq]; intro hh; cases hh); omega)
  have hat : ∀ b, x.v.ownBlock = some b → s.ow b = .pd τ ∨ s.ow b = .no := fun b hv => (hb b hv).imp id fun h1 => hno b h1.1
  have hoff : ∀ b (o' : Ow), s.ow b = o' → o' ≠ .pd τ → o' ≠ .no → (s.fresh τ w' x).ow b = s.ow b := fun b o' h1 h2 h3 => give_off fun e => by
    rcases hat b e with h4 | h4
    · exact h2 (h1.symm.trans h4)
    · exact h3 (h1.symm.trans h4)
  have hheap : ∀ b (o' : Ow), s.ow b = o' → o' ≠ .pd τ → o' ≠ .no → w'.heap[b]? = s.w.heap[b]? := fun b o' h1 h2 h3 =>
    hk.block b (h.lt b (by rw [h1]; exact h3)) fun hy => h2 (h1.symm.trans (hY b hy))
  have hS : ∀ b, s.S b → (s.fresh τ w' x).S b := fun b hb' => (hoff b _ hb' (by intro h; cases h) (by intro h; cases h)).trans hb'
  have hw : ∀ b, s.S b → w'.heap[b]? = s.w.heap[b]? := fun b hb' => hheap b _ hb' (by intro h; cases h) (by intro h; cases h)
  have hsz := h.keep.size
  refine ⟨Goes.ok (s := s) ?_ h, ⟨hS, hw, fun k => ⟨Nat.le_refl _, fun _ => ⟨rfl, rfl, .inl rfl⟩⟩⟩⟩
  exact {
    keep := ⟨Y, hk, fun b hy => h.ex' b (by rw [hY b hy]; intro h; cases h) (by rw [hY b hy]; intro h; cases h)⟩
    nt := rfl
    df := rfl
    lt := fun b hb' => by
      by_cases hv : x.v.ownBlock = some b
      · rcases hb b hv with h1 | h1
        · exact .inl (by rw [h1]; intro h; cases h)
        · exact .inr h1.2
      · rw [show (s.fresh τ w' x).ow b = s.ow b from give_off hv] at hb'; exact .inl hb'
    ex := fun b h1 => by
      by_cases hv : x.v.ownBlock = some b
      · rcases hb b hv with h3 | h3
        · rw [h3]; exact .inl (nomatch ·)
        · exact .inr (.inl (Nat.le_trans hsz h3.1))
      · rw [show (s.fresh τ w' x).ow b = s.ow b from give_off hv] at h1; exact .inl h1
    S := hS
    w := hw
    ver := fun k => ⟨Nat.le_refl _, fun _ => ⟨rfl, id⟩⟩
    cell := fun k hk' => .inr ⟨hk', rfl, rfl, fun e _ b _ hb' => ⟨hheap b _ hb' (by intro h; cases h) (by intro h; cases h), hoff b _ hb' (by intro h; cases h) (by intro h; cases h)⟩⟩
    main := fun i hi => .inr ⟨hi, rfl, rfl, fun _ _ => rfl, fun e n _ b hb' => ⟨hheap b _ hb' (by intro h; cases h) (by intro h; cases h), hoff b _ hb' (by intro h; cases h) (by intro h; cases h)⟩⟩
    pok := fun i y hy => by
      by_cases hi : i = τ
      · subst hi
        rw [show (s.fresh i w' x).pd i = some x from upd_same _ _ _] at hy
        cases hy
        exact .inl ⟨hx.mono hS (fun _ _ => rfl) (fun _ _ => rfl), fun b hv => give_at hv⟩
      · rw [show (s.fresh τ w' x).pd i = s.pd i from upd_ne _ _ hi] at hy
        have hne : Ow.pd i ≠ .pd τ := fun e => hi (by cases e; rfl)
        exact .inr ⟨hy, fun b _ hb' => ⟨hheap b _ hb' hne (by intro h; cases h), hoff b _ hb' hne (by intro h; cases h)⟩⟩
    prot := fun i hi hb' => ⟨hb', rfl⟩ }

/-- The cells of an own row turn. -/
noncomputable def St.rewrite (s : St) (p : Nat) (e : TypeId) (t : T) (w' : World) : St := { s with w := w', ts := s.ts.put p ⟨.own e, (s.ts.get p).ver, t⟩ }

theorem OkH.rewrite (h : OkH P G hm none s) {p : Nat} {e : TypeId} (hp : (s.ts.get p).k = .own e) {t : T} {w' : World} (hk : Keep (fun b => (s.cv p).ownBlock = some b) s.w w')
    (hx : OwnOk P w' s.S e t (s.cv p)) : OkH P G hm none (s.rewrite p e t w') := by
  have hc := h.cell p (by intro h; cases h)
  simp only [CellOk, hp] at hc
  have hheap : ∀ b (o' : Ow), s.ow b = o' → o' ≠ .key p → o' ≠ .no → w'.heap[b]? = s.w.heap[b]? := fun b o' h1 h2 h3 =>
    hk.block b (h.lt b (by rw [h1]; exact h3)) fun hy => h2 (h1.symm.trans (hc.2 b hy))
  refine Goes.ok (s := s) ?_ h
  exact {
    keep := ⟨_, hk, fun b hy => h.ex' b (by rw [hc.2 b hy]; intro h; cases h) (by rw [hc.2 b hy]; intro h; cases h)⟩
    nt := rfl
    df := rfl
    lt := fun b hb => .inl hb
    ex := fun b h1 => .inl h1
    S := fun _ h => h
    w := fun b hb => hheap b _ hb (by intro h; cases h) (by intro h; cases h)
    ver := fun j => by
      by_cases hj : j = p
      · subst hj
        rw [show (s.rewrite j e t w').ts.get j = ⟨.own e, (s.ts.get j).ver, t⟩ from get_same _ _ _]
        exact ⟨Nat.le_refl _, fun _ => ⟨rfl, fun hb => by cases hb⟩⟩
      · rw [show (s.rewrite p e t w').ts.get j = s.ts.get j from get_ne _ _ hj]; exact ⟨Nat.le_refl _, fun _ => ⟨rfl, id⟩⟩
    cell := fun j hj => by
      by_cases hjp : j = p
      · subst hjp
        left
        rw [CellOk, show (s.rewrite j e t w').ts.get j = ⟨.own e, (s.ts.get j).ver, t⟩ from get_same _ _ _]
        exact ⟨hx, hc.2⟩
      · exact .inr ⟨hj, get_ne _ _ hjp, rfl, fun e' _ b _ hb => ⟨hheap b _ hb (by intro h; cases h; exact hjp rfl) (by intro h; cases h), rfl⟩⟩
    main := fun i hi => by
      by_cases hip : key i 0 = p
      · left; rw [MainOk, hip, show (s.rewrite p e t w').ts.get p = ⟨.own e, (s.ts.get p).ver, t⟩ from get_same _ _ _]; trivial
      · exact .inr ⟨hi, get_ne _ _ hip, rfl, fun _ _ => rfl, fun _ _ _ b hb => ⟨hheap b _ hb (by intro h; cases h; exact hip rfl) (by intro h; cases h), rfl⟩⟩
    pok := fun i y hy => .inr ⟨hy, fun b _ hb => ⟨hheap b _ hb (by intro h; cases h) (by intro h; cases h), rfl⟩⟩
    prot := fun i hi hb => by
      by_cases hip : key i 0 = p
      · rw [hip, show (s.rewrite p e t w').ts.get p = ⟨.own e, (s.ts.get p).ver, t⟩ from get_same _ _ _] at hb; cases hb
      · rw [show (s.rewrite p e t w').ts.get (key i 0) = s.ts.get (key i 0) from get_ne _ _ hip] at hb; exact ⟨hb, rfl⟩ }

/-- A block of the open slot's head turns, or is made. -/
def St.reblock (s : St) (b i : Nat) (w' : World) : St := { s with w := w', ow := upd s.ow b (.key (key i 0)) }

theorem OkH.reblock {i : Nat} (h : OkH P G (some i) none s) {b : Nat} {w' : World} (hk : Keep (fun b' => b' = b) s.w w') (hb : s.ow b = .key (key i 0) ∨ s.w.heap.size ≤ b) (hlt : b < w'.heap.size)
    (hcell : ∀ e, (s.ts.get (key i 0)).k ≠ .own e) : OkH P G (some i) none (s.reblock b i w') ∧ Ev s (s.reblock b i w') := by
  have hno : s.w.heap.size ≤ b → s.ow b = .no := fun hge => by
    cases hq : s.ow b <;> first | rfl | (have := h.lt b (by rw [hq]; intro hh; cases hh); omega)
  have hob : s.ow b = .key (key i 0) ∨ s.ow b = .no := hb.imp id hno
  have hoff : ∀ b' (o' : Ow), s.ow b' = o' → o' ≠ .key (key i 0) → o' ≠ .no → b' ≠ b := fun b' o' h1 h2 h3 e => by
    subst e
    rcases hob with h4 | h4
    · exact h2 (h1.symm.trans h4)
    · exact h3 (h1.symm.trans h4)
  have hheap : ∀ b' (o' : Ow), s.ow b' = o' → o' ≠ .key (key i 0) → o' ≠ .no → w'.heap[b']? = s.w.heap[b']? ∧ (s.reblock b i w').ow b' = s.ow b' := fun b' o' h1 h2 h3 =>
    ⟨hk.block b' (h.lt b' (by rw [h1]; exact h3)) (hoff b' o' h1 h2 h3), upd_ne _ _ (hoff b' o' h1 h2 h3)⟩
  have hS : ∀ b', s.S b' → (s.reblock b i w').S b' := fun b' hb' => (hheap b' _ hb' (by intro h; cases h) (by intro h; cases h)).2.trans hb'
  have hw : ∀ b', s.S b' → w'.heap[b']? = s.w.heap[b']? := fun b' hb' => (hheap b' _ hb' (by intro h; cases h) (by intro h; cases h)).1
  refine ⟨Goes.ok (s := s) ?_ h, ⟨hS, hw, fun k => ⟨Nat.le_refl _, fun _ => ⟨rfl, rfl, .inl rfl⟩⟩⟩⟩
  exact {
    keep := ⟨_, hk, fun b' hy => by
      subst hy
      rcases hb with h1 | h1
      · exact h.ex' b' (by rw [h1]; intro h; cases h) (by rw [h1]; intro h; cases h)
      · exact .inl (Nat.le_trans h.keep.size h1)⟩
    nt := rfl
    df := rfl
    lt := fun b' hb' => by
      by_cases he : b' = b
      · subst he; exact .inr hlt
      · rw [show (s.reblock b i w').ow b' = s.ow b' from upd_ne _ _ he] at hb'; exact .inl hb'
    ex := fun b' h1 => by
      by_cases he : b' = b
      · subst he
        rcases hb with h3 | h3
        · exact .inl (by rw [h3]; exact (nomatch ·))
        · exact .inr (.inl (Nat.le_trans h.keep.size h3))
      · rw [show (s.reblock b i w').ow b' = s.ow b' from upd_ne _ _ he] at h1; exact .inl h1
    S := hS
    w := hw
    ver := fun k => ⟨Nat.le_refl _, fun _ => ⟨rfl, id⟩⟩
    cell := fun k hk' => .inr ⟨hk', rfl, rfl, fun e he b' _ hb' => hheap b' _ hb' (by intro h; cases h; exact hcell e he) (by intro h; cases h)⟩
    main := fun j hj => .inr ⟨hj, rfl, rfl, fun _ _ => rfl, fun e n _ b' hb' => hheap b' _ hb' (by
      intro h
      have : key j 0 = key i 0 := by injection h
      rw [key_eq, key_eq] at this
      exact hj (by congr 1; omega)) (by intro h; cases h)⟩
    pok := fun j y hy => .inr ⟨hy, fun b' _ hb' => hheap b' _ hb' (by intro h; cases h) (by intro h; cases h)⟩
    prot := fun j hj hb' => ⟨hb', rfl⟩ }
end
end Go.Proofs.Ytnjanliihnadjaa.Tm

/- The tree machine: the moves of its state, and the steps that hand cells over. Conditions: none. -/
import Derived.Test.YtnjanliihnadjaaK1
namespace Go.Proofs.Ytnjanliihnadjaa.Tm
open Go

def upd {α : Type} (f : Nat → α) (k : Nat) (v : α) : Nat → α := fun j => if j = k then v else f j
theorem upd_same {α : Type} (f : Nat → α) (k : Nat) (v : α) : upd f k v k = v := if_pos rfl
theorem upd_ne {α : Type} (f : Nat → α) {k j : Nat} (v : α) (h : j ≠ k) : upd f k v j = f j := if_neg h

theorem key_div {s o : Nat} (h : o < 64) : key s o / 64 = s := by rw [key_eq]; omega
theorem key_ne {s o : Nat} {k : Nat} (h : o < 64) (hk : s ≠ k / 64) : key s o ≠ k := fun e => hk (by rw [← e, key_div h])
theorem get_same (ts : TS) (k : Nat) (e : Ent) : (ts.put k e).get k = e := by rw [TS.get_put, if_pos rfl]
theorem get_ne (ts : TS) {k j : Nat} (e : Ent) (h : j ≠ k) : (ts.put k e).get j = ts.get j := by rw [TS.get_put, if_neg h]

def give (ow : Nat → Ow) (v : Value) (o : Ow) : Nat → Ow := match v.ownBlock with
  | some b => upd ow b o
  | none => ow
theorem give_at {ow : Nat → Ow} {v : Value} {o : Ow} {b : Nat} (h : v.ownBlock = some b) : give ow v o b = o := by simp only [give, h, upd_same]
theorem give_off {ow : Nat → Ow} {v : Value} {o : Ow} {b : Nat} (h : v.ownBlock ≠ some b) : give ow v o b = ow b := by
  unfold give
  cases hv : v.ownBlock with
  | none => rfl
  | some c => exact upd_ne _ _ fun e => h (e ▸ hv)

theorem OwnOk.rt {P : Program} {w : World} {S : Nat → Prop} {e : TypeId} {t : T} {v : Value} (h : OwnOk P w S e t v) (hb : ∀ b, v.ownBlock = some b → S b) : RT w S t v := by
  obtain ⟨n, cs, rfl, ⟨rfl, rfl, rfl⟩ | ⟨i, xs, hi, ho, hr⟩⟩ := h
  · exact .nil
  · rcases ho.2 with ⟨rfl, rfl⟩ | ⟨g, cap, cur, rfl, _, hg, hn, hc, hcs, htk⟩
    · have hx : xs = [] := List.eq_nil_of_length_eq_zero (by simpa using ho.1)
      subst hx
      have : cs = [] := List.eq_nil_of_length_eq_zero (by have := hr.1; simpa using this.symm)
      subst this
      exact .nil
    · refine .sl (hb g rfl) hn hr.1 (fun j u hj => ?_) hr.2
      exact World.ownsRow.cells ho rfl j u hj

theorem OwnOk.sl {P : Program} {w : World} {S : Nat → Prop} {e : TypeId} {t : T} {v : Value} (h : OwnOk P w S e t v) : ∃ A n c, v = .slice A n c := by
  obtain ⟨n, cs, rfl, ⟨rfl, rfl, rfl⟩ | ⟨i, xs, hi, ho, hr⟩⟩ := h
  · exact ⟨_, _, _, rfl⟩
  · rcases ho.2 with ⟨rfl, rfl⟩ | ⟨g, cap, cur, rfl, _⟩ <;> exact ⟨_, _, _, rfl⟩

/-! ### What a state becomes, seen from a cell in hand -/
structure Ev (s s' : St) : Prop where
  S : ∀ b, s.S b → s'.S b
  w : ∀ b, s.S b → s'.w.heap[b]? = s.w.heap[b]?
  ver : ∀ k, (s.ts.get k).ver ≤ (s'.ts.get k).ver ∧ ((s'.ts.get k).ver = (s.ts.get k).ver → s'.cv k = s.cv k ∧ (s'.ts.get k).t = (s.ts.get k).t ∧
    ((s'.ts.get k).k = (s.ts.get k).k ∨ (∃ e, (s.ts.get k).k = .own e) ∧ (s'.ts.get k).k = .im))

theorem Ev.refl (s : St) : Ev s s := ⟨fun _ h => h, fun _ _ => rfl, fun _ => ⟨Nat.le_refl _, fun _ => ⟨rfl, rfl, .inl rfl⟩⟩⟩
theorem Ev.trans {a b c : St} (h : Ev a b) (g : Ev b c) : Ev a c :=
  ⟨fun x hx => g.S x (h.S x hx), fun x hx => (g.w x (h.S x hx)).trans (h.w x hx), fun k => by
    have h1 := h.ver k
    have h2 := g.ver k
    refine ⟨Nat.le_trans h1.1 h2.1, fun he => ?_⟩
    have e1 : (b.ts.get k).ver = (a.ts.get k).ver := Nat.le_antisymm (he ▸ h2.1) h1.1
    have e2 : (c.ts.get k).ver = (b.ts.get k).ver := he.trans e1.symm
    obtain ⟨a1, a2, a3⟩ := h1.2 e1
    obtain ⟨b1, b2, b3⟩ := h2.2 e2
    refine ⟨b1.trans a1, b2.trans a2, ?_⟩
    rcases a3 with a3 | ⟨⟨e, a3⟩, a4⟩ <;> rcases b3 with b3 | ⟨⟨e', b3⟩, b4⟩
    · exact .inl (b3.trans a3)
    · exact .inr ⟨⟨e', a3 ▸ b3⟩, b4⟩
    · exact .inr ⟨⟨e, a3⟩, b3.trans a4⟩
    · exact .inr ⟨⟨e, a3⟩, b4⟩⟩

/-- A cell in hand; L: it was read just now. τ: the place where a fresh one lies. -/
def CVOk (L : Prop) (s : St) (τ : Nat) : CV → Value → Prop
  | .im t, v => RT s.w s.S t v
  | .ref p n e t, v => (∃ A l c, v = .slice A l c) ∧ n ≤ (s.ts.get p).ver ∧ (L → (s.ts.get p).ver = n ∧ (s.ts.get p).k = .own e) ∧
      ((s.ts.get p).ver = n → s.cv p = v ∧ (s.ts.get p).t = t ∧ ((s.ts.get p).k = .own e ∨ (s.ts.get p).k = .im))
  | .new e t, v => ¬ L ∧ s.pd τ = some ⟨e, t, v⟩
  | .nil, v => v = .slice none 0 0

theorem CVOk.weak {L : Prop} {s : St} {τ : Nat} {c : CV} {v : Value} (h : CVOk L s τ c v) : CVOk False s τ c v := by
  cases c <;> simp only [CVOk] at h ⊢
  case ref => exact ⟨h.1, h.2.1, False.elim, h.2.2.2⟩
  case new => exact ⟨id, h.2⟩
  all_goals exact h

theorem CVOk.ev {L : Prop} {s s' : St} {τ : Nat} {c : CV} {v : Value} (h : CVOk L s τ c v) (g : Ev s s') (hp : s'.pd τ = s.pd τ) : CVOk False s' τ c v := by
  cases c <;> simp only [CVOk] at h ⊢
  case im => exact h.mono g.S g.w
  case ref p n e t =>
    refine ⟨h.1, Nat.le_trans h.2.1 (g.ver p).1, False.elim, fun hv => ?_⟩
    have e1 : (s.ts.get p).ver = n := Nat.le_antisymm (hv ▸ (g.ver p).1) h.2.1
    obtain ⟨a1, a2, a3⟩ := (g.ver p).2 (hv.trans e1.symm)
    obtain ⟨b1, b2, b3⟩ := h.2.2.2 e1
    refine ⟨a1.trans b1, a2.trans b2, ?_⟩
    rcases a3 with a3 | ⟨_, a4⟩
    · rw [a3]; exact b3
    · exact .inr a4
  case new => exact ⟨id, hp.trans h.2⟩
  case nil => exact h

def CVsOk (L : Prop) (s : St) (τ : Nat) (cs : List CV) (vs : List Value) : Prop := vs.length = cs.length ∧ ∀ (j : Nat) c v, cs[j]? = some c → vs[j]? = some v → CVOk L s (τ + j) c v

theorem CVsOk.ev {L : Prop} {s s' : St} {τ : Nat} {cs : List CV} {vs : List Value} (h : CVsOk L s τ cs vs) (g : Ev s s') (hp : ∀ i, τ ≤ i → s'.pd i = s.pd i) : CVsOk False s' τ cs vs :=
  ⟨h.1, fun j c v hc hv => (h.2 j c v hc hv).ev g (hp _ (Nat.le_add_right _ _))⟩
theorem CVsOk.weak {L : Prop} {s : St} {τ : Nat} {cs : List CV} {vs : List Value} (h : CVsOk L s τ cs vs) : CVsOk False s τ cs vs :=
  ⟨h.1, fun j c v hc hv => (h.2 j c v hc hv).weak⟩
theorem CVsOk.nil_inv {L : Prop} {s : St} {τ : Nat} {vs : List Value} (h : CVsOk L s τ [] vs) : vs = [] := List.eq_nil_of_length_eq_zero h.1
theorem CVsOk.cons_inv {L : Prop} {s : St} {τ : Nat} {c : CV} {cs : List CV} {vs : List Value} (h : CVsOk L s τ (c :: cs) vs) :
    ∃ v vr, vs = v :: vr ∧ CVOk L s τ c v ∧ CVsOk L s (τ + 1) cs vr := by
  match vs, h with
  | [], h => exact absurd h.1 (by simp)
  | v :: vr, h =>
    refine ⟨v, vr, rfl, h.2 0 c v rfl rfl, by simpa using h.1, fun j c' v' hc hv => ?_⟩
    have := h.2 (j + 1) c' v' (by simpa using hc) (by simpa using hv)
    rwa [show τ + 1 + j = τ + (j + 1) by omega]
theorem CVsOk.nil (L : Prop) (s : St) (τ : Nat) : CVsOk L s τ [] [] := ⟨rfl, fun j c v h => by simp at h⟩
theorem CVsOk.cons {L : Prop} {s : St} {τ : Nat} {c : CV} {cs : List CV} {v : Value} {vs : List Value} (h : CVOk L s τ c v) (hs : CVsOk L s (τ + 1) cs vs) : CVsOk L s τ (c :: cs) (v :: vs) := by
  refine ⟨by simpa using hs.1, fun j c' v' hc hv => ?_⟩
  match j, hc, hv with
  | 0, hc, hv => simp at hc hv; subst hc; subst hv; exact h
  | j + 1, hc, hv =>
    have := hs.2 j c' v' (by simpa using hc) (by simpa using hv)
    rwa [show τ + (j + 1) = τ + 1 + j by omega]

/-! ### Moves -/
section
variable {P : Program} {G : Ctx} {hm hc : Option Nat} {s : St}

noncomputable def St.bump (s : St) (k : Nat) (e : K) (t : T) (v : Value) : St := { s with ts := s.ts.put k ⟨e, Nat.succ (s.ts.get k).ver, t⟩, cv := upd s.cv k v }

theorem ev_bump (k : Nat) (e : K) (t : T) (v : Value) : Ev s (s.bump k e t v) :=
  ⟨fun _ h => h, fun _ _ => rfl, fun j => by
    by_cases hj : j = k
    · subst hj; simp only [St.bump, get_same]; exact ⟨by omega, fun h => by omega⟩
    · rw [show (s.bump k e t v).ts.get j = s.ts.get j from get_ne _ _ hj]; exact ⟨Nat.le_refl _, fun _ => ⟨upd_ne _ _ hj, rfl, .inl rfl⟩⟩⟩

theorem OkH.bump (h : OkH P G hm hc s) (k : Nat) (e : K) (t : T) (v : Value) (hk : hm = some (k / 64)) (hcell : hc ≠ some k → CellOk P (s.bump k e t v) k)
    (hp : isBox e = true → k = key (k / 64) 0 → hasBit G.prot (k / 64) = false) : OkH P G hm hc (s.bump k e t v) := by
  refine Goes.ok (s := s) ?_ h
  have hv := ev_bump (s := s) k e t v
  exact {
    keep := ⟨fun _ => False, Keep.refl _ _, fun _ h => h.elim⟩
    nt := rfl
    df := rfl
    lt := fun b hb => .inl hb
    ex := fun b h1 => .inl h1
    S := hv.S
    w := hv.w
    ver := fun j => by
      have := hv.ver j
      refine ⟨this.1, fun he => ⟨(this.2 he).1, fun hb => ?_⟩⟩
      rcases (this.2 he).2.2 with h1 | ⟨_, h1⟩
      · rwa [h1] at hb
      · rw [h1] at hb; exact absurd hb (by decide)
    cell := fun j hj => by
      by_cases hjk : j = k
      · subst hjk; exact .inl (hcell hj)
      · exact .inr ⟨hj, get_ne _ _ hjk, upd_ne _ _ hjk, fun _ _ _ _ _ => ⟨rfl, rfl⟩⟩
    main := fun i hi => by
      have hne : i ≠ k / 64 := fun e => hi (hk ▸ e ▸ rfl)
      exact .inr ⟨hi, get_ne _ _ (key_ne (by omega) hne), rfl, fun o ho => upd_ne _ _ (key_ne (by omega) hne), fun _ _ _ _ _ => ⟨rfl, rfl⟩⟩
    pok := fun i x hx => .inr ⟨hx, fun _ _ _ => ⟨rfl, rfl⟩⟩
    prot := fun i hi hb => by
      by_cases hik : key i 0 = k
      · exfalso
        subst hik
        simp only [St.bump, get_same] at hb
        rw [key_div (by omega)] at hp
        rw [hp hb rfl] at hi
        cases hi
      · simp only [St.bump, get_ne _ _ hik, upd_ne _ _ hik] at hb ⊢
        exact ⟨hb, trivial⟩ }

/-- A fresh row finds its owner. -/
def St.place (s : St) (τ : Nat) (v : Value) (o : Ow) : St := { s with ow := give s.ow v o, pd := upd s.pd τ none }

theorem St.place_S {τ : Nat} {x : Pd} {o : Ow} (h : ∀ b, x.v.ownBlock = some b → s.ow b = .pd τ) (b : Nat) (hb : s.S b) : (s.place τ x.v o).S b := by
  show give s.ow x.v o b = .st
  rw [give_off]
  · exact hb
  · intro e; have := h b e; rw [show s.ow b = .st from hb] at this; cases this

theorem OkH.place (h : OkH P G hm hc s) {τ : Nat} {x : Pd} (hx : s.pd τ = some x) (o : Ow) : OkH P G hm hc (s.place τ x.v o) ∧ Ev s (s.place τ x.v o) := by
  have hp := h.pok τ x hx
  have hS := St.place_S (s := s) (o := o) hp.2
  have hoff : ∀ b (o' : Ow), s.ow b = o' → o' ≠ .pd τ → (s.place τ x.v o).ow b = s.ow b := fun b o' h1 h2 => give_off fun e => h2 (h1.symm.trans (hp.2 b e))
  refine ⟨Goes.ok (s := s) ?_ h, ⟨hS, fun _ _ => rfl, fun k => ⟨Nat.le_refl _, fun _ => ⟨rfl, rfl, .inl rfl⟩⟩⟩⟩
  exact {
    keep := ⟨fun _ => False, Keep.refl _ _, fun _ h => h.elim⟩
    nt := rfl
    df := rfl
    lt := fun b hb => by
      by_cases hv : x.v.ownBlock = some b
      · exact .inl (by rw [hp.2 b hv]; intro h; cases h)
      · rw [show (s.place τ x.v o).ow b = s.ow b from give_off hv] at hb; exact .inl hb
    ex := fun b h1 => by
      by_cases hv : x.v.ownBlock = some b
      · rw [hp.2 b hv]; exact .inl (nomatch ·)
      · rw [show (s.place τ x.v o).ow b = s.ow b from give_off hv] at h1; exact .inl h1
    S := hS
    w := fun _ _ => rfl
    ver := fun k => ⟨Nat.le_refl _, fun _ => ⟨rfl, id⟩⟩
    cell := fun k hk => .inr ⟨hk, rfl, rfl, fun e _ b _ hb => ⟨rfl, hoff b _ hb (by intro h; cases h)⟩⟩
    main := fun i hi => .inr ⟨hi, rfl, rfl, fun _ _ => rfl, fun e n _ b hb => ⟨rfl, hoff b _ hb (by intro h; cases h)⟩⟩
    pok := fun i y hy => by
      by_cases hi : i = τ
      · subst hi; rw [show (s.place i x.v o).pd i = none from upd_same _ _ _] at hy; cases hy
      · rw [show (s.place τ x.v o).pd i = s.pd i from upd_ne _ _ hi] at hy
        exact .inr ⟨hy, fun b _ hb => ⟨rfl, hoff b _ hb (by intro h; cases h; exact hi rfl)⟩⟩
    prot := fun i hi hb => ⟨hb, rfl⟩ }

/-- A row is taken out of the key where it lives. -/
noncomputable def St.took (s : St) (τ p : Nat) (e : TypeId) : St :=
  { s with ts := s.ts.put p ⟨.dead, Nat.succ (s.ts.get p).ver, nob⟩, ow := give s.ow (s.cv p) (.pd τ), pd := upd s.pd τ (some ⟨e, (s.ts.get p).t, s.cv p⟩) }

theorem OkH.took (h : OkH P G hm none s) {p : Nat} {e : TypeId} (τ : Nat) (hp : (s.ts.get p).k = .own e) : OkH P G hm none (s.took τ p e) ∧ Ev s (s.took τ p e) := by
  have hc := h.cell p (by intro h; cases h)
  simp only [CellOk, hp] at hc
  have hoff : ∀ b (o' : Ow), s.ow b = o' → o' ≠ .key p → (s.took τ p e).ow b = s.ow b := fun b o' h1 h2 => give_off fun e => h2 (h1.symm.trans (hc.2 b e))
  have hS : ∀ b, s.S b → (s.took τ p e).S b := fun b hb => (hoff b _ hb (by intro h; cases h)).trans hb
  have hev : Ev s (s.took τ p e) := ⟨hS, fun _ _ => rfl, fun j => by
    by_cases hj : j = p
    · subst hj; simp only [St.took, get_same]; exact ⟨by omega, fun h => by omega⟩
    · rw [show (s.took τ p e).ts.get j = s.ts.get j from get_ne _ _ hj]; exact ⟨Nat.le_refl _, fun _ => ⟨rfl, rfl, .inl rfl⟩⟩⟩
  refine ⟨Goes.ok (s := s) ?_ h, hev⟩
  exact {
    keep := ⟨fun _ => False, Keep.refl _ _, fun _ h => h.elim⟩
    nt := rfl
    df := rfl
    lt := fun b hb => by
      by_cases hv : (s.cv p).ownBlock = some b
      · exact .inl (by rw [hc.2 b hv]; intro h; cases h)
      · rw [show (s.took τ p e).ow b = s.ow b from give_off hv] at hb; exact .inl hb
    ex := fun b h1 => by
      by_cases hv : (s.cv p).ownBlock = some b
      · rw [hc.2 b hv]; exact .inl (nomatch ·)
      · rw [show (s.took τ p e).ow b = s.ow b from give_off hv] at h1; exact .inl h1
    S := hS
    w := fun _ _ => rfl
    ver := fun j => by
      refine ⟨(hev.ver j).1, fun he => ⟨rfl, fun hb => ?_⟩⟩
      rcases ((hev.ver j).2 he).2.2 with h1 | ⟨_, h1⟩
      · rwa [h1] at hb
      · rw [h1] at hb; exact absurd hb (by decide)
    cell := fun j hj => by
      by_cases hjp : j = p
      · subst hjp; left; simp only [CellOk, St.took, get_same]
      · exact .inr ⟨hj, get_ne _ _ hjp, rfl, fun e' _ b _ hb => ⟨rfl, hoff b _ hb (by intro h; cases h; exact hjp rfl)⟩⟩
    main := fun i hi => by
      by_cases hip : key i 0 = p
      · left; simp only [MainOk, St.took, hip, get_same]
      · exact .inr ⟨hi, get_ne _ _ hip, rfl, fun _ _ => rfl, fun _ _ _ b hb => ⟨rfl, hoff b _ hb (by intro h; cases h; exact hip rfl)⟩⟩
    pok := fun i y hy => by
      by_cases hi : i = τ
      · subst hi
        have hy' : (s.took i p e).pd i = some ⟨e, (s.ts.get p).t, s.cv p⟩ := upd_same _ _ _
        rw [hy'] at hy; cases hy
        exact .inl ⟨hc.1.mono hS (fun _ _ => rfl) (fun _ _ => rfl), fun b hb => give_at hb⟩
      · rw [show (s.took τ p e).pd i = s.pd i from upd_ne _ _ hi] at hy
        exact .inr ⟨hy, fun b _ hb => ⟨rfl, hoff b _ hb (by intro h; cases h)⟩⟩
    prot := fun i hi hb => by
      by_cases hip : key i 0 = p
      · simp only [St.took, hip, get_same] at hb; exact absurd hb (by decide)
      · simp only [St.took, get_ne _ _ hip] at hb; exact ⟨hb, rfl⟩ }

/-- A row stays where it lives, and is never written again. -/
noncomputable def St.froze (s : St) (p : Nat) : St :=
  { s with ts := s.ts.put p ⟨.im, (s.ts.get p).ver, (s.ts.get p).t⟩, ow := give s.ow (s.cv p) .st }

theorem OkH.froze (h : OkH P G hm none s) {p : Nat} {e : TypeId} (hp : (s.ts.get p).k = .own e) :
    OkH P G hm none (s.froze p) ∧ Ev s (s.froze p) ∧ RT (s.froze p).w (s.froze p).S (s.ts.get p).t (s.cv p) := by
  have hc := h.cell p (by intro h; cases h)
  simp only [CellOk, hp] at hc
  have hoff : ∀ b (o' : Ow), s.ow b = o' → o' ≠ .key p → (s.froze p).ow b = s.ow b := fun b o' h1 h2 => give_off fun e => h2 (h1.symm.trans (hc.2 b e))
  have hS : ∀ b, s.S b → (s.froze p).S b := fun b hb => (hoff b _ hb (by intro h; cases h)).trans hb
  have hev : Ev s (s.froze p) := ⟨hS, fun _ _ => rfl, fun j => by
    by_cases hj : j = p
    · subst hj; rw [show (s.froze j).ts.get j = ⟨.im, (s.ts.get j).ver, (s.ts.get j).t⟩ from get_same _ _ _]; exact ⟨Nat.le_refl _, fun _ => ⟨rfl, rfl, .inr ⟨⟨e, hp⟩, rfl⟩⟩⟩
    · rw [show (s.froze p).ts.get j = s.ts.get j from get_ne _ _ hj]; exact ⟨Nat.le_refl _, fun _ => ⟨rfl, rfl, .inl rfl⟩⟩⟩
  have hrt : RT (s.froze p).w (s.froze p).S (s.ts.get p).t (s.cv p) := OwnOk.rt (hc.1.mono hS (fun _ _ => rfl) (fun _ _ => rfl)) fun b hb => give_at hb
  refine ⟨Goes.ok (s := s) ?_ h, hev, hrt⟩
  exact {
    keep := ⟨fun _ => False, Keep.refl _ _, fun _ h => h.elim⟩
    nt := rfl
    df := rfl
    lt := fun b hb => by
      by_cases hv : (s.cv p).ownBlock = some b
      · exact .inl (by rw [hc.2 b hv]; intro h; cases h)
      · rw [show (s.froze p).ow b = s.ow b from give_off hv] at hb; exact .inl hb
    ex := fun b h1 => by
      by_cases hv : (s.cv p).ownBlock = some b
      · rw [hc.2 b hv]; exact .inl (nomatch ·)
      · rw [show (s.froze p).ow b = s.ow b from give_off hv] at h1; exact .inl h1
    S := hS
    w := fun _ _ => rfl
    ver := fun j => by
      refine ⟨(hev.ver j).1, fun he => ⟨rfl, fun hb => ?_⟩⟩
      rcases ((hev.ver j).2 he).2.2 with h1 | ⟨_, h1⟩
      · rwa [h1] at hb
      · rw [h1] at hb; exact absurd hb (by decide)
    cell := fun j hj => by
      by_cases hjp : j = p
      · subst hjp; left; simp only [CellOk, St.froze, get_same]; exact hrt
      · exact .inr ⟨hj, get_ne _ _ hjp, rfl, fun e' _ b _ hb => ⟨rfl, hoff b _ hb (by intro h; cases h; exact hjp rfl)⟩⟩
    main := fun i hi => by
      by_cases hip : key i 0 = p
      · left; simp only [MainOk, St.froze, hip, get_same]
      · exact .inr ⟨hi, get_ne _ _ hip, rfl, fun _ _ => rfl, fun _ _ _ b hb => ⟨rfl, hoff b _ hb (by intro h; cases h; exact hip rfl)⟩⟩
    pok := fun i y hy => .inr ⟨hy, fun b _ hb => ⟨rfl, hoff b _ hb (by intro h; cases h)⟩⟩
    prot := fun i hi hb => by
      by_cases hip : key i 0 = p
      · simp only [St.froze, hip, get_same] at hb; exact absurd hb (by decide)
      · simp only [St.froze, get_ne _ _ hip] at hb; exact ⟨hb, rfl⟩ }

theorem OkH.openM (h : OkH P G none hc s) (i : Nat) : OkH P G (some i) hc s :=
  { h with main := fun j _ => h.main j (by intro h; cases h) }
theorem OkH.closeM {i : Nat} (h : OkH P G (some i) hc s) (hi : MainOk s i) : OkH P G none hc s :=
  { h with main := fun j _ => (Classical.em (j = i)).elim (fun hj => hj ▸ hi) fun hj => h.main j fun e => hj (Option.some.inj e).symm }

/-- The slot's value. -/
theorem OkH.put {d : Nat} (h : OkH P G (some d) hc s) (v : Value) : OkH P G (some d) hc { s with a := s.a.put (some d) v } := by
  refine Goes.ok (s := s) ?_ h
  exact {
    keep := ⟨fun _ => False, Keep.refl _ _, fun _ h => h.elim⟩
    nt := by simp [Act.put]
    df := rfl
    lt := fun b hb => .inl hb
    ex := fun b h1 => .inl h1
    S := fun _ h => h
    w := fun _ _ => rfl
    ver := fun _ => ⟨Nat.le_refl _, fun _ => ⟨rfl, id⟩⟩
    cell := fun j hj => .inr ⟨hj, rfl, rfl, fun _ _ _ _ _ => ⟨rfl, rfl⟩⟩
    main := fun i hi => .inr ⟨hi, rfl, by
      have : d ≠ i := fun e => hi (e ▸ rfl)
      simp [Act.put, Array.getElem?_setIfInBounds_ne this], fun _ _ => rfl, fun _ _ _ _ _ => ⟨rfl, rfl⟩⟩
    pok := fun i x hx => .inr ⟨hx, fun _ _ _ => ⟨rfl, rfl⟩⟩
    prot := fun i _ hb => ⟨hb, rfl⟩ }
end

end Go.Proofs.Ytnjanliihnadjaa.Tm

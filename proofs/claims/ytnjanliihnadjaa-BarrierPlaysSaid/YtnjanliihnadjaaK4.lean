/- The tree machine: operands, and cells that are taken or frozen. Conditions: none. -/
import Derived.Test.YtnjanliihnadjaaK3
namespace Go.Proofs.Ytnjanliihnadjaa.Tm
open Go

section
variable {P : Program} {G : Ctx} {hm : Option Nat} {s : St} {cf : FuncId → List AD → Option Res} {ts' : TS} {o : Out}

/-- The same call, the same memory; entries that are no row's are left. -/
structure Same (s s' : St) : Prop where
  ev : Ev s s'
  a : s'.a = s.a
  w : s'.w = s.w
  cv : s'.cv = s.cv
  ent : ∀ j, (∀ e, (s.ts.get j).k ≠ .own e) → s'.ts.get j = s.ts.get j
  ow : ∀ b j, s.ow b = .key j → (∀ e, (s.ts.get j).k ≠ .own e) → s'.ow b = .key j

theorem Same.refl (s : St) : Same s s := ⟨Ev.refl s, rfl, rfl, rfl, fun _ _ => rfl, fun _ _ h _ => h⟩
theorem Same.trans {a b c : St} (h : Same a b) (g : Same b c) : Same a c :=
  ⟨h.ev.trans g.ev, g.a.trans h.a, g.w.trans h.w, g.cv.trans h.cv, fun j hj => (g.ent j (by rw [h.ent j hj]; exact hj)).trans (h.ent j hj),
   fun b j hb hj => g.ow b j (h.ow b j hb hj) (by rw [h.ent j hj]; exact hj)⟩

theorem OkH.same_took (h : OkH P G hm none s) {p : Nat} {e : TypeId} (τ : Nat) (hp : (s.ts.get p).k = .own e) : Same s (s.took τ p e) := by
  have hc := h.cell p (by intro h; cases h)
  simp only [CellOk, hp] at hc
  refine ⟨(h.took τ hp).2, rfl, rfl, rfl, fun j hj => get_ne _ _ fun e' => ?_, fun b j hb hj => (give_off fun e' => ?_).trans hb⟩
  · subst e'; exact hj e hp
  · have := hc.2 b e'; rw [hb] at this; cases this; exact hj e hp

theorem OkH.same_froze (h : OkH P G hm none s) {p : Nat} {e : TypeId} (hp : (s.ts.get p).k = .own e) : Same s (s.froze p) := by
  have hc := h.cell p (by intro h; cases h)
  simp only [CellOk, hp] at hc
  refine ⟨(h.froze hp).2.1, rfl, rfl, rfl, fun j hj => get_ne _ _ fun e' => ?_, fun b j hb hj => (give_off fun e' => ?_).trans hb⟩
  · subst e'; exact hj e hp
  · have := hc.2 b e'; rw [hb] at this; cases this; exact hj e hp

theorem OkH.same_place (h : OkH P G hm none s) {τ : Nat} {x : Pd} (hx : s.pd τ = some x) (oo : Ow) : Same s (s.place τ x.v oo) :=
  ⟨(h.place hx oo).2, rfl, rfl, rfl, fun _ _ => rfl, fun b j hb hj => (give_off fun e' => by have := (h.pok τ x hx).2 b e'; rw [hb] at this; cases this).trans hb⟩

theorem stillOwn_iff {e : Ent} {v : Nat} (h : stillOwn e v = true) : (∃ t, e.k = .own t) ∧ e.ver = v := by
  unfold stillOwn at h
  split at h
  · rename_i t ht; exact ⟨⟨t, ht⟩, (beq_iff _ _).1 h⟩
  · cases h

theorem take_ok (h : OkH P G hm none s) {c : CV} {v : Value} {τ : Nat} {kk : RC → Prog} (hc : CVOk False s τ c v) (hr : Runs cf (take c kk) s.ts o ts') :
    ∃ rc s', OkH P G hm none s' ∧ Same s s' ∧ CVOk False s' τ rc.cv v ∧ (∀ j, j ≠ τ → s'.pd j = s.pd j) ∧ Runs cf (kk rc) s'.ts o ts' := by
  cases c with
  | im t => exact ⟨.im t, s, h, Same.refl s, hc, fun _ _ => rfl, hr⟩
  | new e t => exact ⟨.own e t, s, h, Same.refl s, hc, fun _ _ => rfl, hr⟩
  | nil => exact ⟨.nil, s, h, Same.refl s, hc, fun _ _ => rfl, hr⟩
  | ref p n e t =>
    have hr1 := Runs.get hr
    cases hs : stillOwn (s.ts.get p) n with
    | false => rw [hs] at hr1; exact hr1.fail.elim
    | true =>
      rw [hs] at hr1
      obtain ⟨⟨e', he'⟩, hv⟩ := stillOwn_iff hs
      obtain ⟨_, _, _, h4⟩ := hc
      obtain ⟨h5, h6, h7⟩ := h4 hv
      have : e' = e := by rcases h7 with h7 | h7 <;> rw [he'] at h7 <;> cases h7; rfl
      subst this
      refine ⟨.own e' t, s.took τ p e', (h.took τ he').1, h.same_took τ he', ?_, fun j hj => upd_ne _ _ hj, hr1.put⟩
      refine ⟨id, ?_⟩
      show upd s.pd τ _ τ = _
      rw [upd_same, h5, h6]

theorem takes_ok : ∀ {cs : List CV} {s : St} {vs : List Value} {τ : Nat} {kk : List RC → Prog}, OkH P G hm none s → CVsOk False s τ cs vs → Runs cf (takes cs kk) s.ts o ts' →
    ∃ rcs s', OkH P G hm none s' ∧ Same s s' ∧ CVsOk False s' τ (rcs.map RC.cv) vs ∧ (∀ j, j < τ ∨ τ + cs.length ≤ j → s'.pd j = s.pd j) ∧ Runs cf (kk rcs) s'.ts o ts' := by
  intro cs
  induction cs with
  | nil =>
    intro s vs τ kk h hc hr
    have := hc.nil_inv; subst this
    exact ⟨[], s, h, Same.refl s, CVsOk.nil _ _ _, fun _ _ => rfl, hr⟩
  | cons c cs ih =>
    intro s vs τ kk h hc hr
    obtain ⟨v, vr, rfl, hc1, hc2⟩ := hc.cons_inv
    obtain ⟨rc, s1, ok1, sm1, c1, p1, hr1⟩ := take_ok h hc1 hr
    obtain ⟨rcs, s2, ok2, sm2, c2, p2, hr2⟩ := ih ok1 (hc2.ev sm1.ev fun j hj => p1 j (by omega)) hr1
    refine ⟨rc :: rcs, s2, ok2, sm1.trans sm2, CVsOk.cons (c1.ev sm2.ev (p2 τ (by omega))) c2, fun j hj => ?_, hr2⟩
    simp only [List.length_cons] at hj
    exact (p2 j (by omega)).trans (p1 j (by omega))

theorem freeze_ok (h : OkH P G hm none s) {c : CV} {v : Value} {τ : Nat} {kk : T → Prog} (hc : CVOk False s τ c v) (hr : Runs cf (freeze c kk) s.ts o ts') :
    ∃ t s', OkH P G hm none s' ∧ Same s s' ∧ RT s'.w s'.S t v ∧ (∀ j, j ≠ τ → s'.pd j = s.pd j) ∧ Runs cf (kk t) s'.ts o ts' := by
  cases c with
  | im t => exact ⟨t, s, h, Same.refl s, hc, fun _ _ => rfl, hr⟩
  | nil => exact ⟨_, s, h, Same.refl s, by rw [show v = _ from hc]; exact .nil, fun _ _ => rfl, hr⟩
  | new e t =>
    have hp := h.pok τ _ hc.2
    have hpl := h.place (τ := τ) hc.2 .st
    exact ⟨t, _, hpl.1, h.same_place hc.2 .st, OwnOk.rt (hp.1.mono hpl.2.S (fun _ _ => rfl) (fun _ _ => rfl)) fun b hb => give_at hb, fun j hj => upd_ne _ _ hj, hr⟩
  | ref p n e t =>
    have hr1 := Runs.get hr
    cases hs : stillOwn (s.ts.get p) n with
    | false => rw [hs] at hr1; exact hr1.fail.elim
    | true =>
      rw [hs] at hr1
      obtain ⟨⟨e', he'⟩, hv⟩ := stillOwn_iff hs
      obtain ⟨_, _, _, h4⟩ := hc
      obtain ⟨h5, h6, h7⟩ := h4 hv
      obtain ⟨ok1, ev1, rt1⟩ := h.froze he'
      rw [h5, h6] at rt1
      refine ⟨t, _, ok1, h.same_froze he', rt1, fun _ _ => rfl, ?_⟩
      have := hr1.put
      rw [← h6] at this ⊢
      exact this

theorem freezes_ok : ∀ {cs : List CV} {s : St} {vs : List Value} {τ : Nat} {kk : List T → Prog}, OkH P G hm none s → CVsOk False s τ cs vs → Runs cf (freezes cs kk) s.ts o ts' →
    ∃ t s', OkH P G hm none s' ∧ Same s s' ∧ RTs s'.w s'.S t vs ∧ (∀ j, j < τ ∨ τ + cs.length ≤ j → s'.pd j = s.pd j) ∧ Runs cf (kk t) s'.ts o ts' := by
  intro cs
  induction cs with
  | nil =>
    intro s vs τ kk h hc hr
    have := hc.nil_inv; subst this
    exact ⟨[], s, h, Same.refl s, ⟨rfl, fun j t u h => by simp at h⟩, fun _ _ => rfl, hr⟩
  | cons c cs ih =>
    intro s vs τ kk h hc hr
    obtain ⟨v, vr, rfl, hc1, hc2⟩ := hc.cons_inv
    obtain ⟨t, s1, ok1, sm1, c1, p1, hr1⟩ := freeze_ok h hc1 hr
    obtain ⟨tl, s2, ok2, sm2, c2, p2, hr2⟩ := ih ok1 (hc2.ev sm1.ev fun j hj => p1 j (by omega)) hr1
    refine ⟨t :: tl, s2, ok2, sm1.trans sm2, ⟨by simpa using c2.1, fun j t' u ht hu => ?_⟩, fun j hj => ?_, hr2⟩
    · match j, ht, hu with
      | 0, ht, hu => simp at ht hu; subst ht; subst hu; exact c1.mono sm2.ev.S sm2.ev.w
      | j + 1, ht, hu => exact c2.2 j t' u (by simpa using ht) (by simpa using hu)
    · simp only [List.length_cons] at hj
      exact (p2 j (by omega)).trans (p1 j (by omega))

/-! ### Operands -/
theorem cell_ok (h : Ok P G s) {q : Nat} {kk : CV → Prog} (τ : Nat) (hr : Runs cf (cell q kk) s.ts o ts') : ∃ c, CVOk True s τ c (s.cv q) ∧ Runs cf (kk c) s.ts o ts' := by
  have hc := h.cell q (by intro h; cases h)
  have hr1 := Runs.get hr
  unfold CellOk at hc
  cases hk : (s.ts.get q).k <;> simp only [hk] at hc hr1 <;> try exact (Runs.fail hr1).elim
  case im => exact ⟨.im _, hc, hr1⟩
  case own e => exact ⟨.ref q (s.ts.get q).ver e (s.ts.get q).t, ⟨hc.1.sl, Nat.le_refl _, fun _ => ⟨rfl, hk⟩, fun _ => ⟨rfl, rfl, .inl hk⟩⟩, hr1⟩
  case vw p v =>
    have hr2 := Runs.get hr1
    dsimp only at hr2
    cases hb : Nat.beq (s.ts.get p).ver v with
    | false => rw [hb] at hr2; exact (Runs.fail hr2).elim
    | true =>
      rw [hb] at hr2
      have hv := (beq_iff _ _).1 hb
      have he := hc.2 hv
      have hcp := h.cell p (by intro h; cases h)
      unfold CellOk at hcp
      cases hkp : (s.ts.get p).k <;> simp only [hkp] at hcp hr2 <;> try exact (Runs.fail hr2).elim
      case im => exact ⟨.im _, by rw [he]; exact hcp, hr2⟩
      case own e =>
        refine ⟨.ref p v e (s.ts.get p).t, ?_, hr2⟩
        rw [he]
        exact ⟨hcp.1.sl, Nat.le_of_eq hv.symm, fun _ => ⟨hv, hkp⟩, fun _ => ⟨rfl, rfl, .inl hkp⟩⟩

theorem cells_ok (h : Ok P G s) {i : Nat} : ∀ {n x τ : Nat} {kk : List CV → Prog}, Runs cf (cells i x n kk) s.ts o ts' → ∃ cs, cs.length = n ∧ CVsOk True s τ cs (cvals s.cv i x n) ∧ Runs cf (kk cs) s.ts o ts'
  | 0, _, _, _, hr => ⟨[], rfl, CVsOk.nil _ _ _, hr⟩
  | n + 1, x, τ, kk, hr => by
    obtain ⟨c, hc, hr1⟩ := cell_ok h τ hr
    obtain ⟨cs, hl, hcs, hr2⟩ := cells_ok h (τ := τ + 1) hr1
    exact ⟨c :: cs, by simp [hl], CVsOk.cons hc hcs, hr2⟩

theorem slotD_ok (h : Ok P G s) {i : Nat} {kk : D → Prog} (hr : Runs cf (slotD i kk) s.ts o ts') : ∃ d, DOk True s d (s.a.tmps.getD i undef) ∧ Runs cf (kk d) s.ts o ts' := by
  have hmn := h.main i (by intro h; cases h)
  have hr1 := Runs.get hr
  unfold MainOk at hmn
  cases hk : (s.ts.get (key i 0)).k <;> simp only [hk] at hmn hr1 <;> try exact (Runs.fail hr1).elim
  case one =>
    obtain ⟨c, hc, hr2⟩ := cell_ok h 0 hr1
    exact ⟨.one c, by rw [hmn]; exact hc, hr2⟩
  case agg n =>
    obtain ⟨cs, hl, hcs, hr2⟩ := cells_ok h (τ := 0) hr1
    exact ⟨.agg cs, ⟨_, hmn.2, hcs⟩, hr2⟩
  case tup sh =>
    obtain ⟨cs, hl, hcs, hr2⟩ := cells_ok h (τ := 0) hr1
    exact ⟨.tup sh cs, ⟨_, by rw [hmn.2, tupVals_eq], hcs⟩, hr2⟩
  case box e n =>
    obtain ⟨_, b, h1, h2, _⟩ := hmn
    exact ⟨.ad i (s.ts.get (key i 0)).ver 0, ⟨Nat.le_refl _, fun _ => ⟨rfl, by rw [hk]; rfl⟩, fun _ _ => ⟨b, h1, h2⟩⟩, hr1⟩
  case ad j v off =>
    have hr2 := Runs.get hr1
    dsimp only at hr2
    cases hb : Nat.beq (s.ts.get (key j 0)).ver v && isBox (s.ts.get (key j 0)).k with
    | false => rw [hb] at hr2; exact (Runs.fail hr2).elim
    | true =>
      rw [hb] at hr2
      rw [Bool.and_eq_true, beq_iff] at hb
      exact ⟨.ad j v off, ⟨hmn.1, fun _ => hb, hmn.2⟩, hr2⟩
  case el p v =>
    have hr2 := Runs.get hr1
    dsimp only at hr2
    cases hkp : (s.ts.get p).k <;> cases ht : (s.ts.get (key i 0)).t <;> simp only [hkp, ht] at hr2 <;> try exact (Runs.fail hr2).elim
    rename_i e x y
    cases hb : Nat.beq (s.ts.get p).ver v with
    | false => rw [hb] at hr2; exact (Runs.fail hr2).elim
    | true =>
      rw [hb] at hr2
      exact ⟨.el p v x, ⟨hmn.1, fun _ => ⟨(beq_iff _ _).1 hb, e, hkp⟩, fun hv => hmn.2 hv _ _ ht⟩, hr2⟩
  case ai =>
    cases ht : (s.ts.get (key i 0)).t <;> simp only [ht] at hr1 <;> try exact (Runs.fail hr1).elim
    exact ⟨.ai _ _, hmn _ _ ht, hr1⟩

theorem isOne_eq (v : Value) : isOne v = v.oneCell' := by cases v <;> rfl

theorem zeroCV_ok (L : Prop) (s : St) (τ : Nat) {v : Value} (h : isOne v = true) : CVOk L s τ (zeroCV v) v := by
  unfold zeroCV
  split
  · rfl
  · exact .lit (by rw [← isOne_eq]; exact h)

theorem zeroCVs_ok (L : Prop) (s : St) (τ : Nat) {vs : List Value} (h : ∀ v ∈ vs, isOne v = true) : CVsOk L s τ (vs.map zeroCV) vs := by
  refine ⟨by simp, fun j c v hc hv => ?_⟩
  rw [List.getElem?_map, hv] at hc
  simp at hc
  subst hc
  exact zeroCV_ok L s _ (h v (List.mem_of_getElem? hv))

theorem lit_ok (L : Prop) (s : St) {v : Value} (h : v.oneCell' = true) : DOk L s (.one (.im (.lit v))) v := RT.lit h

theorem constD_ok {v : Value} {kk : D → Prog} (hr : Runs cf (constD v kk) s.ts o ts') : ∃ d, DOk True s d v ∧ Runs cf (kk d) s.ts o ts' := by
  cases v with
  | slice a n c =>
    cases a <;> cases n <;> cases c <;> first | exact ⟨.one .nil, rfl, hr⟩ | exact (Runs.fail hr).elim
  | bool b => exact ⟨_, lit_ok _ _ rfl, hr⟩
  | int k n => exact ⟨_, lit_ok _ _ rfl, hr⟩
  | string b => exact ⟨_, lit_ok _ _ rfl, hr⟩
  | nilFunc => exact ⟨_, lit_ok _ _ rfl, hr⟩
  | agg cs =>
    have hr : Runs cf ((bif cs.toList.all isOne then (fun k => k (.agg (cs.toList.map zeroCV))) else C.fail : C D) kk) s.ts o ts' := hr
    cases hb : cs.toList.all isOne with
    | false => rw [hb] at hr; exact (Runs.fail hr).elim
    | true =>
      rw [hb] at hr
      refine ⟨.agg (cs.toList.map zeroCV), ⟨cs.toList, by simp, zeroCVs_ok _ _ _ ?_⟩, hr⟩
      exact List.all_eq_true.1 hb
  | _ => exact (Runs.fail hr).elim

theorem opd_ok (h : Ok P G s) {x : Operand} {kk : D → Prog} (hr : Runs cf (opd x kk) s.ts o ts') : ∃ d, DOk True s d (s.a.eval x) ∧ Runs cf (kk d) s.ts o ts' := by
  cases x with
  | tmp i => exact slotD_ok h hr
  | const v => exact constD_ok hr
  | func f => exact ⟨_, lit_ok _ _ rfl, hr⟩
  | global g => exact (Runs.fail hr).elim

theorem CVOk.one {L : Prop} (h : OkH P G hm none s) {τ : Nat} {c : CV} {v : Value} (hc : CVOk L s τ c v) : v.oneCell' = true := by
  cases c with
  | im t => exact RT.one hc
  | ref p n e t => obtain ⟨⟨A, l, c, rfl⟩, _⟩ := hc; rfl
  | new e t => obtain ⟨A, l, c, hv⟩ := (h.pok τ _ hc.2).1.sl; simp only at hv; subst hv; rfl
  | nil => rw [show v = _ from hc]; rfl
end

end Go.Proofs.Ytnjanliihnadjaa.Tm

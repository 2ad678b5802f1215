/- The tree machine: what the small programs do to a state: look, set, take, freeze. Conditions: none. -/
import Derived.Test.YtnjanliihnadjaaK2
namespace Go.Proofs.Ytnjanliihnadjaa.Tm
open Go

def Runs (cf : FuncId → List AD → Option Res) (p : Prog) (ts : TS) (o : Out) (ts' : TS) : Prop := ∃ R W R' W', p.run cf ts R W = some (o, ts', R', W')

section
variable {cf : FuncId → List AD → Option Res} {ts ts' : TS} {o : Out}
theorem Runs.get {k : Nat} {f : Ent → Prog} (h : Runs cf (.get k f) ts o ts') : Runs cf (f (ts.get k)) ts o ts' := by
  obtain ⟨R, W, R', W', h⟩ := h; exact ⟨_, _, _, _, h⟩
theorem Runs.put {k : Nat} {e : Ent} {c : Prog} (h : Runs cf (.put k e c) ts o ts') : Runs cf c (ts.put k e) o ts' := by
  obtain ⟨R, W, R', W', h⟩ := h; rw [run_put] at h; exact ⟨_, _, _, _, h⟩
theorem Runs.fail (h : Runs cf .fail ts o ts') : False := by
  obtain ⟨R, W, R', W', h⟩ := h; cases h
theorem Runs.test {b : Bool} {f : Bool → Prog} (h : Runs cf (.test b f) ts o ts') : Runs cf (f b) ts o ts' := by
  obtain ⟨R, W, R', W', h⟩ := h; rw [run_test] at h; exact ⟨_, _, _, _, h⟩
theorem Runs.int {v : Int} {f : Int → Prog} (h : Runs cf (.int v f) ts o ts') : Runs cf (f v) ts o ts' := by
  obtain ⟨R, W, R', W', h⟩ := h; rw [run_int] at h; exact ⟨_, _, _, _, h⟩
theorem Runs.sl {n : Nat} {cs : List T} {f : Nat → List T → Prog} (h : Runs cf (.sl n cs f) ts o ts') : Runs cf (f n cs) ts o ts' := by
  obtain ⟨R, W, R', W', h⟩ := h; rw [run_sl] at h; exact ⟨_, _, _, _, h⟩
theorem Runs.sub {cs : List T} {i n : Nat} {f : List T → Prog} (h : Runs cf (.sub cs i n f) ts o ts') : ((cs.drop i).take n).length = n ∧ Runs cf (f ((cs.drop i).take n)) ts o ts' := by
  obtain ⟨R, W, R', W', h⟩ := h
  obtain ⟨h1, h2⟩ := run_sub h
  exact ⟨h1, _, _, _, _, h2⟩
theorem Runs.call {g : FuncId} {as : List AD} {f : Res → Prog} (h : Runs cf (.call g as f) ts o ts') : ∃ x, cf g as = some x ∧ Runs cf (f x) ts o ts' := by
  obtain ⟨R, W, R', W', h⟩ := h
  obtain ⟨x, h1, h2⟩ := run_call h
  exact ⟨x, h1, _, _, _, _, h2⟩
theorem Runs.ret {a : Out} (h : Runs cf (.ret a) ts o ts') : o = a ∧ ts' = ts := by
  obtain ⟨R, W, R', W', h⟩ := h
  cases h; exact ⟨rfl, rfl⟩
end

/-- What a slot's cells make. -/
def tupOf : List Nat → List Value → List Value
  | [], _ => []
  | 0 :: _, [] => []
  | 0 :: r, x :: xs => x :: tupOf r xs
  | (n + 1) :: r, xs => .agg (xs.take n).toArray :: tupOf r (xs.drop n)

theorem cvals_append (cv : Nat → Value) (s : Nat) : ∀ (m n o : Nat), cvals cv s o (m + n) = cvals cv s o m ++ cvals cv s (o + m) n
  | 0, n, o => by simp [cvals]
  | m + 1, n, o => by
    rw [show m + 1 + n = (m + n) + 1 by omega]
    simp only [cvals, List.cons_append]
    rw [cvals_append cv s m n (Nat.succ o), show Nat.succ o + m = o + (m + 1) by omega]

theorem tupVals_eq (cv : Nat → Value) (s : Nat) : ∀ (sh : List Nat) (o : Nat), tupVals cv s o sh = tupOf sh (cvals cv s o (shLen sh))
  | [], _ => rfl
  | 0 :: r, o => by
    simp only [tupVals, shLen]
    rw [Nat.add_comm 1 (shLen r)]
    simp only [cvals, tupOf]
    rw [tupVals_eq cv s r (Nat.succ o)]
  | (n + 1) :: r, o => by
    simp only [tupVals, shLen, tupOf]
    rw [cvals_append, List.take_left' (cvals_length _ _ _ _), List.drop_left' (cvals_length _ _ _ _), tupVals_eq cv s r (o + n)]

theorem cvals_eq {cv : Nat → Value} {s o : Nat} {vs : List Value} (h : ∀ (m : Nat) v, vs[m]? = some v → cv (key s (o + m)) = v) : cvals cv s o vs.length = vs := by
  apply List.ext_getElem?
  intro j
  by_cases hj : j < vs.length
  · rw [cvals_get _ _ _ _ _ hj, h j vs[j] (List.getElem?_eq_getElem hj), List.getElem?_eq_getElem hj]
  · rw [List.getElem?_eq_none (by rw [cvals_length]; omega), List.getElem?_eq_none (by omega)]

/-- What is in hand stands for v. -/
def DOk (L : Prop) (s : St) (d : D) (v : Value) : Prop := match d with
  | .one c => CVOk L s 0 c v
  | .agg cs => ∃ vs, v = .agg vs.toArray ∧ CVsOk L s 0 cs vs
  | .tup sh cs => ∃ vs, v = .tuple (tupOf sh vs).toArray ∧ CVsOk L s 0 cs vs
  | .ad j n off => n ≤ (s.ts.get (key j 0)).ver ∧ (L → (s.ts.get (key j 0)).ver = n ∧ isBox (s.ts.get (key j 0)).k = true) ∧
      ((s.ts.get (key j 0)).ver = n → isBox (s.ts.get (key j 0)).k = true → ∃ b, s.cv (key j 0) = .pointer (some ⟨b, 0, none⟩) ∧ v = .pointer (some ⟨b, off, none⟩))
  | .el p n i => n ≤ (s.ts.get p).ver ∧ (L → (s.ts.get p).ver = n ∧ ∃ e, (s.ts.get p).k = .own e) ∧
      ((s.ts.get p).ver = n → ∃ g l c, s.cv p = .slice (some ⟨g, 0, none⟩) l c ∧ v = .pointer (some ⟨g, i, none⟩))
  | .ai i cs => ∃ (ad : Addr) (vs : List Value), s.S ad.block ∧ RTs s.w s.S cs vs ∧ (∀ (j : Nat) u, vs[j]? = some u → s.w.cell? (ad.add j) = some u) ∧ v = .pointer (some (ad.add i))

theorem DOk.ev {L : Prop} {s s' : St} {d : D} {v : Value} (h : DOk L s d v) (g : Ev s s') (hp : ∀ i, s'.pd i = s.pd i) : DOk False s' d v := by
  cases d with
  | one c => exact CVOk.ev h g (hp 0)
  | agg cs => obtain ⟨vs, h1, h2⟩ := h; exact ⟨vs, h1, h2.ev g fun i _ => hp i⟩
  | tup sh cs => obtain ⟨vs, h1, h2⟩ := h; exact ⟨vs, h1, h2.ev g fun i _ => hp i⟩
  | ad j n off =>
    obtain ⟨h1, h2, h3⟩ := h
    have hv := g.ver (key j 0)
    refine ⟨Nat.le_trans h1 hv.1, False.elim, fun he hb => ?_⟩
    have he' : (s.ts.get (key j 0)).ver = n := Nat.le_antisymm (he ▸ hv.1) h1
    obtain ⟨a1, a2, a3⟩ := hv.2 (he.trans he'.symm)
    have hb' : isBox (s.ts.get (key j 0)).k = true := by
      rcases a3 with a3 | ⟨_, a3⟩
      · rwa [a3] at hb
      · rw [a3] at hb; exact absurd hb (by decide)
    obtain ⟨b, hb1, hb2⟩ := h3 he' hb'
    exact ⟨b, a1.trans hb1, hb2⟩
  | el p n i =>
    obtain ⟨h1, h2, h3⟩ := h
    have hv := g.ver p
    refine ⟨Nat.le_trans h1 hv.1, False.elim, fun he => ?_⟩
    have he' : (s.ts.get p).ver = n := Nat.le_antisymm (he ▸ hv.1) h1
    obtain ⟨gb, l, c, a, b⟩ := h3 he'
    exact ⟨gb, l, c, (hv.2 (he.trans he'.symm)).1.trans a, b⟩
  | ai i cs =>
    obtain ⟨ad, vs, a1, a2, a3, a4⟩ := h
    refine ⟨ad, vs, g.S _ a1, a2.mono g.S g.w, fun j u hj => ?_, a4⟩
    rw [World.cell?_of_block (w := s.w) (by rw [add_block]; exact g.w _ a1)]
    exact a3 j u hj

theorem DOk.weak {L : Prop} {s : St} {d : D} {v : Value} (h : DOk L s d v) : DOk False s d v := h.ev (Ev.refl s) fun _ => rfl

section
variable {P : Program} {G : Ctx} {s : St} {cf : FuncId → List AD → Option Res} {ts' : TS} {o : Out}

theorem look_ok {i k x : Nat} (h : OkH P G (some i) none s) (hk : k = key i x) (h1 : 1 ≤ x) (h62 : x ≤ 62) {c : CV} {v : Value} {τ : Nat} {ty : Option TypeId} {kk : Unit → Prog}
    (hc : CVOk False s τ c v) (hr : Runs cf (look k ty c kk) s.ts o ts') :
    ∃ s', OkH P G (some i) none s' ∧ Ev s s' ∧ s'.cv = upd s.cv k v ∧ s'.a = s.a ∧ s'.w = s.w ∧ (∀ j, j ≠ k → s'.ts.get j = s.ts.get j) ∧ (∀ j, j ≠ τ → s'.pd j = s.pd j) ∧
      (∀ b j, s.ow b = .key j → s'.ow b = .key j) ∧ Runs cf (kk ()) s'.ts o ts' := by
  have hki : k / 64 = i := by rw [hk, key_div (by omega)]
  have hk0 : ∀ {Q : Prop}, k = key (k / 64) 0 → Q := fun e => by rw [hki, hk, key_eq, key_eq] at e; omega
  have go : ∀ (s1 : St) (e : K) (t : T), OkH P G (some i) none s1 → Ev s s1 → s1.cv = s.cv → s1.a = s.a → s1.w = s.w → s1.ts = s.ts → (∀ j, j ≠ τ → s1.pd j = s.pd j) →
      (∀ b j, s.ow b = .key j → s1.ow b = .key j) → CellOk P (s1.bump k e t v) k → Runs cf (bump k e t kk) s.ts o ts' →
      ∃ s', OkH P G (some i) none s' ∧ Ev s s' ∧ s'.cv = upd s.cv k v ∧ s'.a = s.a ∧ s'.w = s.w ∧ (∀ j, j ≠ k → s'.ts.get j = s.ts.get j) ∧ (∀ j, j ≠ τ → s'.pd j = s.pd j) ∧
      (∀ b j, s.ow b = .key j → s'.ow b = .key j) ∧ Runs cf (kk ()) s'.ts o ts' := by
    intro s1 e t ok1 ev1 e1 e2 e3 e4 e5 e6 hcell hrun
    refine ⟨s1.bump k e t v, ok1.bump k e t v (by rw [hki]) (fun _ => hcell) (fun _ e => hk0 e), ev1.trans (ev_bump _ _ _ _), ?_, e2, e3, fun j hj => ?_, e5, e6, ?_⟩
    · show upd s1.cv k v = _; rw [e1]
    · show (s1.ts.put k _).get j = _; rw [get_ne _ _ hj, e4]
    · have := (Runs.get hrun).put
      show Runs cf (kk ()) (s1.ts.put k ⟨e, Nat.succ (s1.ts.get k).ver, t⟩) o ts'
      rw [e4]; exact this
  cases c with
  | im t =>
    refine go s .im t h (Ev.refl s) rfl rfl rfl rfl (fun _ _ => rfl) (fun _ _ h => h) ?_ hr
    simp only [CellOk, St.bump, get_same, upd_same]; exact hc
  | ref p n e t =>
    refine go s (.vw p n) nob h (Ev.refl s) rfl rfl rfl rfl (fun _ _ => rfl) (fun _ _ h => h) ?_ hr
    simp only [CellOk, St.bump, get_same, upd_same]
    by_cases hp : p = k
    · subst hp
      simp only [get_same]
      exact ⟨Nat.le_succ_of_le hc.2.1, fun h => absurd hc.2.1 (by omega)⟩
    · simp only [get_ne _ _ hp, upd_ne _ _ hp]
      exact ⟨hc.2.1, fun h => (hc.2.2.2 h).1.symm⟩
  | new e t =>
    obtain ⟨ok1, ev1⟩ := h.place (τ := τ) (x := ⟨e, t, v⟩) hc.2 (.key k)
    have hp := h.pok τ _ hc.2
    refine go (s.place τ v (.key k)) (.own e) t ok1 ev1 rfl rfl rfl rfl (fun j hj => upd_ne _ _ hj) (fun b j hb => (give_off fun e => ?_).trans hb) ?_ hr
    · have := hp.2 b e; rw [this] at hb; cases hb
    · simp only [CellOk, St.bump, get_same, upd_same]
      exact ⟨hp.1.mono ev1.S (fun _ _ => rfl) (fun _ _ => rfl), fun b hb => give_at hb⟩
  | nil =>
    have hv : v = .slice none 0 0 := hc
    refine go s (nilOf ty) (.sl 0 []) h (Ev.refl s) rfl rfl rfl rfl (fun _ _ => rfl) (fun _ _ h => h) ?_ hr
    subst hv
    cases ty with
    | none => simp only [CellOk, St.bump, get_same, upd_same, nilOf]; exact .nil
    | some e => simp only [CellOk, St.bump, get_same, upd_same, nilOf]; exact ⟨⟨0, [], rfl, .inl ⟨rfl, rfl, rfl⟩⟩, fun b hb => by cases hb⟩

theorem looks_ok {i : Nat} : ∀ {cs : List CV} {s : St} {x τ : Nat} {vs : List Value} {tys : List (Option TypeId)} {kk : Unit → Prog}, OkH P G (some i) none s → 1 ≤ x → x + cs.length ≤ 63 →
    CVsOk False s τ cs vs → Runs cf (looks i x tys cs kk) s.ts o ts' →
    ∃ s', OkH P G (some i) none s' ∧ Ev s s' ∧ s'.a = s.a ∧ s'.w = s.w ∧ (∀ j, (∀ m, m < cs.length → j ≠ key i (x + m)) → s'.ts.get j = s.ts.get j ∧ s'.cv j = s.cv j) ∧
      (∀ (m : Nat) v, vs[m]? = some v → s'.cv (key i (x + m)) = v) ∧ (∀ j, j < τ ∨ τ + cs.length ≤ j → s'.pd j = s.pd j) ∧
      (∀ b j, s.ow b = .key j → s'.ow b = .key j) ∧ Runs cf (kk ()) s'.ts o ts' := by
  intro cs
  induction cs with
  | nil =>
    intro s x τ vs tys kk h h1 h2 hc hr
    have := hc.nil_inv; subst this
    exact ⟨s, h, Ev.refl s, rfl, rfl, fun _ _ => ⟨rfl, rfl⟩, fun m v h => by simp at h, fun _ _ => rfl, fun _ _ h => h, hr⟩
  | cons c cs ih =>
    intro s x τ vs tys kk h h1 h2 hc hr
    simp only [List.length_cons] at h2
    obtain ⟨v, vr, rfl, hc1, hc2⟩ := hc.cons_inv
    obtain ⟨s1, ok1, ev1, e1, e2, e3, e4, e5, e6, hr1⟩ := look_ok h rfl h1 (by omega) hc1 hr
    obtain ⟨s2, ok2, ev2, f1, f2, f3, f4, f5, f6, hr2⟩ := ih (x := Nat.succ x) ok1 (by omega) (by omega) (hc2.ev ev1 fun j hj => e5 j (by omega)) hr1
    refine ⟨s2, ok2, ev1.trans ev2, f1.trans e2, f2.trans e3, fun j hj => ?_, fun m u hm => ?_, fun j hj => ?_, fun b j hb => f6 b j (e6 b j hb), hr2⟩
    · have a1 := f3 j fun m hm => by have := hj (m + 1) (by simpa using hm); rwa [show Nat.succ x + m = x + (m + 1) by omega]
      have a2 : j ≠ key i x := hj 0 (by simp)
      exact ⟨a1.1.trans (e4 j a2), a1.2.trans (by rw [e1]; exact upd_ne _ _ a2)⟩
    · match m, hm with
      | 0, hm =>
        simp at hm; subst hm
        rw [(f3 (key i (x + 0)) fun m hm => by rw [key_eq, key_eq]; omega).2, e1]
        exact upd_same _ _ _
      | m + 1, hm =>
        have := f4 m u (by simpa using hm)
        rwa [show x + (m + 1) = Nat.succ x + m by omega]
    · have := f5 j (by simp only [List.length_cons] at hj; omega)
      exact this.trans (e5 j (by simp only [List.length_cons] at hj; omega))

theorem putRC_look (k : Nat) (ty : Option TypeId) (c : RC) : putRC k ty c = look k ty c.cv := by cases c <;> rfl
theorem putRCs_looks (i : Nat) : ∀ (cs : List RC) (x : Nat) (tys : List (Option TypeId)), putRCs i x tys cs = looks i x tys (cs.map RC.cv)
  | [], _, _ => rfl
  | c :: cs, x, tys => by
    funext k
    simp only [putRCs, looks, List.map_cons, putRC_look, putRCs_looks i cs]

theorem setD_ok {E : Env} {d ty : Nat} {D : D} {v : Value} {kk : Unit → Prog} (h : Ok P G s) (hd : d < s.a.tmps.size) (hD : DOk False s D v)
    (hr : Runs cf (setD E d ty D kk) s.ts o ts') : ∃ s', Ok P G s' ∧ Ev s s' ∧ s'.a = s.a.put (some d) v ∧ s'.w = s.w ∧ Runs cf (kk ()) s'.ts o ts' := by
  have hput : (s.a.put (some d) v).tmps.getD d undef = v := by simp [Act.put, hd]
  have hkd : key d 0 / 64 = d := key_div (by omega)
  -- the head is written, and the slot holds its value
  have head : ∀ (e : K) (t : T) (kk' : Unit → Prog), (∀ e', e ≠ .own e') → e ≠ .im → (∀ p n, e ≠ .vw p n) → isBox e = false → Runs cf (bump (key d 0) e t kk') s.ts o ts' →
      ∃ s1, OkH P G (some d) none s1 ∧ Ev s s1 ∧ s1.a = s.a.put (some d) v ∧ s1.w = s.w ∧ s1.pd = s.pd ∧ s1.cv = upd s.cv (key d 0) v ∧ s1.ow = s.ow ∧ s1.ts = s.ts.put (key d 0) ⟨e, Nat.succ (s.ts.get (key d 0)).ver, t⟩ ∧ Runs cf (kk' ()) s1.ts o ts' := by
    intro e t kk' h1 h2 h3 h4 hrun
    have ok1 := (h.openM d).bump (key d 0) e t v (by rw [hkd]) (fun _ => by
      rw [CellOk, show (s.bump (key d 0) e t v).ts.get (key d 0) = ⟨e, Nat.succ (s.ts.get (key d 0)).ver, t⟩ from get_same _ _ _]
      cases e <;> first | trivial | exact absurd rfl (h1 _) | exact absurd rfl h2 | exact absurd rfl (h3 _ _)) (fun hb => by rw [h4] at hb; cases hb)
    have hr1 := (Runs.get hrun).put
    refine ⟨_, ok1.put v, ⟨(ev_bump (s := s) (key d 0) e t v).S, (ev_bump (s := s) (key d 0) e t v).w, (ev_bump (s := s) (key d 0) e t v).ver⟩, rfl, rfl, rfl, rfl, rfl, rfl, hr1⟩
  cases D with
  | one c =>
    obtain ⟨s1, ok1, ev1, a1, w1, p1, c1, o1, t1, hr1⟩ := head .one nob (fun _ => look (key d 1) (nilE E ty) c kk) (fun _ => by simp) (by simp) (by simp) rfl hr
    obtain ⟨s2, ok2, ev2, e1, e2, e3, e4, e5, e6, hr2⟩ := look_ok ok1 rfl (Nat.le_refl 1) (by omega) (CVOk.ev hD ev1 (by rw [p1])) hr1
    refine ⟨s2, ok2.closeM ?_, ev1.trans ev2, e2.trans a1, e3.trans w1, hr2⟩
    have hk : s2.ts.get (key d 0) = ⟨.one, Nat.succ (s.ts.get (key d 0)).ver, nob⟩ := by rw [e4 _ (by rw [key_eq, key_eq]; omega), t1, get_same]
    simp only [MainOk, hk, e2, a1, hput, e1, upd_same]
  | agg cs =>
    obtain ⟨vs, rfl, hcs⟩ := hD
    simp only [setD] at hr
    cases hb : Nat.ble cs.length 62 with
    | false => rw [hb] at hr; exact (Runs.fail hr).elim
    | true =>
      rw [hb] at hr
      have hlen := (ble_iff _ _).1 hb
      obtain ⟨s1, ok1, ev1, a1, w1, p1, c1, o1, t1, hr1⟩ := head (.agg cs.length) nob (fun _ => looks d 1 (leaves E ty) cs kk) (fun _ => by simp) (by simp) (by simp) rfl hr
      obtain ⟨s2, ok2, ev2, e2, e3, e4, e5, e6, e7, hr2⟩ := looks_ok ok1 (Nat.le_refl 1) (by omega) (hcs.ev ev1 fun _ _ => by rw [p1]) hr1
      refine ⟨s2, ok2.closeM ?_, ev1.trans ev2, e2.trans a1, e3.trans w1, hr2⟩
      have hk : s2.ts.get (key d 0) = ⟨.agg cs.length, Nat.succ (s.ts.get (key d 0)).ver, nob⟩ := by rw [(e4 _ fun m hm => by rw [key_eq, key_eq]; omega).1, t1, get_same]
      simp only [MainOk, hk, e2, a1, hput]
      refine ⟨hlen, ?_⟩
      rw [← hcs.1, cvals_eq e5]
  | tup sh cs =>
    obtain ⟨vs, rfl, hcs⟩ := hD
    simp only [setD] at hr
    cases hb : Nat.ble cs.length 62 && Nat.beq cs.length (shLen sh) with
    | false => rw [hb] at hr; exact (Runs.fail hr).elim
    | true =>
      rw [hb] at hr
      rw [Bool.and_eq_true, ble_iff, beq_iff] at hb
      obtain ⟨hlen, hsh⟩ := hb
      obtain ⟨s1, ok1, ev1, a1, w1, p1, c1, o1, t1, hr1⟩ := head (.tup sh) nob (fun _ => looks d 1 [] cs kk) (fun _ => by simp) (by simp) (by simp) rfl hr
      obtain ⟨s2, ok2, ev2, e2, e3, e4, e5, e6, e7, hr2⟩ := looks_ok ok1 (Nat.le_refl 1) (by omega) (hcs.ev ev1 fun _ _ => by rw [p1]) hr1
      refine ⟨s2, ok2.closeM ?_, ev1.trans ev2, e2.trans a1, e3.trans w1, hr2⟩
      have hk : s2.ts.get (key d 0) = ⟨.tup sh, Nat.succ (s.ts.get (key d 0)).ver, nob⟩ := by rw [(e4 _ fun m hm => by rw [key_eq, key_eq]; omega).1, t1, get_same]
      simp only [MainOk, hk, e2, a1, hput]
      refine ⟨by omega, ?_⟩
      rw [tupVals_eq, ← hsh, ← hcs.1, cvals_eq e5]
  | ad j n off =>
    obtain ⟨s1, ok1, ev1, a1, w1, p1, c1, o1, t1, hr1⟩ := head (.ad j n off) nob kk (fun _ => by simp) (by simp) (by simp) rfl hr
    refine ⟨s1, ok1.closeM ?_, ev1, a1, w1, hr1⟩
    have hk : s1.ts.get (key d 0) = ⟨.ad j n off, Nat.succ (s.ts.get (key d 0)).ver, nob⟩ := by rw [t1, get_same]
    simp only [MainOk, hk, a1, hput]
    have := DOk.ev (s' := s1) hD ev1 (fun _ => by rw [p1])
    exact ⟨this.1, this.2.2⟩
  | el p n i =>
    obtain ⟨s1, ok1, ev1, a1, w1, p1, c1, o1, t1, hr1⟩ := head (.el p n) (.sl i []) kk (fun _ => by simp) (by simp) (by simp) rfl hr
    refine ⟨s1, ok1.closeM ?_, ev1, a1, w1, hr1⟩
    have hk : s1.ts.get (key d 0) = ⟨.el p n, Nat.succ (s.ts.get (key d 0)).ver, .sl i []⟩ := by rw [t1, get_same]
    simp only [MainOk, hk, a1, hput]
    have := DOk.ev (s' := s1) hD ev1 (fun _ => by rw [p1])
    exact ⟨this.1, fun hv x y hxy => by cases hxy; exact this.2.2 hv⟩
  | ai i cs =>
    obtain ⟨s1, ok1, ev1, a1, w1, p1, c1, o1, t1, hr1⟩ := head .ai (.sl i cs) kk (fun _ => by simp) (by simp) (by simp) rfl hr
    refine ⟨s1, ok1.closeM ?_, ev1, a1, w1, hr1⟩
    have hk : s1.ts.get (key d 0) = ⟨.ai, Nat.succ (s.ts.get (key d 0)).ver, .sl i cs⟩ := by rw [t1, get_same]
    simp only [MainOk, hk, a1, hput]
    intro x cs' hx
    cases hx
    exact DOk.ev (s' := s1) hD ev1 (fun _ => by rw [p1])
end

end Go.Proofs.Ytnjanliihnadjaa.Tm

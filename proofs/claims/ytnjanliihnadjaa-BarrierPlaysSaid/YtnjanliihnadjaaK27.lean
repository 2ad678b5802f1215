/- The tree machine: what it answers of a function is so. Conditions: none. -/
import Derived.Test.YtnjanliihnadjaaK26
namespace Go.Proofs.Ytnjanliihnadjaa.Tm
open Go

section
variable {P : Program} {G : Ctx} {s : St} {cf : FuncId → List AD → Option Res} {ts ts' : TS} {o : Out} {E : Env}

theorem CVOk.tau {τ τ' : Nat} {c : CV} {v : Value} (h : CVOk True s τ c v) : CVOk True s τ' c v := by
  cases c with
  | new e t => exact absurd trivial h.1
  | _ => exact h

theorem CVsOk.tau {τ τ' : Nat} {cs : List CV} {vs : List Value} (h : CVsOk True s τ cs vs) : CVsOk True s τ' cs vs := ⟨h.1, fun j c v a b => (h.2 j c v a b).tau⟩

theorem takeM_ok (h : Ok P G s) {m i : Nat} {c : CV} {v : Value} {τ : Nat} {kk : RC → Prog} (hc : CVOk False s τ c v) (hr : Runs cf (takeM m i c kk) s.ts o ts') :
    ∃ rc s', Ok P G s' ∧ Same s s' ∧ CVOk False s' τ rc.cv v ∧ (∀ j, j ≠ τ → s'.pd j = s.pd j) ∧ Runs cf (kk rc) s'.ts o ts' := by
  unfold takeM at hr
  cases hb : hasBit m i with
  | false => rw [hb] at hr; exact take_ok h hc hr
  | true =>
    rw [hb] at hr
    obtain ⟨t, s', h1, h2, h3, h4, h5⟩ := freeze_ok h hc hr
    exact ⟨.im t, s', h1, h2, h3, h4, h5⟩

theorem takesM_ok : ∀ {cs : List CV} {s : St} {m i : Nat} {vs : List Value} {τ : Nat} {kk : List RC → Prog}, Ok P G s → CVsOk False s τ cs vs → Runs cf (takesM m i cs kk) s.ts o ts' →
    ∃ rcs s', Ok P G s' ∧ Same s s' ∧ CVsOk False s' τ (rcs.map RC.cv) vs ∧ (∀ j, j < τ ∨ τ + cs.length ≤ j → s'.pd j = s.pd j) ∧ Runs cf (kk rcs) s'.ts o ts' := by
  intro cs
  induction cs with
  | nil =>
    intro s m i vs τ kk h hc hr
    have := hc.nil_inv; subst this
    exact ⟨[], s, h, Same.refl s, CVsOk.nil _ _ _, fun _ _ => rfl, hr⟩
  | cons c cs ih =>
    intro s m i vs τ kk h hc hr
    obtain ⟨v, vr, rfl, hc1, hc2⟩ := hc.cons_inv
    obtain ⟨rc, s1, ok1, sm1, c1, p1, hr1⟩ := takeM_ok h hc1 hr
    obtain ⟨rcs, s2, ok2, sm2, c2, p2, hr2⟩ := ih ok1 (hc2.ev sm1.ev fun j hj => p1 j (by omega)) hr1
    refine ⟨rc :: rcs, s2, ok2, sm1.trans sm2, CVsOk.cons (c1.ev sm2.ev (p2 τ (by omega))) c2, fun j hj => ?_, hr2⟩
    simp only [List.length_cons] at hj
    exact (p2 j (by omega)).trans (p1 j (by omega))

theorem rvOf_ok (h : Ok P G s) {m i : Nat} {d : D} {v : Value} (τ : Nat) (hd : DOk True s d v) {kk : RV → Prog} (hr : Runs cf (rvOf m i d kk) s.ts o ts') :
    ∃ rv us s', Ok P G s' ∧ Same s s' ∧ us.length = (rvCells rv).length ∧ CVsOk False s' τ ((rvCells rv).map RC.cv) us ∧ (∀ x r, tupOf (shR rv :: r) (us ++ x) = v :: tupOf r x) ∧
      (∀ j, j < τ ∨ τ + (rvCells rv).length ≤ j → s'.pd j = s.pd j) ∧ Runs cf (kk rv) s'.ts o ts' := by
  cases d with
  | one c =>
    obtain ⟨rc, s', h1, h2, h3, h4, h5⟩ := takeM_ok h (τ := τ) (CVOk.weak (CVOk.tau hd)) hr
    refine ⟨.one rc, [v], s', h1, h2, rfl, CVsOk.cons h3 (CVsOk.nil _ _ _), fun x r => rfl, fun j hj => h4 j ?_, h5⟩
    simp only [rvCells, List.length_cons, List.length_nil] at hj
    omega
  | agg cs =>
    obtain ⟨us, rfl, hcs⟩ := hd
    obtain ⟨rcs, s', h1, h2, h3, h4, h5⟩ := takesM_ok h (τ := τ) (CVsOk.weak (CVsOk.tau hcs)) hr
    have hl : us.length = rcs.length := by have := h3.1; simpa using this
    refine ⟨.agg rcs, us, s', h1, h2, hl, h3, fun x r => ?_, fun j hj => h4 j ?_, h5⟩
    · simp only [shR, tupOf]
      rw [List.take_left' hl, List.drop_left' hl]
    · simp only [rvCells] at hj
      have := hcs.1
      omega
  | _ => exact (Runs.fail hr).elim

theorem CVsOk.append {L : Prop} {τ : Nat} {cs ds : List CV} {us vs : List Value} (h : CVsOk L s τ cs us) (g : CVsOk L s (τ + cs.length) ds vs) : CVsOk L s τ (cs ++ ds) (us ++ vs) := by
  refine ⟨by simp [h.1, g.1], fun j c v hc hv => ?_⟩
  rw [List.getElem?_append] at hc hv
  rw [h.1] at hv
  split at hc
  · rename_i hj; rw [if_pos hj] at hv; exact h.2 j c v hc hv
  · rename_i hj; rw [if_neg hj] at hv
    have := g.2 _ c v hc hv
    rwa [show τ + cs.length + (j - cs.length) = τ + j by omega] at this

def resVar (tmps : Array Value) : ResultVar → Sem Value
  | .tmp t => pure (tmps.getD t undef)
  | .cell a t => do loadVar t (← asAddr (tmps.getD a undef))

theorem resultD_ok (h : Ok P G s) (hE : EnvOk P E) (τ : Nat) {m i : Nat} {x : ResultVar} {kk : RV → Prog} (hr : Runs cf (resultD E m i x kk) s.ts o ts') :
    ∃ v rv us s', (resVar s.a.tmps x).run P s.w = .ok v s.w ∧ Ok P G s' ∧ Same s s' ∧ us.length = (rvCells rv).length ∧ CVsOk False s' τ ((rvCells rv).map RC.cv) us ∧ (∀ x r, tupOf (shR rv :: r) (us ++ x) = v :: tupOf r x) ∧
      (∀ j, j < τ ∨ τ + (rvCells rv).length ≤ j → s'.pd j = s.pd j) ∧ Runs cf (kk rv) s'.ts o ts' := by
  cases x with
  | tmp t =>
    obtain ⟨d, hd, hr1⟩ := slotD_ok h hr
    obtain ⟨rv, us, s', h1⟩ := rvOf_ok h τ hd hr1
    exact ⟨_, rv, us, s', rfl, h1⟩
  | cell a t =>
    obtain ⟨p, hp, hr1⟩ := slotD_ok h hr
    obtain ⟨d, v, h1, hd, hr2⟩ := loadD_okT h hE hp hr1
    obtain ⟨rv, us, s', h2⟩ := rvOf_ok h τ hd hr2
    refine ⟨v, rv, us, s', ?_, h2⟩
    have h3 : ((do loadVar t (← Instr.sureAddr (s.a.tmps.getD a undef))) : Sem Value).run P s.w = .ok v s.w := h1
    show ((do loadVar t (← asAddr (s.a.tmps.getD a undef))) : Sem Value).run P s.w = .ok v s.w
    generalize s.a.tmps.getD a undef = va at h3
    cases va with
    | pointer q =>
      cases q with
      | none => cases h3
      | some ad => exact h3
    | _ => cases h3

theorem resultsD_ok (hE : EnvOk P E) : ∀ {rs : List ResultVar} {s : St} {τ m i : Nat} {kk : List RV → Prog}, Ok P G s → Runs cf (resultsD E m i rs kk) s.ts o ts' →
    ∃ vs rvs us s', (rs.mapM (resVar s.a.tmps)).run P s.w = .ok vs s.w ∧ Ok P G s' ∧ Same s s' ∧ us.length = (cellsR rvs).length ∧ CVsOk False s' τ ((cellsR rvs).map RC.cv) us ∧ tupOf (rvs.map shR) us = vs ∧
      rvs.length = rs.length ∧ (∀ j, j < τ → s'.pd j = s.pd j) ∧ Runs cf (kk rvs) s'.ts o ts'
  | [], s, τ, m, i, kk, h, hr => ⟨[], [], [], s, rfl, h, Same.refl s, rfl, CVsOk.nil _ _ _, rfl, rfl, fun _ _ => rfl, hr⟩
  | x :: rs, s, τ, m, i, kk, h, hr => by
    obtain ⟨v, rv, us, s1, a1, a2, a3, a4, a5, a6, a7, a8⟩ := resultD_ok h hE τ hr
    obtain ⟨vs, rvs, us2, s2, b1, b2, b3, b4, b5, b6, b7, b8, b9⟩ := resultsD_ok hE (τ := τ + (rvCells rv).length) a2 a8
    refine ⟨v :: vs, rv :: rvs, us ++ us2, s2, ?_, b2, a3.trans b3, ?_, ?_, ?_, by simp [b7], fun j hj => (b8 j (by omega)).trans (a7 j (by omega)), b9⟩
    · rw [List.mapM_cons]
      simp only [Sem.run_bind, a1, Result.andThen_ok]
      rw [a3.a, a3.w] at b1
      simp only [b1, Result.andThen_ok]
      rfl
    · show _ = (rvCells rv ++ cellsR rvs).length
      rw [List.length_append, List.length_append, a4, b4]
    · show CVsOk False s2 τ ((rvCells rv ++ cellsR rvs).map RC.cv) _
      rw [List.map_append]
      refine CVsOk.append (CVsOk.weak ⟨a5.1, fun j c v hc hv => (a5.2 j c v hc hv).ev b3.ev (b8 _ ?_)⟩) (by rw [List.length_map]; exact b5)
      have := (List.getElem?_eq_some_iff.1 hc).1
      rw [List.length_map] at this
      omega
    · rw [List.map_cons, a6, b6]

theorem endBoxes_ok (h : Ok P G s) : ∀ {as : List AD} {vs : List Value} {i0 : Nat} {kk : List (List RC) → Prog}, vs.length = as.length →
    (∀ i e cs, as[i]? = some (.box e cs) → s.cv (key (i0 + i) 0) = vs.getD i undef ∨ isBox (s.ts.get (key (i0 + i) 0)).k = false) → Runs cf (endBoxes i0 as kk) s.ts o ts' → ∃ bs, BoxesOk P s.w s.ow i0 as vs bs ∧ Runs cf (kk bs) s.ts o ts'
  | [], [], i0, kk, _, _, hr => ⟨[], trivial, hr⟩
  | [], _ :: _, _, _, hl, _, _ => by cases hl
  | _ :: _, [], _, _, hl, _, _ => by cases hl
  | a :: as, v :: vs, i0, kk, hl, hp, hr => by
    have hl' : vs.length = as.length := by simpa using hl
    have hp' : ∀ i e cs, as[i]? = some (.box e cs) → s.cv (key (i0 + 1 + i) 0) = vs.getD i undef ∨ isBox (s.ts.get (key (i0 + 1 + i) 0)).k = false := fun i e cs hi => by
      have := hp (i + 1) e cs (by simpa using hi)
      rw [show i0 + (i + 1) = i0 + 1 + i by omega] at this
      simpa using this
    cases a with
    | one t =>
      obtain ⟨bs, h1, h2⟩ := endBoxes_ok h (i0 := i0 + 1) hl' hp' hr
      exact ⟨bs, h1, h2⟩
    | agg ts =>
      obtain ⟨bs, h1, h2⟩ := endBoxes_ok h (i0 := i0 + 1) hl' hp' hr
      exact ⟨bs, h1, h2⟩
    | box e cs =>
      have hr1 := Runs.get hr
      have hpi := hp 0 e cs rfl
      rw [Nat.add_zero] at hpi
      have hm := h.main i0 (by intro h; cases h)
      cases hk : (s.ts.get (key i0 0)).k <;> rw [hk] at hr1 <;> try exact (Runs.fail hr1).elim
      rename_i e' n
      simp only [MainOk, hk] at hm
      obtain ⟨hm1, b, hb1, _, hb3, hb4⟩ := hm
      have hpv : s.cv (key i0 0) = v := by
        rcases hpi with h1 | h1
        · simpa using h1
        · rw [hk] at h1; cases h1
      have hr2 : Runs cf (bif Nat.beq n cs.length && Nat.beq e' e then boxCells i0 1 n fun x => endBoxes (Nat.succ i0) as fun xs => kk (x :: xs) else .fail) s.ts o ts' := hr1
      cases hq : Nat.beq n cs.length && Nat.beq e' e with
      | false => rw [hq] at hr2; exact (Runs.fail hr2).elim
      | true =>
        rw [hq] at hr2
        rw [Bool.and_eq_true, beq_iff, beq_iff] at hq
        obtain ⟨hn, rfl⟩ := hq
        obtain ⟨rcs, g1, g2, g3⟩ := boxCells_ok hr2
        obtain ⟨bs, h1, h2⟩ := endBoxes_ok h (i0 := i0 + 1) hl' hp' g3
        refine ⟨rcs :: bs, ⟨⟨b, cvals s.cv i0 1 n, by rw [← hpv, hb1], by omega, by rw [cvals_length, g1], hb3, hb4, fun j c u hc hu => ?_⟩, h1⟩, h2⟩
        have hlt : j < n := by rw [← g1]; exact (List.getElem?_eq_some_iff.1 hc).1
        rw [cvals_get _ _ _ _ _ hlt] at hu
        cases hu
        have hbc := g2 j c hc
        have hcell := h.cell (key i0 (1 + j)) (by intro h; cases h)
        cases c with
        | im t =>
          obtain ⟨k1, k2⟩ := hbc
          simp only [CellOk, k1, k2] at hcell
          exact hcell
        | own ty t =>
          obtain ⟨k1, k2⟩ := hbc
          simp only [CellOk, k1, k2] at hcell
          exact hcell
        | nil => exact hbc.elim

theorem results_run {fn : Func} {tmps : Array Value} {w : World} {vs : List Value} (h : (fn.results.toList.mapM (resVar tmps)).run P w = .ok vs w) :
    (results fn tmps).run P w = .ok (if hs : vs.toArray.size = 1 then vs.toArray[0] else .tuple vs.toArray) w := by
  have e : results fn tmps = (do let vs ← fn.results.mapM (resVar tmps); pure (if h : vs.size = 1 then vs[0] else .tuple vs)) := by
    unfold results
    congr 1
  rw [e, Array.mapM_eq_mapM_toList]
  simp only [Sem.run_bind, Sem.run_map, h, Result.andThen_ok, Sem.run_pure]

theorem valR_eq {rvs : List RV} {us : List Value} (h : us.length = (cellsR rvs).length) : (if hs : (tupOf (rvs.map shR) us).toArray.size = 1 then (tupOf (rvs.map shR) us).toArray[0] else .tuple (tupOf (rvs.map shR) us).toArray) = valR rvs us := by
  match rvs, h with
  | [], h => rfl
  | [.one c], h =>
    match us, h with
    | [u], _ => rfl
  | [.agg cs], h =>
    have hl : us.length = cs.length := by simpa [cellsR, rvCells] using h
    have : tupOf ([RV.agg cs].map shR) us = [.agg us.toArray] := by
      simp only [List.map_cons, List.map_nil, shR, tupOf]
      rw [← hl, List.take_length]
    have key : ∀ l : List Value, l = [.agg us.toArray] → (if hs : l.toArray.size = 1 then l.toArray[0] else .tuple l.toArray) = valR [.agg cs] us := by rintro l rfl; rfl
    exact key _ this
  | x :: y :: l, h =>
    have hlen : ∀ (l : List RV) (us : List Value), us.length = (cellsR l).length → (tupOf (l.map shR) us).length = l.length := by
      intro l
      induction l with
      | nil => intro us _; rfl
      | cons x l ih =>
        intro us hus
        have hus' : us.length = (rvCells x).length + (cellsR l).length := by rw [hus, show cellsR (x :: l) = rvCells x ++ cellsR l from rfl, List.length_append]
        cases x with
        | one c =>
          match us, hus' with
          | [], hus' => simp [rvCells] at hus'; omega
          | u :: us, hus' =>
            simp only [List.map_cons, shR, tupOf, List.length_cons]
            rw [ih us (by simp [rvCells] at hus'; omega)]
        | agg cs =>
          simp only [List.map_cons, shR, tupOf, List.length_cons]
          rw [ih _ (by rw [List.length_drop]; simp [rvCells] at hus'; omega)]
    have h2 := hlen (x :: y :: l) us h
    rw [dif_neg (by rw [List.size_toArray, h2]; simp)]
    cases x <;> rfl

/-- Whatever the machine answers of a function is so. -/
theorem fnBody_ok (hE : EnvOk P E) (hm : Meets P cf) {g : FuncId} {fn : Func} (hf : P.funcs[g]? = some fn) (h : Hint) (fuel : Nat) {as : List AD} {r : Res} (hr : fnBody E h cf fuel fn as = some r) :
    fn.body.isSome = true ∧ ∀ vs w ow, Entry P as vs w ow → Calls P g vs.toArray w fun e w' => ∃ v ow', e = .returned v ∧ Leave P as vs w ow r v w' ow' := by
  unfold fnBody at hr
  cases hb : fn.body with
  | none => rw [hb] at hr; cases hr
  | some c =>
    rw [hb] at hr
    dsimp only at hr
    refine ⟨rfl, fun vs w ow en => ?_⟩
    cases hq : Nat.beq as.length fn.params.size && as.all smallArg with
    | false => rw [hq] at hr; cases hr
    | true =>
      rw [hq] at hr
      rw [Bool.and_eq_true] at hq
      have hsm : ∀ a ∈ as, lenA a ≤ 62 := fun a ha => smallArg_iff a (List.all_eq_true.1 hq.2 a ha)
      have h0 := init_ok en hsm fn.ntmps
      simp only [cond_true] at hr
      cases hc : code E { h with nt := fn.ntmps, prot := protOf 0 as } cf fuel c 0 (TS.of (initArgs 0 as)) with
      | none => rw [hc] at hr; cases hr
      | some z =>
        obtain ⟨ex, ts1⟩ := z
        rw [hc] at hr
        have hcode := code_ok (G := ctxInit as vs w ow fn.ntmps) (hh := { h with nt := fn.ntmps, prot := protOf 0 as }) hE hm (Nat.le_refl _) rfl fuel c 0 (stInit as vs w ow fn.ntmps) ex ts1 h0 hc
        have fin : ∀ (z : Option (Out × TS × Nat × Nat)), (endD E h.rim fn as fun r => .ret (.res r)).run cf ts1 0 0 = z → (match z with | some (.res r, _, _, _) => some r | _ => none) = some r → ∀ s', Ok P (ctxInit as vs w ow fn.ntmps) s' → s'.ts = ts1 →
            s'.a.defers = [] ∧ ∃ v, (results fn s'.a.tmps).run P s'.w = .ok v s'.w ∧ ∃ v' ow', Ending.returned v = .returned v' ∧ Leave P as vs w ow r v' s'.w ow' := by
          intro z hz hzr s' ok' hts
          match z, hz, hzr with
          | some (.res r', ts2, R, W), hz, hzr =>
            cases hzr
            have hruns : Runs cf (endD E h.rim fn as fun r => .ret (.res r)) s'.ts (.res r) ts2 := ⟨_, _, _, _, by rw [hts]; exact hz⟩
            obtain ⟨rvals, rvs, us, s2, a1, a2, a3, a4, a5, a6, a7, a8, a9⟩ := resultsD_ok hE (τ := 0) ok' hruns
            obtain ⟨bs, b1, b2⟩ := endBoxes_ok a2 (i0 := 0) en.len (fun i e cs hi => by
              rw [Nat.zero_add]
              cases hbx : isBox (s2.ts.get (key i 0)).k with
              | false => exact .inr rfl
              | true =>
                refine .inl (a2.prot i ?_ hbx)
                have : ∀ (as : List AD) (i0 i : Nat) e cs, as[i]? = some (.box e cs) → hasBit (protOf i0 as) (i0 + i) = true := by
                  intro as
                  induction as with
                  | nil => intro i0 i e cs h; simp at h
                  | cons a as ih =>
                    intro i0 i e cs h
                    cases i with
                    | zero =>
                      simp at h; subst h
                      exact hasBit_setBit_self _ _
                    | succ i =>
                      have h1 := ih (Nat.succ i0) i e cs (by simpa using h)
                      rw [show Nat.succ i0 + i = i0 + (i + 1) by omega] at h1
                      cases a with
                      | one _ => exact h1
                      | agg _ => exact h1
                      | box _ _ => exact hasBit_setBit_of h1
                have := this as 0 i e cs hi
                rwa [Nat.zero_add] at this) a9
            obtain ⟨he, _⟩ := Runs.ret b2
            cases he
            refine ⟨ok'.df, _, results_run a1, _, s2.ow, rfl, ?_⟩
            rw [← a6, valR_eq a4, ← a3.w]
            exact {
              keep := a2.keep
              lt := a2.lt
              st := a2.s0
              ex := a2.ex
              vals := ⟨us, a4, rfl, fun j rc u hc hu => by
                have h1 := a5.2 j rc.cv u (by rw [List.getElem?_map, hc]; rfl) hu
                rw [Nat.zero_add] at h1
                cases rc with
                | im t => exact h1
                | own e t => exact a2.pok j _ h1.2
                | nil => exact h1⟩
              boxes := b1 }
        refine calls_of_wp hf hb ?_
        have hbody : c.wp P (bodyPost P fn fun e w' => ∃ v ow', e = .returned v ∧ Leave P as vs w ow r v w' ow') (stInit as vs w ow fn.ntmps).a w := by
          refine Code.wp_mono ?_ hcode
          rintro e a w' ⟨rfl, s', rfl, rfl, ok', hts⟩
          cases ex with
          | exit id => dsimp only at hr; cases hr
          | normal =>
            obtain ⟨h1, v, h2, v', ow', h3, h4⟩ := fin _ rfl hr s' ok' hts
            exact ⟨h1, v, h2, v', ow', h3, h4⟩
          | ret =>
            obtain ⟨h1, v, h2, v', ow', h3, h4⟩ := fin _ rfl hr s' ok' hts
            exact ⟨h1, v, h2, v', ow', h3, h4⟩
        exact hbody

theorem fnN_meets (hE : EnvOk P E) (H : FuncId → Hint) (lf : Nat) : ∀ n, Meets P (fnN E H lf n)
  | 0 => fun g as r h => by cases h
  | n + 1 => fun g as r h => by
    have h' : (match lookF E.fns g with | some fn => fnBody E (H g) (fnN E H lf n) lf fn as | none => none) = some r := h
    cases hf : lookF E.fns g with
    | none => rw [hf] at h'; cases h'
    | some fn =>
      rw [hf] at h'
      obtain ⟨h1, h2⟩ := hE.fn g fn hf
      obtain ⟨h3, h4⟩ := fnBody_ok hE (fnN_meets hE H lf n) h1 (H g) lf h'
      exact ⟨⟨fn, h1, h3, h2⟩, h4⟩

end
end Go.Proofs.Ytnjanliihnadjaa.Tm

/- The tree machine: what is kept behind a region and at the head of a loop. Conditions: none. -/
import Derived.Test.YtnjanliihnadjaaK23
namespace Go.Proofs.Ytnjanliihnadjaa.Tm
open Go

section
variable {P : Program} {G : Ctx} {s : St} {cf : FuncId → List AD → Option Res} {ts ts' : TS} {o : Out} {E : Env}

/-- An entry as it is kept. -/
noncomputable def normEnt (ts : TS) (e : Ent) : Ent := match e with
  | ⟨.vw p v, _, t⟩ => bif Nat.beq (ts.get p).ver v then ⟨.vw p 0, 0, t⟩ else ⟨.dead, 0, t⟩
  | ⟨.el p v, _, t⟩ => bif Nat.beq (ts.get p).ver v then ⟨.el p 0, 0, t⟩ else ⟨.dead, 0, t⟩
  | ⟨.ad s v o, _, t⟩ => bif Nat.beq (ts.get (key s 0)).ver v then ⟨.ad s 0 o, 0, t⟩ else ⟨.dead, 0, t⟩
  | ⟨k, _, t⟩ => ⟨k, 0, t⟩

theorem normE_eq {α : Type} (ts : TS) (e : Ent) (f : Ent → α) : normE ts e f = f (normEnt ts e) := by
  obtain ⟨k, v, t⟩ := e
  cases k with
  | vw p w => show (bif _ then _ else _) = f (bif _ then _ else _); cases Nat.beq (ts.get p).ver w <;> rfl
  | el p w => show (bif _ then _ else _) = f (bif _ then _ else _); cases Nat.beq (ts.get p).ver w <;> rfl
  | ad p w o => show (bif _ then _ else _) = f (bif _ then _ else _); cases Nat.beq (ts.get (key p 0)).ver w <;> rfl
  | _ => rfl

theorem normEnt_ver (ts : TS) (e : Ent) : (normEnt ts e).ver = 0 := by
  obtain ⟨k, v, t⟩ := e
  cases k with
  | vw p w => show Ent.ver (bif _ then _ else _) = _; cases Nat.beq (ts.get p).ver w <;> rfl
  | el p w => show Ent.ver (bif _ then _ else _) = _; cases Nat.beq (ts.get p).ver w <;> rfl
  | ad p w o => show Ent.ver (bif _ then _ else _) = _; cases Nat.beq (ts.get (key p 0)).ver w <;> rfl
  | _ => rfl

def keeps (ts : TS) (keep k : Nat) : Bool := hasBit keep (Nat.shiftRight k 6) && hasBit ts.m k

noncomputable def cleanP (ts : TS) (keep : Nat) : List (Nat × Ent) → Nat → Nat × List (Nat × Ent)
  | [], seen => (seen, [])
  | (k, e) :: l, seen => bif keeps ts keep k && !hasBit seen k then ((cleanP ts keep l (setBit seen k)).1, (k, normEnt ts e) :: (cleanP ts keep l (setBit seen k)).2) else cleanP ts keep l seen

theorem cleanL_eq {α : Type} (ts : TS) (keep : Nat) : ∀ (l : List (Nat × Ent)) (seen : Nat) (f : Nat → List (Nat × Ent) → α), cleanL ts keep l seen f = f (cleanP ts keep l seen).1 (cleanP ts keep l seen).2
  | [], seen, f => rfl
  | (k, e) :: l, seen, f => by
    have h : cleanL ts keep ((k, e) :: l) seen f = Bool.rec (motive := fun _ => α) (cleanL ts keep l seen f)
        (fNat (setBit seen k) fun m => normE ts e fun e => cleanL ts keep l m fun m r => f m ((k, e) :: r))
        (Bool.rec (motive := fun _ => Bool) false (Bool.rec (motive := fun _ => Bool) true false (hasBit seen k)) (Bool.rec (motive := fun _ => Bool) false (hasBit ts.m k) (hasBit keep (Nat.shiftRight k 6)))) := rfl
    rw [h]
    have hb : (Bool.rec (motive := fun _ => Bool) false (Bool.rec (motive := fun _ => Bool) true false (hasBit seen k)) (Bool.rec (motive := fun _ => Bool) false (hasBit ts.m k) (hasBit keep (Nat.shiftRight k 6)))) = (keeps ts keep k && !hasBit seen k) := by
      unfold keeps
      cases hasBit keep (Nat.shiftRight k 6) <;> cases hasBit ts.m k <;> cases hasBit seen k <;> rfl
    rw [hb, fNat_eq, normE_eq, cleanL_eq ts keep l, cleanL_eq ts keep l]
    show _ = f (bif _ then _ else _ : Nat × List (Nat × Ent)).1 (bif _ then _ else _ : Nat × List (Nat × Ent)).2
    cases keeps ts keep k && !hasBit seen k <;> rfl

theorem walk_cons (x : Nat × Ent) (l : List (Nat × Ent)) (k : Nat) : walk (x :: l) k = if k = x.1 then x.2 else walk l k := by
  have h : walk (x :: l) k = Bool.rec (motive := fun _ => Ent) (walk l k) x.2 (Nat.beq x.1 k) := rfl
  rw [h]
  by_cases hk : k = x.1
  · rw [if_pos hk, (beq_iff _ _).2 hk.symm]
  · rw [if_neg hk]
    cases hq : Nat.beq x.1 k with
    | false => rfl
    | true => exact absurd ((beq_iff _ _).1 hq).symm hk

theorem TS.get_eq (ts : TS) (k : Nat) : ts.get k = bif hasBit ts.m k then walk ts.l k else Ent.no := by
  have h : ts.get k = Bool.rec (motive := fun _ => Ent) Ent.no (walk ts.l k) (hasBit ts.m k) := rfl
  rw [h]; cases hasBit ts.m k <;> rfl

theorem cleanP_get (ts : TS) (keep : Nat) : ∀ (l : List (Nat × Ent)) (seen : Nat) (k : Nat),
    hasBit (cleanP ts keep l seen).1 k = (hasBit seen k || (keeps ts keep k && l.any fun x => Nat.beq x.1 k)) ∧
    walk (cleanP ts keep l seen).2 k = bif keeps ts keep k && !hasBit seen k && l.any (fun x => Nat.beq x.1 k) then normEnt ts (walk l k) else Ent.no
  | [], seen, k => ⟨by simp [cleanP], by simp [cleanP]; rfl⟩
  | (j, e) :: l, seen, k => by
    have ih1 := cleanP_get ts keep l seen k
    have ih2 := cleanP_get ts keep l (setBit seen j) k
    simp only [cleanP]
    have hset : hasBit (setBit seen j) k = (decide (k = j) || hasBit seen k) := hasBit_set _ _ _
    by_cases hk : k = j
    · subst hk
      have hkk : Nat.beq k k = true := (beq_iff _ _).2 rfl
      cases hq : keeps ts keep k && !hasBit seen k with
      | true =>
        rw [cond_true, walk_cons, if_pos rfl, ih2.1, hset, walk_cons, if_pos rfl]
        rw [Bool.and_eq_true, Bool.not_eq_true'] at hq
        simp [hkk, hq.1, hq.2]
      | false =>
        rw [cond_false, ih1.1, ih1.2]
        simp only [List.any_cons, hkk, Bool.true_or, Bool.and_true]
        cases h1 : keeps ts keep k <;> cases h2 : hasBit seen k <;> simp [h1, h2] at hq ⊢
    · have hkk : Nat.beq j k = false := by
        cases hq : Nat.beq j k with
        | false => rfl
        | true => exact absurd ((beq_iff _ _).1 hq).symm hk
      have hdk : decide (k = j) = false := by simp [hk]
      rw [hdk, Bool.false_or] at hset
      cases hq : keeps ts keep j && !hasBit seen j with
      | true =>
        rw [cond_true, walk_cons, if_neg hk, ih2.1, ih2.2, hset]
        simp only [List.any_cons, hkk, Bool.false_or]
        rw [walk_cons, if_neg hk]
        exact ⟨by first | rfl | trivial, by first | rfl | trivial⟩
      | false =>
        rw [cond_false, ih1.1, ih1.2]
        simp only [List.any_cons, hkk, Bool.false_or]
        rw [walk_cons, if_neg hk]
        exact ⟨by first | rfl | trivial, by first | rfl | trivial⟩

theorem walk_none : ∀ (l : List (Nat × Ent)) (k : Nat), l.any (fun x => Nat.beq x.1 k) = false → walk l k = Ent.no
  | [], _, _ => rfl
  | x :: l, k, h => by
    simp only [List.any_cons, Bool.or_eq_false_iff] at h
    rw [walk_cons, if_neg (fun e => by rw [(beq_iff _ _).2 e.symm] at h; cases h.1), walk_none l k h.2]

theorem normEnt_no (ts : TS) : normEnt ts Ent.no = Ent.no := rfl

/-- The state that is kept. -/
noncomputable def cleaned (ts : TS) (keep : Nat) : TS := ⟨(cleanP ts keep ts.l 0).1, (cleanP ts keep ts.l 0).2⟩

theorem clean_eq {α : Type} (ts : TS) (keep : Nat) (f : TS → α) : clean ts keep f = f (cleaned ts keep) := by unfold clean; rw [cleanL_eq]; rfl

theorem cleaned_get (ts : TS) (keep k : Nat) : (cleaned ts keep).get k = if hasBit keep (Nat.shiftRight k 6) = true then normEnt ts (ts.get k) else Ent.no := by
  have h := cleanP_get ts keep ts.l 0 k
  rw [TS.get_eq]
  show (bif hasBit (cleanP ts keep ts.l 0).1 k then walk (cleanP ts keep ts.l 0).2 k else Ent.no) = _
  rw [h.1, h.2, bit_zero, Bool.false_or, TS.get_eq]
  simp only [Bool.not_false, Bool.and_true, keeps]
  cases h1 : hasBit keep (Nat.shiftRight k 6) with
  | false => simp
  | true =>
    cases h2 : hasBit ts.m k with
    | false => simp [normEnt_no]
    | true =>
      cases h3 : ts.l.any fun x => Nat.beq x.1 k with
      | true => simp
      | false => simp [walk_none _ _ h3, normEnt_no]

/-- What is kept stands. -/
theorem clean_ok (h : Ok P G s) (keep : Nat) : Ok P G { s with ts := cleaned s.ts keep } := by
  have hver : ∀ k, ((cleaned s.ts keep).get k).ver = 0 := fun k => by rw [cleaned_get]; split; exact normEnt_ver _ _; rfl
  have hcell : ∀ k, CellOk P { s with ts := cleaned s.ts keep } k := fun k => by
    have hc := h.cell k (by intro h; cases h)
    unfold CellOk at hc ⊢
    dsimp only
    rw [cleaned_get]
    by_cases hkp : hasBit keep (Nat.shiftRight k 6) = true
    · rw [if_pos hkp]
      generalize hE : s.ts.get k = e at hc
      obtain ⟨kk, v, t⟩ := e
      cases kk with
      | vw p w =>
        have hn : normEnt s.ts ⟨.vw p w, v, t⟩ = bif Nat.beq (s.ts.get p).ver w then ⟨.vw p 0, 0, t⟩ else ⟨.dead, 0, t⟩ := rfl
        rw [hn]
        cases hb : Nat.beq (s.ts.get p).ver w with
        | true => exact ⟨Nat.zero_le _, fun _ => hc.2 ((beq_iff _ _).1 hb)⟩
        | false => trivial
      | ad p w o =>
        have hn : normEnt s.ts ⟨.ad p w o, v, t⟩ = bif Nat.beq (s.ts.get (key p 0)).ver w then ⟨.ad p 0 o, 0, t⟩ else ⟨.dead, 0, t⟩ := rfl
        rw [hn]; cases Nat.beq (s.ts.get (key p 0)).ver w <;> trivial
      | el p w =>
        have hn : normEnt s.ts ⟨.el p w, v, t⟩ = bif Nat.beq (s.ts.get p).ver w then ⟨.el p 0, 0, t⟩ else ⟨.dead, 0, t⟩ := rfl
        rw [hn]; cases Nat.beq (s.ts.get p).ver w <;> trivial
      | im => exact hc
      | own e => exact hc
      | _ => trivial
    · rw [if_neg hkp]; trivial
  have hbox : ∀ i, isBox ((cleaned s.ts keep).get (key i 0)).k = true → ∃ e n, (s.ts.get (key i 0)).k = .box e n := fun i hb => by
    rw [cleaned_get] at hb
    split at hb
    · generalize hE : s.ts.get (key i 0) = e at hb
      obtain ⟨kk, v, t⟩ := e
      cases kk with
      | vw p w => rw [show normEnt s.ts ⟨.vw p w, v, t⟩ = bif Nat.beq (s.ts.get p).ver w then ⟨.vw p 0, 0, t⟩ else ⟨.dead, 0, t⟩ from rfl] at hb; cases hq : Nat.beq (s.ts.get p).ver w <;> rw [hq] at hb <;> cases hb
      | ad p w o => rw [show normEnt s.ts ⟨.ad p w o, v, t⟩ = bif Nat.beq (s.ts.get (key p 0)).ver w then ⟨.ad p 0 o, 0, t⟩ else ⟨.dead, 0, t⟩ from rfl] at hb; cases hq : Nat.beq (s.ts.get (key p 0)).ver w <;> rw [hq] at hb <;> cases hb
      | el p w => rw [show normEnt s.ts ⟨.el p w, v, t⟩ = bif Nat.beq (s.ts.get p).ver w then ⟨.el p 0, 0, t⟩ else ⟨.dead, 0, t⟩ from rfl] at hb; cases hq : Nat.beq (s.ts.get p).ver w <;> rw [hq] at hb <;> cases hb
      | box e n => exact ⟨e, n, rfl⟩
      | _ => cases hb
    · cases hb
  have hmain : ∀ i, MainOk { s with ts := cleaned s.ts keep } i := fun i => by
    have hm := h.main i (by intro h; cases h)
    unfold MainOk at hm ⊢
    dsimp only
    have hg := cleaned_get s.ts keep (key i 0)
    split at hg
    · rw [hg]
      generalize hE : s.ts.get (key i 0) = e at hm hg
      obtain ⟨kk, v, t⟩ := e
      cases kk with
      | vw p w =>
        rw [show normEnt s.ts ⟨.vw p w, v, t⟩ = bif Nat.beq (s.ts.get p).ver w then ⟨.vw p 0, 0, t⟩ else ⟨.dead, 0, t⟩ from rfl]; cases Nat.beq (s.ts.get p).ver w <;> trivial
      | ad p w o =>
        rw [show normEnt s.ts ⟨.ad p w o, v, t⟩ = bif Nat.beq (s.ts.get (key p 0)).ver w then ⟨.ad p 0 o, 0, t⟩ else ⟨.dead, 0, t⟩ from rfl]
        cases hb : Nat.beq (s.ts.get (key p 0)).ver w with
        | false => trivial
        | true =>
          refine ⟨Nat.zero_le _, fun _ hbx => hm.2 ((beq_iff _ _).1 hb) ?_⟩
          obtain ⟨e, n, he⟩ := hbox p hbx
          rw [he]; rfl
      | el p w =>
        have hn : normEnt s.ts ⟨.el p w, v, t⟩ = bif Nat.beq (s.ts.get p).ver w then ⟨.el p 0, 0, t⟩ else ⟨.dead, 0, t⟩ := rfl
        rw [hn]
        cases hb : Nat.beq (s.ts.get p).ver w with
        | false => trivial
        | true =>
          refine ⟨Nat.zero_le _, fun _ x y hxy => ?_⟩
          exact hm.2 ((beq_iff _ _).1 hb) x y hxy
      | ai =>
        intro x cs hx
        exact hm x cs hx
      | one => exact hm
      | agg n => exact hm
      | box e n => exact hm
      | tup sh => exact hm
      | und => exact hm
      | _ => trivial
    · rw [hg]; trivial
  exact { keep := h.keep, nt := h.nt, df := h.df, lt := h.lt, ex := h.ex, s0 := h.s0, cell := fun k _ => hcell k, main := fun i _ => hmain i, pok := h.pok,
          prot := fun i hi hb => by obtain ⟨e, n, he⟩ := hbox i hb; exact h.prot i hi (by rw [he]; rfl) }

theorem walk_ins (x : Nat × Ent) (k : Nat) : ∀ l : List (Nat × Ent), walk (insE x l) k = walk (x :: l) k
  | [] => rfl
  | y :: l => by
    simp only [insE]
    cases hb : Nat.ble x.1 y.1 with
    | true => rfl
    | false =>
      rw [cond_false, walk_cons, walk_ins x k l, walk_cons, walk_cons, walk_cons]
      by_cases h1 : k = y.1
      · have h2 : ¬ k = x.1 := fun e => by
          have : Nat.ble x.1 y.1 = true := (ble_iff _ _).2 (by omega)
          rw [hb] at this; cases this
        rw [if_pos h1, if_neg h2, if_pos h1]
      · rw [if_neg h1]
        by_cases h2 : k = x.1
        · rw [if_pos h2, if_pos h2]
        · rw [if_neg h2, if_neg h2, if_neg h1]

theorem walk_sort (k : Nat) : ∀ l : List (Nat × Ent), walk (sortE l) k = walk l k
  | [] => rfl
  | x :: l => by
    show walk (insE x (sortE l)) k = _
    rw [walk_ins, walk_cons, walk_cons, walk_sort k l]

theorem freezeKeys_ok : ∀ (ks : List Nat) {s : St}, Ok P G s → ∃ s', Ok P G s' ∧ s'.a = s.a ∧ s'.w = s.w ∧ s'.ts = freezeKeys ks s.ts
  | [], s, h => ⟨s, h, rfl, rfl, rfl⟩
  | k :: ks, s, h => by
    simp only [freezeKeys]
    cases hk : (s.ts.get k).k with
    | own e =>
      have h1 := (h.froze hk).1
      obtain ⟨s', a1, a2, a3, a4⟩ := freezeKeys_ok ks h1
      exact ⟨s', a1, a2, a3, a4⟩
    | _ => exact freezeKeys_ok ks h

theorem loopHead_ok (h : Ok P G s) (hh : Hint) (lbl : Nat) : ∃ s', Ok P G s' ∧ s'.a = s.a ∧ s'.w = s.w ∧ s'.ts = loopHead hh lbl s.ts := by
  unfold loopHead
  cases headOf hh lbl with
  | none => exact ⟨s, h, rfl, rfl, rfl⟩
  | some x =>
    obtain ⟨ks, fz⟩ := x
    obtain ⟨s1, h1, h2, h3, h4⟩ := freezeKeys_ok fz h
    dsimp only
    rw [clean_eq, ← h4]
    have h5 := clean_ok h1 ks
    refine ⟨_, h5.ext (ts1 := ⟨(cleaned s1.ts ks).m, sortE (cleaned s1.ts ks).l⟩) fun k => ?_, h2, h3, rfl⟩
    show TS.get _ k = (cleaned s1.ts ks).get k
    rw [TS.get_eq, TS.get_eq, walk_sort]


theorem loopTail_ok (h : Ok P G s) (hh : Hint) (lbl : Nat) : ∃ s', Ok P G s' ∧ s'.a = s.a ∧ s'.w = s.w ∧ s'.ts = loopTail hh lbl s.ts := by
  unfold loopTail
  cases (hh.tails.find? fun x => Nat.beq x.1 lbl).map (·.2) with
  | none => exact ⟨s, h, rfl, rfl, rfl⟩
  | some ks =>
    dsimp only
    rw [clean_eq]
    have h5 := clean_ok h ks
    refine ⟨_, h5.ext (ts1 := ⟨(cleaned s.ts ks).m, sortE (cleaned s.ts ks).l⟩) fun k => ?_, rfl, rfl, rfl⟩
    show TS.get _ k = (cleaned s.ts ks).get k
    rw [TS.get_eq, TS.get_eq, walk_sort]

theorem tailed_eq (hh : Hint) (lbl : Nat) (body : TS → Option (Ex × TS)) (ts : TS) : tailed hh lbl body ts = match body ts with
  | some (.normal, ts') => some (.normal, ts')
  | some (e, ts') => some (e, loopTail hh lbl ts')
  | none => none := by
  unfold tailed
  cases body ts with
  | none => rfl
  | some x =>
    obtain ⟨ex, ts'⟩ := x
    cases ex <;> first | rfl | exact fTS_eq _ _

end
end Go.Proofs.Ytnjanliihnadjaa.Tm

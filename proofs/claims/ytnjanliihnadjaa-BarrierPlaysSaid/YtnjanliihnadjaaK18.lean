/- The tree machine: operations. Conditions: none. -/
import Derived.Test.YtnjanliihnadjaaK17
namespace Go.Proofs.Ytnjanliihnadjaa.Tm
open Go

section
variable {P : Program} {G : Ctx} {s : St} {cf : FuncId → List AD → Option Res} {ts ts' : TS} {o : Out} {E : Env}

theorem callD_ok (h : Ok P G s) (hm : Meets P cf) {g : FuncId} {ds : List D} {vs : List Value} {kk : D → Prog} (hd : DsOk True s ds vs) (hr : Runs cf (callD E g ds kk) s.ts o ts') :
    (∃ fn, P.funcs[g]? = some fn ∧ fn.body.isSome = true ∧ fn.name ≠ "runtime.NumGoroutine") ∧
    Calls P g vs.toArray s.w fun e w' => ∃ v, e = .returned v ∧ ∃ s' d, s'.w = w' ∧ Ok P G s' ∧ s'.a = s.a ∧ DOk False s' d v ∧ Runs cf (kk d) s'.ts o ts' := by
  obtain ⟨a, ar, hr1⟩ := argsD_ok h hd hr
  cases hc : a.lent.all (apartFrom a.bs) && distinctSlots a.bs with
  | false => rw [hc] at hr1; exact (Runs.fail hr1).elim
  | true =>
    rw [hc] at hr1
    rw [Bool.and_eq_true] at hc
    obtain ⟨r, hcf, hr2⟩ := Runs.call hr1
    obtain ⟨hfn, hcall⟩ := hm g a.as r hcf
    obtain ⟨hfr, hL, hen⟩ := entry_ok h ar hc.1 hc.2
    refine ⟨hfn, (hcall vs s.w _ hen).mono fun e w' => ?_⟩
    rintro ⟨v, ow', rfl, lv⟩
    refine ⟨v, rfl, ?_⟩
    have fin : ∀ sf, Ok P G sf → Frz a.lent s sf → (leadsAny r = true → ∀ k, isLent a.lent k = true → (sf.ts.get k).k = .im) → Runs cf (putBoxes a.bs r.boxes fun _ => kk (resD r.vals)) sf.ts o ts' →
        ∃ s' d, s'.w = w' ∧ Ok P G s' ∧ s'.a = s.a ∧ DOk False s' d v ∧ Runs cf (kk d) s'.ts o ts' := by
      intro sf okf fz hfz hr3
      obtain ⟨ts1, g1, g2, g3⟩ := putBoxes_run (as := a.as) (i0 := 0) hL (fun x hx => ⟨(arel_boxes ar 0 x hx).1, Nat.zero_le _⟩) (bm_bs ar 0) hr3
      obtain ⟨s', a1, a2, a3, a4, a5⟩ := back_ok okf ar fz hL hfr lv hfz g2 g3
      exact ⟨s', _, a1, a4, a2.trans fz.a, a5, by rw [a3]; exact g1⟩
    cases hl : leadsS E r with
    | false =>
      rw [hl] at hr2
      replace hr2 := Runs.test hr2
      cases hl2 : leadsAny r with
      | true => rw [hl2] at hr2; exact (Runs.fail hr2).elim
      | false =>
        rw [hl2] at hr2
        exact fin s h (Frz.refl _ s) (fun hq => by rw [hl2] at hq; cases hq) hr2
    | true =>
      rw [hl] at hr2
      obtain ⟨sf, h1, h2, h3, h4⟩ := freezeAll_ok a.lent h (fun c hc => hc) (fun p n e t hp => by have := arel_lent ar p n e t hp; exact ⟨this.1, this.2.2⟩) hr2
      exact fin sf h1 h2 (fun _ => h3) h4

/-- Where the machine stops, the model goes on from. -/
def After (P : Program) (G : Ctx) (cf : FuncId → List AD → Option Res) (kk : Unit → Prog) (o : Out) (ts' : TS) (a : Act) (w : World) : Prop :=
  ∃ s', s'.a = a ∧ s'.w = w ∧ Ok P G s' ∧ Runs cf (kk ()) s'.ts o ts'

theorem put_size (a : Act) (d : Option Tmp) (v : Value) : (a.put d v).tmps.size = a.tmps.size := by cases d <;> simp [Act.put]

def dstK (E : Env) (dst : Option Tmp) (ty : TypeId) (d : D) (kk : Unit → Prog) : Prog := match dst with
  | some i => setD E i ty d kk
  | none => kk ()

theorem dst_ok {dst : Option Tmp} {ty : TypeId} {d : D} {v : Value} {kk : Unit → Prog} (h : Ok P G s) (hd : ∀ i, dst = some i → i < s.a.tmps.size) (hD : DOk False s d v)
    (hr : Runs cf (dstK E dst ty d kk) s.ts o ts') : After P G cf kk o ts' (s.a.put dst v) s.w := by
  cases dst with
  | none => exact ⟨s, rfl, rfl, h, hr⟩
  | some i =>
    obtain ⟨s', ok', _, a', w', hr'⟩ := setD_ok h (hd i rfl) hD hr
    exact ⟨s', a', w', ok', hr'⟩

/-- An operation without effect on memory. -/
theorem step_pure {op : Oper} {X : C D} {m : Sem Value} {kk : Unit → Prog} (h : Ok P G s) (hd : ∀ i, op.dst = some i → i < s.a.tmps.size) (hX : Pure P s X m)
    (he : execOp s.a.eval op = (do pure (.value (← m)))) (hr : Runs cf (dstD E op.dst op.type X kk) s.ts o ts') {Q : Exit → Act → World → Prop} : op.wp P s.a s.w (After P G cf kk o ts') Q := by
  obtain ⟨d, v, h1, h2, h3⟩ := hX cf (fun d => dstK E op.dst op.type d kk) o ts' hr
  have hrun : (execOp s.a.eval op).run P s.w = .ok (.value v) s.w := by rw [he]; simp [h1]
  rw [Oper.wp, hrun, Oper.upon_value]
  exact dst_ok h hd h2 h3

/-- An operation that makes or writes memory. -/
theorem step_mem {op : Oper} {m : Sem Value} {kk : Unit → Prog} (hd : ∀ i, op.dst = some i → i < s.a.tmps.size)
    (hX : ∃ d v s', m.run P s.w = .ok v s'.w ∧ Ok P G s' ∧ s'.a = s.a ∧ DOk False s' d v ∧ Runs cf (dstK E op.dst op.type d kk) s'.ts o ts')
    (he : execOp s.a.eval op = (do pure (.value (← m)))) {Q : Exit → Act → World → Prop} : op.wp P s.a s.w (After P G cf kk o ts') Q := by
  obtain ⟨d, v, s', h1, h2, h3, h4, h5⟩ := hX
  have hrun : (execOp s.a.eval op).run P s.w = .ok (.value v) s'.w := by rw [he]; simp [h1]
  rw [Oper.wp, hrun, Oper.upon_value, ← h3]
  exact dst_ok h2 (by rw [h3]; exact hd) h4 h5

end
end Go.Proofs.Ytnjanliihnadjaa.Tm

/- The tree machine: each operation. Conditions: none. -/
import Derived.Test.YtnjanliihnadjaaK18
namespace Go.Proofs.Ytnjanliihnadjaa.Tm
open Go

section
variable {P : Program} {G : Ctx} {s : St} {cf : FuncId → List AD → Option Res} {ts ts' : TS} {o : Out} {E : Env}

theorem Pure.opd (h : Ok P G s) {x : Operand} {X : D → C D} {m : Sem Value} (hX : ∀ d, DOk True s d (s.a.eval x) → Pure P s (X d) m) : Pure P s (fun k => opd x fun d => X d k) m := fun cf kk o ts' hr => by
  obtain ⟨d, hd, hr1⟩ := opd_ok h hr
  exact hX d hd cf kk o ts' hr1

theorem nil_ofValue (g : FuncId) (args : Array Value) (w : World) : (Deferred.ofValue (.func (.func g) #[] #[]) args).run P w = .ok { target := .fn (.func g) #[], args := #[] ++ args } w := rfl

/-- A call by its builtin. -/
theorem run_call_builtin {b : Builtin} {args : Array Operand} {tys : Array TypeId} {dst : Option Tmp} {ty : TypeId} {pos : String} {af : Array Edge} {gd : Option (Nat × Bool)} (ρ : Operand → Value) (w : World) :
    ∃ consts, (execOp ρ ⟨dst, .call ⟨.builtin b, args, tys⟩, ty, pos, af, gd⟩).run P w = (builtin b tys ty consts (args.map ρ)).run P w := by
  refine ⟨args.map fun | .const _ => true | _ => false, ?_⟩
  simp [execOp, resolve, invoke]
  rfl

theorem call_builtin_ok {op : Oper} {b : Builtin} {args : Array Operand} {tys : Array TypeId} {kk : Unit → Prog} (h : Ok P G s) (hE : EnvOk P E) (ho : op.op = .call ⟨.builtin b, args, tys⟩) (hd : ∀ i, op.dst = some i → i < s.a.tmps.size)
    {ds : List D} (hds : DsOk True s ds (args.toList.map s.a.eval)) (hr : Runs cf (builtinD E b tys ds fun d => dstK E op.dst op.type d kk) s.ts o ts') {Q : Exit → Act → World → Prop} : op.wp P s.a s.w (After P G cf kk o ts') Q := by
  have hargs : args.map s.a.eval = (args.toList.map s.a.eval).toArray := by rw [← Array.toList_map]
  have go : ∀ (m : Sem Value), (∀ consts w, (builtin b tys op.type consts (args.map s.a.eval)).run P w = ((do pure (Next.value (← m))) : Sem Next).run P w) →
      (∃ d v s', m.run P s.w = .ok v s'.w ∧ Ok P G s' ∧ s'.a = s.a ∧ DOk False s' d v ∧ Runs cf (dstK E op.dst op.type d kk) s'.ts o ts') → op.wp P s.a s.w (After P G cf kk o ts') Q := by
    intro m hm hX
    obtain ⟨d, v, s', h1, h2, h3, h4, h5⟩ := hX
    have hrun : (execOp s.a.eval op).run P s.w = .ok (.value v) s'.w := by
      obtain ⟨dst, op', ty, pos, af, gd⟩ := op
      subst ho
      obtain ⟨consts, hc⟩ := run_call_builtin (P := P) (b := b) (args := args) (tys := tys) (dst := dst) (ty := ty) (pos := pos) (af := af) (gd := gd) s.a.eval s.w
      rw [hc, hm]; simp [h1]
    rw [Oper.wp, hrun, Oper.upon_value, ← h3]
    exact dst_ok h2 (by rw [h3]; exact hd) h4 h5
  have two : ∀ x y, ds = [x, y] → ∃ vx vy, args.toList.map s.a.eval = [vx, vy] ∧ DOk True s x vx ∧ DOk True s y vy := by
    intro x y he
    subst he
    obtain ⟨vx, r, e1, h1, h2⟩ := hds.cons_inv
    obtain ⟨vy, r', e2, h3, h4⟩ := h2.cons_inv
    have : r' = [] := List.eq_nil_of_length_eq_zero h4.1
    subst this; subst e2
    exact ⟨vx, vy, e1, h1, h3⟩
  cases b with
  | len =>
    match ds, hds, hr with
    | [x], hds, hr =>
      obtain ⟨vx, r, e1, h1, h2⟩ := hds.cons_inv
      have : r = [] := List.eq_nil_of_length_eq_zero h2.1
      subst this
      have hr' : Runs cf ((match tys[0]? with | some t => lenD E t x | none => C.fail) fun d => dstK E op.dst op.type d kk) s.ts o ts' := hr
      cases h0 : tys[0]? with
      | none => rw [h0] at hr'; exact (Runs.fail hr').elim
      | some t =>
        rw [h0] at hr'
        obtain ⟨d, v, g1, g2, g3⟩ := lenD_ok (ty := op.type) h hE h1 tys h0 cf _ o ts' hr'
        exact go (Builtin.len_ tys op.type #[vx]) (fun _ w => by rw [hargs, e1]; rfl) ⟨d, v, s, g1, h, rfl, g2, g3⟩
    | [], _, hr => exact (Runs.fail hr).elim
    | _ :: _ :: _, _, hr => exact (Runs.fail hr).elim
  | append =>
    match ds, two, hr with
    | [x, y], two, hr =>
      obtain ⟨vx, vy, e1, h1, h2⟩ := two x y rfl
      have hr' : Runs cf ((match tys[0]?, tys[1]? with | some t, some t' => bif Nat.beq t t' then appendD E t x y else C.fail | _, _ => C.fail) fun d => dstK E op.dst op.type d kk) s.ts o ts' := hr
      cases h0 : tys[0]? with
      | none => rw [h0] at hr'; exact (Runs.fail hr').elim
      | some t =>
        cases h3 : tys[1]? with
        | none => rw [h0, h3] at hr'; exact (Runs.fail hr').elim
        | some t' =>
          rw [h0, h3] at hr'
          dsimp only at hr'
          cases hb : Nat.beq t t' with
          | false => rw [hb] at hr'; exact (Runs.fail hr').elim
          | true =>
            rw [hb] at hr'
            have := (beq_iff _ _).1 hb; subst this
            refine go (Builtin.append_ #[t, t] op.type #[vx, vy]) (fun consts w => ?_) (appendD_ok h hE h1 h2 hr')
            rw [hargs, e1]
            have : Builtin.append_ tys op.type #[vx, vy] = Builtin.append_ #[t, t] op.type #[vx, vy] := by simp [Builtin.append_, h0, h3]
            show ((do pure (Next.value (← Builtin.append_ tys op.type #[vx, vy])) : Sem Next)).run P w = _
            rw [this]
    | [], _, hr => exact (Runs.fail hr).elim
    | [_], _, hr => exact (Runs.fail hr).elim
    | _ :: _ :: _ :: _, _, hr => exact (Runs.fail hr).elim
  | copy =>
    match ds, two, hr with
    | [x, y], two, hr =>
      obtain ⟨vx, vy, e1, h1, h2⟩ := two x y rfl
      have hr' : Runs cf ((match tys[0]?, tys[1]? with | some t, some t' => bif Nat.beq t t' then copyD E t x y else C.fail | _, _ => C.fail) fun d => dstK E op.dst op.type d kk) s.ts o ts' := hr
      cases h0 : tys[0]? with
      | none => rw [h0] at hr'; exact (Runs.fail hr').elim
      | some t =>
        cases h3 : tys[1]? with
        | none => rw [h0, h3] at hr'; exact (Runs.fail hr').elim
        | some t' =>
          rw [h0, h3] at hr'
          dsimp only at hr'
          cases hb : Nat.beq t t' with
          | false => rw [hb] at hr'; exact (Runs.fail hr').elim
          | true =>
            rw [hb] at hr'
            have := (beq_iff _ _).1 hb; subst this
            refine go (Builtin.copy_ #[t, t] op.type #[vx, vy]) (fun consts w => ?_) (copyD_ok h hE h1 h2 hr')
            rw [hargs, e1]
            have : Builtin.copy_ tys op.type #[vx, vy] = Builtin.copy_ #[t, t] op.type #[vx, vy] := by simp [Builtin.copy_, h0]
            show ((do pure (Next.value (← Builtin.copy_ tys op.type #[vx, vy])) : Sem Next)).run P w = _
            rw [this]
    | [], _, hr => exact (Runs.fail hr).elim
    | [_], _, hr => exact (Runs.fail hr).elim
    | _ :: _ :: _ :: _, _, hr => exact (Runs.fail hr).elim
  | min =>
    have hr1 : Runs cf (minB (fun b a => decide (b < a)) ds fun d => dstK E op.dst op.type d kk) s.ts o ts' := hr
    have hr2 := litsOf_ok (by have := hds.1; omega) hds.2 hr1
    match hvs : args.toList.map s.a.eval, hr2 with
    | [], hr2 => exact (Runs.fail hr2).elim
    | v :: r, hr2 =>
      obtain ⟨d, u, g1, g2, g3⟩ := minD_ok (P := P) (s := s) (fun b a => decide (b < a)) Builtin.min2 (fun k k' a b => by simp [Builtin.min2]) r v cf _ o ts' hr2
      exact go (Builtin.min_ tys op.type (v :: r).toArray) (fun _ w => by rw [hargs, hvs]; rfl) ⟨d, u, s, by simpa [Builtin.min_] using g1, h, rfl, g2, g3⟩
  | max =>
    have hr1 : Runs cf (minB (fun b a => decide (b > a)) ds fun d => dstK E op.dst op.type d kk) s.ts o ts' := hr
    have hr2 := litsOf_ok (by have := hds.1; omega) hds.2 hr1
    match hvs : args.toList.map s.a.eval, hr2 with
    | [], hr2 => exact (Runs.fail hr2).elim
    | v :: r, hr2 =>
      obtain ⟨d, u, g1, g2, g3⟩ := minD_ok (P := P) (s := s) (fun b a => decide (b > a)) Builtin.max2 (fun k k' a b => by simp [Builtin.max2]) r v cf _ o ts' hr2
      exact go (Builtin.max_ tys op.type (v :: r).toArray) (fun _ w => by rw [hargs, hvs]; rfl) ⟨d, u, s, by simpa [Builtin.max_] using g1, h, rfl, g2, g3⟩
  | _ => exact (Runs.fail hr).elim

/-- A call of a function. -/
theorem call_func_ok {op : Oper} {f : Operand} {g : FuncId} {args : Array Operand} {tys : Array TypeId} {kk : Unit → Prog} (h : Ok P G s) (hm : Meets P cf) (ho : op.op = .call ⟨.value f, args, tys⟩) (hd : ∀ i, op.dst = some i → i < s.a.tmps.size)
    (hf : s.a.eval f = .func (.func g) #[] #[]) {ds : List D} (hds : DsOk True s ds (args.toList.map s.a.eval)) (hr : Runs cf (callD E g ds fun d => dstK E op.dst op.type d kk) s.ts o ts') {Q : Exit → Act → World → Prop} : op.wp P s.a s.w (After P G cf kk o ts') Q := by
  obtain ⟨⟨fn, h1, h2, h3⟩, hc⟩ := callD_ok h hm hds hr
  have hargs : args.map s.a.eval = (args.toList.map s.a.eval).toArray := by rw [← Array.toList_map]
  have hrun : (execOp s.a.eval op).run P s.w = .ok (.enter g (args.toList.map s.a.eval).toArray) s.w := by
    obtain ⟨dst, op', ty, pos, af, gd⟩ := op
    subst ho
    have hn : (fn.name == "runtime.NumGoroutine") = false := by simpa using h3
    have hb : ¬ fn.body = none := by intro hb; rw [hb] at h2; cases h2
    simp [execOp, resolve, invoke, hf, nil_ofValue, callFunc, program, Sem.run, h1, h3, hb, hargs]
  rw [Oper.wp, hrun, Oper.upon_enter]
  refine hc.mono fun e w' => ?_
  rintro ⟨v, rfl, s', d, rfl, ok', ha, hD, hr'⟩
  dsimp only
  rw [← ha]
  exact dst_ok ok' (by rw [ha]; exact hd) hD hr'

end
end Go.Proofs.Ytnjanliihnadjaa.Tm

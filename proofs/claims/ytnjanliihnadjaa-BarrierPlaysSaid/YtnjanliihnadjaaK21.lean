/- The tree machine: guards; what a run hangs on. Conditions: none. -/
import Derived.Test.YtnjanliihnadjaaK20
namespace Go.Proofs.Ytnjanliihnadjaa.Tm
open Go

section
variable {P : Program} {G : Ctx} {s : St} {cf : FuncId → List AD → Option Res} {ts ts' : TS} {o : Out} {E : Env}

theorem bool_slot (h : Ok P G s) {d : Nat} {b : Bool} (h0 : (s.ts.get (key d 0)).k = .one) (h1 : (s.ts.get (key d 1)).k = .im) (h2 : (s.ts.get (key d 1)).t = .lit (.bool b)) : s.a.tmps.getD d undef = .bool b := by
  have hm := h.main d (by intro h; cases h)
  have hc := h.cell (key d 1) (by intro h; cases h)
  simp only [MainOk, h0] at hm
  simp only [CellOk, h1, h2] at hc
  rw [hm]
  generalize s.cv (key d 1) = v at hc
  cases hc; rfl

theorem wanted_guard {op : Oper} {ops : Array Oper} {j : Nat} {want : Bool} {d : Nat} {a : Act} (hg : op.guard = some (j, want)) (hj : (ops[j]?).bind (·.dst) = some d) :
    Region.wanted op (yielded ops a.tmps) = (match a.tmps.getD d undef with | .bool b => b == want | _ => false) := by
  simp only [Region.wanted, hg, yielded, hj, Option.bind_some]
  rw [Array.getD_eq_getD_getElem?]
  cases ht : a.tmps[d]? with
  | none => rfl
  | some v => cases v <;> rfl

/-- An operation of a region: done if it is wanted. -/
theorem guardOp_ok {op : Oper} {hh : Hint} {ops : Array Oper} {kk : Unit → Prog} (h : Ok P G s) (hE : EnvOk P E) (hm : Meets P cf) (hd : ∀ i, op.dst = some i → i < s.a.tmps.size ∧ hasBit G.prot i = false)
    (hr : Runs cf (guardOp E hh ops op kk) s.ts o ts') {Q : Exit → Act → World → Prop} :
    if Region.wanted op (yielded ops s.a.tmps) then op.wp P s.a s.w (After P G cf kk o ts') Q else After P G cf kk o ts' (s.a.put op.dst undef) s.w := by
  unfold guardOp at hr
  cases hg : op.guard with
  | none =>
    rw [hg] at hr
    rw [if_pos (by simp [Region.wanted, hg])]
    exact stepOp_ok h hE hm hd hr
  | some jw =>
    obtain ⟨j, want⟩ := jw
    rw [hg] at hr
    dsimp only at hr
    cases hj : (ops[j]?).bind (·.dst) with
    | none => rw [hj] at hr; exact (Runs.fail hr).elim
    | some d =>
      rw [hj] at hr
      have hr1 := Runs.get hr
      rw [wanted_guard hg hj]
      unfold guardM at hr1
      cases hk : (s.ts.get (key d 0)).k <;> rw [hk] at hr1 <;> try exact (Runs.fail hr1).elim
      case one =>
        have hr2 := Runs.get hr1
        unfold guardV at hr2
        cases hk1 : (s.ts.get (key d 1)).k <;> rw [hk1] at hr2 <;> try exact (Runs.fail hr2).elim
        cases hk2 : (s.ts.get (key d 1)).t <;> rw [hk2] at hr2 <;> try exact (Runs.fail hr2).elim
        rename_i v
        cases v <;> try exact (Runs.fail hr2).elim
        case bool b =>
          have hr3 := Runs.test hr2
          have hb := bool_slot h hk hk1 hk2
          rw [hb]
          dsimp only
          by_cases hq : (b == want) = true
          · rw [show beqb b want = true from hq] at hr3
            rw [if_pos hq]
            exact stepOp_ok h hE hm hd hr3
          · rw [show beqb b want = false from Bool.eq_false_iff.2 hq] at hr3
            rw [if_neg hq]
            exact setUndef_ok h (fun i hi => (hd i hi).1) hr3
      case und =>
        have hmn := h.main d (by intro h; cases h)
        simp only [MainOk, hk] at hmn
        rw [hmn]
        rw [show (match undef with | .bool b => b == want | _ => false) = false from rfl, if_neg (by decide)]
        exact setUndef_ok h (fun i hi => (hd i hi).1) hr1

/-! ### What a run reads and writes -/
theorem hasBit_setBit_of {m k j : Nat} (h : hasBit m j = true) : hasBit (setBit m k) j = true := by rw [hasBit_set, h, Bool.or_true]
theorem hasBit_setBit_self (m k : Nat) : hasBit (setBit m k) k = true := by rw [hasBit_set]; simp

theorem run_mono {p : Prog} : ∀ {ts : TS} {R0 W0 : Nat} {o : Out} {ts1 : TS} {R W : Nat}, p.run cf ts R0 W0 = some (o, ts1, R, W) → (∀ k, hasBit R0 k = true → hasBit R k = true) ∧ (∀ k, hasBit W0 k = true → hasBit W k = true) := by
  induction p with
  | ret a => intro ts R0 W0 o ts1 R W h; rw [run_ret] at h; cases h; exact ⟨fun _ h => h, fun _ h => h⟩
  | fail => intro ts R0 W0 o ts1 R W h; cases h
  | get k f ih =>
    intro ts R0 W0 o ts1 R W h; rw [run_get] at h
    have := ih _ h; exact ⟨fun j hj => this.1 j (hasBit_setBit_of hj), this.2⟩
  | put k e c ih =>
    intro ts R0 W0 o ts1 R W h; rw [run_put] at h
    have := ih h; exact ⟨this.1, fun j hj => this.2 j (hasBit_setBit_of hj)⟩
  | test b f ih => intro ts R0 W0 o ts1 R W h; rw [run_test] at h; exact ih _ h
  | sub cs i n f ih => intro ts R0 W0 o ts1 R W h; exact ih _ (run_sub h).2
  | int v f ih => intro ts R0 W0 o ts1 R W h; rw [run_int] at h; exact ih _ h
  | sl n cs f ih => intro ts R0 W0 o ts1 R W h; rw [run_sl] at h; exact ih _ _ h
  | call g as f ih => intro ts R0 W0 o ts1 R W h; obtain ⟨x, _, h2⟩ := run_call h; exact ih _ h2

theorem run_sub_eq {cs : List T} {i n : Nat} {f : List T → Prog} {R W : Nat} (h : ((cs.drop i).take n).length = n) : (Prog.sub cs i n f).run cf ts R W = (f ((cs.drop i).take n)).run cf ts R W := by
  show Bool.rec (motive := fun _ => Option (Out × TS × Nat × Nat)) none ((f ((cs.drop i).take n)).run cf ts R W) (Nat.beq ((cs.drop i).take n).length n) = _
  rw [(beq_iff _ _).2 h]
theorem run_call_eq {g : FuncId} {as : List AD} {f : Res → Prog} {R W : Nat} {x : Res} (h : cf g as = some x) : (Prog.call g as f).run cf ts R W = (f x).run cf ts R W := by
  show Option.rec (motive := fun _ => Option (Out × TS × Nat × Nat)) none (fun x => (f x).run cf ts R W) (cf g as) = _
  rw [h]

/-- Two states that agree on what is read: the same is done. -/
theorem run_local {p : Prog} : ∀ {ts ts2 : TS} {R0 W0 : Nat} {o : Out} {ts1 : TS} {R W : Nat}, p.run cf ts R0 W0 = some (o, ts1, R, W) → (∀ k, hasBit R k = true → ts2.get k = ts.get k) →
    ∃ ts2', p.run cf ts2 R0 W0 = some (o, ts2', R, W) ∧ (∀ k, hasBit W k = false → ts2'.get k = ts2.get k ∧ ts1.get k = ts.get k) ∧
      (∀ k, ts2'.get k = ts1.get k ∨ (ts2'.get k = ts2.get k ∧ ts1.get k = ts.get k)) ∧ (∀ k, hasBit W k = true → hasBit W0 k = true ∨ ts2'.get k = ts1.get k) := by
  induction p with
  | ret a => intro ts ts2 R0 W0 o ts1 R W h ha; rw [run_ret] at h; cases h; exact ⟨ts2, rfl, fun _ _ => ⟨rfl, rfl⟩, fun _ => .inr ⟨rfl, rfl⟩, fun _ h => .inl h⟩
  | fail => intro ts ts2 R0 W0 o ts1 R W h; cases h
  | get k f ih =>
    intro ts ts2 R0 W0 o ts1 R W h ha
    rw [run_get] at h
    have hk := ha k ((run_mono h).1 k (hasBit_setBit_self _ _))
    rw [run_get, hk]
    exact ih _ h ha
  | put k e c ih =>
    intro ts ts2 R0 W0 o ts1 R W h ha
    rw [run_put] at h
    rw [run_put]
    obtain ⟨ts2', h1, h2, h3, h4⟩ := ih (ts2 := ts2.put k e) h (fun j hj => by
      by_cases hjk : j = k
      · subst hjk; rw [get_same, get_same]
      · rw [get_ne _ _ hjk, get_ne _ _ hjk]; exact ha j hj)
    have hW := (run_mono h).2 k (hasBit_setBit_self _ _)
    refine ⟨ts2', h1, fun j hj => ?_, fun j => ?_, fun j hj => ?_⟩
    · have hjk : j ≠ k := fun e => by subst e; rw [hW] at hj; cases hj
      have := h2 j hj
      rwa [get_ne _ _ hjk, get_ne _ _ hjk] at this
    · rcases h3 j with h5 | h5
      · exact .inl h5
      · by_cases hjk : j = k
        · subst hjk; rw [get_same, get_same] at h5; exact .inl (h5.1.trans h5.2.symm)
        · rw [get_ne _ _ hjk, get_ne _ _ hjk] at h5; exact .inr h5
    · rcases h4 j hj with h5 | h5
      · rw [hasBit_set, Bool.or_eq_true, decide_eq_true_eq] at h5
        rcases h5 with h5 | h5
        · subst h5
          rcases h3 j with h6 | h6
          · exact .inr h6
          · rw [get_same, get_same] at h6; exact .inr (h6.1.trans h6.2.symm)
        · exact .inl h5
      · exact .inr h5
  | test b f ih => intro ts ts2 R0 W0 o ts1 R W h ha; rw [run_test] at h; rw [run_test]; exact ih _ h ha
  | sub cs i n f ih =>
    intro ts ts2 R0 W0 o ts1 R W h ha
    obtain ⟨h1, h2⟩ := run_sub h
    rw [run_sub_eq h1]; exact ih _ h2 ha
  | int v f ih => intro ts ts2 R0 W0 o ts1 R W h ha; rw [run_int] at h; rw [run_int]; exact ih _ h ha
  | sl n cs f ih => intro ts ts2 R0 W0 o ts1 R W h ha; rw [run_sl] at h; rw [run_sl]; exact ih _ _ h ha
  | call g as f ih =>
    intro ts ts2 R0 W0 o ts1 R W h ha
    obtain ⟨x, h1, h2⟩ := run_call h
    rw [run_call_eq h1]; exact ih _ h2 ha

end
end Go.Proofs.Ytnjanliihnadjaa.Tm

/- The tree machine: what is answered stays answered with more fuel. Conditions: none. -/
import Derived.Test.YtnjanliihnadjaaK29
namespace Go.Proofs.Ytnjanliihnadjaa.Tm
open Go

section
variable {cf cf' : FuncId → List AD → Option Res} (hcf : ∀ g as r, cf g as = some r → cf' g as = some r)
include hcf

theorem prog_mono (p : Prog) : ∀ {ts : TS} {R W : Nat} {x}, p.run cf ts R W = some x → p.run cf' ts R W = some x := by
  induction p with
  | ret a => intro ts R W x h; exact h
  | fail => intro ts R W x h; exact h
  | get q f ih => intro ts R W x h; rw [run_get] at h ⊢; exact ih _ h
  | put q e c ih => intro ts R W x h; rw [run_put] at h ⊢; exact ih h
  | test b f ih => intro ts R W x h; rw [run_test] at h ⊢; exact ih b h
  | sub cs i n f ih =>
    intro ts R W x h
    by_cases hl : ((cs.drop i).take n).length = n
    · rw [run_sub_eq hl] at h ⊢; exact ih _ h
    · have : (Prog.sub cs i n f).run cf ts R W = none := by
        show Bool.rec (motive := fun _ => Option (Out × TS × Nat × Nat)) none ((f ((cs.drop i).take n)).run cf ts R W) (Nat.beq ((cs.drop i).take n).length n) = _
        cases hb : Nat.beq ((cs.drop i).take n).length n with
        | false => rfl
        | true => exact absurd ((beq_iff _ _).1 hb) hl
      rw [this] at h; cases h
  | int v f ih => intro ts R W x h; rw [run_int] at h ⊢; exact ih v h
  | sl n cs f ih => intro ts R W x h; rw [run_sl] at h ⊢; exact ih n cs h
  | call g as f ih =>
    intro ts R W x h
    cases hg : cf g as with
    | none =>
      have : (Prog.call g as f).run cf ts R W = none := by
        show Option.rec (motive := fun _ => Option (Out × TS × Nat × Nat)) none (fun x => (f x).run cf ts R W) (cf g as) = _
        rw [hg]
      rw [this] at h; cases h
    | some r => rw [run_call_eq hg] at h; rw [run_call_eq (hcf _ _ _ hg)]; exact ih r h

theorem ops_mono {E : Env} {hn : Hint} (ops : Array Oper) : ∀ (l : List Oper) {ts : TS} {x}, runOps E hn cf ops l ts = some x → runOps E hn cf' ops l ts = some x
  | [], _, _, h => h
  | o :: l, ts, x, h => by
    have hr : ∀ c, run1 E hn c ops o ts = (bif dstOk hn o.dst then guardOp E hn ops o fun _ => Prog.ret Out.unit else Prog.fail).run c ts 0 0 := fun _ => rfl
    rw [runOps_cons, hr] at h ⊢
    cases h1 : (bif dstOk hn o.dst then guardOp E hn ops o fun _ => Prog.ret Out.unit else Prog.fail).run cf ts 0 0 with
    | none => rw [h1] at h; cases h
    | some y =>
      obtain ⟨ou, ts', R, W⟩ := y
      rw [prog_mono hcf _ h1]
      rw [h1] at h
      dsimp only at h ⊢
      cases h2 : runOps E hn cf ops l ts' with
      | none => rw [h2] at h; cases h
      | some z => rw [ops_mono ops l h2]; rw [h2] at h; exact h

omit hcf in
theorem loop_mono {b b' : TS → Option (Ex × TS)} (hb : ∀ ts x, b ts = some x → b' ts = some x) {hd : TS → TS} : ∀ {n n' : Nat}, n ≤ n' → ∀ {ts : TS} {x}, loopN b hd n ts = some x → loopN b' hd n' ts = some x
  | 0, _, _, _, _, h => by cases h
  | n + 1, 0, hn, _, _, _ => by omega
  | n + 1, n' + 1, hn, ts, x, h => by
    have h1 : ∀ (b : TS → Option (Ex × TS)) (n : Nat), loopN b hd (n + 1) ts = match fTS (hd ts) b with
      | some (.normal, ts') => loopN b hd n ts'
      | some (e, ts') => some (e, ts')
      | none => none := fun _ _ => rfl
    rw [h1, fTS_eq] at h ⊢
    cases h2 : b (hd ts) with
    | none => rw [h2] at h; cases h
    | some y =>
      obtain ⟨ex, ts'⟩ := y
      rw [hb _ _ h2]
      rw [h2] at h
      cases ex with
      | normal => exact loop_mono hb (by omega) h
      | exit _ => exact h
      | ret => exact h

omit hcf in
theorem tailed_mono {hn : Hint} {l : Nat} {b b' : TS → Option (Ex × TS)} (hb : ∀ ts x, b ts = some x → b' ts = some x) (ts : TS) (x) (h : tailed hn l b ts = some x) : tailed hn l b' ts = some x := by
  unfold tailed at h ⊢
  cases h2 : b ts with
  | none => rw [h2] at h; cases h
  | some y => rw [hb _ _ h2]; rw [h2] at h; exact h

theorem code_mono {E : Env} {hn : Hint} {fu fu' : Nat} (hf : fu ≤ fu') (c : Code) : ∀ (l : Nat) (ts : TS) (x), code E hn cf fu c l ts = some x → code E hn cf' fu' c l ts = some x := by
  induction c with
  | region id ops draw =>
    intro l ts x h
    have e : ∀ cf fu, code E hn cf fu (.region id ops draw) l ts = codeRegion E (atRegion hn id) cf ops draw ts := fun _ _ => rfl
    rw [e] at h ⊢
    unfold codeRegion at h ⊢
    cases h1 : runOps E (atRegion hn id) cf ops ops.toList ts with
    | none => rw [h1] at h; cases h
    | some y => rw [ops_mono hcf _ _ h1]; rw [h1] at h; exact h
  | seq a b iha ihb =>
    intro l ts x h
    have e : ∀ cf fu, code E hn cf fu (.seq a b) l ts = exSeq (code E hn cf fu b l) (code E hn cf fu a l ts) := fun _ _ => rfl
    rw [e] at h ⊢
    cases h1 : code E hn cf fu a l ts with
    | none => rw [h1] at h; cases h
    | some y =>
      rw [iha _ _ _ h1]; rw [h1] at h
      obtain ⟨ex, ts'⟩ := y
      cases ex with
      | normal => exact ihb _ _ _ h
      | exit _ => exact h
      | ret => exact h
  | cond c a b iha ihb =>
    intro l ts x h
    have e : ∀ cf fu, code E hn cf fu (.cond c a b) l ts = codeCond cf c (code E hn cf fu a l) (code E hn cf fu b l) ts := fun _ _ => rfl
    rw [e] at h ⊢
    unfold codeCond at h ⊢
    cases h1 : (condP c fun b => Prog.ret (Out.bool b)).run cf ts 0 0 with
    | none => rw [h1] at h; cases h
    | some y =>
      rw [prog_mono hcf _ h1]; rw [h1] at h
      obtain ⟨ou, ts', R, W⟩ := y
      cases ou with
      | bool v => cases v; exact ihb _ _ _ h; exact iha _ _ _ h
      | _ => cases h
  | block id b ih =>
    intro l ts x h
    have e : ∀ cf fu, code E hn cf fu (.block id b) l ts = exBlock id (code E hn cf fu b id ts) := fun _ _ => rfl
    rw [e] at h ⊢
    cases h1 : code E hn cf fu b id ts with
    | none => rw [h1] at h; cases h
    | some y => rw [ih _ _ _ h1]; rw [h1] at h; exact h
  | loop b ih =>
    intro l ts x h
    have e : ∀ cf fu, code E hn cf fu (.loop b) l ts = loopN (tailed hn l (code E hn cf fu b l)) (loopHead hn l) fu ts := fun _ _ => rfl
    rw [e] at h ⊢
    exact loop_mono (tailed_mono (ih l)) hf h
  | scope b ih => intro l ts x h; exact ih l ts x h
  | skip => intro l ts x h; exact h
  | rangeFunc f ps asg b _ _ => intro l ts x h; exact h
  | exit id => intro l ts x h; exact h
  | label i => intro l ts x h; exact h
  | goto i => intro l ts x h; exact h
  | ret => intro l ts x h; exact h
  | refuse w => intro l ts x h; exact h

theorem body_mono {E : Env} {hn : Hint} {fu fu' : Nat} (hf : fu ≤ fu') {fn : Func} {as : List AD} {r : Res} (h : fnBody E hn cf fu fn as = some r) : fnBody E hn cf' fu' fn as = some r := by
  unfold fnBody at h ⊢
  cases hb : fn.body with
  | none => rw [hb] at h; cases h
  | some c =>
    rw [hb] at h
    dsimp only at h ⊢
    cases hq : Nat.beq as.length fn.params.size && as.all smallArg with
    | false => rw [hq] at h; cases h
    | true =>
      rw [hq, cond_true] at h
      rw [cond_true]
      cases h1 : code E { hn with nt := fn.ntmps, prot := protOf 0 as } cf fu c 0 (TS.of (initArgs 0 as)) with
      | none => rw [h1] at h; cases h
      | some y =>
        rw [code_mono hcf hf _ _ _ _ h1]; rw [h1] at h
        obtain ⟨ex, ts⟩ := y
        have fin : (match (endD E hn.rim fn as fun r => .ret (.res r)).run cf ts 0 0 with | some (.res r, _, _, _) => some r | _ => none) = some r →
            (match (endD E hn.rim fn as fun r => .ret (.res r)).run cf' ts 0 0 with | some (.res r, _, _, _) => some r | _ => none) = some r := by
          intro h
          cases h2 : (endD E hn.rim fn as fun r => .ret (.res r)).run cf ts 0 0 with
          | none => rw [h2] at h; cases h
          | some z => rw [prog_mono hcf _ h2]; rw [h2] at h; exact h
        cases ex with
        | exit id => cases h
        | normal => exact fin h
        | ret => exact fin h
end

theorem fnN_mono {E : Env} {H : FuncId → Hint} {lf lf' : Nat} (hl : lf ≤ lf') : ∀ {n n' : Nat}, n ≤ n' → ∀ (g : FuncId) (as : List AD) (r : Res), fnN E H lf n g as = some r → fnN E H lf' n' g as = some r
  | 0, _, _, _, _, _, h => by cases h
  | n + 1, 0, hn, _, _, _, _ => by omega
  | n + 1, n' + 1, hn, g, as, r, h => by
    have e : ∀ lf n, fnN E H lf (n + 1) g as = match lookF E.fns g with
      | some fn => fnBody E (H g) (fnN E H lf n) lf fn as
      | none => none := fun _ _ => rfl
    rw [e] at h ⊢
    cases h1 : lookF E.fns g with
    | none => rw [h1] at h; cases h
    | some fn =>
      rw [h1] at h
      exact body_mono (fun g as r => fnN_mono hl (by omega) g as r) hl h

theorem evt_of {E : Env} {H : FuncId → Hint} {lf n : Nat} {g : FuncId} {as : List AD} {r : Res} (h : fnN E H lf n g as = some r) : Evt E H g as r :=
  ⟨max lf n, fun lf' n' a b => fnN_mono (by omega) (by omega) g as r h⟩

end Go.Proofs.Ytnjanliihnadjaa.Tm

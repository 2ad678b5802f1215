/- The tree machine: runs over symbols: code as a tree of what it asks; one way through it. Conditions: none. -/
import Derived.Test.YtnjanliihnadjaaK27
namespace Go.Proofs.Ytnjanliihnadjaa.Tm
open Go

theorem sVal_eq {α : Type} (v : Value) (f : Value → α) : sVal v f = f v := by cases v <;> simp [sVal, fKind_eq]
theorem sT_eq {α : Type} (t : T) (f : T → α) : sT t f = f t := by cases t <;> simp [sT, sVal_eq]
theorem sEnt_eq {α : Type} (e : Ent) (f : Ent → α) : sEnt e f = f e := by simp [sEnt, fK_eq, fNat_eq, sT_eq]

/-! ### What a tree of questions comes to -/
section
variable (cf : FuncId → List AD → Option Res) (lp : Nat → Code → TS → Option (Ex × TS))
def Free.run : Free → Option FEnd
  | .done e => some e
  | .fail => none
  | .mark _ f => f.run
  | .test b f => (f b).run
  | .int v f => (f v).run
  | .sl n cs f => (f n cs).run
  | .sub cs i n f => if ((cs.drop i).take n).length = n then (f ((cs.drop i).take n)).run else none
  | .call g as f => match cf g as with
    | some r => (f r).run
    | none => none
  | .loop l c ts f => match lp l c ts with
    | some (ex, ts') => (f ex ts').run
    | none => none

theorem progF_run (p : Prog) : ∀ (ts : TS) (R W : Nat) (k : Out → TS → Nat → Nat → Free), (progF p ts R W k).run cf lp = match p.run cf ts R W with
      | some (o, ts', R', W') => (k o ts' R' W').run cf lp
      | none => none := by
  induction p with
  | ret a => intro ts R W k; rw [run_ret]; rfl
  | fail => intro ts R W k; rw [run_fail]; rfl
  | get q f ih => intro ts R W k; rw [run_get]; exact ih _ ts _ W k
  | put q e c ih =>
    intro ts R W k
    rw [run_put]
    have : progF (.put q e c) ts R W k = sEnt e fun e => fNat (setBit ts.m q) fun m => progF c ⟨m, (q, e) :: ts.l⟩ R (setBit W q) k := rfl
    rw [this, sEnt_eq, fNat_eq]
    exact ih _ R _ k
  | test b f ih => intro ts R W k; rw [run_test]; exact ih b ts R W k
  | sub cs i n f ih =>
    intro ts R W k
    show (if ((cs.drop i).take n).length = n then (progF (f ((cs.drop i).take n)) ts R W k).run cf lp else none) = _
    by_cases h : ((cs.drop i).take n).length = n
    · rw [if_pos h, run_sub_eq h]; exact ih _ ts R W k
    · rw [if_neg h]
      have : (Prog.sub cs i n f).run cf ts R W = none := by
        show Bool.rec (motive := fun _ => Option (Out × TS × Nat × Nat)) none ((f ((cs.drop i).take n)).run cf ts R W) (Nat.beq ((cs.drop i).take n).length n) = _
        cases hb : Nat.beq ((cs.drop i).take n).length n with
        | false => rfl
        | true => exact absurd ((beq_iff _ _).1 hb) h
      rw [this]
  | int v f ih => intro ts R W k; rw [run_int]; exact ih v ts R W k
  | sl n cs f ih => intro ts R W k; rw [run_sl]; exact ih n cs ts R W k
  | call g as f ih =>
    intro ts R W k
    have e1 : progF (.call g as f) ts R W k = .call g as fun r => progF (f r) ts R W k := rfl
    rw [e1, Free.run]
    cases h : cf g as with
    | none =>
      have : (Prog.call g as f).run cf ts R W = none := by
        show Option.rec (motive := fun _ => Option (Out × TS × Nat × Nat)) none (fun x => (f x).run cf ts R W) (cf g as) = _
        rw [h]
      rw [this]
    | some x => rw [run_call_eq h]; exact ih x ts R W k

theorem runOpsF_run {E : Env} {h : Hint} (ops : Array Oper) : ∀ (l : List Oper) (i : Nat) (ts : TS) (k : TS → List Foot → Free), (runOpsF E h ops l i ts k).run cf lp = match runOps E h cf ops l ts with
      | some (ts', fs) => (k ts' fs).run cf lp
      | none => none
  | [], _, ts, k => rfl
  | o :: l, i, ts, k => by
    have h1 : runOpsF E h ops (o :: l) i ts k = .mark i (progF (bif dstOk h o.dst then guardOp E h ops o fun _ => .ret .unit else .fail) ts 0 0 fun _ ts' R W => runOpsF E h ops l (Nat.succ i) ts' fun ts2 fs => k ts2 (⟨R, W⟩ :: fs)) := rfl
    have hr : run1 E h cf ops o ts = (bif dstOk h o.dst then guardOp E h ops o fun _ => Prog.ret Out.unit else Prog.fail).run cf ts 0 0 := rfl
    rw [h1, Free.run, progF_run, runOps_cons, hr]
    cases (bif dstOk h o.dst then guardOp E h ops o fun _ => Prog.ret Out.unit else Prog.fail).run cf ts 0 0 with
    | none => rfl
    | some x =>
      obtain ⟨ou, ts', R, W⟩ := x
      dsimp only
      rw [runOpsF_run ops l]
      cases runOps E h cf ops l ts' with
      | none => rfl
      | some y => rfl

/-- The loops, as the code has them. -/
noncomputable def loopM (body : TS → Option (Ex × TS)) (head : TS → TS) (n : Nat) : TS → Option (Ex × TS) :=
  Nat.rec (motive := fun _ => TS → Option (Ex × TS)) (fun _ => none)
    (fun _ ih ts => match body ts with
      | some (.normal, ts') => ih (head ts')
      | some (e, ts') => some (e, ts')
      | none => none) n

theorem loopN_eq (body : TS → Option (Ex × TS)) (head : TS → TS) : ∀ (n : Nat) (ts : TS), loopN body head n ts = loopM body head n (head ts)
  | 0, ts => rfl
  | n + 1, ts => by
    have h1 : loopN body head (n + 1) ts = match fTS (head ts) body with
      | some (.normal, ts') => loopN body head n ts'
      | some (e, ts') => some (e, ts')
      | none => none := rfl
    have h2 : loopM body head (n + 1) (head ts) = match body (head ts) with
      | some (.normal, ts') => loopM body head n (head ts')
      | some (e, ts') => some (e, ts')
      | none => none := rfl
    rw [h1, h2, fTS_eq]
    cases body (head ts) with
    | none => rfl
    | some x =>
      obtain ⟨ex, ts'⟩ := x
      cases ex <;> first | exact loopN_eq body head n ts' | rfl

theorem codeF_run {E : Env} {h : Hint} (fuel : Nat) (hlp : ∀ l c ts, lp l c ts = loopM (tailed h l (code E h cf fuel c l)) (loopHead h l) fuel ts) (c : Code) :
    ∀ (l : Nat) (ts : TS) (k : Ex → TS → Free), (codeF E h c l ts k).run cf lp = match code E h cf fuel c l ts with
      | some (ex, ts') => (k ex ts').run cf lp
      | none => none := by
  induction c with
  | skip => intro l ts k; rfl
  | region id ops draw =>
    intro l ts k
    have h1 : codeF E h (.region id ops draw) l ts k = regionF E (atRegion h id) id ops draw ts k := rfl
    have h2 : code E h cf fuel (.region id ops draw) l ts = codeRegion E (atRegion h id) cf ops draw ts := rfl
    rw [h1, h2, regionF, runOpsF_run]
    unfold codeRegion
    cases runOps E (atRegion h id) cf ops ops.toList ts with
    | none => rfl
    | some x =>
      obtain ⟨ts', fs⟩ := x
      dsimp only
      cases (!draw || (indep ops fs && edgesOk 0 ops.toList)) with
      | false => rfl
      | true => rw [cond_true, cond_true, clean_eq, clean_eq]
  | seq a b iha ihb =>
    intro l ts k
    have h1 : codeF E h (.seq a b) l ts k = codeF E h a l ts (seqK (codeF E h b l) k) := rfl
    have h2 : code E h cf fuel (.seq a b) l ts = exSeq (code E h cf fuel b l) (code E h cf fuel a l ts) := rfl
    rw [h1, h2, iha]
    cases code E h cf fuel a l ts with
    | none => rfl
    | some x =>
      obtain ⟨ex, ts'⟩ := x
      cases ex with
      | normal => exact ihb l ts' k
      | exit id => rfl
      | ret => rfl
  | cond c x y ihx ihy =>
    intro l ts k
    have h1 : codeF E h (.cond c x y) l ts k = condF c (codeF E h x l) (codeF E h y l) ts k := rfl
    have h2 : code E h cf fuel (.cond c x y) l ts = codeCond cf c (code E h cf fuel x l) (code E h cf fuel y l) ts := rfl
    rw [h1, h2, condF, progF_run]
    unfold codeCond
    cases (condP c fun b => Prog.ret (Out.bool b)).run cf ts 0 0 with
    | none => rfl
    | some z =>
      obtain ⟨ou, ts', R, W⟩ := z
      cases ou with
      | bool b => cases b; exact ihy l ts' k; exact ihx l ts' k
      | _ => rfl
  | block id b ih =>
    intro l ts k
    have h1 : codeF E h (.block id b) l ts k = codeF E h b id ts (blockK id k) := rfl
    have h2 : code E h cf fuel (.block id b) l ts = exBlock id (code E h cf fuel b id ts) := rfl
    rw [h1, h2, ih]
    cases code E h cf fuel b id ts with
    | none => rfl
    | some x =>
      obtain ⟨ex, ts'⟩ := x
      cases ex with
      | exit j =>
        show (bif Nat.beq j id then k .normal ts' else k (.exit j) ts').run cf lp = match (bif Nat.beq j id then some (Ex.normal, ts') else some (Ex.exit j, ts')) with | some (ex, ts') => _ | none => _
        cases Nat.beq j id <;> rfl
      | normal => rfl
      | ret => rfl
  | loop b ih =>
    intro l ts k
    have h1 : codeF E h (.loop b) l ts k = .loop l b (loopHead h l ts) k := rfl
    have h2 : code E h cf fuel (.loop b) l ts = loopN (tailed h l (code E h cf fuel b l)) (loopHead h l) fuel ts := rfl
    rw [h1, h2, Free.run, hlp, loopN_eq]
  | rangeFunc f ps asg b _ _ => intro l ts k; rfl
  | exit id => intro l ts k; rfl
  | scope b ih => intro l ts k; exact ih l ts k
  | label i => intro l ts k; rfl
  | goto i => intro l ts k; rfl
  | ret => intro l ts k; rfl
  | refuse w => intro l ts k; rfl

theorem fnF_run {E : Env} {h : Hint} {fn : Func} {args : List AD} (fuel : Nat) (hlp : ∀ l c ts, lp l c ts = loopM (tailed (hintOf h fn args) l (code E (hintOf h fn args) cf fuel c l)) (loopHead (hintOf h fn args) l) fuel ts) {r : Res}
    (hr : (fnF E h fn args).run cf lp = some (.res r)) : fnBody E h cf fuel fn args = some r := by
  unfold fnF at hr
  unfold fnBody
  cases hb : fn.body with
  | none => rw [hb] at hr; cases hr
  | some c =>
    rw [hb] at hr
    dsimp only at hr ⊢
    cases hq : Nat.beq args.length fn.params.size && args.all smallArg with
    | false => rw [hq] at hr; cases hr
    | true =>
      rw [hq, cond_true, codeF_run cf lp fuel hlp] at hr
      rw [cond_true]
      have : code E { h with nt := fn.ntmps, prot := protOf 0 args } cf fuel c 0 (TS.of (initArgs 0 args)) = code E (hintOf h fn args) cf fuel c 0 (TS.of (initArgs 0 args)) := rfl
      rw [this]
      cases hc : code E (hintOf h fn args) cf fuel c 0 (TS.of (initArgs 0 args)) with
      | none => rw [hc] at hr; cases hr
      | some x =>
        obtain ⟨ex, ts⟩ := x
        rw [hc] at hr
        have fin : (progF (endD E h.rim fn args fun r => .ret (.res r)) ts 0 0 fun o _ _ _ => match o with | .res r => .done (.res r) | _ => .fail).run cf lp = some (.res r) →
            (match (endD E h.rim fn args fun r => .ret (.res r)).run cf ts 0 0 with | some (.res r, _, _, _) => some r | _ => none) = some r := by
          intro hr
          rw [progF_run] at hr
          cases he : (endD E h.rim fn args fun r => .ret (.res r)).run cf ts 0 0 with
          | none => rw [he] at hr; cases hr
          | some z =>
            obtain ⟨ou, ts', R, W⟩ := z
            rw [he] at hr
            cases ou with
            | res r' => cases hr; rfl
            | _ => cases hr
        cases ex with
        | exit id => cases hr
        | normal => exact fin hr
        | ret => exact fin hr
end

/-! ### One way -/
section
variable (E : Env) (H : FuncId → Hint)

/-- From some fuel on, the machine answers r. -/
def Evt (g : FuncId) (as : List AD) (r : Res) : Prop := ∃ N, ∀ lf n, N ≤ lf → N ≤ n → fnN E H lf n g as = some r
/-- From some fuel on, the loop comes from state ts to its end. -/
def LoopEv (h : Hint) (l : Nat) (c : Code) (ts : TS) (ex : Ex) (ts' : TS) : Prop := ∃ N, ∀ lf n m, N ≤ lf → N ≤ n → N ≤ m → loopM (tailed h l (code E h (fnN E H lf n) lf c l)) (loopHead h l) m ts = some (ex, ts')

def Cond.Holds (h : Hint) : Cond → Prop
  | .test b v => b = v
  | .int b v => b = v
  | .sl v cs n l => v = n ∧ cs = l
  | .sub cs i n v => v.length = n ∧ (cs.drop i).take n = v
  | .call g as r => Evt E H g as r
  | .loop l c ts ex ts' => LoopEv E H h l c ts ex ts'

def HoldAll (h : Hint) : List Cond → Prop
  | [] => True
  | c :: cs => c.Holds E H h ∧ HoldAll h cs

theorem addC_some {c : Cond} {x : Option (FEnd × List Cond)} {e : FEnd} {cs : List Cond} (h : addC c x = some (e, cs)) : ∃ cs', x = some (e, cs') ∧ cs = c :: cs' := by
  cases x with
  | none => cases h
  | some y => obtain ⟨e', cs'⟩ := y; cases h; exact ⟨cs', rfl, rfl⟩

theorem play_run {h : Hint} : ∀ (fr : Free) (os : List Ans) (e : FEnd) (cs : List Cond), fr.play os = some (e, cs) → HoldAll E H h cs →
    ∃ N, ∀ lf n, N ≤ lf → N ≤ n → fr.run (fnN E H lf n) (fun l c ts => loopM (tailed h l (code E h (fnN E H lf n) lf c l)) (loopHead h l) lf ts) = some e := by
  intro fr
  induction fr with
  | done e0 =>
    intro os e cs hp hc
    cases os with
    | nil => cases hp; exact ⟨0, fun _ _ _ _ => rfl⟩
    | cons a os => cases hp
  | fail => intro os e cs hp; cases os <;> cases hp
  | mark i f ih => intro os e cs hp hc; rw [Free.play] at hp; exact ih os e cs hp hc
  | test b f ih =>
    intro os e cs hp hc
    match os, hp with
    | .test v :: os, hp =>
      obtain ⟨cs', h1, rfl⟩ := addC_some hp
      obtain ⟨h2, h3⟩ := hc
      have h2 : b = v := h2
      subst h2
      exact ih b os e cs' h1 h3
  | int b f ih =>
    intro os e cs hp hc
    match os, hp with
    | .int v :: os, hp =>
      obtain ⟨cs', h1, rfl⟩ := addC_some hp
      obtain ⟨h2, h3⟩ := hc
      have h2 : b = v := h2
      subst h2
      exact ih b os e cs' h1 h3
  | sl v cs0 f ih =>
    intro os e cs hp hc
    match os, hp with
    | .sl n l :: os, hp =>
      obtain ⟨cs', h1, rfl⟩ := addC_some hp
      obtain ⟨⟨h2, h4⟩, h3⟩ := hc
      subst h2; subst h4
      exact ih v cs0 os e cs' h1 h3
  | sub cs0 i n f ih =>
    intro os e cs hp hc
    match os, hp with
    | .sub v :: os, hp =>
      obtain ⟨cs', h1, rfl⟩ := addC_some hp
      obtain ⟨⟨h2, h4⟩, h3⟩ := hc
      obtain ⟨N, hN⟩ := ih v os e cs' h1 h3
      refine ⟨N, fun lf n' a b => ?_⟩
      rw [Free.run, h4, if_pos h2]
      exact hN lf n' a b
  | call g as f ih =>
    intro os e cs hp hc
    match os, hp with
    | .call r :: os, hp =>
      obtain ⟨cs', h1, rfl⟩ := addC_some hp
      obtain ⟨⟨N1, h2⟩, h3⟩ := hc
      obtain ⟨N, hN⟩ := ih r os e cs' h1 h3
      refine ⟨max N N1, fun lf n a b => ?_⟩
      rw [Free.run, h2 lf n (by omega) (by omega)]
      exact hN lf n (by omega) (by omega)
  | loop l c ts f ih =>
    intro os e cs hp hc
    match os, hp with
    | .loop ex ts' :: os, hp =>
      obtain ⟨cs', h1, rfl⟩ := addC_some hp
      obtain ⟨⟨N1, h2⟩, h3⟩ := hc
      obtain ⟨N, hN⟩ := ih ex ts' os e cs' h1 h3
      refine ⟨max N N1, fun lf n a b => ?_⟩
      rw [Free.run, h2 lf n lf (by omega) (by omega) (by omega)]
      exact hN lf n (by omega) (by omega)

/-- A function, by one way through it. -/
theorem fn_play {f : FuncId} {as : List AD} {r : Res} {os : List Ans} {cs : List Cond} (hp : (fnT E H f as).play os = some (.res r, cs)) (hc : HoldAll E H (hintT E H f as) cs) : Evt E H f as r := by
  unfold fnT at hp
  unfold hintT at hc
  cases hf : lookF E.fns f with
  | none => rw [hf] at hp; cases os <;> cases hp
  | some fn =>
    rw [hf] at hp hc
    obtain ⟨N, hN⟩ := play_run E H _ os _ cs hp hc
    refine ⟨N + 1, fun lf n a b => ?_⟩
    cases n with
    | zero => omega
    | succ n =>
      have h1 := fnF_run (E := E) (h := H f) (fn := fn) (args := as) (fnN E H lf n) (fun l c ts => loopM (tailed (hintOf (H f) fn as) l (code E (hintOf (H f) fn as) (fnN E H lf n) lf c l)) (loopHead (hintOf (H f) fn as) l) lf ts) lf (fun _ _ _ => rfl) (hN lf n (by omega) (by omega))
      show (match lookF E.fns f with | some fn => fnBody E (H f) (fnN E H lf n) lf fn as | none => none) = _
      rw [hf]; exact h1

theorem round_play {h : Hint} {l : Nat} {c : Code} {ts : TS} {os : List Ans} {e : FEnd} {cs : List Cond} (hp : (roundF E h l c ts).play os = some (e, cs)) (hc : HoldAll E H h cs) :
    ∃ N, ∀ lf n, N ≤ lf → N ≤ n → (match code E h (fnN E H lf n) lf c l ts with | some (ex, ts') => (roundK h l ex ts').run (fnN E H lf n) (fun l c ts => loopM (tailed h l (code E h (fnN E H lf n) lf c l)) (loopHead h l) lf ts) | none => none) = some e := by
  obtain ⟨N, hN⟩ := play_run E H _ os _ cs hp hc
  refine ⟨N, fun lf n a b => ?_⟩
  have := hN lf n a b
  rw [roundF, codeF_run _ _ lf (fun _ _ _ => rfl)] at this
  exact this

/-- A loop goes on. -/
theorem loop_next {h : Hint} {l : Nat} {c : Code} {ts ts1 : TS} {os : List Ans} {cs : List Cond} (hp : (roundF E h l c ts).play os = some (.code .normal ts1, cs)) (hc : HoldAll E H h cs) {ex : Ex} {ts' : TS} (hn : LoopEv E H h l c ts1 ex ts') :
    LoopEv E H h l c ts ex ts' := by
  obtain ⟨N, hN⟩ := round_play E H hp hc
  obtain ⟨N1, h1⟩ := hn
  refine ⟨max N N1 + 1, fun lf n m a b d => ?_⟩
  have h2 := hN lf n (by omega) (by omega)
  cases m with
  | zero => omega
  | succ m =>
    have h3 : loopM (tailed h l (code E h (fnN E H lf n) lf c l)) (loopHead h l) (m + 1) ts = match tailed h l (code E h (fnN E H lf n) lf c l) ts with
      | some (.normal, ts') => loopM (tailed h l (code E h (fnN E H lf n) lf c l)) (loopHead h l) m (loopHead h l ts')
      | some (e, ts') => some (e, ts')
      | none => none := rfl
    rw [h3, tailed_eq]
    cases hcd : code E h (fnN E H lf n) lf c l ts with
    | none => rw [hcd] at h2; cases h2
    | some x =>
      obtain ⟨ex1, ts2⟩ := x
      rw [hcd] at h2
      cases ex1 with
      | normal =>
        have h4 : some (FEnd.code .normal (loopHead h l ts2)) = some (FEnd.code .normal ts1) := h2
        cases h4
        exact h1 lf n m (by omega) (by omega) (by omega)
      | exit id => cases h2
      | ret => cases h2

/-- A loop ends. -/
theorem loop_end {h : Hint} {l : Nat} {c : Code} {ts ts' : TS} {ex : Ex} {os : List Ans} {cs : List Cond} (hp : (roundF E h l c ts).play os = some (.code ex ts', cs)) (hx : match ex with | .normal => False | _ => True) (hc : HoldAll E H h cs) :
    LoopEv E H h l c ts ex ts' := by
  obtain ⟨N, hN⟩ := round_play E H hp hc
  refine ⟨N + 1, fun lf n m a b d => ?_⟩
  have h2 := hN lf n (by omega) (by omega)
  cases m with
  | zero => omega
  | succ m =>
    have h3 : loopM (tailed h l (code E h (fnN E H lf n) lf c l)) (loopHead h l) (m + 1) ts = match tailed h l (code E h (fnN E H lf n) lf c l) ts with
      | some (.normal, ts') => loopM (tailed h l (code E h (fnN E H lf n) lf c l)) (loopHead h l) m (loopHead h l ts')
      | some (e, ts') => some (e, ts')
      | none => none := rfl
    rw [h3, tailed_eq]
    cases hcd : code E h (fnN E H lf n) lf c l ts with
    | none => rw [hcd] at h2; cases h2
    | some x =>
      obtain ⟨ex1, ts2⟩ := x
      rw [hcd] at h2
      cases ex1 with
      | normal =>
        have h4 : some (FEnd.code .normal (loopHead h l ts2)) = some (FEnd.code ex ts') := h2
        cases h4
        exact hx.elim
      | exit id => cases h2; rfl
      | ret => cases h2; rfl
end
end Go.Proofs.Ytnjanliihnadjaa.Tm

/- The tree machine: operations on values, held against the model's. Conditions: none. -/
import Derived.Test.YtnjanliihnadjaaK4
import Derived.Laws.StructEq
namespace Go.Proofs.Ytnjanliihnadjaa.Tm
open Go

/-- What the tables say is so of the program. -/
structure TyOk (P : Program) (k : Nat) (y : Ty) : Prop where
  under : P.underlying k = some y.d
  info : ∃ i z, P.info? k = some i ∧ i.size = y.size ∧ i.bytes = y.bytes ∧ i.zero = some z ∧ z.cells.toList = y.zero
  size : y.zero.length = y.size
  one : y.zero.all isOne = true
  places : ∀ fs, y.d = .struct fs → (fs.toList.mapM (fun f => (P.info? f.type).map fun i => (f.offset, i.size))).isSome = true

structure EnvOk (P : Program) (E : Env) : Prop where
  ty : ∀ k y, lookT E.tys k = some y → TyOk P k y
  fn : ∀ k f, lookF E.fns k = some f → P.funcs[k]? = some f ∧ f.name ≠ "runtime.NumGoroutine"
  mixed : P.follows .mixedOrders = true
  eq : ∀ t ∈ E.eqs, P.stoodInHeld t = false ∧ P.eqGuardType P.depth t = false

section
variable {P : Program} {G : Ctx} {s : St} {cf : FuncId → List AD → Option Res} {ts ts' : TS} {o : Out} {E : Env}

theorem tinfo_ok (hE : EnvOk P E) {t : TypeId} {kk : Ty → Prog} (hr : Runs cf (tinfo E t kk) ts o ts') : ∃ y, TyOk P t y ∧ lookT E.tys t = some y ∧ Runs cf (kk y) ts o ts' := by
  unfold tinfo at hr
  cases h : lookT E.tys t with
  | none => rw [h] at hr; exact (Runs.fail hr).elim
  | some y => rw [h] at hr; exact ⟨y, hE.ty t y h, rfl, hr⟩

theorem tdesc_ok (hE : EnvOk P E) {t : TypeId} {kk : TypeDesc → Prog} (hr : Runs cf (tdesc E t kk) ts o ts') : ∃ y, TyOk P t y ∧ lookT E.tys t = some y ∧ Runs cf (kk y.d) ts o ts' := by
  unfold tdesc at hr
  cases h : lookT E.tys t with
  | none => rw [h] at hr; exact (Runs.fail hr).elim
  | some y => rw [h] at hr; exact ⟨y, hE.ty t y h, rfl, hr⟩

theorem tagg_ok (hE : EnvOk P E) {t : TypeId} {kk : Bool → Prog} (hr : Runs cf (tagg E t kk) ts o ts') : ∃ y, TyOk P t y ∧ lookT E.tys t = some y ∧ Runs cf (kk (isAggD y.d)) ts o ts' := by
  unfold tagg at hr
  cases h : lookT E.tys t with
  | none => rw [h] at hr; exact (Runs.fail hr).elim
  | some y => rw [h] at hr; exact ⟨y, hE.ty t y h, rfl, hr⟩

theorem tsize_ok (hE : EnvOk P E) {t : TypeId} {kk : Nat → Prog} (hr : Runs cf (tsize E t kk) ts o ts') : ∃ y, TyOk P t y ∧ lookT E.tys t = some y ∧ Runs cf (kk y.size) ts o ts' := by
  unfold tsize at hr
  cases h : lookT E.tys t with
  | none => rw [h] at hr; exact (Runs.fail hr).elim
  | some y => rw [h] at hr; exact ⟨y, hE.ty t y h, rfl, hr⟩

theorem zeroOf_ok (hE : EnvOk P E) {t : TypeId} {kk : List Value → Prog} (hr : Runs cf (zeroOf E t kk) ts o ts') : ∃ y, TyOk P t y ∧ lookT E.tys t = some y ∧ Runs cf (kk y.zero) ts o ts' := by
  unfold zeroOf at hr
  cases h : lookT E.tys t with
  | none => rw [h] at hr; exact (Runs.fail hr).elim
  | some y => rw [h] at hr; exact ⟨y, hE.ty t y h, rfl, hr⟩

theorem tslice_ok (hE : EnvOk P E) {t : TypeId} {kk : TypeId → Prog} (hr : Runs cf (tslice E t kk) ts o ts') : ∃ y e, TyOk P t y ∧ y.d = .slice e ∧ Runs cf (kk e) ts o ts' := by
  unfold tslice at hr
  cases h : lookT E.tys t with
  | none => rw [h] at hr; exact (Runs.fail hr).elim
  | some y =>
    rw [h] at hr
    cases hd : y.d <;> simp only [hd] at hr <;> try exact (Runs.fail hr).elim
    exact ⟨y, _, hE.ty t y h, hd, hr⟩

theorem run_typeInfo {t : TypeId} {i : TypeInfo} (h : P.info? t = some i) (w : World) : (typeInfo t).run P w = .ok i w := by simp [typeInfo, h]
theorem TyOk.run_size {t : TypeId} {y : Ty} (h : TyOk P t y) (w : World) : (sizeOf t).run P w = .ok y.size w := by
  obtain ⟨i, z, h1, h2, _⟩ := h.info
  simp [sizeOf, run_typeInfo h1, h2]
theorem TyOk.run_under {t : TypeId} {y : Ty} (h : TyOk P t y) (w : World) : (underlying t).run P w = .ok y.d w := by simp [underlying, h.under]
theorem TyOk.run_isAgg {t : TypeId} {y : Ty} (h : TyOk P t y) (w : World) : (isAgg t).run P w = .ok (isAggD y.d) w := by
  simp only [isAgg, Sem.run_bind, h.run_under, Result.andThen_ok]
  cases y.d <;> rfl
theorem TyOk.run_zero {t : TypeId} {y : Ty} (h : TyOk P t y) (w : World) : ∃ z, (zeroValue t).run P w = .ok z w ∧ z.cells.toList = y.zero := by
  obtain ⟨i, z, h1, _, _, h4, h5⟩ := h.info
  exact ⟨z, by simp [zeroValue, run_typeInfo h1, h4], h5⟩

/-- What comes of it is what the model says, and memory stays. -/
def Pure (P : Program) (s : St) (X : C D) (m : Sem Value) : Prop :=
  ∀ (cf : FuncId → List AD → Option Res) (kk : D → Prog) (o : Out) (ts' : TS), Runs cf (X kk) s.ts o ts' → ∃ d v, m.run P s.w = .ok v s.w ∧ DOk False s d v ∧ Runs cf (kk d) s.ts o ts'

theorem lit_inv {L : Prop} {u v : Value} (h : DOk L s (.one (.im (.lit u))) v) : v = u := by
  have : RT s.w s.S (.lit u) v := h
  cases this; rfl

theorem litOf_ok {L : Prop} {d : D} {v : Value} {kk : Value → Prog} (h : DOk L s d v) (hr : Runs cf (litOf d kk) ts o ts') : d = .one (.im (.lit v)) ∧ Runs cf (kk v) ts o ts' := by
  unfold litOf at hr
  split at hr
  · rename_i u
    have := lit_inv h; subst this
    exact ⟨rfl, hr⟩
  · exact (Runs.fail hr).elim

theorem Pure.lit {v : Value} {m : Sem Value} (h1 : v.oneCell' = true) (h : m.run P s.w = .ok v s.w) : Pure P s (lit v) m :=
  fun _ _ _ _ hr => ⟨_, v, h, lit_ok _ _ h1, hr⟩
theorem Pure.intR {k : IntKind} {n : Int} {m : Sem Value} (h : m.run P s.w = .ok (.int k n) s.w) : Pure P s (intR k n) m :=
  fun _ _ _ _ hr => ⟨_, .int k n, h, lit_ok _ _ rfl, Runs.int hr⟩
theorem Pure.fail {m : Sem Value} : Pure P s C.fail m := fun _ _ _ _ hr => (Runs.fail hr).elim
theorem Pure.test {b : Bool} {X : Bool → C D} {m : Sem Value} (h : Pure P s (X b) m) : Pure P s (C.test b >>= X) m := fun cf kk o ts' hr => h cf kk o ts' (Runs.test hr)
theorem Pure.congr {X : C D} {m m' : Sem Value} (h : Pure P s X m) (e : m'.run P s.w = m.run P s.w) : Pure P s X m' := fun cf kk o ts' hr => by
  obtain ⟨d, v, h1, h2, h3⟩ := h cf kk o ts' hr
  exact ⟨d, v, e.trans h1, h2, h3⟩
theorem Pure.cond {b : Bool} {X Y : C D} {m : Sem Value} (h1 : b = true → Pure P s X m) (h2 : b = false → Pure P s Y m) : Pure P s (bif b then X else Y) m := by
  cases b
  · exact h2 rfl
  · exact h1 rfl
theorem Pure.orFail {b : Bool} {X : C D} {m : Sem Value} (h1 : b = true → Pure P s X m) : Pure P s (bif b then X else C.fail) m := Pure.cond h1 fun _ => Pure.fail
theorem Pure.failOr {b : Bool} {X : C D} {m : Sem Value} (h1 : b = false → Pure P s X m) : Pure P s (bif b then C.fail else X) m := Pure.cond (fun _ => Pure.fail) h1

theorem intBin_ok (op : BinOp) (k : IntKind) (a b : Int) (ho : op ≠ .shl) (ho' : op ≠ .shr) (t : TypeId) : Pure P s (intBin op k a b) (binOp op t (.int k a) (.int k b)) := by
  cases op <;> first | exact absurd rfl ho | exact absurd rfl ho' | skip
  case quo =>
    refine Pure.test (Pure.failOr fun hb => Pure.intR ?_)
    have hb0 : b ≠ 0 := by simpa using hb
    simp [binOp, Op.intDiv, hb0]
  case rem =>
    refine Pure.test (Pure.failOr fun hb => Pure.intR ?_)
    have hb0 : b ≠ 0 := by simpa using hb
    simp [binOp, Op.intDiv, hb0]
  all_goals first
    | exact Pure.intR (by simp [binOp, Op.intArith, Op.intBits, wand, wor, wxor, wandn])
    | exact Pure.lit rfl (by simp [binOp, Op.intCmp])
    | exact Pure.fail

theorem shBin_ok (op : BinOp) (k k' : IntKind) (a b : Int) (t : TypeId) (h : op = .shl ∨ op = .shr) : Pure P s (shBin op k a b) (binOp op t (.int k a) (.int k' b)) := by
  unfold shBin
  refine Pure.test (Pure.failOr fun hb => ?_)
  have hb' : ¬ b < 0 := by simpa using hb
  rcases h with rfl | rfl
  · exact Pure.intR (by simp [binOp, Op.shift, hb'])
  · exact Pure.intR (by simp [binOp, Op.shift, hb'])

theorem strBin_ok (op : BinOp) (a b : ByteArray) (t : TypeId) : Pure P s (strBin op a b) (binOp op t (.string a) (.string b)) := by
  cases op <;> try exact Pure.fail
  case add =>
    refine Pure.test (Pure.failOr fun hb => Pure.lit rfl ?_)
    have : ¬ (((a.size + b.size : Nat) : Int) > IntKind.i64.max) := by simpa using hb
    simp only [binOp, Op.stringOp, this, if_false, Sem.run_pure]
  all_goals exact Pure.lit rfl (by simp [binOp, Op.stringOp])

/-! ### Equality -/
theorem eqLit_ok (d : TypeDesc) (n : Nat) (t : TypeId) (x y : Value) (r : Bool) (w : World) (hd : P.underlying t = some d) (h : eqLit d x y = some r) :
    (Op.equalIn (n + 1) t x y).run P w = .ok r w := by
  unfold eqLit at h
  split at h
  · rename_i k' k a k2 b
    cases hk : decide (k = k2) with
    | false => rw [hk] at h; cases h
    | true =>
      rw [hk] at h
      have : k = k2 := by simpa using hk
      subst this
      cases h
      exact run_equalIn_int w n t k k' a b hd
  · cases h; exact run_equalIn_bool' w n t _ _ hd
  · cases h; exact run_equalIn_string w n t _ _ hd
  · cases h

theorem eqLit_plain {d : TypeDesc} {x y : Value} {r : Bool} (h : eqLit d x y = some r) : isAggD d = false := by
  unfold eqLit at h
  split at h <;> first | rfl | cases h

theorem CVsOk.lit_at {L : Prop} {τ : Nat} {cs : List CV} {vs : List Value} (h : CVsOk L s τ cs vs) {j : Nat} {x : Value} (hj : cs[j]? = some (.im (.lit x))) : vs[j]? = some x := by
  have hl : j < vs.length := by rw [h.1]; exact (List.getElem?_eq_some_iff.1 hj).1
  have := h.2 j _ _ hj (List.getElem?_eq_getElem hl)
  rw [List.getElem?_eq_getElem hl]
  have h2 : RT s.w s.S (.lit x) vs[j] := this
  generalize vs[j] = u at h2
  cases h2; rfl

theorem run_part_lit {t : TypeId} {y : Ty} (hy : TyOk P t y) (ha : isAggD y.d = false) {vs : List Value} {j : Nat} {x : Value} (h : vs[j]? = some x) (w : World) : (part t vs.toArray j).run P w = .ok x w := by
  simp only [part, Sem.run_bind, hy.run_isAgg, ha, Result.andThen_ok, Bool.false_eq_true, if_false]
  simp [h]

theorem eqFields_ok (hE : EnvOk P E) (n : Nat) {L : Prop} {xs ys : List CV} {vx vy : List Value} (hx : CVsOk L s 0 xs vx) (hy : CVsOk L s 0 ys vy) : ∀ (fs : List Field) (r : Bool), eqFields E xs ys fs = some r →
    (Op.eqFields (n + 1) vx.toArray vy.toArray fs).run P s.w = .ok r s.w
  | [], r, h => by cases h; rfl
  | f :: fs, r, h => by
    unfold eqFields at h
    split at h
    · rename_i i x y hi hxo hyo
      cases hn : (f.name != "_") with
      | false => rw [hn] at h; cases h
      | true =>
        rw [hn] at h
        have hne : f.name ≠ "_" := by simpa using hn
        simp only [cond_true] at h
        cases hq : eqLit i.d x y with
        | none => rw [hq] at h; cases h
        | some q =>
          rw [hq] at h
          cases hq2 : eqFields E xs ys fs with
          | none => rw [hq2] at h; cases h
          | some r2 =>
          rw [hq2] at h
          have h' : some (q && r2) = some r := h
          cases h'
          have hty := hE.ty _ _ hi
          have hpl := eqLit_plain hq
          unfold Op.eqFields
          rw [if_pos hne]
          simp only [Sem.run_bind, run_part_lit hty hpl (hx.lit_at hxo), run_part_lit hty hpl (hy.lit_at hyo), Result.andThen_ok, eqLit_ok i.d n f.type x y q s.w hty.under hq]
          cases q
          · rfl
          · exact eqFields_ok hE n hx hy fs r2 hq2
    · cases h

theorem run_equalIn_nilFuncs (n : Nat) (t : TypeId) (a : Array TypeId) (b : Array TypeId) (c : Bool) (w : World) (h : P.underlying t = some (.func a b c)) : (Op.equalIn (n + 1) t .nilFunc .nilFunc).run P w = .ok true w := by
  simp [Op.equalIn, run_underlying h]
theorem run_equalIn_funcNil (n : Nat) (t : TypeId) (a : Array TypeId) (b : Array TypeId) (c : Bool) (f : Fn) (x y : Array Value) (w : World) (h : P.underlying t = some (.func a b c)) : (Op.equalIn (n + 1) t (.func f x y) .nilFunc).run P w = .ok false w := by
  simp [Op.equalIn, run_underlying h]

theorem eqD_ok (hE : EnvOk P E) {L : Prop} {t : TypeId} {x y : D} {vx vy : Value} (hx : DOk L s x vx) (hy : DOk L s y vy) {kk : Bool → Prog} (hr : Runs cf (eqD E t x y kk) s.ts o ts') :
    ∃ b, (∀ op, op = .eql ∨ op = .neq → ∀ a c, (eqGuard op t a c vx vy).run P s.w = .ok () s.w) ∧ (Op.equalIn 10000 t vx vy).run P s.w = .ok b s.w ∧
      binOp .eql t vx vy = (do pure (.bool (← Op.equal t vx vy))) ∧ binOp .neq t vx vy = (do pure (.bool (!(← Op.equal t vx vy)))) ∧ Runs cf (kk b) s.ts o ts' := by
  unfold eqD at hr
  split at hr
  · rename_i a b
    have h1 := lit_inv hx; have h2 := lit_inv hy; subst h1; subst h2
    obtain ⟨yy, hyy, _, hr1⟩ := tdesc_ok hE hr
    cases hd : yy.d <;> simp only [hd] at hr1 <;> try exact (Runs.fail hr1).elim
    exact ⟨_, fun op ho a c => by rcases ho with rfl | rfl <;> rfl, run_equalIn_bool' _ _ _ _ _ (hd ▸ hyy.under), rfl, rfl, hr1⟩
  · have h1 := lit_inv hx; have h2 := lit_inv hy; subst h1; subst h2
    obtain ⟨yy, hyy, _, hr1⟩ := tdesc_ok hE hr
    cases hd : yy.d <;> simp only [hd] at hr1 <;> try exact (Runs.fail hr1).elim
    exact ⟨_, fun op ho a c => by rcases ho with rfl | rfl <;> rfl, run_equalIn_nilFuncs 9999 t _ _ _ _ (hd ▸ hyy.under), rfl, rfl, hr1⟩
  · have h1 := lit_inv hx; have h2 := lit_inv hy; subst h1; subst h2
    obtain ⟨yy, hyy, _, hr1⟩ := tdesc_ok hE hr
    cases hd : yy.d <;> simp only [hd] at hr1 <;> try exact (Runs.fail hr1).elim
    exact ⟨_, fun op ho a c => by rcases ho with rfl | rfl <;> rfl, run_equalIn_funcNil 9999 t _ _ _ _ _ _ _ (hd ▸ hyy.under), rfl, rfl, hr1⟩
  · rename_i xs ys
    obtain ⟨vx, rfl, hx⟩ := hx
    obtain ⟨vy, rfl, hy⟩ := hy
    unfold eqAgg at hr
    cases hl : lookT E.tys t with
    | none => simp only [hl] at hr; exact (Runs.fail hr).elim
    | some i =>
      simp only [hl] at hr
      cases hd : i.d <;> simp only [hd] at hr <;> try exact (Runs.fail hr).elim
      rename_i fs
      cases hm : E.eqs.any (Nat.beq t) with
      | false => rw [hm] at hr; exact (Runs.fail hr).elim
      | true =>
        rw [hm] at hr
        have hmem : t ∈ E.eqs := by
          obtain ⟨u, hu, hb⟩ := List.any_eq_true.1 hm
          rw [(beq_iff _ _).1 hb]; exact hu
        obtain ⟨hs, hg⟩ := hE.eq t hmem
        have hty := hE.ty t i hl
        simp only [cond_true] at hr
        cases hq : eqFields E xs ys fs.toList with
        | none => rw [hq] at hr; exact (Runs.fail hr).elim
        | some b =>
          rw [hq] at hr
          refine ⟨b, fun op _ a c => run_eqGuard_agg s.w op t a c _ _ hg, ?_, rfl, rfl, hr⟩
          have hfs : P.fieldsOf t = fs := by simp [Program.fieldsOf, hty.under, hd]
          rw [show (10000 : Nat) = 9999 + 1 from rfl, run_equalIn_struct s.w 9999 t _ _ (by rw [hfs, hty.under, hd]) hs, hfs]
          exact eqFields_ok hE 9998 hx hy fs.toList b hq
  · exact (Runs.fail hr).elim

theorem run_guard_int (op : BinOp) (t : TypeId) (a c : Operand) (k k' : IntKind) (x y : Int) (w : World) : (eqGuard op t a c (.int k x) (.int k' y)).run P w = .ok () w := by
  cases op <;> rfl
theorem run_guard_string (op : BinOp) (t : TypeId) (a c : Operand) (x y : ByteArray) (w : World) : (eqGuard op t a c (.string x) (.string y)).run P w = .ok () w := by
  cases op <;> rfl

theorem binD_ok (hE : EnvOk P E) {L : Prop} {op : BinOp} {t : TypeId} {x y : D} {vx vy : Value} (hx : DOk L s x vx) (hy : DOk L s y vy) (a c : Operand) :
    Pure P s (binD E op t x y) (do eqGuard op t a c vx vy; binOp op t vx vy) := by
  intro cf kk o ts' hr
  have fin : ∀ {X : C D}, (eqGuard op t a c vx vy).run P s.w = .ok () s.w → Pure P s X (binOp op t vx vy) → Runs cf (X kk) s.ts o ts' →
      ∃ d v, (do eqGuard op t a c vx vy; binOp op t vx vy : Sem Value).run P s.w = .ok v s.w ∧ DOk False s d v ∧ Runs cf (kk d) s.ts o ts' := fun hg hp hr => by
    obtain ⟨d, v, h1, h2, h3⟩ := hp cf kk o ts' hr
    exact ⟨d, v, by simp only [Sem.run_bind, hg, Result.andThen_ok, h1], h2, h3⟩
  unfold binD at hr
  split at hr
  · have h1 := lit_inv hx; have h2 := lit_inv hy; subst h1; subst h2
    exact fin (run_guard_int _ _ _ _ _ _ _ _ _) (shBin_ok _ _ _ _ _ _ (.inl rfl)) hr
  · have h1 := lit_inv hx; have h2 := lit_inv hy; subst h1; subst h2
    exact fin (run_guard_int _ _ _ _ _ _ _ _ _) (shBin_ok _ _ _ _ _ _ (.inr rfl)) hr
  · rename_i k u k' u' n1 n2
    have h1 := lit_inv hx; have h2 := lit_inv hy; subst h1; subst h2
    cases hk : decide (k = k') with
    | false => rw [hk] at hr; exact (Runs.fail hr).elim
    | true =>
      rw [hk] at hr
      have : k = k' := by simpa using hk
      subst this
      exact fin (run_guard_int _ _ _ _ _ _ _ _ _) (intBin_ok op k u u' n1 n2 t) hr
  · have h1 := lit_inv hx; have h2 := lit_inv hy; subst h1; subst h2
    exact fin (run_guard_string _ _ _ _ _ _ _) (strBin_ok _ _ _ _) hr
  · obtain ⟨b, h1, h2, h3, h4, hr1⟩ := eqD_ok hE hx hy hr
    refine ⟨_, .bool b, ?_, lit_ok _ _ rfl, hr1⟩
    rw [h3]
    simp only [Sem.run_bind, h1 _ (.inl rfl), Result.andThen_ok, Op.equal, Op.maxDepth, h2, Sem.run_pure]
  · obtain ⟨b, h1, h2, h3, h4, hr1⟩ := eqD_ok hE hx hy hr
    refine ⟨_, .bool !b, ?_, lit_ok _ _ rfl, hr1⟩
    rw [h4]
    simp only [Sem.run_bind, h1 _ (.inr rfl), Result.andThen_ok, Op.equal, Op.maxDepth, h2, Sem.run_pure]
  · exact (Runs.fail hr).elim
end
end Go.Proofs.Ytnjanliihnadjaa.Tm

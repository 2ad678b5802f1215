/- The tree machine: regions, in whatever order. Conditions: none. -/
import Derived.Test.YtnjanliihnadjaaK21
import Derived.Orders
namespace Go.Proofs.Ytnjanliihnadjaa.Tm
open Go

section
variable {P : Program} {G : Ctx} {s : St} {cf : FuncId → List AD → Option Res} {ts ts' : TS} {o : Out} {E : Env}

/-- The relation hangs on what the keys hold, not on how they are kept. -/
theorem OkH.ext {hm hc : Option Nat} (h : OkH P G hm hc s) {ts1 : TS} (he : ∀ k, ts1.get k = s.ts.get k) : OkH P G hm hc { s with ts := ts1 } := by
  refine Goes.ok (s := s) ?_ h
  exact {
    keep := ⟨fun _ => False, Keep.refl _ _, fun _ h => h.elim⟩
    nt := rfl
    df := rfl
    lt := fun b hb => .inl hb
    ex := fun b h1 => .inl h1
    S := fun _ h => h
    w := fun _ _ => rfl
    ver := fun k => by rw [show ({ s with ts := ts1 } : St).ts.get k = _ from he k]; exact ⟨Nat.le_refl _, fun _ => ⟨rfl, id⟩⟩
    cell := fun j hj => .inr ⟨hj, he j, rfl, fun _ _ _ _ _ => ⟨rfl, rfl⟩⟩
    main := fun i hi => .inr ⟨hi, he _, rfl, fun _ _ => rfl, fun _ _ _ _ _ => ⟨rfl, rfl⟩⟩
    pok := fun i x hx => .inr ⟨hx, fun _ _ _ => ⟨rfl, rfl⟩⟩
    prot := fun i _ hb => by rw [show ({ s with ts := ts1 } : St).ts.get (key i 0) = _ from he _] at hb; exact ⟨hb, rfl⟩ }

theorem OkH.drew {hm hc : Option Nat} (h : OkH P G hm hc s) (n : Nat) : OkH P G hm hc { s with w := { s.w with drawn := n } } := by
  refine Goes.ok (s := s) ?_ h
  exact {
    keep := ⟨fun _ => False, ⟨rfl, rfl, rfl, Nat.le_refl _, fun _ _ _ => rfl⟩, fun _ h => h.elim⟩
    nt := rfl
    df := rfl
    lt := fun b hb => .inl hb
    ex := fun b h1 => .inl h1
    S := fun _ h => h
    w := fun _ _ => rfl
    ver := fun k => ⟨Nat.le_refl _, fun _ => ⟨rfl, id⟩⟩
    cell := fun j hj => .inr ⟨hj, rfl, rfl, fun _ _ _ _ _ => ⟨rfl, rfl⟩⟩
    main := fun i hi => .inr ⟨hi, rfl, rfl, fun _ _ => rfl, fun _ _ _ _ _ => ⟨rfl, rfl⟩⟩
    pok := fun i x hx => .inr ⟨hx, fun _ _ _ => ⟨rfl, rfl⟩⟩
    prot := fun i _ hb => ⟨hb, rfl⟩ }

noncomputable def run1 (E : Env) (h : Hint) (cf : FuncId → List AD → Option Res) (ops : Array Oper) (o : Oper) (ts : TS) : Option (Out × TS × Nat × Nat) :=
  (bif dstOk h o.dst then guardOp E h ops o fun _ => .ret .unit else .fail).run cf ts 0 0

/-- One operation of a region, done by model and machine. -/
theorem run1_ok {hh : Hint} {ops : Array Oper} {i : Nat} {op : Oper} (hi : ops[i]? = some op) (h : Ok P G s) (hE : EnvOk P E) (hm : Meets P cf) (hn : hh.nt ≤ G.nt) (hp : hh.prot = G.prot) {ou : Out} {ts1 : TS} {R W : Nat}
    (hr : run1 E hh cf ops op s.ts = some (ou, ts1, R, W)) {K : Act → World → Prop} {Q : Exit → Act → World → Prop} (hK : ∀ s', Ok P G s' → s'.ts = ts1 → K s'.a s'.w) : wpOp P ops Q i K s.a s.w := by
  unfold run1 at hr
  cases hb : dstOk hh op.dst with
  | false => rw [hb] at hr; cases hr
  | true =>
    rw [hb] at hr
    have hd : ∀ d, op.dst = some d → d < s.a.tmps.size ∧ hasBit G.prot d = false := fun d hd => by
      rw [hd] at hb
      simp only [dstOk, Bool.and_eq_true, Bool.not_eq_true'] at hb
      have h1 : d < hh.nt := Nat.le_of_ble_eq_true hb.1
      exact ⟨Nat.lt_of_lt_of_le h1 (Nat.le_trans hn h.nt), by rw [← hp]; exact hb.2⟩
    have hrun : Runs cf (guardOp E hh ops op fun _ => .ret .unit) s.ts ou ts1 := ⟨_, _, _, _, hr⟩
    have hg := guardOp_ok (Q := Q) h hE hm hd hrun
    have fin : ∀ a w, After P G cf (fun _ => .ret .unit) ou ts1 a w → K a w := by
      rintro a w ⟨s', rfl, rfl, h1, h2⟩
      exact hK s' h1 (Runs.ret h2).2.symm
    simp only [wpOp, hi]
    split
    · rename_i hw; rw [if_pos hw] at hg; exact .inl (Oper.wp_mono fin hg)
    · rename_i hw; rw [if_neg hw] at hg; exact fin _ _ hg

/-! ### The run in the order of the text -/
theorem runOps_cons (hh : Hint) (ops : Array Oper) (op : Oper) (l : List Oper) (ts : TS) : runOps E hh cf ops (op :: l) ts = match run1 E hh cf ops op ts with
      | some (_, ts', R, W) => match runOps E hh cf ops l ts' with
        | some (ts2, fs) => some (ts2, ⟨R, W⟩ :: fs)
        | none => none
      | none => none := rfl

/-- The states on the way, and the footprints. -/
theorem runOps_trace {hh : Hint} {ops : Array Oper} : ∀ {l : List Oper} {ts ts' : TS} {fs : List Foot}, runOps E hh cf ops l ts = some (ts', fs) →
    fs.length = l.length ∧ ∃ c : Nat → TS, c 0 = ts ∧ c l.length = ts' ∧ ∀ i op, l[i]? = some op → ∃ f, fs[i]? = some f ∧ ∃ ou, run1 E hh cf ops op (c i) = some (ou, c (i + 1), f.R, f.W)
  | [], ts, ts', fs, h => by
    have h' : some (ts, ([] : List Foot)) = some (ts', fs) := h
    cases h'
    exact ⟨rfl, fun _ => ts, rfl, rfl, fun i op hi => by simp at hi⟩
  | op :: l, ts, ts', fs, h => by
    rw [runOps_cons] at h
    cases h1 : run1 E hh cf ops op ts with
    | none => rw [h1] at h; cases h
    | some x =>
      obtain ⟨ou, ts1, R, W⟩ := x
      rw [h1] at h
      dsimp only at h
      cases h2 : runOps E hh cf ops l ts1 with
      | none => rw [h2] at h; cases h
      | some y =>
        obtain ⟨ts2, fs2⟩ := y
        rw [h2] at h
        cases h
        obtain ⟨g1, c, g2, g3, g4⟩ := runOps_trace h2
        refine ⟨by simp [g1], fun i => match i with | 0 => ts | i + 1 => c i, rfl, g3, fun i op' hi => ?_⟩
        match i, hi with
        | 0, hi =>
          simp at hi; subst hi
          exact ⟨⟨R, W⟩, rfl, ou, by show run1 E hh cf ops op ts = some (ou, c 0, R, W); rw [g2]; exact h1⟩
        | i + 1, hi => exact g4 i op' (by simpa using hi)

/-- In the order of the text. -/
theorem seq_ok {hh : Hint} {ops : Array Oper} (hE : EnvOk P E) (hm : Meets P cf) (hn : hh.nt ≤ G.nt) (hp : hh.prot = G.prot) {Q : Exit → Act → World → Prop} : ∀ {l pre : List Oper} {s : St} {ts' : TS} {fs : List Foot}, ops.toList = pre ++ l → Ok P G s →
    runOps E hh cf ops l s.ts = some (ts', fs) → (∀ s', Ok P G s' → s'.ts = ts' → Q .normal s'.a s'.w) → wpOps P ops Q ((List.range l.length).map (· + pre.length)) s.a s.w
  | [], pre, s, ts', fs, _, h, hr, hQ => by
    have h' : some (s.ts, ([] : List Foot)) = some (ts', fs) := hr
    cases h'
    exact hQ s h rfl
  | op :: l, pre, s, ts', fs, hl, h, hr, hQ => by
    rw [runOps_cons] at hr
    cases h1 : run1 E hh cf ops op s.ts with
    | none => rw [h1] at hr; cases hr
    | some x =>
      obtain ⟨ou, ts1, R, W⟩ := x
      rw [h1] at hr
      dsimp only at hr
      cases h2 : runOps E hh cf ops l ts1 with
      | none => rw [h2] at hr; cases hr
      | some y =>
        obtain ⟨ts2, fs2⟩ := y
        rw [h2] at hr
        cases hr
        have hi : ops[pre.length]? = some op := by
          rw [← Array.getElem?_toList, hl]; simp
        have hlist : (List.range (op :: l).length).map (· + pre.length) = pre.length :: (List.range l.length).map (· + (pre ++ [op]).length) := by
          rw [List.length_cons, List.range_succ_eq_map, List.map_cons, List.map_map]
          congr 1
          · omega
          · apply List.map_congr_left; intro a _; simp; omega
        rw [hlist, wpOps_cons]
        refine run1_ok hi h hE hm hn hp h1 fun s' ok' he => ?_
        exact seq_ok hE hm hn hp (pre := pre ++ [op]) (by rw [hl]; simp) ok' (by rw [he]; exact h2) hQ

/-! ### In any order -/
theorem footApart_iff (a b : Foot) : footApart a b = true ↔ (∀ k, hasBit a.W k = true → hasBit b.R k = false ∧ hasBit b.W k = false) ∧ (∀ k, hasBit a.R k = true → hasBit b.W k = false) := by
  have e : ∀ m j : Nat, hasBit m j = m.testBit j := by
    intro m j
    show Nat.beq (Nat.land (Nat.shiftRight m j) 1) 1 = _
    have : Nat.land (Nat.shiftRight m j) 1 = (m >>> j) &&& 1 := rfl
    rw [this, Nat.testBit, Nat.and_comm, Bool.eq_iff_iff, beq_iff]
    have h2 := Nat.and_one_is_mod (m >>> j)
    rw [Nat.and_comm, h2, bne_iff_ne]
    have := Nat.mod_lt (m >>> j) (show 0 < 2 by omega)
    omega
  have z : ∀ x y : Nat, Nat.beq (Nat.land x y) 0 = true ↔ ∀ k, hasBit x k = true → hasBit y k = false := by
    intro x y
    rw [beq_iff]
    constructor
    · intro h k hk
      rw [e] at hk ⊢
      have : (x &&& y).testBit k = false := by rw [show x &&& y = Nat.land x y from rfl, h]; exact Nat.zero_testBit k
      rw [Nat.testBit_and, hk] at this
      simpa using this
    · intro h
      apply Nat.eq_of_testBit_eq
      intro k
      rw [Nat.zero_testBit, show Nat.land x y = x &&& y from rfl, Nat.testBit_and]
      cases hx : x.testBit k with
      | false => simp
      | true => have := h k (by rw [e]; exact hx); rw [e] at this; simp [this]
  have o : ∀ x y k : Nat, hasBit (Nat.lor x y) k = (hasBit x k || hasBit y k) := fun x y k => by rw [e, e, e, show Nat.lor x y = x ||| y from rfl, Nat.testBit_or]
  simp only [footApart, Bool.and_eq_true, z, o, Bool.or_eq_false_iff]

theorem indepOne_ok {i : Nat} {f : Foot} : ∀ {gs : List Foot} {ms : List Nat}, indepOne i f gs ms = true → ∀ (q : Nat) g, gs[q]? = some g → ∃ m, ms[q]? = some m ∧ (footApart f g = true ∨ hasBit m i = true)
  | [], _, _, q, g, h => by simp at h
  | _ :: _, [], h, _, _, _ => by cases h
  | g :: gs, m :: ms, h, q, g', hq => by
    simp only [indepOne, Bool.and_eq_true, Bool.or_eq_true] at h
    match q, hq with
    | 0, hq => simp at hq; subst hq; exact ⟨m, rfl, h.1⟩
    | q + 1, hq => obtain ⟨m', a, b⟩ := indepOne_ok h.2 q g' (by simpa using hq); exact ⟨m', by simpa using a, b⟩

theorem indepL_ok : ∀ {fs : List Foot} {ms : List Nat} {b : Nat}, indepL b fs ms = true → ∀ (i j : Nat) f g, i < j → fs[i]? = some f → fs[j]? = some g → ∃ m, ms[j]? = some m ∧ (footApart f g = true ∨ hasBit m (b + i) = true)
  | [], _, _, _, i, j, f, g, _, h, _ => by simp at h
  | _ :: _, [], _, h, _, _, _, _, _, _, _ => by cases h
  | f0 :: fs, m0 :: ms, b, h, i, j, f, g, hij, hf, hg => by
    simp only [indepL, Bool.and_eq_true] at h
    match j, hij, hg with
    | j + 1, hij, hg =>
      have hg' : fs[j]? = some g := by simpa using hg
      match i, hij, hf with
      | 0, _, hf =>
        simp at hf; subst hf
        obtain ⟨m, a, c⟩ := indepOne_ok h.1 j g hg'
        exact ⟨m, by simpa using a, c⟩
      | i + 1, hij, hf =>
        obtain ⟨m, a, c⟩ := indepL_ok h.2 i j f g (by omega) (by simpa using hf) hg'
        exact ⟨m, by simpa using a, by rwa [show Nat.succ b + i = b + (i + 1) by omega] at c⟩

end
end Go.Proofs.Ytnjanliihnadjaa.Tm

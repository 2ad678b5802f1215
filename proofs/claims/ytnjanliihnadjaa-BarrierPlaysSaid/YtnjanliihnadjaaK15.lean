/- The tree machine: what is handed to a function and what comes back; arguments. Conditions: none. -/
import Derived.Test.YtnjanliihnadjaaK14
namespace Go.Proofs.Ytnjanliihnadjaa.Tm
open Go

/-- A cell that is handed over stands for u; o: whose its row is. -/
def RCOk (P : Program) (w : World) (ow : Nat → Ow) (o : Ow) : RC → Value → Prop
  | .im t, u => RT w (fun b => ow b = .st) t u
  | .own e t, u => OwnOk P w (fun b => ow b = .st) e t u ∧ ∀ b, u.ownBlock = some b → ow b = o
  | .nil, u => u = .slice none 0 0

def ArgOk (P : Program) (w : World) (ow : Nat → Ow) (i : Nat) : AD → Value → Prop
  | .one t, v => RT w (fun b => ow b = .st) t v
  | .agg ts, v => ∃ us, v = .agg us.toArray ∧ RTs w (fun b => ow b = .st) ts us
  | .box e cs, v => ∃ (b : Nat) (us : List Value), v = .pointer (some ⟨b, 0, none⟩) ∧ us.length = cs.length ∧ w.heap[b]? = some (.cells us.toArray e (0, 0)) ∧ ow b = .key (key i 0) ∧
      ∀ (j : Nat) c u, cs[j]? = some c → us[j]? = some u → RCOk P w ow (.key (key i (1 + j))) c u

/-- How a function is entered. -/
structure Entry (P : Program) (as : List AD) (vs : List Value) (w : World) (ow : Nat → Ow) : Prop where
  len : vs.length = as.length
  lt : ∀ b, ow b ≠ .no → b < w.heap.size
  pd : ∀ b i, ow b ≠ .pd i
  arg : ∀ (i : Nat) a v, as[i]? = some a → vs[i]? = some v → ArgOk P w ow i a v

def rvCells : RV → List RC
  | .one c => [c]
  | .agg cs => cs
def shR : RV → Nat
  | .one _ => 0
  | .agg cs => cs.length + 1
def cellsR (r : List RV) : List RC := r.flatMap rvCells
def valR : List RV → List Value → Value
  | [.one _], us => us.headD undef
  | [.agg _], us => .agg us.toArray
  | vs, us => .tuple (tupOf (vs.map shR) us).toArray

/-- The boxes behind the call. -/
def BoxesOk (P : Program) (w : World) (ow : Nat → Ow) : Nat → List AD → List Value → List (List RC) → Prop
  | i, .box e cs :: as, v :: vs, rs :: bs => (∃ (b : Nat) (us : List Value), v = .pointer (some ⟨b, 0, none⟩) ∧ rs.length = cs.length ∧ us.length = rs.length ∧ w.heap[b]? = some (.cells us.toArray e (0, 0)) ∧ ow b = .key (key i 0) ∧
      ∀ (j : Nat) c u, rs[j]? = some c → us[j]? = some u → RCOk P w ow (.key (key i (1 + j))) c u) ∧ BoxesOk P w ow (i + 1) as vs bs
  | _, .box _ _ :: _, _, _ => False
  | i, .one _ :: as, _ :: vs, bs => BoxesOk P w ow (i + 1) as vs bs
  | i, .agg _ :: as, _ :: vs, bs => BoxesOk P w ow (i + 1) as vs bs
  | _, [], [], [] => True
  | _, _, _, _ => False

/-- How a function is left. -/
structure Leave (P : Program) (as : List AD) (vs : List Value) (w : World) (ow : Nat → Ow) (r : Res) (v : Value) (w' : World) (ow' : Nat → Ow) : Prop where
  keep : Keep (fun b => ∃ k, ow b = .key k) w w'
  lt : ∀ b, ow' b ≠ .no → b < w'.heap.size
  st : ∀ b, ow b = .st → ow' b = .st
  ex : ∀ b, ow' b ≠ .no → ow b = .st ∨ w.heap.size ≤ b ∨ ∃ k, ow b = .key k
  vals : ∃ us, us.length = (cellsR r.vals).length ∧ v = valR r.vals us ∧ ∀ (j : Nat) c u, (cellsR r.vals)[j]? = some c → us[j]? = some u → RCOk P w' ow' (.pd j) c u
  boxes : BoxesOk P w' ow' 0 as vs r.boxes

/-- Whatever the machine answers of a call is so. -/
def Meets (P : Program) (cf : FuncId → List AD → Option Res) : Prop :=
  ∀ g as r, cf g as = some r → (∃ fn, P.funcs[g]? = some fn ∧ fn.body.isSome = true ∧ fn.name ≠ "runtime.NumGoroutine") ∧
    ∀ vs w ow, Entry P as vs w ow → Calls P g vs.toArray w fun e w' => ∃ v ow', e = .returned v ∧ Leave P as vs w ow r v w' ow'

/-! ### The caller's side: arguments -/
def DsOk (L : Prop) (s : St) (ds : List D) (vs : List Value) : Prop := vs.length = ds.length ∧ ∀ (j : Nat) d v, ds[j]? = some d → vs[j]? = some v → DOk L s d v

theorem DsOk.cons_inv {L : Prop} {s : St} {d : D} {ds : List D} {vs : List Value} (h : DsOk L s (d :: ds) vs) : ∃ v vr, vs = v :: vr ∧ DOk L s d v ∧ DsOk L s ds vr := by
  match vs, h with
  | [], h => exact absurd h.1 (by simp)
  | v :: vr, h => exact ⟨v, vr, rfl, h.2 0 d v rfl rfl, by simpa using h.1, fun j d' v' hd hv => h.2 (j + 1) d' v' (by simpa using hd) (by simpa using hv)⟩

section
variable {P : Program} {G : Ctx} {s : St} {cf : FuncId → List AD → Option Res} {ts ts' : TS} {o : Out} {E : Env}

theorem opdl_ok (h : Ok P G s) : ∀ {xs : List Operand} {kk : List D → Prog}, Runs cf (opdl xs kk) s.ts o ts' → ∃ ds, DsOk True s ds (xs.map s.a.eval) ∧ Runs cf (kk ds) s.ts o ts'
  | [], kk, hr => ⟨[], ⟨rfl, fun j d v h => by simp at h⟩, hr⟩
  | x :: r, kk, hr => by
    obtain ⟨d, hd, hr1⟩ := opd_ok h hr
    obtain ⟨ds, hds, hr2⟩ := opdl_ok h hr1
    refine ⟨d :: ds, ⟨by simpa using hds.1, fun j d' v hd' hv => ?_⟩, hr2⟩
    match j, hd', hv with
    | 0, hd', hv => simp at hd' hv; subst hd'; subst hv; exact hd
    | j + 1, hd', hv => exact hds.2 j d' v (by simpa using hd') (by simpa using hv)

def BoxCell (e : Ent) : RC → Prop
  | .im t => e.k = .im ∧ e.t = t
  | .own ty t => e.k = .own ty ∧ e.t = t
  | .nil => False

theorem boxCells_ok {j : Nat} : ∀ {n x : Nat} {kk : List RC → Prog}, Runs cf (boxCells j x n kk) ts o ts' → ∃ cs, cs.length = n ∧ (∀ (q : Nat) c, cs[q]? = some c → BoxCell (ts.get (key j (x + q))) c) ∧ Runs cf (kk cs) ts o ts'
  | 0, x, kk, hr => ⟨[], rfl, fun q c h => by simp at h, hr⟩
  | n + 1, x, kk, hr => by
    have hr1 := Runs.get hr
    have fin : ∀ c, BoxCell (ts.get (key j x)) c → Runs cf (boxCells j (Nat.succ x) n fun r => kk (c :: r)) ts o ts' → ∃ cs, cs.length = n + 1 ∧ (∀ (q : Nat) c, cs[q]? = some c → BoxCell (ts.get (key j (x + q))) c) ∧ Runs cf (kk cs) ts o ts' := by
      intro c hc hr2
      obtain ⟨cs, h1, h2, h3⟩ := boxCells_ok hr2
      refine ⟨c :: cs, by simp [h1], fun q c' hq => ?_, h3⟩
      match q, hq with
      | 0, hq => simp at hq; subst hq; exact hc
      | q + 1, hq => have := h2 q c' (by simpa using hq); rwa [show Nat.succ x + q = x + (q + 1) by omega] at this
    unfold boxCell at hr1
    cases hk : (ts.get (key j x)).k <;> simp only [hk] at hr1 <;> try exact (Runs.fail hr1).elim
    case im => exact fin (.im _) ⟨hk, rfl⟩ hr1
    case own e => exact fin (.own e _) ⟨hk, rfl⟩ hr1

/-- What is handed over, seen from the caller. -/
inductive ARel (s : St) : List Value → List AD → List CV → List (Nat × Nat) → Prop
  | nil : ARel s [] [] [] []
  | one {c : CV} {v : Value} {vs : List Value} {as : List AD} {lent : List CV} {bs : List (Nat × Nat)} (h : CVOk True s 0 c v) (r : ARel s vs as lent bs) : ARel s (v :: vs) (.one (peek c) :: as) (c :: lent) bs
  | agg {cs : List CV} {us : List Value} {vs : List Value} {as : List AD} {lent : List CV} {bs : List (Nat × Nat)} (h : CVsOk True s 0 cs us) (r : ARel s vs as lent bs) :
      ARel s (.agg us.toArray :: vs) (.agg (cs.map peek) :: as) (cs ++ lent) bs
  | box {j n e b : Nat} {cs : List RC} {vs : List Value} {as : List AD} {lent : List CV} {bs : List (Nat × Nat)} (hk : (s.ts.get (key j 0)).k = .box e n) (hn : n ≤ 62)
      (hp : s.cv (key j 0) = .pointer (some ⟨b, 0, none⟩)) (ht : s.a.tmps.getD j undef = .pointer (some ⟨b, 0, none⟩))
      (hb : s.w.heap[b]? = some (.cells (cvals s.cv j 1 n).toArray e (0, 0))) (ho : s.ow b = .key (key j 0)) (hl : cs.length = n) (hc : ∀ (q : Nat) c, cs[q]? = some c → BoxCell (s.ts.get (key j (1 + q))) c)
      (r : ARel s vs as lent bs) : ARel s (.pointer (some ⟨b, 0, none⟩) :: vs) (.box e cs :: as) lent ((j, n) :: bs)

theorem argsD_ok (h : Ok P G s) : ∀ {ds : List D} {vs : List Value} {kk : Args → Prog}, DsOk True s ds vs → Runs cf (argsD ds kk) s.ts o ts' → ∃ a : Args, ARel s vs a.as a.lent a.bs ∧ Runs cf (kk a) s.ts o ts'
  | [], vs, kk, hd, hr => by
    have : vs = [] := List.eq_nil_of_length_eq_zero hd.1
    subst this
    exact ⟨⟨[], [], []⟩, .nil, hr⟩
  | d :: ds, vs, kk, hd, hr => by
    obtain ⟨v, vr, rfl, hd1, hd2⟩ := hd.cons_inv
    obtain ⟨a, ha, hr1⟩ := argsD_ok h hd2 hr
    unfold argD at hr1
    cases d with
    | one c => exact ⟨_, .one hd1 ha, hr1⟩
    | agg cs =>
      obtain ⟨us, rfl, hcs⟩ := hd1
      exact ⟨_, .agg hcs ha, hr1⟩
    | ad j n off =>
      cases off with
      | succ _ => exact (Runs.fail hr1).elim
      | zero =>
        have hr2 := Runs.get hr1
        obtain ⟨h1, h2, h3⟩ := hd1
        obtain ⟨h4, h5⟩ := h2 trivial
        obtain ⟨b, h6, h7⟩ := h3 h4 h5
        have hm := h.main j (by intro h; cases h)
        cases hk : (s.ts.get (key j 0)).k <;> simp only [hk] at hr2 <;> try exact (Runs.fail hr2).elim
        rename_i e m
        simp only [MainOk, hk] at hm
        obtain ⟨hm1, b', hb1, hb2, hb3, hb4⟩ := hm
        have : b' = b := by rw [hb1] at h6; cases h6; rfl
        subst this
        obtain ⟨cs, g1, g2, g3⟩ := boxCells_ok hr2
        subst h7
        exact ⟨_, .box hk hm1 hb1 hb2 hb3 hb4 g1 g2 ha, g3⟩
    | _ => exact (Runs.fail hr1).elim

theorem ARel.len {vs : List Value} {as : List AD} {lent : List CV} {bs : List (Nat × Nat)} (h : ARel s vs as lent bs) : vs.length = as.length := by
  induction h <;> simp_all

/-! ### Which argument a box is -/
def bm : List AD → List (Nat × Nat) → Nat → List (Nat × Nat × Nat)
  | .box _ _ :: as, (j, n) :: bs, i => (i, j, n) :: bm as bs (i + 1)
  | .box _ _ :: _, [], _ => []
  | .one _ :: as, bs, i => bm as bs (i + 1)
  | .agg _ :: as, bs, i => bm as bs (i + 1)
  | [], _, _ => []

def keyIn (L : List (Nat × Nat × Nat)) (k : Nat) : Option Nat := (L.find? fun x => decide (k / 64 = x.2.1 ∧ k % 64 ≤ x.2.2)).map fun x => key x.1 (k % 64)
def keyOut (L : List (Nat × Nat × Nat)) (k : Nat) : Nat := match L.find? fun x => decide (k / 64 = x.1) with
  | some x => key x.2.1 (k % 64)
  | none => k

/-- Boxes of different slots, at different places. -/
structure LOk (L : List (Nat × Nat × Nat)) : Prop where
  js : ∀ x ∈ L, ∀ y ∈ L, x.2.1 = y.2.1 → x = y
  is : ∀ x ∈ L, ∀ y ∈ L, x.1 = y.1 → x = y

theorem key_mod {s o : Nat} (h : o < 64) : key s o % 64 = o := by rw [key_eq]; omega

theorem keyIn_mem {L : List (Nat × Nat × Nat)} (hL : LOk L) {i j n x : Nat} (h : (i, j, n) ∈ L) (hx : x ≤ n) (hn : n ≤ 62) : keyIn L (key j x) = some (key i x) := by
  unfold keyIn
  have hd : key j x / 64 = j := key_div (by omega)
  have hm : key j x % 64 = x := key_mod (by omega)
  cases hf : L.find? (fun y => decide (key j x / 64 = y.2.1 ∧ key j x % 64 ≤ y.2.2)) with
  | none => exact absurd (List.find?_eq_none.1 hf _ h) (by simp [hd, hm, hx])
  | some y =>
    have h1 := List.find?_some hf
    have h2 := List.mem_of_find?_eq_some hf
    simp only [decide_eq_true_eq, hd] at h1
    have := hL.js _ h2 _ h h1.1.symm
    subst this
    simp [hm]

theorem keyIn_some {L : List (Nat × Nat × Nat)} {k k' : Nat} (h : keyIn L k = some k') : ∃ i j n x, (i, j, n) ∈ L ∧ k = key j x ∧ x ≤ n ∧ k' = key i x := by
  unfold keyIn at h
  cases hf : L.find? (fun y => decide (k / 64 = y.2.1 ∧ k % 64 ≤ y.2.2)) with
  | none => rw [hf] at h; cases h
  | some y =>
    rw [hf] at h
    have h1 := List.find?_some hf
    have h2 := List.mem_of_find?_eq_some hf
    simp only [decide_eq_true_eq] at h1
    obtain ⟨i, j, n⟩ := y
    refine ⟨i, j, n, k % 64, h2, ?_, h1.2, by simpa using h.symm⟩
    rw [key_eq]; have := h1.1; dsimp only at this; omega

theorem keyOut_mem {L : List (Nat × Nat × Nat)} (hL : LOk L) {i j n x : Nat} (h : (i, j, n) ∈ L) (hx : x < 64) : keyOut L (key i x) = key j x := by
  unfold keyOut
  have hd : key i x / 64 = i := key_div hx
  have hm : key i x % 64 = x := key_mod hx
  cases hf : L.find? (fun y => decide (key i x / 64 = y.1)) with
  | none => exact absurd (List.find?_eq_none.1 hf _ h) (by simp [hd])
  | some y =>
    have h1 := List.find?_some hf
    have h2 := List.mem_of_find?_eq_some hf
    simp only [decide_eq_true_eq, hd] at h1
    have := hL.is _ h2 _ h h1.symm
    subst this
    simp [hm]

theorem bm_mem {vs : List Value} {as : List AD} {lent : List CV} {bs : List (Nat × Nat)} (h : ARel s vs as lent bs) : ∀ (i0 : Nat) (x : Nat × Nat × Nat), x ∈ bm as bs i0 → i0 ≤ x.1 ∧ x.2 ∈ bs := by
  induction h with
  | nil => intro i0 x hx; simp [bm] at hx
  | one _ _ ih => intro i0 x hx; have := ih (i0 + 1) x hx; exact ⟨by omega, this.2⟩
  | agg _ _ ih => intro i0 x hx; have := ih (i0 + 1) x hx; exact ⟨by omega, this.2⟩
  | box _ _ _ _ _ _ _ _ _ ih =>
    intro i0 x hx
    simp only [bm, List.mem_cons] at hx
    rcases hx with rfl | hx
    · exact ⟨Nat.le_refl _, by simp⟩
    · have := ih (i0 + 1) x hx; exact ⟨by omega, List.mem_cons_of_mem _ this.2⟩

theorem bm_ok {vs : List Value} {as : List AD} {lent : List CV} {bs : List (Nat × Nat)} (h : ARel s vs as lent bs) : distinctSlots bs = true → ∀ i0 : Nat, LOk (bm as bs i0) := by
  induction h with
  | nil => exact fun _ _ => ⟨fun x hx => by simp [bm] at hx, fun x hx => by simp [bm] at hx⟩
  | one _ _ ih => exact fun hd i0 => ih hd (i0 + 1)
  | agg _ _ ih => exact fun hd i0 => ih hd (i0 + 1)
  | @box j n e b cs vs as lent bs _ _ _ _ _ _ _ _ hr ih =>
    intro hd i0
    simp only [distinctSlots, Bool.and_eq_true, List.all_eq_true] at hd
    have h1 := ih hd.2 (i0 + 1)
    have hne : ∀ y ∈ bm as bs (i0 + 1), y.2.1 ≠ j ∧ y.1 ≠ i0 := fun y hy => by
      have h2 := bm_mem hr (i0 + 1) y hy
      have h3 := hd.1 y.2 h2.2
      refine ⟨fun e => ?_, by omega⟩
      have : Nat.beq j y.2.1 = true := (beq_iff _ _).2 e.symm
      simp [this] at h3
    refine ⟨fun x hx y hy e => ?_, fun x hx y hy e => ?_⟩ <;> simp only [bm, List.mem_cons] at hx hy <;> rcases hx with rfl | hx <;> rcases hy with rfl | hy
    · rfl
    · exact absurd e.symm (hne y hy).1
    · exact absurd e (hne x hx).1
    · exact h1.js x hx y hy e
    · rfl
    · exact absurd e.symm (hne y hy).2
    · exact absurd e (hne x hx).2
    · exact h1.is x hx y hy e

end
end Go.Proofs.Ytnjanliihnadjaa.Tm

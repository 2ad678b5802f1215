/- The tree machine, second half: calls, code, functions; runs over symbols; the rows' arguments. Conditions: none. -/
import Derived.Test.YtbaihlhoedbpkaaKa
import Derived.MapKept
import Derived.WideKeyRuns
import Derived.Orders
import Derived.Scope
import Derived.Below
import Derived.ChangeArms
import Derived.SizedLaws
import Derived.ProofKit
set_option linter.unusedVariables false
set_option linter.unusedSimpArgs false
namespace Go.Proofs.Ytbaihlhoedbpkaa.Tm
open Go
def RCOk (P : Program) (w : World) (ow : Nat → Ow) (o : Ow) : RC → Value → Prop
 | .im t, u => RT w (fun b => ow b = .st) t u
 | .own e t, u => OwnOk P w (fun b => ow b = .st) e t u ∧ ∀ b, u.ownBlock = some b → ow b = o
 | .nil, u => u = .slice none 0 0
def ArgOk (P : Program) (w : World) (ow : Nat → Ow) (i : Nat) : AD → Value → Prop
 | .one t, v => RT w (fun b => ow b = .st) t v
 | .agg ts, v => ∃ us, v = .agg us.toArray ∧ RTs w (fun b => ow b = .st) ts us
 | .box e cs, v => ∃ (b : Nat) (us : List Value), v = .pointer (some ⟨b, 0, none⟩) ∧ us.length = cs.length ∧ w.heap[b]? = some (.cells us.toArray e (0, 0)) ∧ ow b = .key (key i 0) ∧
     ∀ (j : Nat) c u, cs[j]? = some c → us[j]? = some u → RCOk P w ow (.key (key i (1 + j))) c u
structure Entry (P : Program) (as : List AD) (vs : List Value) (w : World) (ow : Nat → Ow) : Prop where
 len : vs.length = as.length
 lt : ∀ b, ow b ≠ .no → b < w.heap.size
 pd : ∀ b i, ow b ≠ .pd i
 arg : ∀ (i : Nat) a v, as[i]? = some a → vs[i]? = some v → ArgOk P w ow i a v
def rvCells : RV → List RC
 | .one c => [c]
 | .agg cs => cs
def shR : RV → Nat
 | .one _ => 0
 | .agg cs => cs.length + 1
def cellsR (r : List RV) : List RC := r.flatMap rvCells
def valR : List RV → List Value → Value
 | [.one _], us => us.headD undef
 | [.agg _], us => .agg us.toArray
 | vs, us => .tuple (tupOf (vs.map shR) us).toArray
def BoxesOk (P : Program) (w : World) (ow : Nat → Ow) : Nat → List AD → List Value → List (List RC) → Prop
 | i, .box e cs :: as, v :: vs, rs :: bs => (∃ (b : Nat) (us : List Value), v = .pointer (some ⟨b, 0, none⟩) ∧ rs.length = cs.length ∧ us.length = rs.length ∧ w.heap[b]? = some (.cells us.toArray e (0, 0)) ∧ ow b = .key (key i 0) ∧
     ∀ (j : Nat) c u, rs[j]? = some c → us[j]? = some u → RCOk P w ow (.key (key i (1 + j))) c u) ∧ BoxesOk P w ow (i + 1) as vs bs
 | _, .box _ _ :: _, _, _ => False
 | i, .one _ :: as, _ :: vs, bs => BoxesOk P w ow (i + 1) as vs bs
 | i, .agg _ :: as, _ :: vs, bs => BoxesOk P w ow (i + 1) as vs bs
 | _, [], [], [] => True
 | _, _, _, _ => False
structure Leave (P : Program) (kq : Nat) (as : List AD) (vs : List Value) (w : World) (ow : Nat → Ow) (r : Res) (v : Value) (w' : World) (ow' : Nat → Ow) : Prop where
 keep : Keep (fun b => ∃ k, ow b = .key k) w w'
 lt : ∀ b, ow' b ≠ .no → b < w'.heap.size
 st : ∀ b, ow b = .st → ow' b = .st
 ex : ∀ b, ow' b ≠ .no → ow b = .st ∨ w.heap.size ≤ b ∨ ∃ k, ow b = .key k
 vals : ∃ us, us.length = (cellsR r.vals).length ∧ v = valR r.vals us ∧ ∀ (j : Nat) c u, (cellsR r.vals)[j]? = some c → us[j]? = some u → RCOk P w' ow' (.pd j) c u
 boxes : BoxesOk P w' ow' 0 as vs r.boxes
 fix : ∀ (i : Nat) (e : TypeId) (cs : List RC) (b : Nat) (us us' : Array Value), as[i]? = some (.box e cs) → vs[i]? = some (.pointer (some ⟨b, 0, none⟩)) → w.heap[b]? = some (.cells us e (0, 0)) →
   w'.heap[b]? = some (.cells us' e (0, 0)) → ∀ q, q < 62 → hasBit kq (1 + q) = true → us'.getD q undef = us.getD q undef
def Meets (P : Program) (E : Env) (cf : FuncId → List AD → Option Res) : Prop :=
 ∀ g as r, cf g as = some r → (∃ fn, P.funcs[g]? = some fn ∧ fn.body.isSome = true ∧ fn.name ≠ "runtime.NumGoroutine") ∧
   ∀ vs w ow, Entry P as vs w ow → Calls P g vs.toArray w fun e w' => ∃ v ow', e = .returned v ∧ Leave P (keptOf E g) as vs w ow r v w' ow'
def DsOk (L : Prop) (s : St) (ds : List D) (vs : List Value) : Prop := vs.length = ds.length ∧ ∀ (j : Nat) d v, ds[j]? = some d → vs[j]? = some v → DOk L s d v
theorem DsOk.cons_inv {L : Prop} {s : St} {d : D} {ds : List D} {vs : List Value} (h : DsOk L s (d :: ds) vs) : ∃ v vr, vs = v :: vr ∧ DOk L s d v ∧ DsOk L s ds vr := by
 match vs, h with
 | [], h => exact absurd h.1 (by simp)
 | v :: vr, h => exact ⟨v, vr, rfl, h.2 0 d v rfl rfl, by simpa using h.1, fun j d' v' hd hv => h.2 (j + 1) d' v' (by simpa using hd) (by simpa using hv)⟩
section
variable {P : Program} {G : Ctx} {s : St} {cf : FuncId → List AD → Option Res} {ts ts' : TS} {o : Out} {E : Env}
theorem opdl_ok (h : Ok P G s) : ∀ {xs : List Operand} {kk : List D → Prog}, Runs cf (opdl xs kk) s.ts o ts' → ∃ ds, DsOk True s ds (xs.map s.a.eval) ∧ Runs cf (kk ds) s.ts o ts'
 | [], kk, hr => ⟨[], ⟨rfl, fun j d v h => by simp at h⟩, hr⟩
 | x :: r, kk, hr => by
   obtain ⟨d, hd, hr1⟩ := opd_ok h hr
   obtain ⟨ds, hds, hr2⟩ := opdl_ok h hr1
   refine ⟨d :: ds, ⟨by simpa using hds.1, fun j d' v hd' hv => ?_⟩, hr2⟩
   match j, hd', hv with
   | 0, hd', hv => simp at hd' hv; subst hd'; subst hv; exact hd
   | j + 1, hd', hv => exact hds.2 j d' v (by simpa using hd') (by simpa using hv)
def BoxCell (e : Ent) : RC → Prop
 | .im t => e.k = .im ∧ e.t = t
 | .own ty t => e.k = .own ty ∧ e.t = t
 | .nil => False
theorem boxCells_ok {j : Nat} : ∀ {n x : Nat} {kk : List RC → Prog}, Runs cf (boxCells j x n kk) ts o ts' → ∃ cs, cs.length = n ∧ (∀ (q : Nat) c, cs[q]? = some c → BoxCell (ts.get (key j (x + q))) c) ∧ Runs cf (kk cs) ts o ts'
 | 0, x, kk, hr => ⟨[], rfl, fun q c h => by simp at h, hr⟩
 | n + 1, x, kk, hr => by
   have hr1 := Runs.get hr
   have fin : ∀ c, BoxCell (ts.get (key j x)) c → Runs cf (boxCells j (Nat.succ x) n fun r => kk (c :: r)) ts o ts' → ∃ cs, cs.length = n + 1 ∧ (∀ (q : Nat) c, cs[q]? = some c → BoxCell (ts.get (key j (x + q))) c) ∧ Runs cf (kk cs) ts o ts' := by
     intro c hc hr2
     obtain ⟨cs, h1, h2, h3⟩ := boxCells_ok hr2
     refine ⟨c :: cs, by simp [h1], fun q c' hq => ?_, h3⟩
     match q, hq with
     | 0, hq => simp at hq; subst hq; exact hc
     | q + 1, hq => have := h2 q c' (by simpa using hq); rwa [show Nat.succ x + q = x + (q + 1) by omega] at this
   unfold boxCell at hr1
   cases hk : (ts.get (key j x)).k <;> simp only [hk] at hr1 <;> try exact (Runs.fail hr1).elim
   case im => exact fin (.im _) ⟨hk, rfl⟩ hr1
   case own e => exact fin (.own e _) ⟨hk, rfl⟩ hr1
inductive ARel (s : St) : List Value → List AD → List CV → List (Nat × Nat) → Prop
 | nil : ARel s [] [] [] []
 | one {c : CV} {v : Value} {vs : List Value} {as : List AD} {lent : List CV} {bs : List (Nat × Nat)} (h : CVOk True s 0 c v) (r : ARel s vs as lent bs) : ARel s (v :: vs) (.one (peek c) :: as) (c :: lent) bs
 | agg {cs : List CV} {us : List Value} {vs : List Value} {as : List AD} {lent : List CV} {bs : List (Nat × Nat)} (h : CVsOk True s 0 cs us) (r : ARel s vs as lent bs) :
     ARel s (.agg us.toArray :: vs) (.agg (cs.map peek) :: as) (cs ++ lent) bs
 | box {j n e b : Nat} {cs : List RC} {vs : List Value} {as : List AD} {lent : List CV} {bs : List (Nat × Nat)} (hk : (s.ts.get (key j 0)).k = .box e n) (hz : ∃ z, (s.ts.get (key j 0)).t = .lit z) (hn : n ≤ 62)
     (hp : s.cv (key j 0) = .pointer (some ⟨b, 0, none⟩)) (ht : s.a.tmps.getD j undef = .pointer (some ⟨b, 0, none⟩))
     (hb : s.w.heap[b]? = some (.cells (cvals s.cv j 1 n).toArray e (0, 0))) (ho : s.ow b = .key (key j 0)) (hl : cs.length = n) (hc : ∀ (q : Nat) c, cs[q]? = some c → BoxCell (s.ts.get (key j (1 + q))) c)
     (r : ARel s vs as lent bs) : ARel s (.pointer (some ⟨b, 0, none⟩) :: vs) (.box e cs :: as) lent ((j, n) :: bs)
theorem argsD_ok (h : Ok P G s) : ∀ {ds : List D} {vs : List Value} {kk : Args → Prog}, DsOk True s ds vs → Runs cf (argsD ds kk) s.ts o ts' → ∃ a : Args, ARel s vs a.as a.lent a.bs ∧ Runs cf (kk a) s.ts o ts'
 | [], vs, kk, hd, hr => by
   have : vs = [] := List.eq_nil_of_length_eq_zero hd.1
   subst this
   exact ⟨⟨[], [], []⟩, .nil, hr⟩
 | d :: ds, vs, kk, hd, hr => by
   obtain ⟨v, vr, rfl, hd1, hd2⟩ := hd.cons_inv
   obtain ⟨a, ha, hr1⟩ := argsD_ok h hd2 hr
   unfold argD at hr1
   cases d with
   | one c => exact ⟨_, .one hd1 ha, hr1⟩
   | agg cs =>
     obtain ⟨us, rfl, hcs⟩ := hd1
     exact ⟨_, .agg hcs ha, hr1⟩
   | ad j n off =>
     cases off with
     | succ _ => exact (Runs.fail hr1).elim
     | zero =>
       have hr2 := Runs.get hr1
       obtain ⟨h1, h2, h3⟩ := hd1
       obtain ⟨h4, h5⟩ := h2 trivial
       obtain ⟨b, h6, h7⟩ := h3 h4 h5
       have hm := h.main j (by intro h; cases h)
       cases hk : (s.ts.get (key j 0)).k <;> simp only [hk] at hr2 <;> try exact (Runs.fail hr2).elim
       rename_i e m
       cases htt : (s.ts.get (key j 0)).t with
       | sl _ _ => simp only [htt] at hr2; exact (Runs.fail hr2).elim
       | lit zz =>
       simp only [htt] at hr2
       simp only [MainOk, hk, htt, boxLen, boxVal] at hm
       obtain ⟨hm1, _, b', hb1, hb2, hb3, hb4⟩ := hm
       have : b' = b := by rw [hb1] at h6; cases h6; rfl
       subst this
       obtain ⟨cs, g1, g2, g3⟩ := boxCells_ok hr2
       subst h7
       exact ⟨_, .box hk ⟨zz, htt⟩ hm1 hb1 hb2 hb3 hb4 g1 g2 ha, g3⟩
   | _ => exact (Runs.fail hr1).elim
theorem ARel.len {vs : List Value} {as : List AD} {lent : List CV} {bs : List (Nat × Nat)} (h : ARel s vs as lent bs) : vs.length = as.length := by
 induction h <;> simp_all
def bm : List AD → List (Nat × Nat) → Nat → List (Nat × Nat × Nat)
 | .box _ _ :: as, (j, n) :: bs, i => (i, j, n) :: bm as bs (i + 1)
 | .box _ _ :: _, [], _ => []
 | .one _ :: as, bs, i => bm as bs (i + 1)
 | .agg _ :: as, bs, i => bm as bs (i + 1)
 | [], _, _ => []
def keyIn (L : List (Nat × Nat × Nat)) (k : Nat) : Option Nat := (L.find? fun x => decide (k / 64 = x.2.1 ∧ k % 64 ≤ x.2.2)).map fun x => key x.1 (k % 64)
def keyOut (L : List (Nat × Nat × Nat)) (k : Nat) : Nat := match L.find? fun x => decide (k / 64 = x.1) with
 | some x => key x.2.1 (k % 64)
 | none => k
structure LOk (L : List (Nat × Nat × Nat)) : Prop where
 js : ∀ x ∈ L, ∀ y ∈ L, x.2.1 = y.2.1 → x = y
 is : ∀ x ∈ L, ∀ y ∈ L, x.1 = y.1 → x = y
theorem key_mod {s o : Nat} (h : o < 64) : key s o % 64 = o := by rw [key_eq]; omega
theorem keyIn_mem {L : List (Nat × Nat × Nat)} (hL : LOk L) {i j n x : Nat} (h : (i, j, n) ∈ L) (hx : x ≤ n) (hn : n ≤ 62) : keyIn L (key j x) = some (key i x) := by
 unfold keyIn
 have hd : key j x / 64 = j := key_div (by omega)
 have hm : key j x % 64 = x := key_mod (by omega)
 cases hf : L.find? (fun y => decide (key j x / 64 = y.2.1 ∧ key j x % 64 ≤ y.2.2)) with
 | none => exact absurd (List.find?_eq_none.1 hf _ h) (by simp [hd, hm, hx])
 | some y =>
   have h1 := List.find?_some hf
   have h2 := List.mem_of_find?_eq_some hf
   simp only [decide_eq_true_eq, hd] at h1
   have := hL.js _ h2 _ h h1.1.symm
   subst this
   simp [hm]
theorem keyIn_some {L : List (Nat × Nat × Nat)} {k k' : Nat} (h : keyIn L k = some k') : ∃ i j n x, (i, j, n) ∈ L ∧ k = key j x ∧ x ≤ n ∧ k' = key i x := by
 unfold keyIn at h
 cases hf : L.find? (fun y => decide (k / 64 = y.2.1 ∧ k % 64 ≤ y.2.2)) with
 | none => rw [hf] at h; cases h
 | some y =>
   rw [hf] at h
   have h1 := List.find?_some hf
   have h2 := List.mem_of_find?_eq_some hf
   simp only [decide_eq_true_eq] at h1
   obtain ⟨i, j, n⟩ := y
   refine ⟨i, j, n, k % 64, h2, ?_, h1.2, by simpa using h.symm⟩
   rw [key_eq]; have := h1.1; dsimp only at this; omega
theorem keyOut_mem {L : List (Nat × Nat × Nat)} (hL : LOk L) {i j n x : Nat} (h : (i, j, n) ∈ L) (hx : x < 64) : keyOut L (key i x) = key j x := by
 unfold keyOut
 have hd : key i x / 64 = i := key_div hx
 have hm : key i x % 64 = x := key_mod hx
 cases hf : L.find? (fun y => decide (key i x / 64 = y.1)) with
 | none => exact absurd (List.find?_eq_none.1 hf _ h) (by simp [hd])
 | some y =>
   have h1 := List.find?_some hf
   have h2 := List.mem_of_find?_eq_some hf
   simp only [decide_eq_true_eq, hd] at h1
   have := hL.is _ h2 _ h h1.symm
   subst this
   simp [hm]
theorem bm_mem {vs : List Value} {as : List AD} {lent : List CV} {bs : List (Nat × Nat)} (h : ARel s vs as lent bs) : ∀ (i0 : Nat) (x : Nat × Nat × Nat), x ∈ bm as bs i0 → i0 ≤ x.1 ∧ x.2 ∈ bs := by
 induction h with
 | nil => intro i0 x hx; simp [bm] at hx
 | one _ _ ih => intro i0 x hx; have := ih (i0 + 1) x hx; exact ⟨by omega, this.2⟩
 | agg _ _ ih => intro i0 x hx; have := ih (i0 + 1) x hx; exact ⟨by omega, this.2⟩
 | box _ _ _ _ _ _ _ _ _ _ ih =>
   intro i0 x hx
   simp only [bm, List.mem_cons] at hx
   rcases hx with rfl | hx
   · exact ⟨Nat.le_refl _, by simp⟩
   · have := ih (i0 + 1) x hx; exact ⟨by omega, List.mem_cons_of_mem _ this.2⟩
theorem bm_ok {vs : List Value} {as : List AD} {lent : List CV} {bs : List (Nat × Nat)} (h : ARel s vs as lent bs) : distinctSlots bs = true → ∀ i0 : Nat, LOk (bm as bs i0) := by
 induction h with
 | nil => exact fun _ _ => ⟨fun x hx => by simp [bm] at hx, fun x hx => by simp [bm] at hx⟩
 | one _ _ ih => exact fun hd i0 => ih hd (i0 + 1)
 | agg _ _ ih => exact fun hd i0 => ih hd (i0 + 1)
 | @box j n e b cs vs as lent bs _ _ _ _ _ _ _ _ _ hr ih =>
   intro hd i0
   simp only [distinctSlots, Bool.and_eq_true, List.all_eq_true] at hd
   have h1 := ih hd.2 (i0 + 1)
   have hne : ∀ y ∈ bm as bs (i0 + 1), y.2.1 ≠ j ∧ y.1 ≠ i0 := fun y hy => by
     have h2 := bm_mem hr (i0 + 1) y hy
     have h3 := hd.1 y.2 h2.2
     refine ⟨fun e => ?_, by omega⟩
     have : Nat.beq j y.2.1 = true := (beq_iff _ _).2 e.symm
     simp [this] at h3
   refine ⟨fun x hx y hy e => ?_, fun x hx y hy e => ?_⟩ <;> simp only [bm, List.mem_cons] at hx hy <;> rcases hx with rfl | hx <;> rcases hy with rfl | hy
   · rfl
   · exact absurd e.symm (hne y hy).1
   · exact absurd e (hne x hx).1
   · exact h1.js x hx y hy e
   · rfl
   · exact absurd e.symm (hne y hy).2
   · exact absurd e (hne x hx).2
   · exact h1.is x hx y hy e
end
end Go.Proofs.Ytbaihlhoedbpkaa.Tm
namespace Go.Proofs.Ytbaihlhoedbpkaa.Tm
open Go
section
variable {P : Program} {G : Ctx} {s : St} {cf : FuncId → List AD → Option Res} {ts ts' : TS} {o : Out} {E : Env}
def isLent (lent : List CV) (k : Nat) : Bool := lent.any fun
 | .ref p _ _ _ => Nat.beq p k
 | _ => false
theorem isLent_mem {lent : List CV} {p n : Nat} {e : TypeId} {t : T} (h : CV.ref p n e t ∈ lent) : isLent lent p = true :=
 List.any_eq_true.2 ⟨_, h, (beq_iff _ _).2 rfl⟩
theorem isLent_inv {lent : List CV} {k : Nat} (h : isLent lent k = true) : ∃ n e t, CV.ref k n e t ∈ lent := by
 obtain ⟨c, hc, he⟩ := List.any_eq_true.1 h
 cases c <;> simp only at he <;> try cases he
 rename_i p n e t
 have := (beq_iff _ _).1 he; subst this
 exact ⟨n, e, t, hc⟩
def ow0 (s : St) (lent : List CV) (L : List (Nat × Nat × Nat)) : Nat → Ow := fun b => match s.ow b with
 | .st => .st
 | .key k => bif isLent lent k then .st else match keyIn L k with
   | some k' => .key k'
   | none => .no
 | _ => .no
theorem ow0_st {lent : List CV} {L : List (Nat × Nat × Nat)} {b : Nat} (h : s.ow b = .st) : ow0 s lent L b = .st := by simp only [ow0, h]
theorem ow0_lent {lent : List CV} {L : List (Nat × Nat × Nat)} {b k : Nat} (h : s.ow b = .key k) (hl : isLent lent k = true) : ow0 s lent L b = .st := by simp only [ow0, h, hl, cond_true]
theorem ow0_key {lent : List CV} {L : List (Nat × Nat × Nat)} {b k k' : Nat} (h : s.ow b = .key k) (hl : isLent lent k = false) (hk : keyIn L k = some k') : ow0 s lent L b = .key k' := by simp only [ow0, h, hl, hk, cond_false]
theorem ow0_none {lent : List CV} {L : List (Nat × Nat × Nat)} {b k : Nat} (h : s.ow b = .key k) (hl : isLent lent k = false) (hk : keyIn L k = none) : ow0 s lent L b = .no := by simp only [ow0, h, hl, hk, cond_false]
theorem ow0_inv {lent : List CV} {L : List (Nat × Nat × Nat)} {b : Nat} :
   (ow0 s lent L b = .st ∧ (s.ow b = .st ∨ ∃ k, s.ow b = .key k ∧ isLent lent k = true)) ∨ (∃ k k', ow0 s lent L b = .key k' ∧ s.ow b = .key k ∧ isLent lent k = false ∧ keyIn L k = some k') ∨ ow0 s lent L b = .no := by
 cases h : s.ow b with
 | st => exact .inl ⟨ow0_st h, .inl rfl⟩
 | key k =>
   cases hl : isLent lent k with
   | true => exact .inl ⟨ow0_lent h hl, .inr ⟨k, rfl, hl⟩⟩
   | false =>
     cases hk : keyIn L k with
     | none => exact .inr (.inr (ow0_none h hl hk))
     | some k' => exact .inr (.inl ⟨k, k', ow0_key h hl hk, rfl, hl, hk⟩)
 | no => exact .inr (.inr (by simp only [ow0, h]))
 | pd i => exact .inr (.inr (by simp only [ow0, h]))
theorem peek_rt (h : Ok P G s) {lent : List CV} {L : List (Nat × Nat × Nat)} {τ : Nat} {c : CV} {v : Value} (hc : CVOk True s τ c v) (hm : c ∈ lent) : RT s.w (fun b => ow0 s lent L b = .st) (peek c) v := by
 have mn : ∀ b, s.S b → ow0 s lent L b = .st := fun b hb => ow0_st hb
 cases c with
 | im t => exact RT.mono hc mn (fun _ _ => rfl)
 | nil => rw [show v = _ from hc]; exact .nil
 | new e t => exact absurd trivial hc.1
 | ref p n e t =>
   obtain ⟨_, _, c3, c4⟩ := hc
   obtain ⟨c5, c6⟩ := c3 trivial
   obtain ⟨c7, c8, _⟩ := c4 c5
   have hcell := h.cell p (by intro h; cases h)
   simp only [CellOk, c6, c7, c8] at hcell
   exact (hcell.1.mono mn (fun _ _ => rfl) (fun _ _ => rfl)).rt fun b hb => ow0_lent (hcell.2 b hb) (isLent_mem hm)
theorem peeks_rt (h : Ok P G s) {lent : List CV} {L : List (Nat × Nat × Nat)} {τ : Nat} {cs : List CV} {us : List Value} (hc : CVsOk True s τ cs us) (hm : ∀ c ∈ cs, c ∈ lent) :
   RTs s.w (fun b => ow0 s lent L b = .st) (cs.map peek) us := by
 refine ⟨by simp [hc.1], fun j t u ht hu => ?_⟩
 rw [List.getElem?_map] at ht
 cases hx : cs[j]? with
 | none => rw [hx] at ht; cases ht
 | some c => rw [hx] at ht; cases ht; exact peek_rt h (hc.2 j c u hx hu) (hm c (List.mem_of_getElem? hx))
def FreeBoxes (s : St) (lent : List CV) (L : List (Nat × Nat × Nat)) : Prop := ∀ i j n, (i, j, n) ∈ L → ∀ x, x ≤ n → isLent lent (key j x) = false
theorem free_boxes {vs : List Value} {as : List AD} {lent : List CV} {bs : List (Nat × Nat)} (ar : ARel s vs as lent bs) (h : lent.all (apartFrom bs) = true)
   (hown : ∀ p n e t, CV.ref p n e t ∈ lent → ∃ e', (s.ts.get p).k = .own e') (hbox : ∀ x ∈ bm as bs 0, ∃ e, (s.ts.get (key x.2.1 0)).k = .box e x.2.2) : FreeBoxes s lent (bm as bs 0) := by
 intro i j n hm x hx
 cases hl : isLent lent (key j x) with
 | false => rfl
 | true =>
   exfalso
   obtain ⟨v, e, t, hc⟩ := isLent_inv hl
   have h1 := List.all_eq_true.1 h _ hc
   simp only [apartFrom, List.all_eq_true] at h1
   have h2 := h1 _ (bm_mem ar 0 _ hm).2
   simp only [inBox] at h2
   cases x with
   | zero =>
     obtain ⟨e', he'⟩ := hown _ _ _ _ hc
     obtain ⟨e2, he2⟩ := hbox _ hm
     rw [he'] at he2; cases he2
   | succ x =>
     have a1 : Nat.ble (key j 1) (key j (x + 1)) = true := (ble_iff _ _).2 (by rw [key_eq, key_eq]; omega)
     have a2 : Nat.ble (key j (x + 1)) (key j n) = true := (ble_iff _ _).2 (by rw [key_eq, key_eq]; omega)
     simp [a1, a2] at h2
theorem arel_lent {vs : List Value} {as : List AD} {lent : List CV} {bs : List (Nat × Nat)} (ar : ARel s vs as lent bs) : ∀ p n e t, CV.ref p n e t ∈ lent → (s.ts.get p).ver = n ∧ (s.ts.get p).k = .own e ∧ (s.ts.get p).t = t := by
 induction ar with
 | nil => intro p n e t h; cases h
 | one hc _ ih =>
   intro p n e t h
   simp only [List.mem_cons] at h
   rcases h with rfl | h
   · have h1 := hc.2.2.1 trivial; exact ⟨h1.1, h1.2, (hc.2.2.2 h1.1).2.1⟩
   · exact ih p n e t h
 | agg hc _ ih =>
   intro p n e t h
   simp only [List.mem_append] at h
   rcases h with h | h
   · obtain ⟨j, hj⟩ := List.getElem?_of_mem h
     have hlt := (List.getElem?_eq_some_iff.1 hj).1
     have h1 := hc.2 j _ _ hj (List.getElem?_eq_getElem (by rw [hc.1]; exact hlt))
     have h2 := h1.2.2.1 trivial
     exact ⟨h2.1, h2.2, (h1.2.2.2 h2.1).2.1⟩
   · exact ih p n e t h
 | box _ _ _ _ _ _ _ _ _ _ ih => exact ih
theorem arel_boxes {vs : List Value} {as : List AD} {lent : List CV} {bs : List (Nat × Nat)} (ar : ARel s vs as lent bs) : ∀ (i0 : Nat), ∀ x ∈ bm as bs i0, x.2.2 ≤ 62 ∧
   ∃ e b, (s.ts.get (key x.2.1 0)).k = .box e x.2.2 ∧ (∃ z, (s.ts.get (key x.2.1 0)).t = .lit z) ∧ s.cv (key x.2.1 0) = .pointer (some ⟨b, 0, none⟩) ∧ s.a.tmps.getD x.2.1 undef = .pointer (some ⟨b, 0, none⟩) ∧ s.ow b = .key (key x.2.1 0) := by
 induction ar with
 | nil => intro i0 x hx; cases hx
 | one _ _ ih => intro i0 x hx; exact ih (i0 + 1) x hx
 | agg _ _ ih => intro i0 x hx; exact ih (i0 + 1) x hx
 | @box j n e b cs vs as lent bs hk hz hn hp ht hb ho hl hc r ih =>
   intro i0 x hx
   simp only [bm, List.mem_cons] at hx
   rcases hx with rfl | hx
   · exact ⟨hn, e, b, hk, hz, hp, ht, ho⟩
   · exact ih (i0 + 1) x hx
theorem entry_args (h : Ok P G s) {L : List (Nat × Nat × Nat)} (hL : LOk L) {lent0 : List CV} (hfr : FreeBoxes s lent0 L) {vs : List Value} {as : List AD} {lent : List CV} {bs : List (Nat × Nat)} (ar : ARel s vs as lent bs) :
   ∀ i0, (∀ x ∈ bm as bs i0, x ∈ L) → (∀ c ∈ lent, c ∈ lent0) → ∀ (i : Nat) a v, as[i]? = some a → vs[i]? = some v → ArgOk P s.w (ow0 s lent0 L) (i0 + i) a v := by
 induction ar with
 | nil => intro i0 _ _ i a v ha; simp at ha
 | @one c v vs as lent bs hc r ih =>
   intro i0 h1 h2 i a v' ha hv
   match i, ha, hv with
   | 0, ha, hv =>
     simp at ha hv; subst ha; subst hv
     exact peek_rt h hc (h2 _ (by simp))
   | i + 1, ha, hv =>
     have := ih (i0 + 1) (fun x hx => h1 x hx) (fun c hc => h2 c (by simp [hc])) i a v' (by simpa using ha) (by simpa using hv)
     rwa [show i0 + 1 + i = i0 + (i + 1) by omega] at this
 | @agg cs us vs as lent bs hc r ih =>
   intro i0 h1 h2 i a v' ha hv
   match i, ha, hv with
   | 0, ha, hv =>
     simp at ha hv; subst ha; subst hv
     exact ⟨us, rfl, peeks_rt h hc fun c hc => h2 c (by simp [hc])⟩
   | i + 1, ha, hv =>
     have := ih (i0 + 1) (fun x hx => h1 x hx) (fun c hc => h2 c (by simp [hc])) i a v' (by simpa using ha) (by simpa using hv)
     rwa [show i0 + 1 + i = i0 + (i + 1) by omega] at this
 | @box j n e b cs vs as lent bs hk hz hn hp ht hb ho hl hc r ih =>
   intro i0 h1 h2 i a v' ha hv
   have hmem : (i0, j, n) ∈ L := h1 _ (by simp [bm])
   match i, ha, hv with
   | 0, ha, hv =>
     simp at ha hv; subst ha; subst hv
     refine ⟨b, cvals s.cv j 1 n, rfl, by rw [cvals_length, hl], hb, ow0_key ho (hfr _ _ _ hmem 0 (Nat.zero_le _)) (keyIn_mem hL hmem (Nat.zero_le _) hn), fun q c u hq hu => ?_⟩
     have hqn : q < n := by rw [← hl]; exact (List.getElem?_eq_some_iff.1 hq).1
     rw [cvals_get _ _ _ _ _ hqn] at hu
     cases hu
     have hbc := hc q c hq
     have hcell := h.cell (key j (1 + q)) (by intro h; cases h)
     have hfree := hfr _ _ _ hmem (1 + q) (by omega)
     have hki := keyIn_mem hL hmem (x := 1 + q) (by omega) hn
     cases c with
     | im t =>
       obtain ⟨g1, g2⟩ := hbc
       simp only [CellOk, g1, g2] at hcell
       exact hcell.mono (fun b hb => ow0_st hb) (fun _ _ => rfl)
     | own ty t =>
       obtain ⟨g1, g2⟩ := hbc
       simp only [CellOk, g1, g2] at hcell
       exact ⟨hcell.1.mono (fun b hb => ow0_st hb) (fun _ _ => rfl) (fun _ _ => rfl), fun b hb => ow0_key (hcell.2 b hb) hfree hki⟩
     | nil => exact hbc.elim
   | i + 1, ha, hv =>
     have := ih (i0 + 1) (fun x hx => h1 x (by simp [bm, hx])) h2 i a v' (by simpa using ha) (by simpa using hv)
     rwa [show i0 + 1 + i = i0 + (i + 1) by omega] at this
theorem entry_ok (h : Ok P G s) {vs : List Value} {as : List AD} {lent : List CV} {bs : List (Nat × Nat)} (ar : ARel s vs as lent bs) (ha : lent.all (apartFrom bs) = true) (hd : distinctSlots bs = true) :
   FreeBoxes s lent (bm as bs 0) ∧ LOk (bm as bs 0) ∧ Entry P as vs s.w (ow0 s lent (bm as bs 0)) := by
 have hL := bm_ok ar hd 0
 have hfr := free_boxes ar ha (fun p n e t hc => ⟨e, (arel_lent ar p n e t hc).2.1⟩) fun x hx => by
   obtain ⟨_, e, b, h1, _⟩ := arel_boxes ar 0 x hx; exact ⟨e, h1⟩
 refine ⟨hfr, hL, ar.len, fun b hb => h.lt b fun hno => hb (by simp only [ow0, hno]), fun b i hb => ?_, fun i a v hai hvi => ?_⟩
 · rcases ow0_inv (s := s) (lent := lent) (L := bm as bs 0) (b := b) with h1 | ⟨_, _, h1, _⟩ | h1
   · rw [h1.1] at hb; cases hb
   · rw [h1] at hb; cases hb
   · rw [h1] at hb; cases hb
 · have := entry_args h hL hfr ar 0 (fun x hx => hx) (fun c hc => hc) i a v hai hvi
   rwa [Nat.zero_add] at this
def rcEnt (ver : Nat) : RC → Ent
 | .im t => ⟨.im, ver, t⟩
 | .own e t => ⟨.own e, ver, t⟩
 | .nil => ⟨.im, ver, .sl 0 []⟩
def rcEntK (kept : Bool) (ver : Nat) : RC → Ent
 | .own e t => bif kept then ⟨.own e, ver, t⟩ else ⟨.own e, Nat.succ ver, t⟩
 | c => rcEnt (Nat.succ ver) c
theorem putRCK_run {fixd kept : Bool} {k : Nat} {c : RC} {ts : TS} {kk : Unit → Prog} (hr : Runs cf (putRCK fixd kept k c kk) ts o ts') :
   Runs cf (kk ()) (ts.put k (rcEntK kept (ts.get k).ver c)) o ts' ∧ (fixd = true → kept = true) := by
 cases kept with
 | true => cases c <;> cases fixd <;> exact ⟨(Runs.get hr).put, fun _ => rfl⟩
 | false =>
   cases fixd with
   | true => cases c <;> exact (Runs.fail hr).elim
   | false => cases c <;> exact ⟨(Runs.get hr).put, fun h => by cases h⟩
theorem putRCs_run {fx : Bool} {kp kq j : Nat} : ∀ {rs : List RC} {x : Nat} {ts : TS} {kk : Unit → Prog}, x + rs.length ≤ 63 → Runs cf (putRCsK fx kp kq j x rs kk) ts o ts' →
   ∃ ts1, Runs cf (kk ()) ts1 o ts' ∧ (∀ (q : Nat) c, rs[q]? = some c → ts1.get (key j (x + q)) = rcEntK (hasBit kq (x + q)) (ts.get (key j (x + q))).ver c ∧ ((fx && hasBit kp (x + q)) = true → hasBit kq (x + q) = true)) ∧
     ∀ k, (∀ q, q < rs.length → k ≠ key j (x + q)) → ts1.get k = ts.get k
 | [], x, ts, kk, _, hr => ⟨ts, hr, fun q c h => by simp at h, fun _ _ => rfl⟩
 | c :: rs, x, ts, kk, hx, hr => by
   simp only [List.length_cons] at hx
   obtain ⟨h1, h2⟩ := putRCK_run hr
   obtain ⟨ts1, g1, g2, g3⟩ := putRCs_run (by omega) h1
   refine ⟨ts1, g1, fun q c' hq => ?_, fun k hk => ?_⟩
   · match q, hq with
     | 0, hq =>
       simp at hq; subst hq
       rw [Nat.add_zero]
       exact ⟨by rw [g3 _ fun q hq => by rw [key_eq, key_eq]; omega, get_same], h2⟩
     | q + 1, hq =>
       have := g2 q c' (by simpa using hq)
       rw [show Nat.succ x + q = x + (q + 1) by omega] at this
       rwa [get_ne _ _ (by rw [key_eq, key_eq]; omega)] at this
   · rw [g3 k fun q hq => by have := hk (q + 1) (by simpa using hq); rwa [show Nat.succ x + q = x + (q + 1) by omega], get_ne _ _ (by have := hk 0 (by simp); exact this)]
def boxAt : List AD → List (List RC) → Nat → Nat → Option (List RC)
 | .box _ _ :: as, rs :: bs, i0, i => if i = i0 then some rs else boxAt as bs (i0 + 1) i
 | .box _ _ :: _, [], _, _ => none
 | .one _ :: as, bs, i0, i => boxAt as bs (i0 + 1) i
 | .agg _ :: as, bs, i0, i => boxAt as bs (i0 + 1) i
 | [], _, _, _ => none
theorem putBoxes_run {prot kp kq : Nat} : ∀ {as : List AD} {bs : List (Nat × Nat)} {rss : List (List RC)} {ts : TS} {kk : Unit → Prog} {i0 : Nat}, LOk (bm as bs i0) → (∀ x ∈ bm as bs i0, x.2.2 ≤ 62 ∧ i0 ≤ x.1) → (bm as bs i0).map (·.2) = bs →
   Runs cf (putBoxes prot kp kq bs rss kk) ts o ts' →
   ∃ ts1, Runs cf (kk ()) ts1 o ts' ∧ (∀ i j n, (i, j, n) ∈ bm as bs i0 → ∃ rs, boxAt as rss i0 i = some rs ∧ rs.length = n ∧ ∀ (q : Nat) c, rs[q]? = some c → ts1.get (key j (1 + q)) = rcEntK (hasBit kq (1 + q)) (ts.get (key j (1 + q))).ver c ∧ ((hasBit prot j && hasBit kp (1 + q)) = true → hasBit kq (1 + q) = true)) ∧
     ∀ k, (∀ i j n, (i, j, n) ∈ bm as bs i0 → ∀ q, q < n → k ≠ key j (1 + q)) → ts1.get k = ts.get k
 | [], bs, rss, ts, kk, i0, _, _, hbs, hr => by
   simp only [bm, List.map_nil] at hbs
   subst hbs
   cases rss with
   | nil => exact ⟨ts, hr, fun i j n h => by simp [bm] at h, fun _ _ => rfl⟩
   | cons _ _ => exact (Runs.fail hr).elim
 | .one _ :: as, bs, rss, ts, kk, i0, hL, h62, hbs, hr => putBoxes_run (as := as) (i0 := i0 + 1) hL (fun x hx => ⟨(h62 x hx).1, by have h1 : x ∈ bm as bs (i0 + 1) := hx; exact (bmle as bs (i0 + 1) x h1)⟩) hbs hr
 | .agg _ :: as, bs, rss, ts, kk, i0, hL, h62, hbs, hr => putBoxes_run (as := as) (i0 := i0 + 1) hL (fun x hx => ⟨(h62 x hx).1, by have h1 : x ∈ bm as bs (i0 + 1) := hx; exact (bmle as bs (i0 + 1) x h1)⟩) hbs hr
 | .box e cs :: as, bs, rss, ts, kk, i0, hL, h62, hbs, hr => by
   cases bs with
   | nil => cases rss with
     | nil => exact ⟨ts, hr, fun i j n h => by simp [bm] at h, fun _ _ => rfl⟩
     | cons _ _ => exact (Runs.fail hr).elim
   | cons b bs => cases rss with
    | nil => exact (Runs.fail hr).elim
    | cons rs rss =>
     obtain ⟨j, n⟩ := b
     have hr : Runs cf ((bif Nat.beq rs.length n then (fun k => putRCsK (hasBit prot j) kp kq j 1 rs fun _ => putBoxes prot kp kq bs rss k) else C.fail) kk) ts o ts' := hr
     cases hb : Nat.beq rs.length n with
     | false => rw [hb] at hr; exact (Runs.fail hr).elim
     | true =>
       rw [hb] at hr
       have hl := (beq_iff _ _).1 hb
       have h0 := h62 (i0, j, n) (by simp [bm])
       obtain ⟨ts1, g1, g2, g3⟩ := putRCs_run (by have := h0.1; dsimp only at this; omega) hr
       have hne : ∀ x ∈ bm as bs (i0 + 1), x.1 ≠ i0 ∧ x.2.1 ≠ j := fun x hx => by
         have h1 := bmle as bs (i0 + 1) x hx
         refine ⟨by omega, fun e => ?_⟩
         have := hL.js x (by simp [bm, hx]) (i0, j, n) (by simp [bm]) e
         subst this; dsimp only at h1; omega
       have hbs' : (bm as bs (i0 + 1)).map (·.2) = bs := by
         simp only [bm, List.map_cons, List.cons.injEq, true_and] at hbs; exact hbs
       obtain ⟨ts2, f1, f2, f3⟩ := putBoxes_run (as := as) (i0 := i0 + 1) ⟨fun x hx y hy => hL.js x (by simp [bm, hx]) y (by simp [bm, hy]), fun x hx y hy => hL.is x (by simp [bm, hx]) y (by simp [bm, hy])⟩
         (fun x hx => ⟨(h62 x (by simp [bm, hx])).1, bmle as bs (i0 + 1) x hx⟩) hbs' g1
       refine ⟨ts2, f1, fun i j' n' hm => ?_, fun k hk => ?_⟩
       · simp only [bm, List.mem_cons] at hm
         rcases hm with hm | hm
         · cases hm
           refine ⟨rs, by simp [boxAt], hl, fun q c hq => ?_⟩
           rw [f3 _ fun i' j2 n2 hm2 q2 hq2 he => ?_]
           · exact g2 q c hq
           have h1 := hne _ hm2
           have h2 := (h62 _ (by simp [bm, hm2] : (i', j2, n2) ∈ bm (.box e cs :: as) ((j, n) :: bs) i0)).1
           have h3 : q < n := by rw [← hl]; exact (List.getElem?_eq_some_iff.1 hq).1
           have h4 := h0.1
           dsimp only at h1 h2 h4
           have h5 := h1.2
           rw [key_eq, key_eq] at he
           omega
         · obtain ⟨rs', a1, a2, a3⟩ := f2 i j' n' hm
           have h1 := hne _ hm
           refine ⟨rs', by simp only [boxAt]; rw [if_neg (by exact h1.1)]; exact a1, a2, fun q c hq => ?_⟩
           have hg3 := g3 (key j' (1 + q)) fun q2 hq2 he => ?_
           · rw [← hg3]; exact a3 q c hq
           have h2 := (h62 _ (by simp [bm, hm] : (i, j', n') ∈ bm (.box e cs :: as) ((j, n) :: bs) i0)).1
           have h3 : q < n' := by rw [← a2]; exact (List.getElem?_eq_some_iff.1 hq).1
           have h4 := h0.1
           dsimp only at h1 h2 h4
           have h5 := h1.2
           rw [key_eq, key_eq] at he
           omega
       · rw [f3 k fun i' j2 n2 hm2 => hk i' j2 n2 (by simp [bm, hm2]), g3 k fun q hq => hk i0 j n (by simp [bm]) q (by omega)]
where
 bmle : ∀ (as : List AD) (bs : List (Nat × Nat)) (i0 : Nat) (x : Nat × Nat × Nat), x ∈ bm as bs i0 → i0 ≤ x.1
   | [], _, _, _, h => by simp [bm] at h
   | .one _ :: as, bs, i0, x, h => by have := bmle as bs (i0 + 1) x h; omega
   | .agg _ :: as, bs, i0, x, h => by have := bmle as bs (i0 + 1) x h; omega
   | .box _ _ :: as, [], i0, x, h => by simp [bm] at h
   | .box _ _ :: as, (j, n) :: bs, i0, x, h => by
     simp only [bm, List.mem_cons] at h
     rcases h with rfl | h
     · exact Nat.le_refl _
     · have := bmle as bs (i0 + 1) x h; omega
end
end Go.Proofs.Ytbaihlhoedbpkaa.Tm
namespace Go.Proofs.Ytbaihlhoedbpkaa.Tm
open Go
section
variable {P : Program} {G : Ctx} {s sf : St} {cf : FuncId → List AD → Option Res} {ts ts' : TS} {o : Out} {E : Env}
structure Frz (lent : List CV) (s sf : St) : Prop where
 w : sf.w = s.w
 a : sf.a = s.a
 cv : sf.cv = s.cv
 ent : ∀ k, sf.ts.get k = s.ts.get k ∨ (isLent lent k = true ∧ (∃ e, (s.ts.get k).k = .own e) ∧ sf.ts.get k = ⟨.im, (s.ts.get k).ver, (s.ts.get k).t⟩)
 ow : ∀ b, sf.ow b = s.ow b ∨ (sf.ow b = .st ∧ ∃ p, s.ow b = .key p ∧ isLent lent p = true)
theorem Frz.refl (lent : List CV) (s : St) : Frz lent s s := ⟨rfl, rfl, rfl, fun _ => .inl rfl, fun _ => .inl rfl⟩
theorem freezeAll_ok (lent0 : List CV) : ∀ {lent : List CV} {s : St} {kk : Unit → Prog}, Ok P G s → (∀ c ∈ lent, c ∈ lent0) → (∀ p n e t, CV.ref p n e t ∈ lent → (s.ts.get p).ver = n ∧ (s.ts.get p).t = t) → Runs cf (freezeAll lent kk) s.ts o ts' →
   ∃ sf, Ok P G sf ∧ Frz lent0 s sf ∧ (∀ k, isLent lent k = true → (sf.ts.get k).k = .im) ∧ Runs cf (kk ()) sf.ts o ts'
 | [], s, kk, h, _, _, hr => ⟨s, h, Frz.refl _ s, fun k hk => by simp [isLent] at hk, hr⟩
 | c :: lent, s, kk, h, hm, hv, hr => by
   have skip : Runs cf (freezeAll lent kk) s.ts o ts' → (∀ k, isLent (c :: lent) k = true → isLent lent k = true ∨ (s.ts.get k).k = .im) → ∃ sf, Ok P G sf ∧ Frz lent0 s sf ∧ (∀ k, isLent (c :: lent) k = true → (sf.ts.get k).k = .im) ∧ Runs cf (kk ()) sf.ts o ts' := by
     intro hr1 hc
     obtain ⟨sf, h1, h2, h3, h4⟩ := freezeAll_ok lent0 h (fun c hc => hm c (by simp [hc])) (fun p n e t hp => hv p n e t (by simp [hp])) hr1
     refine ⟨sf, h1, h2, fun k hk => ?_, h4⟩
     rcases hc k hk with h5 | h5
     · exact h3 k h5
     · rcases h2.ent k with h6 | ⟨_, _, h6⟩
       · rw [h6]; exact h5
       · rw [h6]
   cases c with
   | im t => exact skip hr fun k hk => .inl hk
   | new e t => exact skip hr fun k hk => .inl hk
   | nil => exact skip hr fun k hk => .inl hk
   | ref p n e t =>
     obtain ⟨hv1, hv2⟩ := hv p n e t (by simp)
     have hr1 := Runs.get hr
     cases hs : stillOwn (s.ts.get p) n with
     | true =>
       rw [hs] at hr1
       obtain ⟨⟨e', he'⟩, _⟩ := stillOwn_iff hs
       have hr2 := Runs.put hr1
       obtain ⟨ok1, ev1, _⟩ := h.froze he'
       have hts : (s.froze p).ts = s.ts.put p ⟨.im, (s.ts.get p).ver, t⟩ := by rw [← hv2]; rfl
       rw [← hts] at hr2
       have hent : ∀ k, (s.froze p).ts.get k = if k = p then ⟨.im, (s.ts.get p).ver, (s.ts.get p).t⟩ else s.ts.get k := fun k => TS.get_put _ _ _ _
       obtain ⟨sf, h1, h2, h3, h4⟩ := freezeAll_ok lent0 (s := s.froze p) ok1 (fun c hc => hm c (by simp [hc])) (fun p' n' e'' t' hp => by
         have := hv p' n' e'' t' (by simp [hp])
         rw [hent]; split
         · rename_i hpp; subst hpp; exact this
         · exact this) hr2
       have hlp : isLent lent0 p = true := isLent_mem (hm (.ref p n e t) (by simp))
       have hc := h.cell p (by intro h; cases h)
       simp only [CellOk, he'] at hc
       refine ⟨sf, h1, ⟨h2.w, h2.a, h2.cv, fun k => ?_, fun b => ?_⟩, fun k hk => ?_, h4⟩
       · have h5 := hent k
         by_cases hkp : k = p
         · subst hkp
           rw [if_pos rfl] at h5
           right
           refine ⟨hlp, ⟨e', he'⟩, ?_⟩
           rcases h2.ent k with h6 | ⟨_, ⟨_, h6⟩, _⟩
           · rw [h6, h5]
           · rw [h5] at h6; cases h6
         · rw [if_neg hkp] at h5
           rcases h2.ent k with h6 | ⟨a1, ⟨a2, a3⟩, a4⟩
           · exact .inl (h6.trans h5)
           · rw [h5] at a3 a4; exact .inr ⟨a1, ⟨a2, a3⟩, a4⟩
       · have h5 : (s.froze p).ow b = s.ow b ∨ ((s.froze p).ow b = .st ∧ s.ow b = .key p) := by
           by_cases hb : (s.cv p).ownBlock = some b
           · exact .inr ⟨give_at hb, hc.2 b hb⟩
           · exact .inl (give_off hb)
         rcases h2.ow b with h6 | ⟨a1, p', a2, a3⟩
         · rcases h5 with h5 | ⟨h5, h7⟩
           · exact .inl (h6.trans h5)
           · exact .inr ⟨h6.trans h5, p, h7, hlp⟩
         · rcases h5 with h5 | ⟨h5, h7⟩
           · exact .inr ⟨a1, p', h5 ▸ a2, a3⟩
           · rw [h5] at a2; cases a2
       · simp only [isLent, List.any_cons, Bool.or_eq_true] at hk
         rcases hk with hk | hk
         · have := (beq_iff _ _).1 hk; subst this
           rcases h2.ent p with h6 | ⟨_, _, h6⟩
           · rw [h6, hent, if_pos rfl]
           · rw [h6]
         · exact h3 k hk
     | false =>
       rw [hs] at hr1
       simp only [cond_false] at hr1
       cases hk : (s.ts.get p).k <;> simp only [hk] at hr1 <;> try exact (Runs.fail hr1).elim
       refine skip hr1 fun k hk' => ?_
       simp only [isLent, List.any_cons, Bool.or_eq_true] at hk'
       rcases hk' with hk' | hk'
       · have := (beq_iff _ _).1 hk'; subst this; exact .inr hk
       · exact .inl hk'
theorem RT.nolead {w : World} {S S' : Nat → Prop} {t : T} {v : Value} (h : RT w S t v) (hn : hasSl t = false) : RT w S' t v := by
 cases h with
 | lit h => exact .lit h
 | nil => cases hn
 | sl => cases hn
theorem OwnOk.nolead {w : World} {S S' : Nat → Prop} {e : TypeId} {t : T} {v : Value} (h : OwnOk P w S e t v) (hn : leadsT t = false) : OwnOk P w S' e t v := by
 obtain ⟨n, cs, rfl, h⟩ := h
 refine ⟨n, cs, rfl, h.imp id ?_⟩
 rintro ⟨i, xs, hi, ho, hr⟩
 refine ⟨i, xs, hi, ho, hr.1, fun j t u ht hu => (hr.2 j t u ht hu).nolead ?_⟩
 simp only [leadsT, List.any_eq_false] at hn
 simpa using hn t (List.mem_of_getElem? ht)
theorem boxes_at {w' : World} {ow1 : Nat → Ow} {vs : List Value} {as : List AD} {lent : List CV} {bs : List (Nat × Nat)} (ar : ARel s vs as lent bs) :
   ∀ (i0 : Nat) (rss : List (List RC)), BoxesOk P w' ow1 i0 as vs rss → ∀ i j n, (i, j, n) ∈ bm as bs i0 → ∃ (rs : List RC) (us : List Value) (b e : Nat), boxAt as rss i0 i = some rs ∧ s.cv (key j 0) = .pointer (some ⟨b, 0, none⟩) ∧ (s.ts.get (key j 0)).k = .box e n ∧
     s.a.tmps.getD j undef = .pointer (some ⟨b, 0, none⟩) ∧ rs.length = n ∧ us.length = n ∧ w'.heap[b]? = some (.cells us.toArray e (0, 0)) ∧ ow1 b = .key (key i 0) ∧
     ∀ (q : Nat) c u, rs[q]? = some c → us[q]? = some u → RCOk P w' ow1 (.key (key i (1 + q))) c u := by
 have bmle := fun as bs i0 x h => putBoxes_run.bmle as bs i0 x h
 induction ar with
 | nil => intro i0 rss _ i j n hm; simp [bm] at hm
 | one _ _ ih => intro i0 rss hb i j n hm; exact ih (i0 + 1) rss hb i j n hm
 | agg _ _ ih => intro i0 rss hb i j n hm; exact ih (i0 + 1) rss hb i j n hm
 | @box j0 n0 e b cs vs as lent bs hk hz hn hp ht hb ho hl hc r ih =>
   intro i0 rss hbx i j n hm
   match rss, hbx with
   | [], hbx => exact hbx.elim
   | rs :: rss, hbx =>
     obtain ⟨⟨b', us, h1, h2, h3, h4, h5, h6⟩, h7⟩ := hbx
     simp only [bm, List.mem_cons] at hm
     rcases hm with hm | hm
     · cases hm
       cases h1
       exact ⟨rs, us, b, e, by simp [boxAt], hp, hk, ht, h2.trans hl, by omega, h4, h5, h6⟩
     · have := bmle _ _ _ _ hm
       dsimp only at this
       obtain ⟨rs', us', b2, e2, a1, a2⟩ := ih (i0 + 1) rss h7 i j n hm
       exact ⟨rs', us', b2, e2, by simp only [boxAt]; rw [if_neg (by omega)]; exact a1, a2⟩
theorem bm_bs {vs : List Value} {as : List AD} {lent : List CV} {bs : List (Nat × Nat)} (ar : ARel s vs as lent bs) : ∀ i0, (bm as bs i0).map (·.2) = bs := by
 induction ar with
 | nil => intro _; rfl
 | one _ _ ih => intro i0; exact ih (i0 + 1)
 | agg _ _ ih => intro i0; exact ih (i0 + 1)
 | box _ _ _ _ _ _ _ _ _ _ ih => intro i0; simp only [bm, List.map_cons]; rw [ih (i0 + 1)]
def inBoxes (L : List (Nat × Nat × Nat)) (k : Nat) : Bool := (keyIn L k).isSome && !(Nat.beq (k % 64) 0)
def cvAfter (sf : St) (L : List (Nat × Nat × Nat)) (w' : World) (k : Nat) : Value := bif inBoxes L k then
   (match sf.cv (key (k / 64) 0) with
     | .pointer (some a) => (match w'.heap[a.block]? with | some (.cells c _ _) => c.getD (k % 64 - 1) undef | _ => undef)
     | _ => undef)
 else sf.cv k
def rest (sf : St) (L : List (Nat × Nat × Nat)) (b : Nat) : Ow := match sf.ow b with
 | .st => .st
 | .key k => bif (keyIn L k).isSome then .no else .key k
 | _ => .no
def owAfter (sf : St) (L : List (Nat × Nat × Nat)) (ld : Bool) (ow1 : Nat → Ow) (b : Nat) : Ow := match ow1 b with
 | .pd i => .pd i
 | .key k => .key (keyOut L k)
 | .st => bif ld then .st else rest sf L b
 | .no => rest sf L b
def pdAfter (cs : List RC) (us : List Value) (i : Nat) : Option Pd := match cs[i]?, us[i]? with
 | some (.own e t), some u => some ⟨e, t, u⟩
 | _, _ => none
theorem inBoxes_mem {L : List (Nat × Nat × Nat)} (hL : LOk L) {i j n q : Nat} (h : (i, j, n) ∈ L) (hq : q < n) (hn : n ≤ 62) : inBoxes L (key j (1 + q)) = true := by
 simp only [inBoxes, keyIn_mem hL h (show 1 + q ≤ n by omega) hn, key_mod (show 1 + q < 64 by omega), Option.isSome_some, Bool.true_and, Bool.not_eq_true']
 cases hb : Nat.beq (1 + q) 0 with
 | false => rfl
 | true => have := (beq_iff _ _).1 hb; omega
theorem inBoxes_some {L : List (Nat × Nat × Nat)} (h62 : ∀ x ∈ L, x.2.2 ≤ 62) {k : Nat} (h : inBoxes L k = true) : ∃ i j n q, (i, j, n) ∈ L ∧ q < n ∧ k = key j (1 + q) := by
 simp only [inBoxes, Bool.and_eq_true, Bool.not_eq_true'] at h
 obtain ⟨h1, h2⟩ := h
 cases hk : keyIn L k with
 | none => rw [hk] at h1; cases h1
 | some k' =>
   obtain ⟨i, j, n, x, a1, a2, a3, _⟩ := keyIn_some hk
   have h3 := h62 _ a1
   dsimp only at h3
   subst a2
   rw [key_mod (by omega)] at h2
   cases x with
   | zero => exact absurd ((beq_iff 0 0).2 rfl) (by rw [h2]; decide)
   | succ x => exact ⟨i, j, n, x, a1, by omega, by rw [Nat.add_comm 1 x]⟩
theorem inBoxes_head {L : List (Nat × Nat × Nat)} (i : Nat) : inBoxes L (key i 0) = false := by
 simp only [inBoxes, key_mod (show 0 < 64 by omega)]
 rw [show Nat.beq 0 0 = true from rfl]; simp
theorem keep_lt {w0 : World} {X : Nat → Prop} {w : World} (h : Keep X w0 w) : w0.heap.size ≤ w.heap.size := h.size
theorem arel_at {vs : List Value} {as : List AD} {lent : List CV} {bs : List (Nat × Nat)} (ar : ARel s vs as lent bs) : ∀ (i0 : Nat), ∀ x ∈ bm as bs i0, i0 ≤ x.1 ∧
   ∃ (e : TypeId) (cs : List RC) (b : Nat), as[x.1 - i0]? = some (.box e cs) ∧ vs[x.1 - i0]? = some (.pointer (some ⟨b, 0, none⟩)) ∧ s.cv (key x.2.1 0) = .pointer (some ⟨b, 0, none⟩) ∧
     s.w.heap[b]? = some (.cells (cvals s.cv x.2.1 1 x.2.2).toArray e (0, 0)) := by
 induction ar with
 | nil => intro i0 x hx; cases hx
 | one _ _ ih =>
   intro i0 x hx
   obtain ⟨h1, e, cs, b, h2, h3, h4⟩ := ih (i0 + 1) x hx
   exact ⟨by omega, e, cs, b, by rw [show x.1 - i0 = (x.1 - (i0 + 1)) + 1 by omega]; exact h2, by rw [show x.1 - i0 = (x.1 - (i0 + 1)) + 1 by omega]; exact h3, h4⟩
 | agg _ _ ih =>
   intro i0 x hx
   obtain ⟨h1, e, cs, b, h2, h3, h4⟩ := ih (i0 + 1) x hx
   exact ⟨by omega, e, cs, b, by rw [show x.1 - i0 = (x.1 - (i0 + 1)) + 1 by omega]; exact h2, by rw [show x.1 - i0 = (x.1 - (i0 + 1)) + 1 by omega]; exact h3, h4⟩
 | @box j n e b cs vs as lent bs hk hz hn hp ht hb ho hl hc r ih =>
   intro i0 x hx
   simp only [bm, List.mem_cons] at hx
   rcases hx with rfl | hx
   · exact ⟨Nat.le_refl _, e, cs, b, by simp, by simp, hp, hb⟩
   · obtain ⟨h1, e', cs', b', h2, h3, h4⟩ := ih (i0 + 1) x hx
     exact ⟨by omega, e', cs', b', by rw [show x.1 - i0 = (x.1 - (i0 + 1)) + 1 by omega]; exact h2, by rw [show x.1 - i0 = (x.1 - (i0 + 1)) + 1 by omega]; exact h3, h4⟩
theorem back_ok (okf : Ok P G sf) {vs : List Value} {as : List AD} {lent : List CV} {bs : List (Nat × Nat)} (ar : ARel s vs as lent bs) (fz : Frz lent s sf) (hL : LOk (bm as bs 0)) (hfr : FreeBoxes s lent (bm as bs 0))
   {r : Res} {v : Value} {w' : World} {ow1 : Nat → Ow} {kq : Nat} (lv : Leave P kq as vs s.w (ow0 s lent (bm as bs 0)) r v w' ow1) (hfz : leadsAny r = true → ∀ k, isLent lent k = true → (sf.ts.get k).k = .im) {ts1 : TS}
   (hbx : ∀ i j n, (i, j, n) ∈ bm as bs 0 → ∃ rs, boxAt as r.boxes 0 i = some rs ∧ rs.length = n ∧ ∀ (q : Nat) c, rs[q]? = some c → ts1.get (key j (1 + q)) = rcEntK (hasBit kq (1 + q)) (sf.ts.get (key j (1 + q))).ver c ∧ ((hasBit G.prot j && hasBit G.kp (1 + q)) = true → hasBit kq (1 + q) = true))
   (hts : ∀ k, (∀ i j n, (i, j, n) ∈ bm as bs 0 → ∀ q, q < n → k ≠ key j (1 + q)) → ts1.get k = sf.ts.get k) :
   ∃ s', s'.w = w' ∧ s'.a = sf.a ∧ s'.ts = ts1 ∧ Ok P G s' ∧ DOk False s' (resD r.vals) v := by
 obtain ⟨us, hul, hv, hrc⟩ := lv.vals
 have boxes := boxes_at ar 0 r.boxes lv.boxes
 have heads := fun x hx => (arel_boxes ar 0 x hx)
 have ats := fun x hx => (arel_at ar 0 x hx)
 have h62 : ∀ x ∈ bm as bs 0, x.2.2 ≤ 62 := fun x hx => (heads x hx).1
 generalize hLL : bm as bs 0 = L at *
 have hA : ∀ b, sf.ow b = .st → ow0 s lent L b = .st := fun b hb => by
   rcases fz.ow b with h1 | ⟨_, p, h1, h2⟩
   · exact ow0_st (h1 ▸ hb)
   · exact ow0_lent h1 h2
 have hkeyof : ∀ b k, sf.ow b = .key k → s.ow b = .key k := fun b k hb => by
   rcases fz.ow b with h1 | ⟨h1, _⟩
   · exact h1 ▸ hb
   · rw [h1] at hb; cases hb
 have hlk : ∀ k k', keyIn L k = some k' → isLent lent k = false := fun k k' hk => by
   obtain ⟨i, j, n, x, a1, rfl, a3, _⟩ := keyIn_some hk
   exact hfr i j n a1 x a3
 have hG : ∀ b, ow0 s lent L b ≠ .no → sf.ow b ≠ .no := fun b hb => by
   rcases fz.ow b with h1 | ⟨h1, _⟩
   · rw [h1]; intro hno; exact hb (by simp only [ow0, hno])
   · rw [h1]; intro h; cases h
 have hsz : s.w.heap.size = sf.w.heap.size := by rw [fz.w]
 have hkp : Keep (fun b => ∃ k, ow0 s lent L b = .key k) sf.w w' := by rw [fz.w]; exact lv.keep
 have hx1 : ∀ b, (∃ k, ow0 s lent L b = .key k) → ∃ k k', sf.ow b = .key k ∧ keyIn L k = some k' := by
   rintro b ⟨k', hb⟩
   rcases ow0_inv (s := s) (lent := lent) (L := L) (b := b) with h1 | ⟨k, k2, h1, h2, h3, h4⟩ | h1
   · rw [h1.1] at hb; cases hb
   · rcases fz.ow b with h5 | ⟨_, p, h5, h6⟩
     · exact ⟨k, k2, h5.trans h2, h4⟩
     · rw [h2] at h5; cases h5; rw [h3] at h6; cases h6
   · rw [h1] at hb; cases hb
 have hfresh : ∀ b, ow1 b ≠ .no → sf.ow b ≠ .no ∨ G.w0.heap.size ≤ b := fun b hb => by
   rcases lv.ex b hb with h1 | h1 | ⟨k, h1⟩
   · exact .inl (hG b (by rw [h1]; intro h; cases h))
   · exact .inr (Nat.le_trans (Nat.le_trans okf.keep.size (Nat.le_of_eq hsz.symm)) h1)
   · exact .inl (hG b (by rw [h1]; intro h; cases h))
 have hrest : ∀ b, rest sf L b ≠ .no → sf.ow b ≠ .no := fun b hb hno => hb (by simp only [rest, hno])
 have how1 : ∀ b, owAfter sf L (leadsAny r) ow1 b ≠ .no → ow1 b ≠ .no ∨ sf.ow b ≠ .no := fun b hb => by
   cases h1 : ow1 b with
   | no => exact .inr (hrest b (by simp only [owAfter, h1] at hb; exact hb))
   | _ => exact .inl (by intro h; cases h)
 have hst : ∀ b, sf.ow b = .st → owAfter sf L (leadsAny r) ow1 b = .st := fun b hb => by
   have h1 := lv.st b (hA b hb)
   simp only [owAfter, h1]
   cases leadsAny r
   · simp only [cond_false, rest, hb]
   · rfl
 have hstay : ∀ b k, sf.ow b = .key k → keyIn L k = none → (leadsAny r = true → isLent lent k = false) → w'.heap[b]? = sf.w.heap[b]? ∧ owAfter sf L (leadsAny r) ow1 b = sf.ow b := fun b k hb hk hld => by
   rw [hb]
   have hsb := hkeyof b k hb
   have hr1 : rest sf L b = .key k := by simp only [rest, hb, hk]; rfl
   have hlt := okf.lt b (by rw [hb]; intro h; cases h)
   cases hl : isLent lent k with
   | false =>
     have h0 := ow0_none (L := L) hsb hl hk
     refine ⟨hkp.block b hlt (by rintro ⟨k', h⟩; rw [h0] at h; cases h), ?_⟩
     have h1 : ow1 b = .no := by
       cases h2 : ow1 b with
       | no => rfl
       | _ =>
         exfalso
         rcases lv.ex b (by rw [h2]; intro h; cases h) with h3 | h3 | ⟨k', h3⟩
         · rw [h0] at h3; cases h3
         · omega
         · rw [h0] at h3; cases h3
     simp only [owAfter, h1, hr1]
   | true =>
     have h0 := ow0_lent (L := L) hsb hl
     refine ⟨hkp.block b hlt (by rintro ⟨k', h⟩; rw [h0] at h; cases h), ?_⟩
     have h1 := lv.st b h0
     cases hq : leadsAny r with
     | true => rw [hld hq] at hl; cases hl
     | false => simp only [owAfter, h1, cond_false, hr1]
 have hw : ∀ b, sf.ow b = .st → w'.heap[b]? = sf.w.heap[b]? := fun b hb => hkp.block b (okf.lt b (by rw [hb]; intro h; cases h)) (by rintro ⟨k', h⟩; rw [hA b hb] at h; cases h)
 let s' : St := { ts := ts1, a := sf.a, w := w', cv := cvAfter sf L w', ow := owAfter sf L (leadsAny r) ow1, pd := pdAfter (cellsR r.vals) us }
 have hcv0 : ∀ k, inBoxes L k = false → s'.cv k = sf.cv k := fun k hk => by show cvAfter sf L w' k = _; simp only [cvAfter, hk, cond_false]
 have hkept : ∀ i j n q, (i, j, n) ∈ L → q < n → hasBit kq (1 + q) = true → s'.cv (key j (1 + q)) = sf.cv (key j (1 + q)) := fun i j n q hm hq hb => by
   obtain ⟨_, e, cs, b, a1, a2, a3, a4⟩ := ats _ hm
   obtain ⟨rs', us', b', e', g1, g2, g3, g4, g5, g6, g7, g8, g9⟩ := boxes i j n hm
   have hn := h62 _ hm
   dsimp only at a1 a2 a3 a4 hn
   rw [a3] at g2; cases g2
   rw [Nat.sub_zero] at a1 a2
   have he : e' = e := by
     obtain ⟨_, e2, b2, h1, h2, h3, _⟩ := heads _ hm
     have hk := lv.keep
     dsimp only at h1 h3
     have hb2 := g3
     rw [h1] at hb2; cases hb2
     have := okf.main j (by intro h; cases h)
     have hse : sf.ts.get (key j 0) = s.ts.get (key j 0) := by
       rcases fz.ent (key j 0) with h5 | ⟨_, ⟨_, h5⟩, _⟩
       · exact h5
       · rw [g3] at h5; cases h5
     rw [MainOk, hse, h1] at this
     obtain ⟨_, _, b3, q1, _, q3, _⟩ := this
     rw [fz.cv, a3] at q1; cases q1
     rw [fz.w] at q3
     have q4 := Option.some.inj (a4.symm.trans q3)
     injection q4 with _ q5 _
     exact q5.symm
   subst he
   have hf := lv.fix i e' cs b _ _ a1 a2 a4 g7 q (by omega) hb
   show cvAfter sf L w' _ = _
   simp only [cvAfter, inBoxes_mem hL hm hq hn, cond_true, key_div (show 1 + q < 64 by omega), key_mod (show 1 + q < 64 by omega), fz.cv, a3, g7]
   rw [show 1 + q - 1 = q by omega, hf, Array.getD_eq_getD_getElem?, List.getElem?_toArray, cvals_get _ _ _ _ _ hq]
   rfl
 have hout : ∀ k, inBoxes L k = false → ts1.get k = sf.ts.get k := fun k hk => hts k fun i j n hm q hq e => by
   rw [e, inBoxes_mem hL hm hq (h62 _ hm)] at hk; cases hk
 have hS1 : leadsAny r = true → ∀ b, ow1 b = .st → s'.S b := fun hq b hb => by
   show owAfter sf L (leadsAny r) ow1 b = .st
   simp only [owAfter, hb, hq, cond_true]
 have came : ∀ (c : RC) (u : Value) (oo oo' : Ow), RCOk P w' ow1 oo c u → (leadsAny r = false → c.leads = false) → (∀ b, ow1 b = oo → s'.ow b = oo') → oo ≠ .st → match c with
     | .im t => RT s'.w s'.S t u
     | .own e t => OwnOk P s'.w s'.S e t u ∧ ∀ b, u.ownBlock = some b → s'.ow b = oo'
     | .nil => u = .slice none 0 0 := by
   intro c u oo oo' hc hl ho _
   cases c with
   | im t =>
     cases hq : leadsAny r with
     | true => exact RT.mono hc (hS1 hq) (fun _ _ => rfl)
     | false => exact RT.nolead hc (hl hq)
   | own e t =>
     refine ⟨?_, fun b hb => ho b (hc.2 b hb)⟩
     cases hq : leadsAny r with
     | true => exact hc.1.mono (hS1 hq) (fun _ _ => rfl) (fun _ _ => rfl)
     | false => exact hc.1.nolead (hl hq)
   | nil => exact hc
 have hnl : leadsAny r = false → (∀ c ∈ cellsR r.vals, c.leads = false) ∧ ∀ rs ∈ r.boxes, ∀ c ∈ rs, c.leads = false := fun hq => by
   simp only [leadsAny, Bool.or_eq_false_iff, List.any_eq_false] at hq
   refine ⟨fun c hc => ?_, fun rs hrs c hc => ?_⟩
   · obtain ⟨x, hx, hcx⟩ := List.mem_flatMap.1 hc
     have := hq.1 x hx
     cases x with
     | one c' => simp only [rvCells, List.mem_singleton] at hcx; subst hcx; simpa [RV.leads] using this
     | agg cs =>
       simp only [rvCells] at hcx
       simp only [RV.leads, List.any_eq_true, not_exists, not_and] at this
       simpa using this c hcx
   · have := hq.2 rs hrs
     simp only [List.any_eq_true, not_exists, not_and] at this
     simpa using this c hc
 refine ⟨s', rfl, rfl, rfl, Goes.ok (s := sf) (hm := none) (hc := none) ?_ okf, ?_⟩
 · exact {
     keep := ⟨_, hkp, fun b hb => by
       obtain ⟨k, k', h1, h2⟩ := hx1 b hb
       exact okf.ex' b (by rw [h1]; intro h; cases h) (by rw [h1]; intro h; cases h)⟩
     nt := rfl
     df := rfl
     lt := fun b hb => by
       rcases how1 b hb with h1 | h1
       · exact .inr (lv.lt b h1)
       · exact .inl h1
     ex := fun b hb => by
       rcases how1 b hb with h1 | h1
       · rcases hfresh b h1 with h2 | h2
         · exact .inl h2
         · exact .inr (.inl h2)
       · exact .inl h1
     S := fun b hb => hst b hb
     w := fun b hb => hw b hb
     ver := fun k => by
       cases hk : inBoxes L k with
       | false => rw [show s'.ts.get k = sf.ts.get k from hout k hk]; exact ⟨Nat.le_refl _, fun _ => ⟨hcv0 k hk, id⟩⟩
       | true =>
         obtain ⟨i, j, n, q, hm, hq, rfl⟩ := inBoxes_some h62 hk
         obtain ⟨rs, h1, h2, h3⟩ := hbx i j n hm
         have h4 := (h3 q rs[q] (List.getElem?_eq_getElem (by omega))).1
         cases hkb : hasBit kq (1 + q) with
         | false =>
           have h5 : (s'.ts.get (key j (1 + q))).ver = Nat.succ (sf.ts.get (key j (1 + q))).ver := by rw [show s'.ts.get (key j (1 + q)) = _ from h4, hkb]; cases rs[q] <;> rfl
           exact ⟨by omega, fun h => by omega⟩
         | true =>
           have h5 : (sf.ts.get (key j (1 + q))).ver ≤ (s'.ts.get (key j (1 + q))).ver ∧ isBox (s'.ts.get (key j (1 + q))).k = false := by
             rw [show s'.ts.get (key j (1 + q)) = _ from h4, hkb]; cases rs[q] <;> exact ⟨by simp [rcEntK, rcEnt], rfl⟩
           exact ⟨h5.1, fun _ => ⟨hkept i j n q hm hq hkb, fun hb => by rw [h5.2] at hb; cases hb⟩⟩
     cell := fun k _ => by
       cases hk : inBoxes L k with
       | false =>
         refine .inr ⟨(nomatch ·), hout k hk, hcv0 k hk, fun e he b hb hob => ?_⟩
         refine hstay b k hob ?_ ?_
         · cases hki : keyIn L k with
           | none => rfl
           | some k' =>
             exfalso
             obtain ⟨i, j, n, x, a1, rfl, a3, _⟩ := keyIn_some hki
             cases x with
             | zero =>
               obtain ⟨_, e2, b2, h1, _⟩ := heads _ a1
               dsimp only at h1
               rcases fz.ent (key j 0) with h5 | ⟨_, ⟨_, h5⟩, _⟩
               · rw [h5, h1] at he; cases he
               · rw [h1] at h5; cases h5
             | succ x => rw [Nat.add_comm x 1, inBoxes_mem hL a1 (show x < n by omega) (h62 _ a1)] at hk; cases hk
         · intro hq
           cases hl : isLent lent k with
           | false => rfl
           | true => rw [hfz hq k hl] at he; cases he
       | true =>
         left
         obtain ⟨i, j, n, q, hm, hq, rfl⟩ := inBoxes_some h62 hk
         obtain ⟨rs, h1, h2, h3⟩ := hbx i j n hm
         obtain ⟨rs', us', b, e, g1, g2, g3, g4, g5, g6, g7, g8, g9⟩ := boxes i j n hm
         rw [h1] at g1; cases g1
         have hqr : rs[q]? = some rs[q] := List.getElem?_eq_getElem (by omega)
         have hqu : us'[q]? = some us'[q] := List.getElem?_eq_getElem (by omega)
         have h4 := (h3 q rs[q] hqr).1
         have h5 := g9 q rs[q] us'[q] hqr hqu
         have hcv : s'.cv (key j (1 + q)) = us'[q] := by
           show cvAfter sf L w' _ = _
           have hn := h62 _ hm; dsimp only at hn
           simp only [cvAfter, hk, cond_true, key_div (show 1 + q < 64 by omega), key_mod (show 1 + q < 64 by omega), fz.cv, g2, g7]
           rw [show 1 + q - 1 = q by omega]
           simp [show q < us'.length by omega]
         have h6 := came rs[q] us'[q] (.key (key i (1 + q))) (.key (key j (1 + q))) h5 (fun hq' => (hnl hq').2 rs (by
             have hb : ∀ (as : List AD) (rss : List (List RC)) (i0 i : Nat) (rs : List RC), boxAt as rss i0 i = some rs → rs ∈ rss := by
               intro as
               induction as with
               | nil => intro rss i0 i rs h; cases h
               | cons a as ih =>
                 intro rss i0 i rs h
                 cases a with
                 | one _ => exact ih rss (i0 + 1) i rs h
                 | agg _ => exact ih rss (i0 + 1) i rs h
                 | box _ _ =>
                   cases rss with
                   | nil => cases h
                   | cons x rss =>
                     simp only [boxAt] at h
                     split at h
                     · cases h; simp
                     · exact List.mem_cons_of_mem _ (ih rss (i0 + 1) i rs h)
             exact hb _ _ _ _ _ h1) _ (List.getElem_mem _)) (fun b hb => by
           show owAfter sf L (leadsAny r) ow1 b = _
           have hn := h62 _ hm; dsimp only at hn
           simp only [owAfter, hb, keyOut_mem hL hm (show 1 + q < 64 by omega)]) (by intro h; cases h)
         rw [CellOk, show s'.ts.get (key j (1 + q)) = _ from h4, hcv]
         cases hc : rs[q] with
         | im t => rw [hc] at h6; exact h6
         | own e2 t => rw [hc] at h6; cases hasBit kq (1 + q) <;> exact h6
         | nil => rw [hc] at h6; rw [h6]; exact .nil
     main := fun i _ => by
       by_cases hi : ∃ i0 n, (i0, i, n) ∈ L
       · left
         obtain ⟨i0, n, hm⟩ := hi
         obtain ⟨rs', us', b, e, g1, g2, g3, g4, g5, g6, g7, g8, g9⟩ := boxes i0 i n hm
         have hn := h62 _ hm; dsimp only at hn
         have hh := hout (key i 0) (inBoxes_head i)
         have hse : sf.ts.get (key i 0) = s.ts.get (key i 0) := by
           rcases fz.ent (key i 0) with h5 | ⟨_, ⟨_, h5⟩, _⟩
           · exact h5
           · rw [g3] at h5; cases h5
         obtain ⟨_, _, _, _, ⟨zz, hzz⟩, _⟩ := heads _ hm
         rw [MainOk, show s'.ts.get (key i 0) = _ from hh, hse, g3]
         dsimp only at hzz ⊢
         rw [hzz]
         refine ⟨hn, Nat.le_refl _, b, by rw [hcv0 _ (inBoxes_head i), fz.cv, g2], by rw [show s'.a = s.a from fz.a]; exact g4, ?_, ?_⟩
         · rw [show s'.w = w' from rfl, g7]
           congr 3
           have := cvals_eq (cv := s'.cv) (s := i) (o := 1) (vs := us') fun m v hmv => by
             have hlt := (List.getElem?_eq_some_iff.1 hmv).1
             have hk := inBoxes_mem hL hm (show m < n by omega) hn
             show cvAfter sf L w' _ = _
             simp only [cvAfter, hk, cond_true, key_div (show 1 + m < 64 by omega), key_mod (show 1 + m < 64 by omega), fz.cv, g2, g7]
             rw [show 1 + m - 1 = m by omega]
             simp [hmv]
           rw [← g6]; exact this.symm
         · show owAfter sf L (leadsAny r) ow1 b = _
           simp only [owAfter, g8, keyOut_mem hL hm (show 0 < 64 by omega)]
       · refine .inr ⟨(nomatch ·), hout _ (inBoxes_head i), rfl, fun o ho => hcv0 _ ?_, fun he b hb => hstay b _ hb ?_ fun hq => ?_⟩
         · cases hk : inBoxes L (key i o) with
           | false => rfl
           | true =>
             obtain ⟨i0, j, n, q, hm, hq, he⟩ := inBoxes_some h62 hk
             have hn := h62 _ hm; dsimp only at hn
             have : i = j := by rw [key_eq, key_eq] at he; omega
             subst this; exact absurd ⟨i0, n, hm⟩ hi
         · cases hk : keyIn L (key i 0) with
           | none => rfl
           | some k' =>
             obtain ⟨i0, j, n, x, hm, he, hx, _⟩ := keyIn_some hk
             have hn := h62 _ hm; dsimp only at hn
             have : i = j := by rw [key_eq, key_eq] at he; omega
             subst this; exact absurd ⟨i0, n, hm⟩ hi
         · cases hl : isLent lent (key i 0) with
           | false => rfl
           | true => rw [hfz hq _ hl] at he; cases he
     pok := fun i x hx => by
       left
       have hx' : pdAfter (cellsR r.vals) us i = some x := hx
       unfold pdAfter at hx'
       split at hx'
       · rename_i e t u h1 h2
         cases hx'
         exact came (.own e t) u (.pd i) (.pd i) (hrc i _ u h1 h2) (fun hq => (hnl hq).1 _ (List.mem_of_getElem? h1)) (fun b hb => by show owAfter sf L (leadsAny r) ow1 b = _; simp only [owAfter, hb]) (by intro h; cases h)
       · cases hx'
     prot := fun i _ hb => by
       have hh := hout (key i 0) (inBoxes_head i)
       rw [show s'.ts.get (key i 0) = _ from hh] at hb
       exact ⟨hb, hcv0 _ (inBoxes_head i)⟩
     fix := fun k hk' => by
       cases hk : inBoxes L k with
       | false => exact hcv0 k hk
       | true =>
         obtain ⟨i, j, n, q, hm, hq, rfl⟩ := inBoxes_some h62 hk
         have hn := h62 _ hm; dsimp only at hn
         obtain ⟨rs, h1, h2, h3⟩ := hbx i j n hm
         rw [fixed_key (by omega)] at hk'
         exact hkept i j n q hm hq ((h3 q rs[q] (List.getElem?_eq_getElem (by omega))).2 hk') }
 ·
   have hcs : CVsOk False s' 0 ((cellsR r.vals).map RC.cv) us := by
     refine ⟨by simp [hul], fun j c u hc hu => ?_⟩
     rw [List.getElem?_map] at hc
     cases hx : (cellsR r.vals)[j]? with
     | none => rw [hx] at hc; cases hc
     | some rc =>
       rw [hx] at hc; cases hc
       have h1 := came rc u (.pd j) (.pd j) (hrc j rc u hx hu) (fun hq => (hnl hq).1 _ (List.mem_of_getElem? hx)) (fun b hb => by show owAfter sf L (leadsAny r) ow1 b = _; simp only [owAfter, hb]) (by intro h; cases h)
       cases rc with
       | im t => exact h1
       | own e t =>
         refine ⟨id, ?_⟩
         show pdAfter (cellsR r.vals) us (0 + j) = _
         simp only [pdAfter, Nat.zero_add, hx, hu]
       | nil => exact h1
   have tup : ∀ l : List RV, l = r.vals → v = .tuple (tupOf (l.map shR) us).toArray → DOk False s' (.tup (l.map fun | .one _ => 0 | .agg cs => cs.length + 1) (l.flatMap fun | .one c => [c.cv] | .agg cs => cs.map RC.cv)) v := by
     intro l hl hv'
     refine ⟨us, ?_, ?_⟩
     · rw [hv']; congr 3
     · have : (l.flatMap fun | .one c => [c.cv] | .agg cs => cs.map RC.cv) = (cellsR r.vals).map RC.cv := by
         rw [← hl, cellsR, List.map_flatMap]
         congr 1; funext x; cases x <;> rfl
       rw [this]; exact hcs
   match hr : r.vals, hv, tup with
   | [], hv, tup => exact tup [] rfl hv
   | [.one c], hv, _ =>
     have h1 : (cellsR r.vals).map RC.cv = [c.cv] := by rw [hr]; rfl
     rw [h1] at hcs
     match us, hv, hcs with
     | [], _, hcs => exact absurd hcs.1 (by simp)
     | u :: ur, hv, hcs => rw [hv]; exact hcs.2 0 c.cv u rfl rfl
   | [.agg cs], hv, _ =>
     have h1 : (cellsR r.vals).map RC.cv = cs.map RC.cv := by rw [hr]; simp [cellsR, rvCells]
     rw [h1] at hcs
     exact ⟨us, hv, hcs⟩
   | x :: y :: l, hv, tup =>
     have h1 := tup (x :: y :: l) rfl (by cases x <;> exact hv)
     cases x <;> exact h1
end
end Go.Proofs.Ytbaihlhoedbpkaa.Tm
namespace Go.Proofs.Ytbaihlhoedbpkaa.Tm
open Go
section
variable {P : Program} {G : Ctx} {s : St} {cf : FuncId → List AD → Option Res} {ts ts' : TS} {o : Out} {E : Env}
theorem callD_ok (h : Ok P G s) (hm : Meets P E cf) {g : FuncId} {ds : List D} {vs : List Value} {kk : D → Prog} (hd : DsOk True s ds vs) (hr : Runs cf (callD E G.prot G.kp g ds kk) s.ts o ts') :
   (∃ fn, P.funcs[g]? = some fn ∧ fn.body.isSome = true ∧ fn.name ≠ "runtime.NumGoroutine") ∧
   Calls P g vs.toArray s.w fun e w' => ∃ v, e = .returned v ∧ ∃ s' d, s'.w = w' ∧ Ok P G s' ∧ s'.a = s.a ∧ DOk False s' d v ∧ Runs cf (kk d) s'.ts o ts' := by
 obtain ⟨a, ar, hr1⟩ := argsD_ok h hd hr
 cases hc : a.lent.all (apartFrom a.bs) && distinctSlots a.bs with
 | false => rw [hc] at hr1; exact (Runs.fail hr1).elim
 | true =>
   rw [hc] at hr1
   rw [Bool.and_eq_true] at hc
   obtain ⟨r, hcf, hr2⟩ := Runs.call hr1
   obtain ⟨hfn, hcall⟩ := hm g a.as r hcf
   obtain ⟨hfr, hL, hen⟩ := entry_ok h ar hc.1 hc.2
   refine ⟨hfn, (hcall vs s.w _ hen).mono fun e w' => ?_⟩
   rintro ⟨v, ow', rfl, lv⟩
   refine ⟨v, rfl, ?_⟩
   have fin : ∀ sf, Ok P G sf → Frz a.lent s sf → (leadsAny r = true → ∀ k, isLent a.lent k = true → (sf.ts.get k).k = .im) → Runs cf (putBoxes G.prot G.kp (keptOf E g) a.bs r.boxes fun _ => kk (resD r.vals)) sf.ts o ts' →
       ∃ s' d, s'.w = w' ∧ Ok P G s' ∧ s'.a = s.a ∧ DOk False s' d v ∧ Runs cf (kk d) s'.ts o ts' := by
     intro sf okf fz hfz hr3
     obtain ⟨ts1, g1, g2, g3⟩ := putBoxes_run (as := a.as) (i0 := 0) hL (fun x hx => ⟨(arel_boxes ar 0 x hx).1, Nat.zero_le _⟩) (bm_bs ar 0) hr3
     obtain ⟨s', a1, a2, a3, a4, a5⟩ := back_ok okf ar fz hL hfr lv hfz g2 g3
     exact ⟨s', _, a1, a4, a2.trans fz.a, a5, by rw [a3]; exact g1⟩
   cases hl : leadsS E r with
   | false =>
     rw [hl] at hr2
     replace hr2 := Runs.test hr2
     cases hl2 : leadsAny r with
     | true => rw [hl2] at hr2; exact (Runs.fail hr2).elim
     | false =>
       rw [hl2] at hr2
       exact fin s h (Frz.refl _ s) (fun hq => by rw [hl2] at hq; cases hq) hr2
   | true =>
     rw [hl] at hr2
     obtain ⟨sf, h1, h2, h3, h4⟩ := freezeAll_ok a.lent h (fun c hc => hc) (fun p n e t hp => by have := arel_lent ar p n e t hp; exact ⟨this.1, this.2.2⟩) hr2
     exact fin sf h1 h2 (fun _ => h3) h4
def After (P : Program) (G : Ctx) (cf : FuncId → List AD → Option Res) (kk : Unit → Prog) (o : Out) (ts' : TS) (a : Act) (w : World) : Prop :=
 ∃ s', s'.a = a ∧ s'.w = w ∧ Ok P G s' ∧ Runs cf (kk ()) s'.ts o ts'
theorem put_size (a : Act) (d : Option Tmp) (v : Value) : (a.put d v).tmps.size = a.tmps.size := by cases d <;> simp [Act.put]
def dstK (E : Env) (dst : Option Tmp) (ty : TypeId) (d : D) (kk : Unit → Prog) : Prog := match dst with
 | some i => setD E i ty d kk
 | none => kk ()
theorem dst_ok {dst : Option Tmp} {ty : TypeId} {d : D} {v : Value} {kk : Unit → Prog} (h : Ok P G s) (hd : ∀ i, dst = some i → i < s.a.tmps.size ∧ hasBit G.prot i = false) (hD : DOk False s d v)
   (hr : Runs cf (dstK E dst ty d kk) s.ts o ts') : After P G cf kk o ts' (s.a.put dst v) s.w := by
 cases dst with
 | none => exact ⟨s, rfl, rfl, h, hr⟩
 | some i =>
   obtain ⟨s', ok', _, a', w', hr'⟩ := setD_ok h (hd i rfl).1 (hd i rfl).2 hD hr
   exact ⟨s', a', w', ok', hr'⟩
theorem step_pure {op : Oper} {X : C D} {m : Sem Value} {kk : Unit → Prog} (h : Ok P G s) (hd : ∀ i, op.dst = some i → i < s.a.tmps.size ∧ hasBit G.prot i = false) (hX : Pure P s X m)
   (he : execOp s.a.eval op = (do pure (.value (← m)))) (hr : Runs cf (dstD E op.dst op.type X kk) s.ts o ts') {Q : Exit → Act → World → Prop} : op.wp P s.a s.w (After P G cf kk o ts') Q := by
 obtain ⟨d, v, h1, h2, h3⟩ := hX cf (fun d => dstK E op.dst op.type d kk) o ts' hr
 have hrun : (execOp s.a.eval op).run P s.w = .ok (.value v) s.w := by rw [he]; simp [h1]
 rw [Oper.wp, hrun, Oper.upon_value]
 exact dst_ok h hd h2 h3
theorem step_mem {op : Oper} {m : Sem Value} {kk : Unit → Prog} (hd : ∀ i, op.dst = some i → i < s.a.tmps.size ∧ hasBit G.prot i = false)
   (hX : ∃ d v s', m.run P s.w = .ok v s'.w ∧ Ok P G s' ∧ s'.a = s.a ∧ DOk False s' d v ∧ Runs cf (dstK E op.dst op.type d kk) s'.ts o ts')
   (he : execOp s.a.eval op = (do pure (.value (← m)))) {Q : Exit → Act → World → Prop} : op.wp P s.a s.w (After P G cf kk o ts') Q := by
 obtain ⟨d, v, s', h1, h2, h3, h4, h5⟩ := hX
 have hrun : (execOp s.a.eval op).run P s.w = .ok (.value v) s'.w := by rw [he]; simp [h1]
 rw [Oper.wp, hrun, Oper.upon_value, ← h3]
 exact dst_ok h2 (by rw [h3]; exact hd) h4 h5
end
end Go.Proofs.Ytbaihlhoedbpkaa.Tm
namespace Go.Proofs.Ytbaihlhoedbpkaa.Tm
open Go
section
variable {P : Program} {G : Ctx} {s : St} {cf : FuncId → List AD → Option Res} {ts ts' : TS} {o : Out} {E : Env}
theorem Pure.opd (h : Ok P G s) {x : Operand} {X : D → C D} {m : Sem Value} (hX : ∀ d, DOk True s d (s.a.eval x) → Pure P s (X d) m) : Pure P s (fun k => opd x fun d => X d k) m := fun cf kk o ts' hr => by
 obtain ⟨d, hd, hr1⟩ := opd_ok h hr
 exact hX d hd cf kk o ts' hr1
theorem nil_ofValue (g : FuncId) (args : Array Value) (w : World) : (Deferred.ofValue (.func (.func g) #[] #[]) args).run P w = .ok { target := .fn (.func g) #[], args := #[] ++ args } w := rfl
theorem run_call_builtin {b : Builtin} {args : Array Operand} {tys : Array TypeId} {dst : Option Tmp} {ty : TypeId} {pos : String} {af : Array Edge} {gd : Option (Nat × Bool)} (ρ : Operand → Value) (w : World) :
   ∃ consts, (execOp ρ ⟨dst, .call ⟨.builtin b, args, tys⟩, ty, pos, af, gd⟩).run P w = (builtin b tys ty consts (args.map ρ)).run P w := by
 refine ⟨args.map fun | .const _ => true | _ => false, ?_⟩
 simp [execOp, resolve, invoke]
 rfl
theorem call_builtin_ok {op : Oper} {b : Builtin} {args : Array Operand} {tys : Array TypeId} {kk : Unit → Prog} (h : Ok P G s) (hE : EnvOk P E) (ho : op.op = .call ⟨.builtin b, args, tys⟩) (hd : ∀ i, op.dst = some i → i < s.a.tmps.size ∧ hasBit G.prot i = false)
   {ds : List D} (hds : DsOk True s ds (args.toList.map s.a.eval)) (hr : Runs cf (builtinD E b tys ds fun d => dstK E op.dst op.type d kk) s.ts o ts') {Q : Exit → Act → World → Prop} : op.wp P s.a s.w (After P G cf kk o ts') Q := by
 have hargs : args.map s.a.eval = (args.toList.map s.a.eval).toArray := by rw [← Array.toList_map]
 have go : ∀ (m : Sem Value), (∀ consts w, (builtin b tys op.type consts (args.map s.a.eval)).run P w = ((do pure (Next.value (← m))) : Sem Next).run P w) →
     (∃ d v s', m.run P s.w = .ok v s'.w ∧ Ok P G s' ∧ s'.a = s.a ∧ DOk False s' d v ∧ Runs cf (dstK E op.dst op.type d kk) s'.ts o ts') → op.wp P s.a s.w (After P G cf kk o ts') Q := by
   intro m hm hX
   obtain ⟨d, v, s', h1, h2, h3, h4, h5⟩ := hX
   have hrun : (execOp s.a.eval op).run P s.w = .ok (.value v) s'.w := by
     obtain ⟨dst, op', ty, pos, af, gd⟩ := op
     subst ho
     obtain ⟨consts, hc⟩ := run_call_builtin (P := P) (b := b) (args := args) (tys := tys) (dst := dst) (ty := ty) (pos := pos) (af := af) (gd := gd) s.a.eval s.w
     rw [hc, hm]; simp [h1]
   rw [Oper.wp, hrun, Oper.upon_value, ← h3]
   exact dst_ok h2 (by rw [h3]; exact hd) h4 h5
 have two : ∀ x y, ds = [x, y] → ∃ vx vy, args.toList.map s.a.eval = [vx, vy] ∧ DOk True s x vx ∧ DOk True s y vy := by
   intro x y he
   subst he
   obtain ⟨vx, r, e1, h1, h2⟩ := hds.cons_inv
   obtain ⟨vy, r', e2, h3, h4⟩ := h2.cons_inv
   have : r' = [] := List.eq_nil_of_length_eq_zero h4.1
   subst this; subst e2
   exact ⟨vx, vy, e1, h1, h3⟩
 cases b with
 | len =>
   match ds, hds, hr with
   | [x], hds, hr =>
     obtain ⟨vx, r, e1, h1, h2⟩ := hds.cons_inv
     have : r = [] := List.eq_nil_of_length_eq_zero h2.1
     subst this
     have hr' : Runs cf ((match tys[0]? with | some t => lenD E t x | none => C.fail) fun d => dstK E op.dst op.type d kk) s.ts o ts' := hr
     cases h0 : tys[0]? with
     | none => rw [h0] at hr'; exact (Runs.fail hr').elim
     | some t =>
       rw [h0] at hr'
       obtain ⟨d, v, g1, g2, g3⟩ := lenD_ok (ty := op.type) h hE h1 tys h0 cf _ o ts' hr'
       exact go (Builtin.len_ tys op.type #[vx]) (fun _ w => by rw [hargs, e1]; rfl) ⟨d, v, s, g1, h, rfl, g2, g3⟩
   | [], _, hr => exact (Runs.fail hr).elim
   | _ :: _ :: _, _, hr => exact (Runs.fail hr).elim
 | append =>
   match ds, two, hr with
   | [x, y], two, hr =>
     obtain ⟨vx, vy, e1, h1, h2⟩ := two x y rfl
     have hr' : Runs cf ((match tys[0]?, tys[1]? with | some t, some t' => bif Nat.beq t t' then appendD E t x y else C.fail | _, _ => C.fail) fun d => dstK E op.dst op.type d kk) s.ts o ts' := hr
     cases h0 : tys[0]? with
     | none => rw [h0] at hr'; exact (Runs.fail hr').elim
     | some t =>
       cases h3 : tys[1]? with
       | none => rw [h0, h3] at hr'; exact (Runs.fail hr').elim
       | some t' =>
         rw [h0, h3] at hr'
         dsimp only at hr'
         cases hb : Nat.beq t t' with
         | false => rw [hb] at hr'; exact (Runs.fail hr').elim
         | true =>
           rw [hb] at hr'
           have := (beq_iff _ _).1 hb; subst this
           refine go (Builtin.append_ #[t, t] op.type #[vx, vy]) (fun consts w => ?_) (appendD_ok h hE h1 h2 hr')
           rw [hargs, e1]
           have : Builtin.append_ tys op.type #[vx, vy] = Builtin.append_ #[t, t] op.type #[vx, vy] := by simp [Builtin.append_, h0, h3]
           show ((do pure (Next.value (← Builtin.append_ tys op.type #[vx, vy])) : Sem Next)).run P w = _
           rw [this]
   | [], _, hr => exact (Runs.fail hr).elim
   | [_], _, hr => exact (Runs.fail hr).elim
   | _ :: _ :: _ :: _, _, hr => exact (Runs.fail hr).elim
 | copy =>
   match ds, two, hr with
   | [x, y], two, hr =>
     obtain ⟨vx, vy, e1, h1, h2⟩ := two x y rfl
     have hr' : Runs cf ((match tys[0]?, tys[1]? with | some t, some t' => bif Nat.beq t t' then copyD E t x y else C.fail | _, _ => C.fail) fun d => dstK E op.dst op.type d kk) s.ts o ts' := hr
     cases h0 : tys[0]? with
     | none => rw [h0] at hr'; exact (Runs.fail hr').elim
     | some t =>
       cases h3 : tys[1]? with
       | none => rw [h0, h3] at hr'; exact (Runs.fail hr').elim
       | some t' =>
         rw [h0, h3] at hr'
         dsimp only at hr'
         cases hb : Nat.beq t t' with
         | false => rw [hb] at hr'; exact (Runs.fail hr').elim
         | true =>
           rw [hb] at hr'
           have := (beq_iff _ _).1 hb; subst this
           refine go (Builtin.copy_ #[t, t] op.type #[vx, vy]) (fun consts w => ?_) (copyD_ok h hE h1 h2 hr')
           rw [hargs, e1]
           have : Builtin.copy_ tys op.type #[vx, vy] = Builtin.copy_ #[t, t] op.type #[vx, vy] := by simp [Builtin.copy_, h0]
           show ((do pure (Next.value (← Builtin.copy_ tys op.type #[vx, vy])) : Sem Next)).run P w = _
           rw [this]
   | [], _, hr => exact (Runs.fail hr).elim
   | [_], _, hr => exact (Runs.fail hr).elim
   | _ :: _ :: _ :: _, _, hr => exact (Runs.fail hr).elim
 | min =>
   have hr1 : Runs cf (minB (fun b a => decide (b < a)) ds fun d => dstK E op.dst op.type d kk) s.ts o ts' := hr
   have hr2 := litsOf_ok (by have := hds.1; omega) hds.2 hr1
   match hvs : args.toList.map s.a.eval, hr2 with
   | [], hr2 => exact (Runs.fail hr2).elim
   | v :: r, hr2 =>
     obtain ⟨d, u, g1, g2, g3⟩ := minD_ok (P := P) (s := s) (fun b a => decide (b < a)) Builtin.min2 (fun k k' a b => by simp [Builtin.min2]) r v cf _ o ts' hr2
     exact go (Builtin.min_ tys op.type (v :: r).toArray) (fun _ w => by rw [hargs, hvs]; rfl) ⟨d, u, s, by simpa [Builtin.min_] using g1, h, rfl, g2, g3⟩
 | max =>
   have hr1 : Runs cf (minB (fun b a => decide (b > a)) ds fun d => dstK E op.dst op.type d kk) s.ts o ts' := hr
   have hr2 := litsOf_ok (by have := hds.1; omega) hds.2 hr1
   match hvs : args.toList.map s.a.eval, hr2 with
   | [], hr2 => exact (Runs.fail hr2).elim
   | v :: r, hr2 =>
     obtain ⟨d, u, g1, g2, g3⟩ := minD_ok (P := P) (s := s) (fun b a => decide (b > a)) Builtin.max2 (fun k k' a b => by simp [Builtin.max2]) r v cf _ o ts' hr2
     exact go (Builtin.max_ tys op.type (v :: r).toArray) (fun _ w => by rw [hargs, hvs]; rfl) ⟨d, u, s, by simpa [Builtin.max_] using g1, h, rfl, g2, g3⟩
 | _ => exact (Runs.fail hr).elim
theorem call_func_ok {op : Oper} {f : Operand} {g : FuncId} {args : Array Operand} {tys : Array TypeId} {kk : Unit → Prog} (h : Ok P G s) (hm : Meets P E cf) (ho : op.op = .call ⟨.value f, args, tys⟩) (hd : ∀ i, op.dst = some i → i < s.a.tmps.size ∧ hasBit G.prot i = false)
   (hf : s.a.eval f = .func (.func g) #[] #[]) {ds : List D} (hds : DsOk True s ds (args.toList.map s.a.eval)) (hr : Runs cf (callD E G.prot G.kp g ds fun d => dstK E op.dst op.type d kk) s.ts o ts') {Q : Exit → Act → World → Prop} : op.wp P s.a s.w (After P G cf kk o ts') Q := by
 obtain ⟨⟨fn, h1, h2, h3⟩, hc⟩ := callD_ok h hm hds hr
 have hargs : args.map s.a.eval = (args.toList.map s.a.eval).toArray := by rw [← Array.toList_map]
 have hrun : (execOp s.a.eval op).run P s.w = .ok (.enter g (args.toList.map s.a.eval).toArray) s.w := by
   obtain ⟨dst, op', ty, pos, af, gd⟩ := op
   subst ho
   have hn : (fn.name == "runtime.NumGoroutine") = false := by simpa using h3
   have hb : ¬ fn.body = none := by intro hb; rw [hb] at h2; cases h2
   simp [execOp, resolve, invoke, hf, nil_ofValue, callFunc, program, Sem.run, h1, h3, hb, hargs]
 rw [Oper.wp, hrun, Oper.upon_enter]
 refine hc.mono fun e w' => ?_
 rintro ⟨v, rfl, s', d, rfl, ok', ha, hD, hr'⟩
 dsimp only
 rw [← ha]
 exact dst_ok ok' (by rw [ha]; exact hd) hD hr'
theorem clo_ofValue (g : FuncId) (b : Nat) (args : Array Value) (w : World) : (Deferred.ofValue (cloVal g b) args).run P w = .ok { target := .fn (.func g) #[], args := #[.pointer (some ⟨b, 0, none⟩)] ++ args } w := rfl
theorem call_clo_ok {op : Oper} {f : Operand} {g j n : Nat} {args : Array Operand} {tys : Array TypeId} {kk : Unit → Prog} (h : Ok P G s) (hm : Meets P E cf) (ho : op.op = .call ⟨.value f, args, tys⟩) (hd : ∀ i, op.dst = some i → i < s.a.tmps.size ∧ hasBit G.prot i = false)
   (hf : DOk True s (.clo g j n) (s.a.eval f)) {ds : List D} (hds : DsOk True s ds (args.toList.map s.a.eval)) (hr : Runs cf (callD E G.prot G.kp g (.ad j n 0 :: ds) fun d => dstK E op.dst op.type d kk) s.ts o ts') {Q : Exit → Act → World → Prop} : op.wp P s.a s.w (After P G cf kk o ts') Q := by
 obtain ⟨f1, f2, f3⟩ := hf
 obtain ⟨b, hb1, hb2⟩ := f3 (f2 trivial).1 (f2 trivial).2
 have hds' : DsOk True s (.ad j n 0 :: ds) (.pointer (some ⟨b, 0, none⟩) :: args.toList.map s.a.eval) := by
   refine ⟨by simp [hds.1], fun i d v hi hv => ?_⟩
   match i, hi, hv with
   | 0, hi, hv =>
     simp at hi hv
     subst hi; subst hv
     exact ⟨f1, f2, fun _ _ => ⟨b, hb1, rfl⟩⟩
   | i + 1, hi, hv => exact hds.2 i d v (by simpa using hi) (by simpa using hv)
 obtain ⟨⟨fn, h1, h2, h3⟩, hc⟩ := callD_ok h hm hds' hr
 have hargs : args.map s.a.eval = (args.toList.map s.a.eval).toArray := by rw [← Array.toList_map]
 have hrun : (execOp s.a.eval op).run P s.w = .ok (.enter g (.pointer (some ⟨b, 0, none⟩) :: args.toList.map s.a.eval).toArray) s.w := by
   obtain ⟨dst, op', ty, pos, af, gd⟩ := op
   subst ho
   have hn : (fn.name == "runtime.NumGoroutine") = false := by simpa using h3
   have hb : ¬ fn.body = none := by intro hb; rw [hb] at h2; cases h2
   simp [execOp, resolve, invoke, hb2, clo_ofValue, callFunc, program, Sem.run, h1, h3, hb, hargs]
 rw [Oper.wp, hrun, Oper.upon_enter]
 refine hc.mono fun e w' => ?_
 rintro ⟨v, rfl, s', d, rfl, ok', ha, hD, hr'⟩
 dsimp only
 rw [← ha]
 exact dst_ok ok' (by rw [ha]; exact hd) hD hr'
theorem mapT_ok (hE : EnvOk P E) {t : TypeId} {kk : TypeId → Prog} (hr : Runs cf (mapT E t kk) ts o ts') : ∃ kt et, P.underlying t = some (.map kt et) ∧ P.underlying kt = some (.int .i64) ∧ Runs cf (kk et) ts o ts' := by
 unfold mapT at hr
 cases hi : lookT E.tys t with
 | none => rw [hi] at hr; exact (Runs.fail hr).elim
 | some i =>
   rw [hi] at hr
   dsimp only at hr
   cases hd : i.d <;> simp only [hd] at hr <;> try exact (Runs.fail hr).elim
   rename_i kt et
   cases hy : lookT E.tys kt with
   | none => rw [hy] at hr; exact (Runs.fail hr).elim
   | some y =>
     rw [hy] at hr
     dsimp only at hr
     cases hd2 : y.d <;> simp only [hd2] at hr <;> try exact (Runs.fail hr).elim
     rename_i k
     cases k <;> dsimp only at hr <;> try exact (Runs.fail hr).elim
     exact ⟨kt, et, hd ▸ (hE.ty _ _ hi).under, hd2 ▸ (hE.ty _ _ hy).under, hr⟩
theorem makeMap_ok {d : Nat} {kk : Unit → Prog} (ok : Ok P G s) (hd : d < s.a.tmps.size) (hp : hasBit G.prot d = false) (hr : Runs cf (bump (key d 0) (.mp [] 0 0) nob kk) s.ts o ts') :
   ∃ s', Ok P G s' ∧ s'.a = s.a.put (some d) (.map (some s.w.heap.size)) ∧ s'.w = s.w.alloc (.map #[] 0) ∧ Runs cf (kk ()) s'.ts o ts' := by
 have hkd : key d 0 / 64 = d := key_div (by omega)
 have hr1 := (Runs.get hr).put
 have hget : (s.bump (key d 0) (.mp [] 0 0) nob (.map (some s.w.heap.size))).ts.get (key d 0) = ⟨.mp [] 0 0, Nat.succ (s.ts.get (key d 0)).ver, nob⟩ := get_same _ _ _
 have ok1 := (ok.openM d).bump (key d 0) (.mp [] 0 0) nob (.map (some s.w.heap.size)) (by rw [hkd]) (fun _ => by rw [CellOk, hget]; trivial) (fun h => by cases h) (Ctx.free hp (by omega))
 obtain ⟨ok2, ev2⟩ := ok1.reblock (b := s.w.heap.size) (keep_alloc s.w (.map #[] 0) _) (.inr (Nat.le_refl _)) (by rw [show (s.w.alloc (.map #[] 0)).heap = s.w.heap.push _ from rfl, Array.size_push]; omega) (by intro e; rw [hget]; intro hh; cases hh)
 have ok3 := ok2.put (.map (some s.w.heap.size))
 refine ⟨_, ok3.closeM ?_, rfl, rfl, hr1⟩
 unfold MainOk
 simp only [St.reblock, hget]
 refine ⟨Nat.zero_le _, s.w.heap.size, #[], 0, upd_same _ _ _, by simp [Act.put, St.bump, hd], heap_alloc_new _ _, upd_same _ _ _, rfl, fun _ _ _ => rfl⟩
theorem OkH.rehead {d : Nat} {hc : Option Nat} (h : OkH P G (some d) hc s) (e : K) (t : T) (h1 : ∀ e', e ≠ .own e') (h2 : e ≠ .im) (h3 : ∀ p n, e ≠ .vw p n) (hb : isBox e = false) :
   OkH P G (some d) hc { s with ts := s.ts.put (key d 0) ⟨e, (s.ts.get (key d 0)).ver, t⟩ } := by
 refine Goes.ok (s := s) ?_ h
 exact {
   keep := ⟨fun _ => False, Keep.refl _ _, fun _ h => h.elim⟩
   nt := rfl
   df := rfl
   lt := fun b hb => .inl hb
   ex := fun b h1 => .inl h1
   S := fun _ h => h
   w := fun _ _ => rfl
   ver := fun j => by
     by_cases hj : j = key d 0
     · subst hj
       simp only [get_same]
       exact ⟨Nat.le_refl _, fun _ => ⟨trivial, fun hx => by rw [hb] at hx; cases hx⟩⟩
     · simp only [get_ne _ _ hj]; exact ⟨Nat.le_refl _, fun _ => ⟨trivial, id⟩⟩
   cell := fun j hj => by
     by_cases hjk : j = key d 0
     · subst hjk
       left
       rw [CellOk, show ({ s with ts := s.ts.put (key d 0) ⟨e, (s.ts.get (key d 0)).ver, t⟩ } : St).ts.get (key d 0) = ⟨e, (s.ts.get (key d 0)).ver, t⟩ from get_same _ _ _]
       cases e <;> first | trivial | exact absurd rfl (h1 _) | exact absurd rfl h2 | exact absurd rfl (h3 _ _)
     · exact .inr ⟨hj, get_ne _ _ hjk, rfl, fun _ _ _ _ _ => ⟨rfl, rfl⟩⟩
   main := fun i hi => by
     have hne : i ≠ d := fun e => hi (e ▸ rfl)
     exact .inr ⟨hi, get_ne _ _ (by rw [key_eq, key_eq]; omega), rfl, fun _ _ => rfl, fun _ _ _ => ⟨rfl, rfl⟩⟩
   pok := fun i x hx => .inr ⟨hx, fun _ _ _ => ⟨rfl, rfl⟩⟩
   prot := fun i hi hx => by
     by_cases hik : key i 0 = key d 0
     · simp only [hik, get_same] at hx; rw [hb] at hx; cases hx
     · simp only [get_ne _ _ hik] at hx; exact ⟨hx, rfl⟩ }
theorem iq_eq : ∀ (a b : Int), iq a b = decide (a = b)
 | .ofNat a, .ofNat b => by
   simp only [iq, Int.ofNat_eq_natCast, Int.ofNat_inj]
   cases h : Nat.beq a b with
   | true => exact (decide_eq_true ((beq_iff _ _).1 h)).symm
   | false => exact (decide_eq_false fun e => by rw [(beq_iff _ _).2 e] at h; cases h).symm
 | .negSucc a, .negSucc b => by
   simp only [iq, Int.negSucc_inj]
   cases h : Nat.beq a b with
   | true => exact (decide_eq_true ((beq_iff _ _).1 h)).symm
   | false => exact (decide_eq_false fun e => by rw [(beq_iff _ _).2 e] at h; cases h).symm
 | .ofNat a, .negSucc b => (decide_eq_false (by simp)).symm
 | .negSucc a, .ofNat b => (decide_eq_false (by simp)).symm
theorem findNow_new (bb : Nat) (n : Int) : ∀ (l : List (Int × Nat)) (es : List MapEntry) (i : Nat), es.map (fun e => (e.key, e.val)) = l.map (fun p => (Value.int .i64 p.1, cloVal p.2 bb)) → newKey n l = true → Instr.findNow (.int .i64) (.int .i64 n) es i = some none
 | [], [], _, _, _ => rfl
 | [], e :: es, _, h, _ => by simp at h
 | p :: l, [], _, h, _ => by simp at h
 | p :: l, e :: es, i, h, hn => by
   simp only [List.map_cons, List.cons.injEq, Prod.mk.injEq] at h
   simp only [newKey, List.all_cons, Bool.and_eq_true, iq_eq, Bool.not_eq_true', decide_eq_false_iff_not] at hn
   have h2 := findNow_new bb n l es (i + 1) h.2 (by simp only [newKey, iq_eq]; exact hn.2)
   have hq : (n == p.1) = false := by simp [hn.1]
   simp [Instr.findNow, h.1.1, Instr.sameNow, hq, h2]
theorem run_insert {t kt et : TypeId} {b ck n : Nat} {k : Int} {x : Value} {es : Array MapEntry} {w : World} (hm : P.underlying t = some (.map kt et)) (hk : P.underlying kt = some (.int .i64)) (hb : w.heap[b]? = some (.map es ck))
   (hf : Instr.findNow (.int .i64) (.int .i64 k) es.toList 0 = some none) : (Instr.mapUpdate t (.map (some b)) (.int .i64 k) x).run P w = .ok () { w with heap := w.heap.setIfInBounds b (.map (es.push { key := .int .i64 k, val := x, born := ck }) (ck + 1)) } := by
 have hik : MapKept.IsKey (.int .i64) (.int .i64 k) := rfl
 simp [Instr.mapUpdate, run_underlying hm, MapKept.run_getObj_map hb, MapKept.run_checkKey hk hik, MapKept.run_findKey hk hf, MapKept.run_setObj_map _ hb, Result.andThen]
theorem insertM_ok (h : Ok P G s) {d f j v : Nat} {k : Int} {vx : Value} {t kt et : TypeId} (hx : DOk True s (.clo f j v) vx) (hm : P.underlying t = some (.map kt et)) (hk : P.underlying kt = some (.int .i64)) {kk : Unit → Prog}
   (hr : Runs cf (insertM (s.ts.get (key d 0)) d k f j v kk) s.ts o ts') :
   ∃ s', (Instr.mapUpdate t (s.a.tmps.getD d undef) (.int .i64 k) vx).run P s.w = .ok () s'.w ∧ Ok P G s' ∧ s'.a = s.a ∧ Runs cf (kk ()) s'.ts o ts' := by
 obtain ⟨x1, x2, x3⟩ := hx
 obtain ⟨bb, hbb, rfl⟩ := x3 (x2 trivial).1 (x2 trivial).2
 have hmn := h.main d (by intro h; cases h)
 unfold insertM at hr
 have go : ∀ (l : List (Int × Nat)) (j' v' : Nat), (s.ts.get (key d 0)).k = .mp l j' v' → (l = [] ∨ (j' = j ∧ v' = v)) → newKey k l = true →
     Runs cf (.put (key d 0) ⟨.mp (l ++ [(k, f)]) j v, (s.ts.get (key d 0)).ver, nob⟩ (kk ())) s.ts o ts' →
     ∃ s', (Instr.mapUpdate t (s.a.tmps.getD d undef) (.int .i64 k) (cloVal f bb)).run P s.w = .ok () s'.w ∧ Ok P G s' ∧ s'.a = s.a ∧ Runs cf (kk ()) s'.ts o ts' := by
   intro l j' v' hkk hl hnk hr1
   rw [MainOk, hkk] at hmn
   obtain ⟨m1, b, es, ck, m2, m3, m4, m5, ms, m6⟩ := hmn
   have hent : EntsOk l bb es := by
     rcases hl with rfl | ⟨rfl, rfl⟩
     · have : es = #[] := Array.eq_empty_of_size_eq_zero ms
       subst this; rfl
     · exact m6 (x2 trivial).1 bb hbb
   have hrun := run_insert (P := P) (n := 0) (x := cloVal f bb) (w := s.w) (ck := ck) hm hk m4 (findNow_new bb k l es.toList 0 hent hnk)
   rw [m3, hrun]
   have hlt : b < s.w.heap.size := (Array.getElem?_eq_some_iff.1 m4).1
   have hkeep : Keep (fun b' => b' = b) s.w { s.w with heap := s.w.heap.setIfInBounds b (.map (es.push { key := .int .i64 k, val := cloVal f bb, born := ck }) (ck + 1)) } :=
     ⟨rfl, rfl, rfl, by simp, fun q hq hn => by simp [Ne.symm hn]⟩
   obtain ⟨ok2, ev2⟩ := (h.openM d).reblock (b := b) hkeep (.inl m5) (by simpa using hlt) (by intro e; rw [hkk]; intro hh; cases hh)
   have ok3 := ok2.rehead (.mp (l ++ [(k, f)]) j v) nob (fun _ => by simp) (by simp) (by simp) rfl
   refine ⟨_, rfl, ok3.closeM ?_, rfl, hr1.put⟩
   unfold MainOk
   simp only [St.reblock, get_same]
   have hne : key j 0 ≠ key d 0 := fun e => by
     have : (s.ts.get (key j 0)).k = .mp l j' v' := by rw [e]; exact hkk
     have h2 := (x2 trivial).2
     rw [this] at h2; cases h2
   rw [get_ne _ _ hne]
   refine ⟨x1, b, es.push { key := .int .i64 k, val := cloVal f bb, born := ck }, ck + 1, m2, m3, ?_, upd_same _ _ _, by simp [ms], fun _ bb' hbb' => ?_⟩
   · show (s.w.heap.setIfInBounds b _)[b]? = _
     rw [Array.getElem?_setIfInBounds_self_of_lt hlt]
   · rw [hbb] at hbb'
     cases hbb'
     show List.map _ (es.push _).toList = _
     rw [Array.toList_push, List.map_append, List.map_append, show List.map _ es.toList = _ from hent]
     rfl
 cases hkk : (s.ts.get (key d 0)).k <;> rw [hkk] at hr <;> try exact (Runs.fail hr).elim
 rename_i l j' v'
 cases l with
 | nil => exact go [] j' v' hkk (.inl rfl) rfl hr
 | cons p l =>
   have hr2 : Runs cf ((bif Nat.beq j' j && Nat.beq v' v && newKey k (p :: l) then (fun q => .put (key d 0) ⟨.mp ((p :: l) ++ [(k, f)]) j v, (s.ts.get (key d 0)).ver, nob⟩ (q ())) else C.fail : C Unit) kk) s.ts o ts' := hr
   cases hb : Nat.beq j' j && Nat.beq v' v && newKey k (p :: l) with
   | false => rw [hb] at hr2; exact (Runs.fail hr2).elim
   | true =>
     rw [hb] at hr2
     simp only [Bool.and_eq_true, beq_iff] at hb
     exact go (p :: l) j' v' hkk (.inr ⟨hb.1.1, hb.1.2⟩) hb.2 hr2
theorem findM_ok (bb j v : Nat) (hj : (s.ts.get (key j 0)).ver = v) (hjb : isBox (s.ts.get (key j 0)).k = true) (hbb : s.cv (key j 0) = .pointer (some ⟨bb, 0, none⟩)) (n : Int) : ∀ (l : List (Int × Nat)) (es : List MapEntry) (i : Nat) (kk : D → Prog), es.map (fun e => (e.key, e.val)) = l.map (fun p => (Value.int .i64 p.1, cloVal p.2 bb)) →
   Runs cf (findM j v n l kk) s.ts o ts' → (Instr.findNow (.int .i64) (.int .i64 n) es i = some none ∧ Runs cf (kk (.one (.im (.lit .nilFunc)))) s.ts o ts') ∨
     ∃ q f, Instr.findNow (.int .i64) (.int .i64 n) es i = some (some (q, cloVal f bb)) ∧ DOk False s (.clo f j v) (cloVal f bb) ∧ Runs cf (kk (.clo f j v)) s.ts o ts'
 | [], [], _, _, _, hr => .inl ⟨rfl, hr⟩
 | [], e :: es, _, _, h, _ => by simp at h
 | p :: l, [], _, _, h, _ => by simp at h
 | p :: l, e :: es, i, kk, h, hr => by
   simp only [List.map_cons, List.cons.injEq, Prod.mk.injEq] at h
   have hr1 : Runs cf (bif decide (n = p.1) then kk (.clo p.2 j v) else findM j v n l kk) s.ts o ts' := by
     have := Runs.test hr
     have e1 : ieq n p.1 = decide (n = p.1) := by simp only [ieq]; by_cases hq : n = p.1 <;> simp [hq]
     rw [e1] at this; exact this
   by_cases hq : n = p.1
   · rw [decide_eq_true hq] at hr1
     have hqb : (n == p.1) = true := by simp [hq]
     exact .inr ⟨i, p.2, by simp [Instr.findNow, h.1.1, Instr.sameNow, hqb, h.1.2], ⟨Nat.le_of_eq hj.symm, False.elim, fun _ _ => ⟨bb, hbb, rfl⟩⟩, hr1⟩
   · rw [decide_eq_false hq] at hr1
     have hqb : (n == p.1) = false := by simp [hq]
     rcases findM_ok bb j v hj hjb hbb n l es (i + 1) kk h.2 hr1 with ⟨h1, h2⟩ | ⟨q, f, h1, h2, h3⟩
     · exact .inl ⟨by simp [Instr.findNow, h.1.1, Instr.sameNow, hqb, h1], h2⟩
     · exact .inr ⟨q, f, by simp [Instr.findNow, h.1.1, Instr.sameNow, hqb, h1], h2, h3⟩
theorem lookupD_ok (h : Ok P G s) (hE : EnvOk P E) {t : TypeId} {x i : D} {vx vi : Value} (hx : DOk True s x vx) (hi : DOk True s i vi) : Pure P s (lookupD E t x i) (Instr.lookup t vx vi false) := by
 intro cf kk o ts' hr
 obtain ⟨kt, et, hm, hk, hr1⟩ := mapT_ok hE hr
 obtain ⟨rfl, hr2⟩ := litOf_ok hi hr1
 split at hr2
 · rename_i j v n
   obtain ⟨y, hy, _, hr3⟩ := tinfo_ok hE hr2
   cases hz : isNilFn1 y.zero && !(isAggD y.d) with
   | false => rw [hz] at hr3; exact (Runs.fail hr3).elim
   | true =>
     rw [hz] at hr3
     have hr4 := Runs.get hr3
     cases hb : Nat.beq (s.ts.get (key j 0)).ver v with
     | false => rw [hb] at hr4; exact (Runs.fail hr4).elim
     | true =>
       rw [hb] at hr4
       have hmn := h.main j (by intro h; cases h)
       have hr5 : Runs cf (lookM n (s.ts.get (key j 0)).k kk) s.ts o ts' := hr4
       cases hkk : (s.ts.get (key j 0)).k <;> rw [hkk] at hr5 <;> try exact (Runs.fail hr5).elim
       rename_i l j' v'
       rw [MainOk, hkk] at hmn
       obtain ⟨m1, b, es, ck, m2, m3, m4, m5, ms, m6⟩ := hmn
       have hr6 := Runs.get hr5
       cases hc : Nat.beq (s.ts.get (key j' 0)).ver v' && isBox (s.ts.get (key j' 0)).k with
       | false => rw [hc] at hr6; exact (Runs.fail hr6).elim
       | true =>
         rw [hc] at hr6
         rw [Bool.and_eq_true, beq_iff] at hc
         obtain ⟨bb, hbb⟩ : ∃ bb, s.cv (key j' 0) = .pointer (some ⟨bb, 0, none⟩) := by
           have hmj := h.main j' (by intro h; cases h)
           have hc2 := hc.2
           cases hkj : (s.ts.get (key j' 0)).k <;> rw [hkj] at hc2 <;> try (cases hc2; done)
           rw [MainOk, hkj] at hmj
           obtain ⟨_, _, bb, q1, _⟩ := hmj
           exact ⟨bb, q1⟩
         have hv : vx = .map (some b) := (hx.2.2 (hx.2.1 trivial)).trans m2
         subst hv
         have hik : MapKept.IsKey (.int .i64) (.int .i64 n) := rfl
         rw [Bool.and_eq_true, Bool.not_eq_true'] at hz
         obtain ⟨z, hz1, hz2⟩ := hy.run_zero1 hz.2 s.w
         have hzv : z = .nilFunc := by
           have hz0 := hz.1
           rw [← hz2] at hz0
           cases z <;> first | rfl | cases hz0
         subst hzv
         rcases findM_ok bb j' v' hc.1 hc.2 hbb n l es.toList 0 kk (m6 hc.1 bb hbb) hr6 with ⟨h1, h2⟩ | ⟨q, f, h1, h2, h3⟩
         · refine ⟨.one (.im (.lit .nilFunc)), .nilFunc, ?_, (show RT _ _ _ _ from .lit rfl), h2⟩
           simp [Instr.lookup, run_underlying hm, MapKept.run_getObj_map m4, MapKept.run_checkKey hk hik, MapKept.run_findKey hk h1, hz1, Result.andThen]
         · refine ⟨_, _, ?_, h2, h3⟩
           simp [Instr.lookup, run_underlying hm, MapKept.run_getObj_map m4, MapKept.run_checkKey hk hik, MapKept.run_findKey hk h1, Result.andThen]
 · exact (Runs.fail hr2).elim
theorem makeFuncD_ok {f : Nat} {ds : List D} {vs : List Value} (hd : DsOk True s ds vs) : Pure P s (makeFuncD f ds) (Instr.makeFunc (.func f) vs.toArray #[]) := by
 intro cf kk o ts' hr
 match ds, vs, hd, hr with
 | [.ad j v 0], [u], hd, hr =>
   obtain ⟨h1, h2, h3⟩ : DOk True s (.ad j v 0) u := hd.2 0 _ _ rfl rfl
   obtain ⟨b, hb1, rfl⟩ := h3 (h2 trivial).1 (h2 trivial).2
   exact ⟨.clo f j v, cloVal f b, rfl, ⟨h1, False.elim, fun _ _ => ⟨b, hb1, rfl⟩⟩, hr⟩
 | [], _, _, hr => exact (Runs.fail hr).elim
 | [.one _], _, _, hr => exact (Runs.fail hr).elim
 | [.agg _], _, _, hr => exact (Runs.fail hr).elim
 | [.tup _ _], _, _, hr => exact (Runs.fail hr).elim
 | [.ad _ _ (_ + 1)], _, _, hr => exact (Runs.fail hr).elim
 | [.el _ _ _], _, _, hr => exact (Runs.fail hr).elim
 | [.ai _ _], _, _, hr => exact (Runs.fail hr).elim
 | [.cp _ _], _, _, hr => exact (Runs.fail hr).elim
 | [.sb _ _ _], _, _, hr => exact (Runs.fail hr).elim
 | [.clo _ _ _], _, _, hr => exact (Runs.fail hr).elim
 | [.ma _ _], _, _, hr => exact (Runs.fail hr).elim
 | .ad _ _ 0 :: _ :: _, _, _, hr => exact (Runs.fail hr).elim
 | .ad _ _ (_ + 1) :: _ :: _, _, _, hr => exact (Runs.fail hr).elim
 | .one _ :: _ :: _, _, _, hr => exact (Runs.fail hr).elim
 | .agg _ :: _ :: _, _, _, hr => exact (Runs.fail hr).elim
 | .tup _ _ :: _ :: _, _, _, hr => exact (Runs.fail hr).elim
 | .el _ _ _ :: _ :: _, _, _, hr => exact (Runs.fail hr).elim
 | .ai _ _ :: _ :: _, _, _, hr => exact (Runs.fail hr).elim
 | .cp _ _ :: _ :: _, _, _, hr => exact (Runs.fail hr).elim
 | .sb _ _ _ :: _ :: _, _, _, hr => exact (Runs.fail hr).elim
 | .clo _ _ _ :: _ :: _, _, _, hr => exact (Runs.fail hr).elim
 | .ma _ _ :: _ :: _, _, _, hr => exact (Runs.fail hr).elim
 | [.ad _ _ 0], [], hd, _ => exact absurd hd.1 (by simp)
 | [.ad _ _ 0], _ :: _ :: _, hd, _ => exact absurd hd.1 (by simp)
theorem makeSet_ok {d kt z : Nat} {kk : Unit → Prog} (ok : Ok P G s) (hd : d < s.a.tmps.size) (hp : hasBit G.prot d = false) (hr : Runs cf (bump (key d 0) (.ms kt z) (.sl 0 []) kk) s.ts o ts') :
   ∃ s', Ok P G s' ∧ s'.a = s.a.put (some d) (.map (some s.w.heap.size)) ∧ s'.w = s.w.alloc (.map #[] 0) ∧ Runs cf (kk ()) s'.ts o ts' := by
 have hkd : key d 0 / 64 = d := key_div (by omega)
 have hr1 := (Runs.get hr).put
 have hget : (s.bump (key d 0) (.ms kt z) (.sl 0 []) (.map (some s.w.heap.size))).ts.get (key d 0) = ⟨.ms kt z, Nat.succ (s.ts.get (key d 0)).ver, .sl 0 []⟩ := get_same _ _ _
 have ok1 := (ok.openM d).bump (key d 0) (.ms kt z) (.sl 0 []) (.map (some s.w.heap.size)) (by rw [hkd]) (fun _ => by rw [CellOk, hget]; trivial) (fun h => by cases h) (Ctx.free hp (by omega))
 obtain ⟨ok2, ev2⟩ := ok1.reblock (b := s.w.heap.size) (keep_alloc s.w (.map #[] 0) _) (.inr (Nat.le_refl _)) (by rw [show (s.w.alloc (.map #[] 0)).heap = s.w.heap.push _ from rfl, Array.size_push]; omega) (by intro e; rw [hget]; intro hh; cases hh)
 have ok3 := ok2.put (.map (some s.w.heap.size))
 refine ⟨_, ok3.closeM ?_, rfl, rfl, hr1⟩
 unfold MainOk
 simp only [St.reblock, hget]
 exact ⟨s.w.heap.size, #[], 0, upd_same _ _ _, by simp [Act.put, St.bump, hd], heap_alloc_new _ _, upd_same _ _ _, fun n ts e => by cases e; exact ⟨[], rfl, fun k hk => absurd hk List.not_mem_nil, rfl, rfl⟩⟩
def keyV (k : List Int) : Value := .agg (k.map (Value.int .i64)).toArray
theorem fieldsI_cons (hE : EnvOk P E) {f : Field} {fs : List Field} {n z : Nat} (h : fieldsI E n (f :: fs) = some z) : P.underlying f.type = some (.int .i64) ∧ (∃ y, TyOk P f.type y ∧ isAggD y.d = false) ∧ f.name ≠ "_" ∧ f.offset = n ∧ fieldsI E (n + 1) fs = some z := by
 unfold fieldsI at h
 cases hi : lookT E.tys f.type with
 | none => rw [hi] at h; cases h
 | some i =>
   rw [hi] at h
   dsimp only at h
   have hty := hE.ty _ _ hi
   cases hd : i.d <;> simp only [hd] at h <;> try (cases h; done)
   rename_i kd
   cases kd <;> dsimp only at h <;> try (cases h; done)
   cases hb : f.name != "_" && Nat.beq f.offset n with
   | false => rw [hb] at h; cases h
   | true =>
     rw [hb] at h
     simp only [Bool.and_eq_true, bne_iff_ne, ne_eq, beq_iff] at hb
     exact ⟨hd ▸ hty.under, ⟨i, hty, by rw [hd]; rfl⟩, hb.1, hb.2, h⟩
theorem fieldsI_len (hE : EnvOk P E) : ∀ (fs : List Field) (n z : Nat), fieldsI E n fs = some z → n + fs.length = z
 | [], n, z, h => by cases h; rfl
 | f :: fs, n, z, h => by
   obtain ⟨_, _, _, _, h2⟩ := fieldsI_cons hE h
   have := fieldsI_len hE fs (n + 1) z h2
   simp only [List.length_cons]; omega
theorem run_check_ints (hE : EnvOk P E) (e : Bool) (m : Nat) (k : List Int) (w : World) : ∀ (fs : List Field) (n : Nat), fieldsI E n fs = some k.length →
   (forIn fs PUnit.unit (fun f _ => do
     if f.name ≠ "_" then Instr.checkKey e (m + 1) f.type (← part f.type (k.map (Value.int .i64)).toArray f.offset)
     pure (ForInStep.yield PUnit.unit)) : Sem PUnit).run P w = .ok PUnit.unit w
 | [], n, h => by simp
 | f :: fs, n, h => by
   obtain ⟨h1, ⟨y, hy, ha⟩, h2, h3, h4⟩ := fieldsI_cons hE h
   have hl := fieldsI_len hE (f :: fs) n _ h
   simp only [List.length_cons] at hl
   have hg : (k.map (Value.int .i64))[f.offset]? = some (.int .i64 (k[f.offset]'(by omega))) := by
     rw [List.getElem?_map, List.getElem?_eq_getElem (by omega)]; rfl
   have p1 := run_part_lit hy ha hg w
   have p2 : (Instr.checkKey e (m + 1) f.type (.int .i64 (k[f.offset]'(by omega)))).run P w = .ok () w := by simp [Instr.checkKey, run_underlying h1]
   have ih := run_check_ints hE e m k w fs (n + 1) h4
   simp only [List.forIn_cons, Sem.run_bind, h2, ne_eq, not_false_eq_true, if_true, Result.andThen_ok, p1, p2, Sem.run_pure]
   exact ih
theorem run_checkKey_set (hE : EnvOk P E) {kt : TypeId} {fs : Array Field} (hk : P.underlying kt = some (.struct fs)) {k : List Int} (hf : fieldsI E 0 fs.toList = some k.length) (e : Bool) (m : Nat) (w : World) : (Instr.checkKey e (m + 2) kt (keyV k)).run P w = .ok () w := by
 rw [show m + 2 = (m + 1) + 1 from rfl, Instr.checkKey]
 simp only [Sem.run_bind, run_underlying hk, Result.andThen_ok, keyV]
 rw [← Array.forIn_toList]
 have h := congrArg (fun r => Result.andThen r fun (_ : PUnit) w' => Result.ok () w') (run_check_ints hE e m k w fs.toList 0 hf)
 simpa using h
def kEq : List Int → List Int → Bool
 | [], [] => true
 | a :: k, b :: l => (a == b) && kEq k l
 | _, _ => false
theorem kEq_iff : ∀ (k l : List Int), kEq k l = true ↔ k = l
 | [], [] => by simp [kEq]
 | [], b :: l => by simp [kEq]
 | a :: k, [] => by simp [kEq]
 | a :: k, b :: l => by simp [kEq, kEq_iff k l]
theorem run_eq_ints (hE : EnvOk P E) (m : Nat) (k l : List Int) (hkl : k.length = l.length) (w : World) : ∀ (fs : List Field) (n : Nat), fieldsI E n fs = some k.length →
   (Op.eqFields (m + 1) (k.map (Value.int .i64)).toArray (l.map (Value.int .i64)).toArray fs).run P w = .ok (kEq (k.drop n) (l.drop n)) w
 | [], n, h => by
   have := fieldsI_len hE [] n _ h
   simp only [List.length_nil, Nat.add_zero] at this
   rw [List.drop_of_length_le (by omega), List.drop_of_length_le (by omega)]; rfl
 | f :: fs, n, h => by
   obtain ⟨h1, ⟨y, hy, ha⟩, h2, h3, h4⟩ := fieldsI_cons hE h
   have hl := fieldsI_len hE (f :: fs) n _ h
   simp only [List.length_cons] at hl
   have hg : (k.map (Value.int .i64))[f.offset]? = some (.int .i64 (k[n]'(by omega))) := by
     rw [h3, List.getElem?_map, List.getElem?_eq_getElem (by omega)]; rfl
   have hg' : (l.map (Value.int .i64))[f.offset]? = some (.int .i64 (l[n]'(by omega))) := by
     rw [h3, List.getElem?_map, List.getElem?_eq_getElem (by omega)]; rfl
   have p1 := run_part_lit hy ha hg w
   have p2 := run_part_lit hy ha hg' w
   have ih := run_eq_ints hE m k l hkl w fs (n + 1) h4
   rw [List.drop_eq_getElem_cons (i := n) (l := k) (by omega), List.drop_eq_getElem_cons (i := n) (l := l) (by omega)]
   unfold Op.eqFields
   rw [if_pos h2]
   simp only [Sem.run_bind, p1, p2, Result.andThen_ok, run_equalIn_int w m f.type .i64 .i64 _ _ h1, kEq]
   cases hq : (k[n]'(by omega) == l[n]'(by omega))
   · rfl
   · exact ih
theorem run_equal_set (hE : EnvOk P E) {kt : TypeId} {fs : Array Field} (hk : P.underlying kt = some (.struct fs)) (hs : P.stoodInHeld kt = false) {k l : List Int} (hkl : k.length = l.length) (hf : fieldsI E 0 fs.toList = some k.length) (w : World) :
   (Op.equal kt (keyV k) (keyV l)).run P w = .ok (kEq k l) w := by
 have hfs : P.fieldsOf kt = fs := by simp [Program.fieldsOf, hk]
 rw [Op.equal, Op.maxDepth, show (10000 : Nat) = 9999 + 1 from rfl, keyV, keyV, run_equalIn_struct w 9999 kt _ _ (by rw [hfs, hk]) hs, hfs]
 exact run_eq_ints hE 9998 k l hkl w fs.toList 0 hf
theorem run_find_set (hE : EnvOk P E) {kt : TypeId} {fs : Array Field} (hk : P.underlying kt = some (.struct fs)) (hs : P.stoodInHeld kt = false) {k : List Int} (hf : fieldsI E 0 fs.toList = some k.length) (w : World) : ∀ (es : List MapEntry) (ks : List (List Int)) (i : Nat),
   (∀ l ∈ ks, l.length = k.length) → es.map (fun e => (e.key, e.val)) = ks.map (fun l => (keyV l, Value.bool true)) → (Instr.findAsking kt (keyV k) es i).run P w = .ok ((ks.findIdx? (kEq k)).map fun j => (i + j, Value.bool true)) w
 | [], [], i, _, _ => rfl
 | [], l :: ks, i, _, h => by simp at h
 | e :: es, [], i, _, h => by simp at h
 | e :: es, l :: ks, i, hl, h => by
   simp only [List.map_cons, List.cons.injEq, Prod.mk.injEq] at h
   have hq := run_equal_set hE hk hs (l := l) (hl l List.mem_cons_self).symm hf w
   have ih := run_find_set hE hk hs hf w es ks (i + 1) (fun x hx => hl x (List.mem_cons_of_mem _ hx)) h.2
   simp only [Instr.findAsking, h.1.1, h.1.2, Sem.run_bind, hq, Result.andThen_ok, List.findIdx?_cons]
   cases hb : kEq k l
   · simp only [Bool.false_eq_true, if_false, ih]
     cases ks.findIdx? (kEq k) with
     | none => rfl
     | some j => simp [Nat.add_assoc, Nat.add_comm 1 j]
   · simp
def keyT (k : List Int) : List T := k.map fun a => T.lit (.int .i64 a)
theorem keyTs_ok {L : Prop} {s : St} : ∀ {τ : Nat} {cs : List CV} {vs : List Value} {ks : List T}, CVsOk L s τ cs vs → keyTs cs = some ks → ∃ k : List Int, ks = keyT k ∧ vs = k.map (Value.int .i64)
 | τ, [], vs, ks, h, hk => by
   cases hk
   have := h.1
   exact ⟨[], rfl, List.eq_nil_of_length_eq_zero (by simpa using this)⟩
 | τ, c :: cs, vs, ks, h, hk => by
   unfold keyTs at hk
   split at hk
   · rename_i hc; cases hc
   · rename_i n r hc
     cases hc
     cases hq : keyTs cs with
     | none => rw [hq] at hk; cases hk
     | some l =>
       rw [hq] at hk
       cases hk
       have h0 := h.1
       cases vs with
       | nil => simp at h0
       | cons v vs =>
         have hv := h.lit_at (j := 0) (x := .int .i64 n) rfl
         simp only [List.getElem?_cons_zero, Option.some.injEq] at hv
         have ht : CVsOk L s (τ + 1) cs vs := ⟨by simpa using h.1, fun j c v hc hv => by
           have := h.2 (j + 1) c v (by simpa using hc) (by simpa using hv)
           rwa [show τ + (j + 1) = τ + 1 + j by omega] at this⟩
         obtain ⟨k, rfl, rfl⟩ := keyTs_ok ht hq
         exact ⟨n :: k, rfl, by rw [hv]; rfl⟩
   · cases hk
theorem lEq_key : ∀ (k l : List Int), lEq (keyT l) (keyT k) = kEq k l
 | [], [] => rfl
 | [], b :: l => rfl
 | a :: k, [] => rfl
 | a :: k, b :: l => by
   have ih := lEq_key k l
   show band (ieq b a) (lEq (keyT l) (keyT k)) = ((a == b) && kEq k l)
   rw [ih, show ieq b a = (a == b) from by simp only [ieq, BEq.comm]]
theorem hasKey_keys {z : Nat} {k : List Int} : ∀ (ks : List (List Int)), (∀ l ∈ ks, l.length = z) → hasKey z ks.length (ks.flatMap keyT) (keyT k) = (ks.findIdx? (kEq k)).isSome
 | [], _ => rfl
 | l :: ks, h => by
   have hl : (keyT l).length = z := by rw [keyT, List.length_map]; exact h l List.mem_cons_self
   have ih := hasKey_keys (k := k) ks fun x hx => h x (List.mem_cons_of_mem _ hx)
   rw [List.flatMap_cons, List.length_cons, hasKey, List.take_left' hl, List.drop_left' hl, ih, lEq_key, List.findIdx?_cons]
   cases kEq k l
   · simp [bor]
   · simp [bor]
theorem hasK_keys {z : Nat} {k : List Int} (ks : List (List Int)) (h : ∀ l ∈ ks, l.length = z) : hasK z ks.length (ks.flatMap keyT) (keyT k) = (ks.findIdx? (kEq k)).isSome := hasKey_keys ks h
theorem setT_ok (hE : EnvOk P E) {t kt z : Nat} (h : setT E t = some (kt, z)) : ∃ et fs, P.underlying t = some (.map kt et) ∧ (∀ w : World, (zeroValue et).run P w = .ok (.bool false) w) ∧ P.underlying kt = some (.struct fs) ∧ P.stoodInHeld kt = false ∧ fieldsI E 0 fs.toList = some z := by
 unfold setT at h
 cases hi : lookT E.tys t with
 | none => rw [hi] at h; cases h
 | some i =>
   rw [hi] at h
   dsimp only at h
   cases hd : i.d <;> simp only [hd] at h <;> try (cases h; done)
   rename_i kt' et
   cases hb : lookT E.tys et with
   | none => rw [hb] at h; cases h
   | some b =>
     rw [hb] at h
     cases hj : lookT E.tys kt' with
     | none => rw [hj] at h; cases h
     | some y =>
       rw [hj] at h
       dsimp only at h
       cases hbd : b.d <;> simp only [hbd] at h <;> try (cases h; done)
       cases hyd : y.d <;> simp only [hyd] at h <;> try (cases h; done)
       rename_i fs
       cases hz : isFalse1 b.zero && E.eqs.any (Nat.beq kt') with
       | false => rw [hz] at h; cases h
       | true =>
         rw [hz] at h
         simp only [cond_true] at h
         cases hf : fieldsI E 0 fs.toList with
         | none => rw [hf] at h; cases h
         | some n =>
           rw [hf] at h
           cases h
           rw [Bool.and_eq_true] at hz
           obtain ⟨u, hu, hub⟩ := List.any_eq_true.1 hz.2
           have hmem : kt ∈ E.eqs := by rw [(beq_iff _ _).1 hub]; exact hu
           refine ⟨et, fs, hd ▸ (hE.ty _ _ hi).under, fun w => ?_, hyd ▸ (hE.ty _ _ hj).under, (hE.eq kt hmem).1, hf⟩
           obtain ⟨v, hz1, hz2⟩ := (hE.ty _ _ hb).run_zero1 (by rw [hbd]; rfl) w
           have hz0 := hz.1
           rw [← hz2] at hz0
           have : v = .bool false := by
             cases v <;> try (cases hz0; done)
             rename_i q
             cases q
             · rfl
             · cases hz0
           rw [← this]; exact hz1
theorem isKeyed {fs : Array Field} {kt : TypeId} (hk : P.underlying kt = some (.struct fs)) (x : Value) (es : List MapEntry) (w : World) : (Instr.findKey kt x es).run P w = (Instr.findAsking kt x es).run P w := run_findKey_eq w (by rw [hk]) x es
theorem lookS_inv {kt z : Nat} {e : Ent} {cs : List CV} {kk : D → Prog} (hr : Runs cf (lookS kt z e cs kk) ts o ts') : ∃ n l ks, e.k = .ms kt z ∧ e.t = .sl n l ∧ keyTs cs = some ks ∧ ks.length = z ∧ Runs cf (kk (.one (.im (.lit (.bool (hasK z n l ks)))))) ts o ts' := by
 obtain ⟨k, v, t⟩ := e
 cases k <;> try exact (Runs.fail hr).elim
 rename_i kt' z'
 cases t with
 | lit _ => exact (Runs.fail hr).elim
 | sl n l =>
   unfold lookS at hr
   cases h3 : keyTs cs with
   | none => rw [h3] at hr; exact (Runs.fail hr).elim
   | some ks =>
     rw [h3] at hr
     dsimp only at hr
     cases hq : Nat.beq kt kt' && (Nat.beq z z' && Nat.beq ks.length z) with
     | false => rw [hq] at hr; exact (Runs.fail hr).elim
     | true =>
       rw [hq] at hr
       simp only [Bool.and_eq_true, beq_iff] at hq
       obtain ⟨rfl, rfl, hkl⟩ := hq
       exact ⟨n, l, ks, rfl, rfl, rfl, hkl, Runs.test hr⟩
theorem putS_inv {d v kt z : Nat} {e : Ent} {cs : List CV} {kk : Unit → Prog} (hr : Runs cf (putS d v kt z e cs kk) ts o ts') : ∃ n l ks, e.k = .ms kt z ∧ e.t = .sl n l ∧ keyTs cs = some ks ∧ ks.length = z ∧ hasK z n l ks = false ∧ Runs cf (kk ()) (ts.put (key d 0) ⟨.ms kt z, e.ver, .sl (nadd n 1) (lapp l ks)⟩) o ts' := by
 obtain ⟨k, v, t⟩ := e
 cases k <;> try exact (Runs.fail hr).elim
 rename_i kt' z'
 cases t with
 | lit _ => exact (Runs.fail hr).elim
 | sl n l =>
   unfold putS at hr
   cases h3 : keyTs cs with
   | none => rw [h3] at hr; exact (Runs.fail hr).elim
   | some ks =>
     rw [h3] at hr
     dsimp only at hr
     cases hq : Nat.beq kt kt' && (Nat.beq z z' && Nat.beq ks.length z) with
     | false => rw [hq] at hr; exact (Runs.fail hr).elim
     | true =>
       rw [hq] at hr
       simp only [Bool.and_eq_true, beq_iff] at hq
       obtain ⟨rfl, rfl, hkl⟩ := hq
       have hr1 := Runs.test hr
       cases hh : hasK z n l ks with
       | true => rw [hh] at hr1; exact (Runs.fail hr1).elim
       | false =>
         rw [hh] at hr1
         exact ⟨n, l, ks, rfl, rfl, rfl, hkl, hh, (Runs.sl hr1).put⟩
theorem updateS_inv {kt z : Nat} {m k x : D} {kk : Unit → Prog} (hr : Runs cf (updateS kt z m k x kk) ts o ts') : ∃ d v cs, m = .ma d v ∧ k = .agg cs ∧ x = .one (.im (.lit (.bool true))) ∧ Runs cf (.get (key d 0) fun e => bif Nat.beq e.ver v then putS d v kt z e cs kk else .fail) ts o ts' := by
 cases m <;> try exact (Runs.fail hr).elim
 rename_i d v
 cases k <;> try exact (Runs.fail hr).elim
 rename_i cs
 cases x <;> try exact (Runs.fail hr).elim
 rename_i c
 cases c <;> try exact (Runs.fail hr).elim
 rename_i t
 cases t <;> try exact (Runs.fail hr).elim
 rename_i u
 cases u <;> try exact (Runs.fail hr).elim
 rename_i b
 cases b
 · exact (Runs.fail hr).elim
 · exact ⟨d, v, cs, rfl, rfl, rfl, hr⟩
theorem lookupS_ok (h : Ok P G s) (hE : EnvOk P E) {t : TypeId} {x : D} {cs : List CV} {vx vi : Value} (hx : DOk True s x vx) (hi : DOk True s (.agg cs) vi) : Pure P s (lookupS E t x cs) (Instr.lookup t vx vi false) := by
 intro cf kk o ts' hr
 unfold lookupS at hr
 cases hset : setT E t with
 | none => rw [hset] at hr; exact (Runs.fail hr).elim
 | some p =>
   obtain ⟨kt, z⟩ := p
   rw [hset] at hr
   cases x <;> try exact (Runs.fail hr).elim
   rename_i j v
   obtain ⟨et, fs, hm, hz, hk, hs, hf⟩ := setT_ok hE hset
   have hr1 := Runs.get hr
   cases hb : Nat.beq (s.ts.get (key j 0)).ver v with
   | false => rw [hb] at hr1; exact (Runs.fail hr1).elim
   | true =>
     rw [hb] at hr1
     have hr2 : Runs cf (lookS kt z (s.ts.get (key j 0)) cs kk) s.ts o ts' := hr1
     obtain ⟨n, ts, ks, e1, e2, e3, hkl, hr3⟩ := lookS_inv hr2
     have hmn := h.main j (by intro h; cases h)
     rw [MainOk, e1] at hmn
     obtain ⟨b, es, ck, m2, m3, m4, m5, m6⟩ := hmn
     obtain ⟨vs, rfl, hvs⟩ := hi
     obtain ⟨k, rfl, rfl⟩ := keyTs_ok hvs e3
     obtain ⟨kl, q1, q2, q3, q4⟩ := m6 n ts e2
     have hlen : k.length = z := by rw [← hkl, keyT, List.length_map]
     have hv : vx = .map (some b) := (hx.2.2 (hx.2.1 trivial)).trans m2
     subst hv
     have hfind := run_find_set hE hk hs (k := k) (by rw [hlen]; exact hf) s.w es.toList kl 0 (fun l hl => by rw [q2 l hl, hlen]) q4
     have hchk := run_checkKey_set hE hk (k := k) (by rw [hlen]; exact hf) es.isEmpty 9998 s.w
     have hh : hasK z n ts (keyT k) = (kl.findIdx? (kEq k)).isSome := by
       rw [← q1, q3]; exact hasK_keys kl q2
     rw [hh] at hr3
     refine ⟨.one (.im (.lit (.bool (kl.findIdx? (kEq k)).isSome))), .bool (kl.findIdx? (kEq k)).isSome, ?_, lit_ok _ _ rfl, hr3⟩
     have hfk := (isKeyed hk (keyV k) es.toList s.w).trans hfind
     have hchk' : (Instr.checkKey es.isEmpty 10000 kt (keyV k)).run P s.w = .ok () s.w := hchk
     show (Instr.lookup t (.map (some b)) (keyV k) false).run P s.w = _
     cases hq : kl.findIdx? (kEq k) with
     | none => rw [hq] at hfk; simp [Instr.lookup, run_underlying hm, MapKept.run_getObj_map m4, hchk', hfk, hz, Result.andThen]
     | some q => rw [hq] at hfk; simp [Instr.lookup, run_underlying hm, MapKept.run_getObj_map m4, hchk', hfk, Result.andThen]
theorem lookupE_ok (h : Ok P G s) (hE : EnvOk P E) {t : TypeId} {x i : D} {vx vi : Value} (hx : DOk True s x vx) (hi : DOk True s i vi) : Pure P s (lookupE E t x i) (Instr.lookup t vx vi false) := by
 cases i with
 | agg cs => exact lookupS_ok h hE hx hi
 | _ => exact lookupD_ok h hE hx hi
theorem updateD_ok (h : Ok P G s) (hE : EnvOk P E) {t : TypeId} {m k x : D} {vm vk vx : Value} (hm : DOk True s m vm) (hk : DOk True s k vk) (hx : DOk True s x vx) {kk : Unit → Prog} (hr : Runs cf (updateD E t m k x kk) s.ts o ts') :
   ∃ s', (Instr.mapUpdate t vm vk vx).run P s.w = .ok () s'.w ∧ Ok P G s' ∧ s'.a = s.a ∧ Runs cf (kk ()) s'.ts o ts' := by
 unfold updateD at hr
 cases hset : setT E t with
 | none => rw [hset] at hr; exact (Runs.fail hr).elim
 | some p =>
   obtain ⟨kt, z⟩ := p
   rw [hset] at hr
   obtain ⟨et, fs, hmt, _, hkt, hs, hf⟩ := setT_ok hE hset
   obtain ⟨d, v, cs, rfl, rfl, rfl, hr0⟩ := updateS_inv hr
   · have hr1 := Runs.get hr0
     cases hb : Nat.beq (s.ts.get (key d 0)).ver v with
     | false => rw [hb] at hr1; exact (Runs.fail hr1).elim
     | true =>
       rw [hb] at hr1
       have hr2 : Runs cf (putS d v kt z (s.ts.get (key d 0)) cs kk) s.ts o ts' := hr1
       obtain ⟨n, ts, ks, e1, e2, e3, hkl, hno, hr4⟩ := putS_inv hr2
       have hmn := h.main d (by intro h; cases h)
       rw [MainOk, e1] at hmn
       obtain ⟨b, es, ck, m2, m3, m4, m5, m6⟩ := hmn
       obtain ⟨vs, rfl, hvs⟩ := hk
       obtain ⟨k, rfl, rfl⟩ := keyTs_ok hvs e3
       obtain ⟨kl, q1, q2, q3, q4⟩ := m6 n ts e2
       have hlen : k.length = z := by rw [← hkl, keyT, List.length_map]
       have hv : vm = .map (some b) := (hm.2.2 (hm.2.1 trivial)).trans m2
       have hvx := lit_inv hx
       subst hv; subst hvx
       have hfind := run_find_set hE hkt hs (k := k) (by rw [hlen]; exact hf) s.w es.toList kl 0 (fun l hl => by rw [q2 l hl, hlen]) q4
       have hchk : (Instr.checkKey false 10000 kt (keyV k)).run P s.w = .ok () s.w := run_checkKey_set hE hkt (k := k) (by rw [hlen]; exact hf) false 9998 s.w
       have hh : hasK z n ts (keyT k) = (kl.findIdx? (kEq k)).isSome := by
         rw [← q1, q3]; exact hasK_keys kl q2
       rw [hh] at hno
       cases hq : kl.findIdx? (kEq k) with
       | some q => rw [hq] at hno; cases hno
       | none =>
         rw [hq] at hfind
         have hfk := (isKeyed hkt (keyV k) es.toList s.w).trans hfind
         have hlt : b < s.w.heap.size := (Array.getElem?_eq_some_iff.1 m4).1
         have hrun : (Instr.mapUpdate t (.map (some b)) (keyV k) (.bool true)).run P s.w = .ok () { s.w with heap := s.w.heap.setIfInBounds b (.map (es.push { key := keyV k, val := .bool true, born := ck }) (ck + 1)) } := by
           simp [Instr.mapUpdate, run_underlying hmt, MapKept.run_getObj_map m4, hchk, hfk, MapKept.run_setObj_map _ m4, Result.andThen]
         have hkeep : Keep (fun b' => b' = b) s.w { s.w with heap := s.w.heap.setIfInBounds b (.map (es.push { key := keyV k, val := .bool true, born := ck }) (ck + 1)) } :=
           ⟨rfl, rfl, rfl, by simp, fun q hq hn => by simp [Ne.symm hn]⟩
         obtain ⟨ok2, ev2⟩ := (h.openM d).reblock (b := b) hkeep (.inl m5) (by simpa using hlt) (by intro e; rw [e1]; intro hh; cases hh)
         have ok3 := ok2.rehead (.ms kt z) (.sl (nadd n 1) (lapp ts (keyT k))) (fun _ => by simp) (by simp) (by simp) rfl
         show ∃ s', (Instr.mapUpdate t (.map (some b)) (keyV k) (.bool true)).run P s.w = .ok () s'.w ∧ Ok P G s' ∧ s'.a = s.a ∧ Runs cf (kk ()) s'.ts o ts'
         rw [hrun]
         refine ⟨_, rfl, ok3.closeM ?_, rfl, hr4⟩
         unfold MainOk
         simp only [St.reblock, get_same]
         refine ⟨b, es.push { key := keyV k, val := .bool true, born := ck }, ck + 1, m2, m3, ?_, upd_same _ _ _, fun n' ts' e => ?_⟩
         · show (s.w.heap.setIfInBounds b _)[b]? = _
           rw [Array.getElem?_setIfInBounds_self_of_lt hlt]
         · cases e
           refine ⟨kl ++ [k], by rw [List.length_append, q1]; rfl, fun l hl => ?_, by rw [q3, List.flatMap_append]; simp [keyT], ?_⟩
           · rcases List.mem_append.1 hl with hl | hl
             · exact q2 l hl
             · rw [List.mem_singleton.1 hl, hlen]
           · rw [Array.toList_push, List.map_append, List.map_append, q4]; rfl
end
end Go.Proofs.Ytbaihlhoedbpkaa.Tm
namespace Go.Proofs.Ytbaihlhoedbpkaa.Tm
open Go
section
variable {P : Program} {G : Ctx} {s : St} {cf : FuncId → List AD → Option Res} {ts ts' : TS} {o : Out} {E : Env}
theorem zeroCVs_all {z : List Value} (h : z.all isOne = true) : CVsOk True s 0 (z.map zeroCV) z := zeroCVs_ok _ _ _ fun v hv => List.all_eq_true.1 h v hv
theorem stepOp_ok {op : Oper} {hh : Hint} {kk : Unit → Prog} (h : Ok P G s) (hE : EnvOk P E) (hm : Meets P E cf) (hd : ∀ i, op.dst = some i → i < s.a.tmps.size ∧ hasBit G.prot i = false)
   (hpp : hh.prot = G.prot) (hkp : hh.kp = G.kp) (hr : Runs cf (stepOp E hh op kk) s.ts o ts') {Q : Exit → Act → World → Prop} : op.wp P s.a s.w (After P G cf kk o ts') Q := by
 obtain ⟨dst, p, ty, pos, af, gd⟩ := op
 have hd1 : ∀ i, dst = some i → i < s.a.tmps.size ∧ hasBit G.prot i = false := hd
 cases p with
 | move x =>
   obtain ⟨d, hD, hr1⟩ := opd_ok h hr
   have hrun : (execOp s.a.eval ⟨dst, .move x, ty, pos, af, gd⟩).run P s.w = .ok (.value (s.a.eval x)) s.w := rfl
   rw [Oper.wp, hrun, Oper.upon_value]
   exact dst_ok h hd1 hD.weak hr1
 | assign x =>
   obtain ⟨d, hD, hr1⟩ := opd_ok h hr
   have hrun : (execOp s.a.eval ⟨dst, .assign x, ty, pos, af, gd⟩).run P s.w = .ok (.value (s.a.eval x)) s.w := rfl
   rw [Oper.wp, hrun, Oper.upon_value]
   cases dst with
   | none => exact ⟨s, rfl, rfl, h, hr1⟩
   | some i =>
     obtain ⟨s', ok', ha, hw, hr2⟩ := assignD_ok h (hd i rfl).1 (hd i rfl).2 hD hr1
     exact ⟨s', ha, hw, ok', hr2⟩
 | pick c a b =>
   refine step_pure (op := ⟨dst, .pick c a b, ty, pos, af, gd⟩) (X := opPick c a b) (m := do pure (if ← asBool (s.a.eval c) then s.a.eval a else s.a.eval b)) h hd1 ?_ (by simp [execOp]) hr
   refine Pure.opd h fun d hD => ?_
   intro cf kk o ts' hr1
   obtain ⟨_, hr2⟩ := litOf_ok hD hr1
   generalize hv : s.a.eval c = v at hr2
   cases v <;> try exact (Runs.fail hr2).elim
   rename_i r
   have hr3 := Runs.test hr2
   cases r with
   | true =>
     obtain ⟨d', hD', hr4⟩ := opd_ok h hr3
     exact ⟨d', _, by simp [asBool], hD'.weak, hr4⟩
   | false =>
     obtain ⟨d', hD', hr4⟩ := opd_ok h hr3
     exact ⟨d', _, by simp [asBool], hD'.weak, hr4⟩
 | alloc t =>
   have hr0 : Runs cf (opAlloc E hh dst t kk) s.ts o ts' := hr
   unfold opAlloc at hr0
   obtain ⟨y, hy, _, hr1⟩ := zeroOf_ok hE hr0
   cases dst with
   | none => exact (Runs.fail hr1).elim
   | some d =>
     obtain ⟨y', s', hy', hul, ok', ha, hw, hr2⟩ := boxD_ok hE h (hd d rfl).1 (hd d rfl).2 (zeroCVs_all hy.one) hr1
     obtain ⟨z, hz1, hz2⟩ := hy.run_zero s.w
     have hrun : (execOp s.a.eval ⟨some d, .alloc t, ty, pos, af, gd⟩).run P s.w = .ok (.value (.pointer (some ⟨s.w.heap.size, 0, none⟩))) (s.w.alloc (.cells y.zero.toArray t)) := by
       have : z.cells = y.zero.toArray := by rw [← hz2]
       simp [execOp, Instr.alloc, hz1, newVar, this]
       rfl
     rw [Oper.wp, hrun, Oper.upon_value]
     exact ⟨s', ha, hw, ok', hr2⟩
 | box t x =>
   obtain ⟨d, hD, hr1⟩ := opd_ok h hr
   obtain ⟨cs, us, hc, hcl, hone, hr2⟩ := cvs_ok h hD hr1
   cases dst with
   | none => exact (Runs.fail hr2).elim
   | some i =>
     obtain ⟨y', s', hy', hul, ok', ha, hw, hr3⟩ := boxD_ok hE h (hd i rfl).1 (hd i rfl).2 hc hr2
     have hrun : (execOp s.a.eval ⟨some i, .box t x, ty, pos, af, gd⟩).run P s.w = .ok (.value (.pointer (some ⟨s.w.heap.size, 0, none⟩))) (s.w.alloc (.cells us.toArray t)) := by
       simp [execOp, Instr.box, newVar, hcl]
       rfl
     rw [Oper.wp, hrun, Oper.upon_value]
     exact ⟨s', ha, hw, ok', hr3⟩
 | build t ps => exact step_pure (op := ⟨dst, .build t ps, ty, pos, af, gd⟩) h hd1 (buildD_ok h hE) rfl hr
 | buildSlice t n ps => exact step_mem (op := ⟨dst, .buildSlice t n ps, ty, pos, af, gd⟩) hd1 (buildSliceD_ok h hE hr) rfl
 | load t a => exact step_pure (op := ⟨dst, .load t a, ty, pos, af, gd⟩) (X := opLoad E t a) h hd1 (Pure.opd h fun d hD => loadD_ok h hE hD) rfl hr
 | store t a x =>
   cases dst with
   | some i => exact (Runs.fail hr).elim
   | none =>
     have hr0 : Runs cf (opd a fun a => opd x fun x => storeD E hh.fz hh.prot hh.kp t a x kk) s.ts o ts' := hr
     obtain ⟨da, hDa, hr1⟩ := opd_ok h hr0
     obtain ⟨dx, hDx, hr2⟩ := opd_ok h hr1
     obtain ⟨s', g1, g2, g3, g4⟩ := storeD_ok h hE hDa hDx hpp hkp hr2
     have hrun : (execOp s.a.eval ⟨none, .store t a x, ty, pos, af, gd⟩).run P s.w = .ok .skip s'.w := by
       simp [execOp, g1]
     rw [Oper.wp, hrun, Oper.upon_skip]
     exact ⟨s', g3, rfl, g2, g4⟩
 | nilCheck x =>
   obtain ⟨d, hD, hr1⟩ := opd_ok h hr
   obtain ⟨g1, d', g2, g3⟩ := nilCheckD_ok (P := P) (kk := fun d => dstK E dst ty d kk) hD hr1
   rw [Oper.wp, g1 x s.a rfl, Oper.upon_value]
   exact dst_ok h hd1 g2 g3
 | binOp b t x y yt => exact step_pure (op := ⟨dst, .binOp b t x y yt, ty, pos, af, gd⟩) (X := opBin E b t x y) h hd1 (Pure.opd h fun d hD => Pure.opd h fun d' hD' => binD_ok hE hD hD' x y) rfl hr
 | unOp u t x => exact step_pure (op := ⟨dst, .unOp u t x, ty, pos, af, gd⟩) (X := opUn u x) h hd1 (Pure.opd h fun d hD => unD_ok hD) rfl hr
 | convert t1 t2 x => exact step_pure (op := ⟨dst, .convert t1 t2 x, ty, pos, af, gd⟩) (X := opConv E t1 t2 x) h hd1 (Pure.opd h fun d hD => convD_ok h hE hD) rfl hr
 | makeSlice t l c =>
   have hr0 : Runs cf (opMakeN E dst ty t l c (dstD E) kk) s.ts o ts' := hr
   unfold opMakeN at hr0
   cases hnn : nested E t with
   | some ee =>
     rw [hnn] at hr0
     obtain ⟨e, e2⟩ := ee
     obtain ⟨dl, hDl, hr1⟩ := opd_ok h hr0
     obtain ⟨dc, hDc, hr2⟩ := opd_ok h hr1
     cases dst with
     | none => exact (Runs.fail hr2).elim
     | some i =>
       obtain ⟨v, s', hrun0, ok', ha, hr3⟩ := makeB_ok h hE (hd i rfl).1 (hd i rfl).2 hnn hDl hDc hr2
       have hrun : (execOp s.a.eval ⟨some i, .makeSlice t l c, ty, pos, af, gd⟩).run P s.w = .ok (.value v) s'.w := by
         simp [execOp, hrun0]
       rw [Oper.wp, hrun, Oper.upon_value]
       exact ⟨s', ha, rfl, ok', hr3⟩
   | none =>
   rw [hnn] at hr0
   have hr : Runs cf (dstD E dst ty (opMake E t l c) kk) s.ts o ts' := hr0
   obtain ⟨dl, hDl, hr1⟩ := opd_ok h hr
   obtain ⟨dc, hDc, hr2⟩ := opd_ok h hr1
   exact step_mem (op := ⟨dst, .makeSlice t l c, ty, pos, af, gd⟩) hd1 (makeD_ok h hE hDl hDc hr2) rfl
 | slice t x lo hi mx =>
   have hr0 : Runs cf (opSliceM E hh dst t x lo hi mx fun d => dstK E dst ty d kk) s.ts o ts' := hr
   unfold opSliceM at hr0
   cases hmv : mvBit hh dst && lo.isNone && mx.isNone with
   | true =>
     rw [hmv] at hr0
     rw [Bool.and_eq_true, Bool.and_eq_true, Option.isNone_iff_eq_none, Option.isNone_iff_eq_none] at hmv
     obtain ⟨⟨_, rfl⟩, rfl⟩ := hmv
     obtain ⟨d, hD, hr1⟩ := opd_ok h hr0
     obtain ⟨dhi, hhi, hr2⟩ := opdo_ok h hr1
     exact step_mem (op := ⟨dst, .slice t x none hi none, ty, pos, af, gd⟩) hd1 (sliceMv_ok h hE hD hhi hr2) rfl
   | false =>
   rw [hmv] at hr0
   obtain ⟨d, hD, hr1⟩ := opd_ok h hr0
   obtain ⟨dlo, hlo, hr2⟩ := opdo_ok h hr1
   obtain ⟨dhi, hhi, hr3⟩ := opdo_ok h hr2
   obtain ⟨dmx, hmx, hr4⟩ := opdo_ok h hr3
   exact step_mem (op := ⟨dst, .slice t x lo hi mx, ty, pos, af, gd⟩) hd1 (sliceD_ok h hE hD hlo hhi hmx hr4) rfl
 | fieldAddr t x f => exact step_pure (op := ⟨dst, .fieldAddr t x f, ty, pos, af, gd⟩) (X := opFieldAddr E t x f) h hd1 (Pure.opd h fun d hD => fieldAddrD_ok hE hD) rfl hr
 | field t x f => exact step_pure (op := ⟨dst, .field t x f, ty, pos, af, gd⟩) (X := opField E t x f) h hd1 (Pure.opd h fun d hD => fieldD_ok hE hD) rfl hr
 | indexAddr t x i => exact step_pure (op := ⟨dst, .indexAddr t x i, ty, pos, af, gd⟩) (X := opIndexAddr E t x i) h hd1 (Pure.opd h fun d hD => Pure.opd h fun d' hD' => indexAddrD_ok h hE hD hD') rfl hr
 | index t x i => exact step_pure (op := ⟨dst, .index t x i, ty, pos, af, gd⟩) (X := opIndex E t x i) h hd1 (Pure.opd h fun d hD => Pure.opd h fun d' hD' => indexD_ok hE hD hD') rfl hr
 | extract x i => exact step_pure (op := ⟨dst, .extract x i, ty, pos, af, gd⟩) (X := opExtract x i) h hd1 (extract_ok h) rfl hr
 | call c =>
   obtain ⟨callee, args, tys⟩ := c
   obtain ⟨ds, hds, hr1⟩ := opdl_ok (xs := args.toList) h hr
   cases callee with
   | builtin b => exact call_builtin_ok (op := ⟨dst, .call ⟨.builtin b, args, tys⟩, ty, pos, af, gd⟩) h hE rfl hd1 hds hr1
   | value f =>
     have hr2 : Runs cf (opd f fun f => callW E hh.prot hh.kp ds f fun d => dstK E dst ty d kk) s.ts o ts' := hr1
     obtain ⟨df, hDf, hr3⟩ := opd_ok h hr2
     have clo : ∀ g j n, df = .clo g j n → Oper.wp P ⟨dst, .call ⟨.value f, args, tys⟩, ty, pos, af, gd⟩ s.a s.w (After P G cf kk o ts') Q := fun g j n e => by
       subst e
       have hr4 : Runs cf (callD E hh.prot hh.kp g (.ad j n 0 :: ds) fun d => dstK E dst ty d kk) s.ts o ts' := hr3
       rw [hpp, hkp] at hr4
       exact call_clo_ok (op := ⟨dst, .call ⟨.value f, args, tys⟩, ty, pos, af, gd⟩) h hm rfl hd1 hDf hds hr4
     by_cases hq : ∃ g j n, df = .clo g j n
     · obtain ⟨g, j, n, e⟩ := hq; exact clo g j n e
     replace hr3 : Runs cf (litOf df fun v => callV E hh.prot hh.kp ds v fun d => dstK E dst ty d kk) s.ts o ts' := by
       cases df <;> first | exact hr3 | exact absurd ⟨_, _, _, rfl⟩ hq
     obtain ⟨_, hr4⟩ := litOf_ok hDf hr3
     generalize hv : s.a.eval f = v at hr4
     unfold callV at hr4
     split at hr4
     · rename_i g first captured
       cases hb : first.isEmpty && captured.isEmpty with
       | false => rw [hb] at hr4; exact (Runs.fail hr4).elim
       | true =>
         rw [hb] at hr4
         rw [Bool.and_eq_true, Array.isEmpty_iff, Array.isEmpty_iff] at hb
         obtain ⟨rfl, rfl⟩ := hb
         rw [hpp, hkp] at hr4
         exact call_func_ok (op := ⟨dst, .call ⟨.value f, args, tys⟩, ty, pos, af, gd⟩) h hm rfl hd1 hv hds hr4
     · exact (Runs.fail hr4).elim
   | invoke _ _ => exact (Runs.fail hr1).elim
 | makeMap t r =>
   cases r with
   | some _ => exact (Runs.fail hr).elim
   | none =>
     cases dst with
     | none => exact (Runs.fail hr).elim
     | some d =>
       have hr1 : Runs cf ((match setT E t with | some (kt, z) => bump (key d 0) (.ms kt z) (.sl 0 []) | none => bump (key d 0) (.mp [] 0 0) nob) kk) s.ts o ts' := hr
       have hmk : ∃ s', Ok P G s' ∧ s'.a = s.a.put (some d) (.map (some s.w.heap.size)) ∧ s'.w = s.w.alloc (.map #[] 0) ∧ Runs cf (kk ()) s'.ts o ts' := by
         cases hset : setT E t with
         | none => rw [hset] at hr1; exact makeMap_ok h (hd d rfl).1 (hd d rfl).2 hr1
         | some p => obtain ⟨kt, z⟩ := p; rw [hset] at hr1; exact makeSet_ok h (hd d rfl).1 (hd d rfl).2 hr1
       obtain ⟨s', ok', ha, hw, hr2⟩ := hmk
       have hrun : (execOp s.a.eval ⟨some d, .makeMap t none, ty, pos, af, gd⟩).run P s.w = .ok (.value (.map (some s.w.heap.size))) (s.w.alloc (.map #[] 0)) := rfl
       rw [Oper.wp, hrun, Oper.upon_value]
       exact ⟨s', ha, hw, ok', hr2⟩
 | mapUpdate t m k x =>
   cases dst with
   | some i => exact (Runs.fail hr).elim
   | none =>
     have hr0 : Runs cf (opd m fun m => opd k fun k => opd x fun x => updateD E t m k x kk) s.ts o ts' := hr
     obtain ⟨dm, hDm, hr1⟩ := opd_ok h hr0
     obtain ⟨dk, hDk, hr2⟩ := opd_ok h hr1
     obtain ⟨dx, hDx, hr3⟩ := opd_ok h hr2
     obtain ⟨s', g1, g2, g3, g4⟩ := updateD_ok h hE hDm hDk hDx hr3
     have hrun : (execOp s.a.eval ⟨none, .mapUpdate t m k x, ty, pos, af, gd⟩).run P s.w = .ok .skip s'.w := by
       simp only [execOp, Sem.run_bind, g1, Result.andThen_ok]; rfl
     rw [Oper.wp, hrun, Oper.upon_skip]
     exact ⟨s', g3, rfl, g2, g4⟩
 | insert t m k x =>
   cases dst with
   | some i => exact (Runs.fail hr).elim
   | none =>
     cases m with
     | tmp d =>
       have hr0 : Runs cf (opd k fun k => opd x fun x => insertD E t d k x kk) s.ts o ts' := hr
       obtain ⟨dk, hDk, hr1⟩ := opd_ok h hr0
       obtain ⟨dx, hDx, hr2⟩ := opd_ok h hr1
       obtain ⟨kt, et, hmt, hkt, hr3⟩ := mapT_ok hE hr2
       obtain ⟨_, hr4⟩ := litOf_ok hDk hr3
       generalize hv : s.a.eval k = v at hr4
       split at hr4
       · have hr5 := Runs.get hr4
         obtain ⟨s', g1, g2, g3, g4⟩ := insertM_ok h hDx hmt hkt hr5
         rw [← hv] at g1
         have hrun : (execOp s.a.eval ⟨none, .insert t (.tmp d) k x, ty, pos, af, gd⟩).run P s.w = .ok .skip s'.w := by
           have e : s.a.eval (.tmp d) = s.a.tmps.getD d undef := rfl
           simp only [execOp, e, Sem.run_bind, g1, Result.andThen_ok]; rfl
         rw [Oper.wp, hrun, Oper.upon_skip]
         exact ⟨s', g3, rfl, g2, g4⟩
       · exact (Runs.fail hr4).elim
     | _ => exact (Runs.fail hr).elim
 | lookup t x i ok =>
   cases ok with
   | true => exact (Runs.fail hr).elim
   | false => exact step_pure (op := ⟨dst, .lookup t x i false, ty, pos, af, gd⟩) (X := opLookup E t x i) h hd1 (Pure.opd h fun d hD => Pure.opd h fun d' hD' => lookupE_ok h hE hD hD') rfl hr
 | makeFunc fn first cap =>
   have hr0 : Runs cf (dstD E dst ty (opMakeFunc fn first.toList cap.toList) kk) s.ts o ts' := hr
   cases fn <;> try exact (Runs.fail hr0).elim
   rename_i f
   cases hc : cap.toList with
   | cons a b => rw [hc] at hr0; exact (Runs.fail hr0).elim
   | nil =>
     rw [hc] at hr0
     have hr1 : Runs cf (opdl first.toList fun ds => makeFuncD f ds fun d => dstK E dst ty d kk) s.ts o ts' := hr0
     obtain ⟨ds, hds, hr2⟩ := opdl_ok (xs := first.toList) h hr1
     obtain ⟨d, v, g1, g2, g3⟩ := makeFuncD_ok (P := P) hds cf _ o ts' hr2
     have hcap : cap = #[] := by cases cap; simpa using hc
     subst hcap
     have hrun : (execOp s.a.eval ⟨dst, .makeFunc (.func f) first #[], ty, pos, af, gd⟩).run P s.w = .ok (.value v) s.w := by
       have e : first.map s.a.eval = (first.toList.map s.a.eval).toArray := by rw [← Array.toList_map]
       simp only [execOp, Array.map_empty, Sem.run_bind, e, g1, Result.andThen_ok]; rfl
     rw [Oper.wp, hrun, Oper.upon_value]
     exact dst_ok h hd1 g2 g3
 | _ => exact (Runs.fail hr).elim
theorem setUndef_ok {op : Oper} {kk : Unit → Prog} (h : Ok P G s) (hd : ∀ i, op.dst = some i → i < s.a.tmps.size ∧ hasBit G.prot i = false) (hr : Runs cf (setUndef op kk) s.ts o ts') : After P G cf kk o ts' (s.a.put op.dst undef) s.w := by
 unfold setUndef at hr
 cases hdst : op.dst with
 | none => rw [hdst] at hr; exact ⟨s, rfl, rfl, h, hr⟩
 | some d =>
   rw [hdst] at hr
   have hkd : key d 0 / 64 = d := key_div (by omega)
   have hr1 := (Runs.get hr).put
   have ok1 := (h.openM d).bump (key d 0) .und nob undef (by rw [hkd]) (fun _ => by
     rw [CellOk, show (s.bump (key d 0) .und nob undef).ts.get (key d 0) = ⟨.und, Nat.succ (s.ts.get (key d 0)).ver, nob⟩ from get_same _ _ _]; trivial) (fun hb => by cases hb) (Ctx.free (hd d hdst).2 (by omega))
   refine ⟨{ s.bump (key d 0) .und nob undef with a := s.a.put (some d) undef }, rfl, rfl, (ok1.put undef).closeM ?_, hr1⟩
   rw [MainOk, show (s.bump (key d 0) .und nob undef).ts.get (key d 0) = ⟨.und, Nat.succ (s.ts.get (key d 0)).ver, nob⟩ from get_same _ _ _]
   simp [Act.put, (hd d hdst).1]
end
end Go.Proofs.Ytbaihlhoedbpkaa.Tm
namespace Go.Proofs.Ytbaihlhoedbpkaa.Tm
open Go
section
variable {P : Program} {G : Ctx} {s : St} {cf : FuncId → List AD → Option Res} {ts ts' : TS} {o : Out} {E : Env}
theorem bool_slot (h : Ok P G s) {d : Nat} {b : Bool} (h0 : (s.ts.get (key d 0)).k = .one) (h1 : (s.ts.get (key d 1)).k = .im) (h2 : (s.ts.get (key d 1)).t = .lit (.bool b)) : s.a.tmps.getD d undef = .bool b := by
 have hm := h.main d (by intro h; cases h)
 have hc := h.cell (key d 1) (by intro h; cases h)
 simp only [MainOk, h0] at hm
 simp only [CellOk, h1, h2] at hc
 rw [hm]
 generalize s.cv (key d 1) = v at hc
 cases hc; rfl
theorem wanted_guard {op : Oper} {ops : Array Oper} {j : Nat} {want : Bool} {d : Nat} {a : Act} (hg : op.guard = some (j, want)) (hj : (ops[j]?).bind (·.dst) = some d) :
   Region.wanted op (yielded ops a.tmps) = (match a.tmps.getD d undef with | .bool b => b == want | _ => false) := by
 simp only [Region.wanted, hg, yielded, hj, Option.bind_some]
 rw [Array.getD_eq_getD_getElem?]
 cases ht : a.tmps[d]? with
 | none => rfl
 | some v => cases v <;> rfl
theorem guardOp_ok {op : Oper} {hh : Hint} {ops : Array Oper} {kk : Unit → Prog} (h : Ok P G s) (hE : EnvOk P E) (hm : Meets P E cf) (hd : ∀ i, op.dst = some i → i < s.a.tmps.size ∧ hasBit G.prot i = false)
   (hpp : hh.prot = G.prot) (hkp : hh.kp = G.kp) (hr : Runs cf (guardOp E hh ops op kk) s.ts o ts') {Q : Exit → Act → World → Prop} :
   if Region.wanted op (yielded ops s.a.tmps) then op.wp P s.a s.w (After P G cf kk o ts') Q else After P G cf kk o ts' (s.a.put op.dst undef) s.w := by
 unfold guardOp at hr
 cases hg : op.guard with
 | none =>
   rw [hg] at hr
   rw [if_pos (by simp [Region.wanted, hg])]
   exact stepOp_ok h hE hm hd hpp hkp hr
 | some jw =>
   obtain ⟨j, want⟩ := jw
   rw [hg] at hr
   dsimp only at hr
   cases hj : (ops[j]?).bind (·.dst) with
   | none => rw [hj] at hr; exact (Runs.fail hr).elim
   | some d =>
     rw [hj] at hr
     have hr1 := Runs.get hr
     rw [wanted_guard hg hj]
     unfold guardM at hr1
     cases hk : (s.ts.get (key d 0)).k <;> rw [hk] at hr1 <;> try exact (Runs.fail hr1).elim
     case one =>
       have hr2 := Runs.get hr1
       unfold guardV at hr2
       cases hk1 : (s.ts.get (key d 1)).k <;> rw [hk1] at hr2 <;> try exact (Runs.fail hr2).elim
       cases hk2 : (s.ts.get (key d 1)).t <;> rw [hk2] at hr2 <;> try exact (Runs.fail hr2).elim
       rename_i v
       cases v <;> try exact (Runs.fail hr2).elim
       case bool b =>
         have hr3 := Runs.test hr2
         have hb := bool_slot h hk hk1 hk2
         rw [hb]
         dsimp only
         by_cases hq : (b == want) = true
         · rw [show beqb b want = true from hq] at hr3
           rw [if_pos hq]
           exact stepOp_ok h hE hm hd hpp hkp hr3
         · rw [show beqb b want = false from Bool.eq_false_iff.2 hq] at hr3
           rw [if_neg hq]
           exact setUndef_ok h hd hr3
     case und =>
       have hmn := h.main d (by intro h; cases h)
       simp only [MainOk, hk] at hmn
       rw [hmn]
       rw [show (match undef with | .bool b => b == want | _ => false) = false from rfl, if_neg (by decide)]
       exact setUndef_ok h hd hr1
theorem hasBit_setBit_of {m k j : Nat} (h : hasBit m j = true) : hasBit (setBit m k) j = true := by rw [hasBit_set, h, Bool.or_true]
theorem hasBit_setBit_self (m k : Nat) : hasBit (setBit m k) k = true := by rw [hasBit_set]; simp
theorem run_mono {p : Prog} : ∀ {ts : TS} {R0 W0 : Nat} {o : Out} {ts1 : TS} {R W : Nat}, p.run cf ts R0 W0 = some (o, ts1, R, W) → (∀ k, hasBit R0 k = true → hasBit R k = true) ∧ (∀ k, hasBit W0 k = true → hasBit W k = true) := by
 induction p with
 | ret a => intro ts R0 W0 o ts1 R W h; rw [run_ret] at h; cases h; exact ⟨fun _ h => h, fun _ h => h⟩
 | fail => intro ts R0 W0 o ts1 R W h; cases h
 | get k f ih =>
   intro ts R0 W0 o ts1 R W h; rw [run_get] at h
   have := ih _ h; exact ⟨fun j hj => this.1 j (hasBit_setBit_of hj), this.2⟩
 | put k e c ih =>
   intro ts R0 W0 o ts1 R W h; rw [run_put] at h
   have := ih h; exact ⟨this.1, fun j hj => this.2 j (hasBit_setBit_of hj)⟩
 | test b f ih => intro ts R0 W0 o ts1 R W h; rw [run_test] at h; exact ih _ h
 | sub cs i n f ih => intro ts R0 W0 o ts1 R W h; exact ih _ (run_sub h).2
 | int v f ih => intro ts R0 W0 o ts1 R W h; rw [run_int] at h; exact ih _ h
 | sl n cs f ih => intro ts R0 W0 o ts1 R W h; rw [run_sl] at h; exact ih _ _ h
 | call g as f ih => intro ts R0 W0 o ts1 R W h; obtain ⟨x, _, h2⟩ := run_call h; exact ih _ h2
theorem run_sub_eq {cs : List T} {i n : Nat} {f : List T → Prog} {R W : Nat} (h : ((cs.drop i).take n).length = n) : (Prog.sub cs i n f).run cf ts R W = (f ((cs.drop i).take n)).run cf ts R W := by
 show Bool.rec (motive := fun _ => Option (Out × TS × Nat × Nat)) none ((f ((cs.drop i).take n)).run cf ts R W) (Nat.beq ((cs.drop i).take n).length n) = _
 rw [(beq_iff _ _).2 h]
theorem run_call_eq {g : FuncId} {as : List AD} {f : Res → Prog} {R W : Nat} {x : Res} (h : cf g as = some x) : (Prog.call g as f).run cf ts R W = (f x).run cf ts R W := by
 show Option.rec (motive := fun _ => Option (Out × TS × Nat × Nat)) none (fun x => (f x).run cf ts R W) (cf g as) = _
 rw [h]
theorem run_local {p : Prog} : ∀ {ts ts2 : TS} {R0 W0 : Nat} {o : Out} {ts1 : TS} {R W : Nat}, p.run cf ts R0 W0 = some (o, ts1, R, W) → (∀ k, hasBit R k = true → ts2.get k = ts.get k) →
   ∃ ts2', p.run cf ts2 R0 W0 = some (o, ts2', R, W) ∧ (∀ k, hasBit W k = false → ts2'.get k = ts2.get k ∧ ts1.get k = ts.get k) ∧
     (∀ k, ts2'.get k = ts1.get k ∨ (ts2'.get k = ts2.get k ∧ ts1.get k = ts.get k)) ∧ (∀ k, hasBit W k = true → hasBit W0 k = true ∨ ts2'.get k = ts1.get k) := by
 induction p with
 | ret a => intro ts ts2 R0 W0 o ts1 R W h ha; rw [run_ret] at h; cases h; exact ⟨ts2, rfl, fun _ _ => ⟨rfl, rfl⟩, fun _ => .inr ⟨rfl, rfl⟩, fun _ h => .inl h⟩
 | fail => intro ts ts2 R0 W0 o ts1 R W h; cases h
 | get k f ih =>
   intro ts ts2 R0 W0 o ts1 R W h ha
   rw [run_get] at h
   have hk := ha k ((run_mono h).1 k (hasBit_setBit_self _ _))
   rw [run_get, hk]
   exact ih _ h ha
 | put k e c ih =>
   intro ts ts2 R0 W0 o ts1 R W h ha
   rw [run_put] at h
   rw [run_put]
   obtain ⟨ts2', h1, h2, h3, h4⟩ := ih (ts2 := ts2.put k e) h (fun j hj => by
     by_cases hjk : j = k
     · subst hjk; rw [get_same, get_same]
     · rw [get_ne _ _ hjk, get_ne _ _ hjk]; exact ha j hj)
   have hW := (run_mono h).2 k (hasBit_setBit_self _ _)
   refine ⟨ts2', h1, fun j hj => ?_, fun j => ?_, fun j hj => ?_⟩
   · have hjk : j ≠ k := fun e => by subst e; rw [hW] at hj; cases hj
     have := h2 j hj
     rwa [get_ne _ _ hjk, get_ne _ _ hjk] at this
   · rcases h3 j with h5 | h5
     · exact .inl h5
     · by_cases hjk : j = k
       · subst hjk; rw [get_same, get_same] at h5; exact .inl (h5.1.trans h5.2.symm)
       · rw [get_ne _ _ hjk, get_ne _ _ hjk] at h5; exact .inr h5
   · rcases h4 j hj with h5 | h5
     · rw [hasBit_set, Bool.or_eq_true, decide_eq_true_eq] at h5
       rcases h5 with h5 | h5
       · subst h5
         rcases h3 j with h6 | h6
         · exact .inr h6
         · rw [get_same, get_same] at h6; exact .inr (h6.1.trans h6.2.symm)
       · exact .inl h5
     · exact .inr h5
 | test b f ih => intro ts ts2 R0 W0 o ts1 R W h ha; rw [run_test] at h; rw [run_test]; exact ih _ h ha
 | sub cs i n f ih =>
   intro ts ts2 R0 W0 o ts1 R W h ha
   obtain ⟨h1, h2⟩ := run_sub h
   rw [run_sub_eq h1]; exact ih _ h2 ha
 | int v f ih => intro ts ts2 R0 W0 o ts1 R W h ha; rw [run_int] at h; rw [run_int]; exact ih _ h ha
 | sl n cs f ih => intro ts ts2 R0 W0 o ts1 R W h ha; rw [run_sl] at h; rw [run_sl]; exact ih _ _ h ha
 | call g as f ih =>
   intro ts ts2 R0 W0 o ts1 R W h ha
   obtain ⟨x, h1, h2⟩ := run_call h
   rw [run_call_eq h1]; exact ih _ h2 ha
end
end Go.Proofs.Ytbaihlhoedbpkaa.Tm
namespace Go.Proofs.Ytbaihlhoedbpkaa.Tm
open Go
section
variable {P : Program} {G : Ctx} {s : St} {cf : FuncId → List AD → Option Res} {ts ts' : TS} {o : Out} {E : Env}
theorem OkH.ext {hm hc : Option Nat} (h : OkH P G hm hc s) {ts1 : TS} (he : ∀ k, ts1.get k = s.ts.get k) : OkH P G hm hc { s with ts := ts1 } := by
 refine Goes.ok (s := s) ?_ h
 exact {
   keep := ⟨fun _ => False, Keep.refl _ _, fun _ h => h.elim⟩
   nt := rfl
   df := rfl
   lt := fun b hb => .inl hb
   ex := fun b h1 => .inl h1
   S := fun _ h => h
   w := fun _ _ => rfl
   ver := fun k => by rw [show ({ s with ts := ts1 } : St).ts.get k = _ from he k]; exact ⟨Nat.le_refl _, fun _ => ⟨rfl, id⟩⟩
   cell := fun j hj => .inr ⟨hj, he j, rfl, fun _ _ _ _ _ => ⟨rfl, rfl⟩⟩
   main := fun i hi => .inr ⟨hi, he _, rfl, fun _ _ => rfl, fun _ _ _ => ⟨rfl, rfl⟩⟩
   pok := fun i x hx => .inr ⟨hx, fun _ _ _ => ⟨rfl, rfl⟩⟩
   prot := fun i _ hb => by rw [show ({ s with ts := ts1 } : St).ts.get (key i 0) = _ from he _] at hb; exact ⟨hb, rfl⟩ }
theorem OkH.drew {hm hc : Option Nat} (h : OkH P G hm hc s) (n : Nat) : OkH P G hm hc { s with w := { s.w with drawn := n } } := by
 refine Goes.ok (s := s) ?_ h
 exact {
   keep := ⟨fun _ => False, ⟨rfl, rfl, rfl, Nat.le_refl _, fun _ _ _ => rfl⟩, fun _ h => h.elim⟩
   nt := rfl
   df := rfl
   lt := fun b hb => .inl hb
   ex := fun b h1 => .inl h1
   S := fun _ h => h
   w := fun _ _ => rfl
   ver := fun k => ⟨Nat.le_refl _, fun _ => ⟨rfl, id⟩⟩
   cell := fun j hj => .inr ⟨hj, rfl, rfl, fun _ _ _ _ _ => ⟨rfl, rfl⟩⟩
   main := fun i hi => .inr ⟨hi, rfl, rfl, fun _ _ => rfl, fun _ _ _ => ⟨rfl, rfl⟩⟩
   pok := fun i x hx => .inr ⟨hx, fun _ _ _ => ⟨rfl, rfl⟩⟩
   prot := fun i _ hb => ⟨hb, rfl⟩ }
noncomputable def run1 (E : Env) (h : Hint) (cf : FuncId → List AD → Option Res) (ops : Array Oper) (o : Oper) (ts : TS) : Option (Out × TS × Nat × Nat) :=
 (bif dstOk h o.dst then guardOp E h ops o fun _ => .ret .unit else .fail).run cf ts 0 0
theorem run1_ok {hh : Hint} {ops : Array Oper} {i : Nat} {op : Oper} (hi : ops[i]? = some op) (h : Ok P G s) (hE : EnvOk P E) (hm : Meets P E cf) (hn : hh.nt ≤ G.nt) (hp : hh.prot = G.prot) (hkp : hh.kp = G.kp) {ou : Out} {ts1 : TS} {R W : Nat}
   (hr : run1 E hh cf ops op s.ts = some (ou, ts1, R, W)) {K : Act → World → Prop} {Q : Exit → Act → World → Prop} (hK : ∀ s', Ok P G s' → s'.ts = ts1 → K s'.a s'.w) : wpOp P ops Q i K s.a s.w := by
 unfold run1 at hr
 cases hb : dstOk hh op.dst with
 | false => rw [hb] at hr; cases hr
 | true =>
   rw [hb] at hr
   have hd : ∀ d, op.dst = some d → d < s.a.tmps.size ∧ hasBit G.prot d = false := fun d hd => by
     rw [hd] at hb
     simp only [dstOk, Bool.and_eq_true, Bool.not_eq_true'] at hb
     have h1 : d < hh.nt := Nat.le_of_ble_eq_true hb.1
     exact ⟨Nat.lt_of_lt_of_le h1 (Nat.le_trans hn h.nt), by rw [← hp]; exact hb.2⟩
   have hrun : Runs cf (guardOp E hh ops op fun _ => .ret .unit) s.ts ou ts1 := ⟨_, _, _, _, hr⟩
   have hg := guardOp_ok (Q := Q) h hE hm hd hp hkp hrun
   have fin : ∀ a w, After P G cf (fun _ => .ret .unit) ou ts1 a w → K a w := by
     rintro a w ⟨s', rfl, rfl, h1, h2⟩
     exact hK s' h1 (Runs.ret h2).2.symm
   simp only [wpOp, hi]
   split
   · rename_i hw; rw [if_pos hw] at hg; exact .inl (Oper.wp_mono fin hg)
   · rename_i hw; rw [if_neg hw] at hg; exact fin _ _ hg
theorem runOps_cons (hh : Hint) (ops : Array Oper) (op : Oper) (l : List Oper) (ts : TS) : runOps E hh cf ops (op :: l) ts = match run1 E hh cf ops op ts with
     | some (_, ts', R, W) => match runOps E hh cf ops l ts' with
       | some (ts2, fs) => some (ts2, ⟨R, W⟩ :: fs)
       | none => none
     | none => none := rfl
theorem runOps_trace {hh : Hint} {ops : Array Oper} : ∀ {l : List Oper} {ts ts' : TS} {fs : List Foot}, runOps E hh cf ops l ts = some (ts', fs) →
   fs.length = l.length ∧ ∃ c : Nat → TS, c 0 = ts ∧ c l.length = ts' ∧ ∀ i op, l[i]? = some op → ∃ f, fs[i]? = some f ∧ ∃ ou, run1 E hh cf ops op (c i) = some (ou, c (i + 1), f.R, f.W)
 | [], ts, ts', fs, h => by
   have h' : some (ts, ([] : List Foot)) = some (ts', fs) := h
   cases h'
   exact ⟨rfl, fun _ => ts, rfl, rfl, fun i op hi => by simp at hi⟩
 | op :: l, ts, ts', fs, h => by
   rw [runOps_cons] at h
   cases h1 : run1 E hh cf ops op ts with
   | none => rw [h1] at h; cases h
   | some x =>
     obtain ⟨ou, ts1, R, W⟩ := x
     rw [h1] at h
     dsimp only at h
     cases h2 : runOps E hh cf ops l ts1 with
     | none => rw [h2] at h; cases h
     | some y =>
       obtain ⟨ts2, fs2⟩ := y
       rw [h2] at h
       cases h
       obtain ⟨g1, c, g2, g3, g4⟩ := runOps_trace h2
       refine ⟨by simp [g1], fun i => match i with | 0 => ts | i + 1 => c i, rfl, g3, fun i op' hi => ?_⟩
       match i, hi with
       | 0, hi =>
         simp at hi; subst hi
         exact ⟨⟨R, W⟩, rfl, ou, by show run1 E hh cf ops op ts = some (ou, c 0, R, W); rw [g2]; exact h1⟩
       | i + 1, hi => exact g4 i op' (by simpa using hi)
theorem seq_ok {hh : Hint} {ops : Array Oper} (hE : EnvOk P E) (hm : Meets P E cf) (hn : hh.nt ≤ G.nt) (hp : hh.prot = G.prot) (hkp : hh.kp = G.kp) {Q : Exit → Act → World → Prop} : ∀ {l pre : List Oper} {s : St} {ts' : TS} {fs : List Foot}, ops.toList = pre ++ l → Ok P G s →
   runOps E hh cf ops l s.ts = some (ts', fs) → (∀ s', Ok P G s' → s'.ts = ts' → Q .normal s'.a s'.w) → wpOps P ops Q ((List.range l.length).map (· + pre.length)) s.a s.w
 | [], pre, s, ts', fs, _, h, hr, hQ => by
   have h' : some (s.ts, ([] : List Foot)) = some (ts', fs) := hr
   cases h'
   exact hQ s h rfl
 | op :: l, pre, s, ts', fs, hl, h, hr, hQ => by
   rw [runOps_cons] at hr
   cases h1 : run1 E hh cf ops op s.ts with
   | none => rw [h1] at hr; cases hr
   | some x =>
     obtain ⟨ou, ts1, R, W⟩ := x
     rw [h1] at hr
     dsimp only at hr
     cases h2 : runOps E hh cf ops l ts1 with
     | none => rw [h2] at hr; cases hr
     | some y =>
       obtain ⟨ts2, fs2⟩ := y
       rw [h2] at hr
       cases hr
       have hi : ops[pre.length]? = some op := by
         rw [← Array.getElem?_toList, hl]; simp
       have hlist : (List.range (op :: l).length).map (· + pre.length) = pre.length :: (List.range l.length).map (· + (pre ++ [op]).length) := by
         rw [List.length_cons, List.range_succ_eq_map, List.map_cons, List.map_map]
         congr 1
         · omega
         · apply List.map_congr_left; intro a _; simp; omega
       rw [hlist, wpOps_cons]
       refine run1_ok hi h hE hm hn hp hkp h1 fun s' ok' he => ?_
       exact seq_ok hE hm hn hp hkp (pre := pre ++ [op]) (by rw [hl]; simp) ok' (by rw [he]; exact h2) hQ
theorem footApart_iff (a b : Foot) : footApart a b = true ↔ (∀ k, hasBit a.W k = true → hasBit b.R k = false ∧ hasBit b.W k = false) ∧ (∀ k, hasBit a.R k = true → hasBit b.W k = false) := by
 have e : ∀ m j : Nat, hasBit m j = m.testBit j := by
   intro m j
   show Nat.beq (Nat.land (Nat.shiftRight m j) 1) 1 = _
   have : Nat.land (Nat.shiftRight m j) 1 = (m >>> j) &&& 1 := rfl
   rw [this, Nat.testBit, Nat.and_comm, Bool.eq_iff_iff, beq_iff]
   have h2 := Nat.and_one_is_mod (m >>> j)
   rw [Nat.and_comm, h2, bne_iff_ne]
   have := Nat.mod_lt (m >>> j) (show 0 < 2 by omega)
   omega
 have z : ∀ x y : Nat, Nat.beq (Nat.land x y) 0 = true ↔ ∀ k, hasBit x k = true → hasBit y k = false := by
   intro x y
   rw [beq_iff]
   constructor
   · intro h k hk
     rw [e] at hk ⊢
     have : (x &&& y).testBit k = false := by rw [show x &&& y = Nat.land x y from rfl, h]; exact Nat.zero_testBit k
     rw [Nat.testBit_and, hk] at this
     simpa using this
   · intro h
     apply Nat.eq_of_testBit_eq
     intro k
     rw [Nat.zero_testBit, show Nat.land x y = x &&& y from rfl, Nat.testBit_and]
     cases hx : x.testBit k with
     | false => simp
     | true => have := h k (by rw [e]; exact hx); rw [e] at this; simp [this]
 have o : ∀ x y k : Nat, hasBit (Nat.lor x y) k = (hasBit x k || hasBit y k) := fun x y k => by rw [e, e, e, show Nat.lor x y = x ||| y from rfl, Nat.testBit_or]
 simp only [footApart, Bool.and_eq_true, z, o, Bool.or_eq_false_iff]
theorem indepOne_ok {i : Nat} {f : Foot} : ∀ {gs : List Foot} {ms : List Nat}, indepOne i f gs ms = true → ∀ (q : Nat) g, gs[q]? = some g → ∃ m, ms[q]? = some m ∧ (footApart f g = true ∨ hasBit m i = true)
 | [], _, _, q, g, h => by simp at h
 | _ :: _, [], h, _, _, _ => by cases h
 | g :: gs, m :: ms, h, q, g', hq => by
   simp only [indepOne, Bool.and_eq_true, Bool.or_eq_true] at h
   match q, hq with
   | 0, hq => simp at hq; subst hq; exact ⟨m, rfl, h.1⟩
   | q + 1, hq => obtain ⟨m', a, b⟩ := indepOne_ok h.2 q g' (by simpa using hq); exact ⟨m', by simpa using a, b⟩
theorem indepL_ok : ∀ {fs : List Foot} {ms : List Nat} {b : Nat}, indepL b fs ms = true → ∀ (i j : Nat) f g, i < j → fs[i]? = some f → fs[j]? = some g → ∃ m, ms[j]? = some m ∧ (footApart f g = true ∨ hasBit m (b + i) = true)
 | [], _, _, _, i, j, f, g, _, h, _ => by simp at h
 | _ :: _, [], _, h, _, _, _, _, _, _, _ => by cases h
 | f0 :: fs, m0 :: ms, b, h, i, j, f, g, hij, hf, hg => by
   simp only [indepL, Bool.and_eq_true] at h
   match j, hij, hg with
   | j + 1, hij, hg =>
     have hg' : fs[j]? = some g := by simpa using hg
     match i, hij, hf with
     | 0, _, hf =>
       simp at hf; subst hf
       obtain ⟨m, a, c⟩ := indepOne_ok h.1 j g hg'
       exact ⟨m, by simpa using a, c⟩
     | i + 1, hij, hf =>
       obtain ⟨m, a, c⟩ := indepL_ok h.2 i j f g (by omega) (by simpa using hf) hg'
       exact ⟨m, by simpa using a, by rwa [show Nat.succ b + i = b + (i + 1) by omega] at c⟩
end
end Go.Proofs.Ytbaihlhoedbpkaa.Tm
namespace Go.Proofs.Ytbaihlhoedbpkaa.Tm
open Go
section
variable {P : Program} {G : Ctx} {s : St} {cf : FuncId → List AD → Option Res} {ts ts' : TS} {o : Out} {E : Env}
theorem edges_back : ∀ {l : List Oper} {b : Nat}, edgesOk b l = true → ∀ (i : Nat) op, l[i]? = some op → ∀ e ∈ op.after, Region.binds .any e = true → e.on < b + i
 | [], b, _, i, op, h, _, _ => by simp at h
 | op0 :: l, b, h, i, op, hi, e, he => by
   simp only [edgesOk, Bool.and_eq_true, List.all_eq_true] at h
   match i, hi with
   | 0, hi =>
     simp at hi; subst hi
     have h1 := h.1 e (by simpa using he)
     intro hb
     rw [hb, Bool.not_true, Bool.false_or] at h1
     have := Nat.le_of_ble_eq_true h1
     omega
   | i + 1, hi =>
     have := edges_back h.2 i op (by simpa using hi) e he
     exact fun hb => by have := this hb; omega
theorem bit_shift (i k : Nat) : hasBit (Nat.shiftLeft 1 i) k = decide (k = i) := by
 have : Nat.shiftLeft 1 i = setBit 0 i := by show _ = 0 ||| (1 <<< i); rw [Nat.zero_or]; rfl
 rw [this, hasBit_set]
 have : hasBit 0 k = false := by
   show Nat.beq (Nat.land (Nat.shiftRight 0 k) 1) 1 = false
   have : Nat.shiftRight 0 k = 0 := Nat.zero_shiftRight k
   rw [this]; rfl
 rw [this, Bool.or_false]
theorem bit_lor (x y k : Nat) : hasBit (Nat.lor x y) k = (hasBit x k || hasBit y k) := by
 have e : ∀ m j : Nat, hasBit m j = m.testBit j := by
   intro m j
   show Nat.beq (Nat.land (Nat.shiftRight m j) 1) 1 = _
   have : Nat.land (Nat.shiftRight m j) 1 = (m >>> j) &&& 1 := rfl
   rw [this, Nat.testBit, Nat.and_comm, Bool.eq_iff_iff, beq_iff]
   have h2 := Nat.and_one_is_mod (m >>> j)
   rw [Nat.and_comm, h2, bne_iff_ne]
   have := Nat.mod_lt (m >>> j) (show 0 < 2 by omega)
   omega
 rw [e, e, e, show Nat.lor x y = x ||| y from rfl, Nat.testBit_or]
theorem bit_zero (k : Nat) : hasBit 0 k = false := by
 show Nat.beq (Nat.land (Nat.shiftRight 0 k) 1) 1 = false
 have : Nat.shiftRight 0 k = 0 := Nat.zero_shiftRight k
 rw [this]; rfl
theorem befOne_bit (acc : List Nat) : ∀ (es : List Edge) (k : Nat), hasBit (befOne acc es) k = true → ∃ e ∈ es, Region.binds .any e = true ∧ (k = e.on ∨ hasBit (acc.getD e.on 0) k = true)
 | [], k, h => by rw [show befOne acc [] = 0 from rfl, bit_zero] at h; cases h
 | e :: es, k, h => by
   have h' : hasBit (bif Region.binds .any e then Nat.lor (Nat.lor (Nat.shiftLeft 1 e.on) (acc.getD e.on 0)) (befOne acc es) else befOne acc es) k = true := h
   have rec_ : hasBit (befOne acc es) k = true → ∃ e' ∈ e :: es, Region.binds .any e' = true ∧ (k = e'.on ∨ hasBit (acc.getD e'.on 0) k = true) := fun h1 => by
     obtain ⟨e', he', h2⟩ := befOne_bit acc es k h1
     exact ⟨e', by simp [he'], h2⟩
   cases hb : Region.binds .any e with
   | false => rw [hb] at h'; exact rec_ h'
   | true =>
     rw [hb, cond_true, bit_lor, bit_lor, Bool.or_eq_true, Bool.or_eq_true, bit_shift, decide_eq_true_eq] at h'
     rcases h' with (h1 | h1) | h1
     · exact ⟨e, by simp, hb, .inl h1⟩
     · exact ⟨e, by simp, hb, .inr h1⟩
     · exact rec_ h1
theorem befs_closed (S : Nat → Prop) : ∀ (l : List Oper) (acc : List Nat), (∀ (i : Nat) m, acc[i]? = some m → S i → ∀ k, hasBit m k = true → S k) →
   (∀ (i : Nat) op, l[i]? = some op → S (acc.length + i) → ∀ e ∈ op.after, Region.binds .any e = true → S e.on) → ∀ (i : Nat) m, (befs l acc)[i]? = some m → S i → ∀ k, hasBit m k = true → S k
 | [], acc, h, _ => h
 | op :: l, acc, h, hc => by
   refine befs_closed S l (acc ++ [befOne acc op.after.toList]) (fun i m hi hS k hk => ?_) (fun i op' hi hS e he => hc (i + 1) op' (by simpa using hi) (by simpa [Nat.add_assoc, Nat.add_comm 1 i] using hS) e he)
   rw [List.getElem?_append] at hi
   split at hi
   · exact h i m hi hS k hk
   · rename_i hlt
     have hi0 : i = acc.length := by
       have := (List.getElem?_eq_some_iff.1 hi).1
       simp at this; omega
     subst hi0
     simp at hi
     subst hi
     obtain ⟨e, he, hbe, h1⟩ := befOne_bit acc _ k hk
     have hSe := hc 0 op rfl (by simpa using hS) e (by simpa using he) hbe
     rcases h1 with h1 | h1
     · exact h1 ▸ hSe
     · cases hg : acc[e.on]? with
       | none => rw [List.getD_eq_getElem?_getD, hg, show ((none : Option Nat).getD 0) = 0 from rfl, bit_zero] at h1; cases h1
       | some m => rw [List.getD_eq_getElem?_getD, hg] at h1; exact h e.on m hg hSe k h1
def At (n : Nat) (c : Nat → TS) (F : Nat → Foot) (S : Nat → Prop) (k : Nat) (x : Ent) : Prop :=
 (∃ i, i < n ∧ S i ∧ hasBit (F i).W k = true ∧ (∀ i', i' < n → S i' → hasBit (F i').W k = true → i' ≤ i) ∧ x = (c (i + 1)).get k) ∨
 ((∀ i, i < n → S i → hasBit (F i).W k = false) ∧ x = (c 0).get k)
theorem At.unique {n : Nat} {c : Nat → TS} {F : Nat → Foot} {S S' : Nat → Prop} {k : Nat} {x y : Ent} (h : At n c F S k x) (g : At n c F S' k y) (he : ∀ i, i < n → hasBit (F i).W k = true → (S i ↔ S' i)) : x = y := by
 rcases h with ⟨i, a1, a2, a3, a4, a5⟩ | ⟨a1, a2⟩ <;> rcases g with ⟨j, b1, b2, b3, b4, b5⟩ | ⟨b1, b2⟩
 · have h1 := a4 j b1 ((he j b1 b3).2 b2) b3
   have h2 := b4 i a1 ((he i a1 a3).1 a2) a3
   have : i = j := by omega
   subst this; rw [a5, b5]
 · have := b1 i a1 ((he i a1 a3).1 a2); rw [a3] at this; cases this
 · have := a1 j b1 ((he j b1 b3).2 b2); rw [b3] at this; cases this
 · rw [a2, b2]
section
variable {n : Nat} {c : Nat → TS} {F : Nat → Foot} {hh : Hint} {ops : Array Oper}
theorem at_text (hrun : ∀ i op, i < n → ops[i]? = some op → ∃ ou, run1 E hh cf ops op (c i) = some (ou, c (i + 1), (F i).R, (F i).W)) (hn : n = ops.size) : ∀ j, j ≤ n → ∀ k, At n c F (fun i => i < j) k ((c j).get k)
 | 0, _, k => .inr ⟨fun i _ h => absurd h (Nat.not_lt_zero _), rfl⟩
 | j + 1, hj, k => by
   have ih := at_text hrun hn j (by omega) k
   obtain ⟨ou, h1⟩ := hrun j ops[j] (by omega) (Array.getElem?_eq_getElem (by omega))
   obtain ⟨ts2', _, h2, _, _⟩ := run_local (ts2 := c j) h1 (fun _ _ => rfl)
   cases hw : hasBit (F j).W k with
   | true => exact .inl ⟨j, by omega, Nat.lt_succ_self j, hw, fun i' _ h _ => by omega, rfl⟩
   | false =>
     rw [(h2 k hw).2]
     rcases ih with ⟨i, a1, a2, a3, a4, a5⟩ | ⟨a1, a2⟩
     · refine .inl ⟨i, a1, by omega, a3, fun i' b1 b2 b3 => ?_, a5⟩
       by_cases hi : i' = j
       · subst hi; rw [hw] at b3; cases b3
       · exact a4 i' b1 (by omega) b3
     · refine .inr ⟨fun i b1 b2 => ?_, a2⟩
       by_cases hi : i = j
       · subst hi; exact hw
       · exact a1 i b1 (by omega)
def Waits (n : Nat) (F : Nat → Foot) (ms : List Nat) : Prop := ∀ i j, i < j → j < n → ∃ m, ms[j]? = some m ∧ (footApart (F i) (F j) = true ∨ hasBit m i = true)
theorem any_ok (hE : EnvOk P E) (hm : Meets P E cf) (hnt : hh.nt ≤ G.nt) (hp : hh.prot = G.prot) (hkp : hh.kp = G.kp) (hn : n = ops.size)
   (hrun : ∀ i op, i < n → ops[i]? = some op → ∃ ou, run1 E hh cf ops op (c i) = some (ou, c (i + 1), (F i).R, (F i).W)) (hw : Waits n F (befs ops.toList [])) (hed : edgesOk 0 ops.toList = true)
   {Q : Exit → Act → World → Prop} (hQ : ∀ s', Ok P G s' → (∀ k, s'.ts.get k = (c n).get k) → Q .normal s'.a s'.w) :
   ∀ (fuel : Nat) (listed : Array Bool) (s : St), listed.size = n → Ok P G s → (∀ i op, ops[i]? = some op → listed.getD i false = true → ∀ e ∈ op.after, Region.binds .any e = true → listed.getD e.on false = true) →
     (∀ k, At n c F (fun i => listed.getD i false = true) k (s.ts.get k)) → ((List.range n).filter fun i => !listed.getD i false).length ≤ fuel → wpAny P .any ops Q fuel listed s.a s.w := by
 have hback : ∀ i op, ops[i]? = some op → ∀ e ∈ op.after, Region.binds .any e = true → e.on < i := fun i op hi e he hb => by
   have := edges_back hed i op (by rw [Array.getElem?_toList]; exact hi) e he hb
   omega
 have hreadyiff : ∀ (listed : Array Bool), listed.size = n → ∀ i, i ∈ Region.ready .any ops listed ↔ i < n ∧ listed.getD i false = false ∧ ∃ op, ops[i]? = some op ∧ ∀ e ∈ op.after, Region.binds .any e = true → listed.getD e.on false = true := fun listed hls i => by
   simp only [Region.ready, List.mem_filter, List.mem_range, Bool.and_eq_true, Bool.not_eq_true', ← hn]
   constructor
   · rintro ⟨h1, h2, h3⟩
     have e1 : listed.getD i true = listed.getD i false := by simp [Array.getD, hls, h1]
     rw [e1] at h2
     refine ⟨h1, h2, ops[i], Array.getElem?_eq_getElem (by omega), fun e he hb => ?_⟩
     rw [Array.getElem?_eq_getElem (by omega)] at h3
     simp only [Option.map_some, Option.getD_some] at h3
     have h4 := (Array.all_eq_true_iff_forall_mem.1 h3) e he
     rw [hb] at h4
     simpa using h4
   · rintro ⟨h1, h2, op, h3, h4⟩
     have e1 : listed.getD i true = listed.getD i false := by simp [Array.getD, hls, h1]
     rw [e1]
     refine ⟨h1, h2, ?_⟩
     rw [h3]
     simp only [Option.map_some, Option.getD_some]
     refine Array.all_eq_true_iff_forall_mem.2 fun e he => ?_
     cases hb : Region.binds .any e with
     | false => rfl
     | true => rw [h4 e he hb, Bool.or_true]
 have hdone : ∀ (listed : Array Bool) (s : St), listed.size = n → Ok P G s → (∀ k, At n c F (fun i => listed.getD i false = true) k (s.ts.get k)) → Region.ready .any ops listed = [] → Q .normal s.a s.w := by
   intro listed s hls hok hat hr
   have hall : ∀ i, i < n → listed.getD i false = true := by
     intro i
     induction i using Nat.strongRecOn with
     | _ i ih =>
       intro hi
       cases hq : listed.getD i false with
       | true => rfl
       | false =>
         exfalso
         have hop : ops[i]? = some ops[i] := Array.getElem?_eq_getElem (by omega)
         have : i ∈ Region.ready .any ops listed := (hreadyiff listed hls i).2 ⟨hi, hq, _, hop, fun e he hbe => by
           have hb := hback i _ hop e he hbe
           exact ih e.on hb (by omega)⟩
         rw [hr] at this; cases this
   refine hQ s hok fun k => (hat k).unique (at_text hrun hn n (Nat.le_refl _) k) fun i hi _ => ⟨fun _ => hi, fun _ => hall i hi⟩
 intro fuel
 induction fuel with
 | zero =>
   intro listed s hls hok hcl hat hcount
   have hr : Region.ready .any ops listed = [] := by
     apply List.eq_nil_iff_forall_not_mem.2
     intro i hi
     have := (hreadyiff listed hls i).1 hi
     have hmem : i ∈ (List.range n).filter fun i => !listed.getD i false := by simp only [List.mem_filter, List.mem_range, Bool.not_eq_true']; exact ⟨this.1, this.2.1⟩
     have hpos := List.length_pos_of_mem hmem
     omega
   exact ⟨hr, hdone listed s hls hok hat hr⟩
 | succ fuel ih =>
   intro listed s hls hok hcl hat hcount
   refine ⟨hdone listed s hls hok hat, fun j hj => ?_⟩
   obtain ⟨hjn, hjl, op, hop, hje⟩ := (hreadyiff listed hls j).1 hj
   obtain ⟨ou, hr⟩ := hrun j op hjn hop
   have hclosed : ∀ (i : Nat) m, (befs ops.toList [])[i]? = some m → (listed.getD i false = true ∨ i = j) → ∀ k, hasBit m k = true → (listed.getD k false = true ∨ k = j) := by
     refine befs_closed (fun i => listed.getD i false = true ∨ i = j) ops.toList [] (fun i m h => by simp at h) fun i op' hi hS e he hbe => ?_
     rw [Array.getElem?_toList] at hi
     simp only [List.length_nil, Nat.zero_add] at hS
     rcases hS with hS | hS
     · exact .inl (hcl i op' hi hS e he hbe)
     · subst hS; rw [hop] at hi; cases hi; exact .inl (hje e he hbe)
   have hclosed0 : ∀ (i : Nat) m, (befs ops.toList [])[i]? = some m → listed.getD i false = true → ∀ k, hasBit m k = true → listed.getD k false = true := by
     refine befs_closed (fun i => listed.getD i false = true) ops.toList [] (fun i m h => by simp at h) fun i op' hi hS e he hbe => ?_
     rw [Array.getElem?_toList] at hi
     simp only [List.length_nil, Nat.zero_add] at hS
     exact hcl i op' hi hS e he hbe
   have hconf : ∀ i, i < n → i ≠ j → footApart (F (min i j)) (F (max i j)) = false → (listed.getD i false = true ↔ i < j) := by
     intro i hi hij hap
     by_cases hlt : i < j
     · rw [Nat.min_eq_left (by omega), Nat.max_eq_right (by omega)] at hap
       obtain ⟨m, h1, h2⟩ := hw i j hlt hjn
       rw [hap] at h2
       have h3 := h2.resolve_left (by decide)
       exact ⟨fun _ => hlt, fun _ => (hclosed j m h1 (.inr rfl) i h3).resolve_right hij⟩
     · rw [Nat.min_eq_right (by omega), Nat.max_eq_left (by omega)] at hap
       obtain ⟨m, h1, h2⟩ := hw j i (by omega) hi
       rw [hap] at h2
       have h3 := h2.resolve_left (by decide)
       refine ⟨fun h => ?_, fun h => absurd h hlt⟩
       have := hclosed0 i m h1 h j h3
       rw [hjl] at this; cases this
   have hconfR : ∀ i k, i < n → i ≠ j → hasBit (F i).W k = true → hasBit (F j).R k = true ∨ hasBit (F j).W k = true → (listed.getD i false = true ↔ i < j) := by
     intro i k hi hij h1 h2
     refine hconf i hi hij ?_
     cases hap : footApart (F (min i j)) (F (max i j)) with
     | false => rfl
     | true =>
       exfalso
       rw [footApart_iff] at hap
       by_cases hlt : i < j
       · rw [Nat.min_eq_left (by omega), Nat.max_eq_right (by omega)] at hap
         have := hap.1 k h1
         rcases h2 with h2 | h2
         · rw [this.1] at h2; cases h2
         · rw [this.2] at h2; cases h2
       · rw [Nat.min_eq_right (by omega), Nat.max_eq_left (by omega)] at hap
         rcases h2 with h2 | h2
         · rw [hap.2 k h2] at h1; cases h1
         · rw [(hap.1 k h2).2] at h1; cases h1
   have hagree : ∀ k, hasBit (F j).R k = true → s.ts.get k = (c j).get k := fun k hk =>
     (hat k).unique (at_text hrun hn j (by omega) k) fun i hi hiw => by
       by_cases hij : i = j
       · subst hij; rw [hjl]; simp
       · exact hconfR i k hi hij hiw (.inl hk)
   obtain ⟨ts2', g1, g2, _, g4⟩ := run_local (ts2 := s.ts) hr hagree
   refine run1_ok hop hok hE hm hnt hp hkp g1 fun s' ok' he => ?_
   have hget : ∀ i, (listed.setIfInBounds j true).getD i false = (decide (i = j) || listed.getD i false) := fun i => by
     by_cases hij : i = j
     · subst hij; simp [hls, hjn]
     · simp [Array.getD_eq_getD_getElem?, Array.getElem?_setIfInBounds_ne (Ne.symm hij), hij]
   refine ih (listed.setIfInBounds j true) s' (by simp [hls]) ok' (fun i op' hi hl e he' hbe => ?_) (fun k => ?_) ?_
   · rw [hget, Bool.or_eq_true, decide_eq_true_eq] at hl
     rw [hget, Bool.or_eq_true]
     rcases hl with hl | hl
     · subst hl; rw [hop] at hi; cases hi; exact .inr (hje e he' hbe)
     · exact .inr (hcl i op' hi hl e he' hbe)
   · rw [he]
     cases hwk : hasBit (F j).W k with
     | true =>
       have hv : ts2'.get k = (c (j + 1)).get k := (g4 k hwk).resolve_left (by rw [bit_zero]; decide)
       refine .inl ⟨j, hjn, by show (listed.setIfInBounds j true).getD j false = true; rw [hget]; simp, hwk, fun i' h1 h2 h3 => ?_, hv⟩
       by_cases hij : i' = j
       · omega
       · dsimp only at h2
         rw [hget, Bool.or_eq_true, decide_eq_true_eq] at h2
         exact Nat.le_of_lt ((hconfR i' k h1 hij h3 (.inr hwk)).1 (h2.resolve_left hij))
     | false =>
       rw [(g2 k hwk).1]
       rcases hat k with ⟨i, a1, a2, a3, a4, a5⟩ | ⟨a1, a2⟩
       · refine .inl ⟨i, a1, by show (listed.setIfInBounds j true).getD i false = true; rw [hget, show listed.getD i false = true from a2, Bool.or_true], a3, fun i' b1 b2 b3 => ?_, a5⟩
         dsimp only at b2
         rw [hget, Bool.or_eq_true, decide_eq_true_eq] at b2
         rcases b2 with b2 | b2
         · subst b2; rw [hwk] at b3; cases b3
         · exact a4 i' b1 b2 b3
       · refine .inr ⟨fun i b1 b2 => ?_, a2⟩
         dsimp only at b2
         rw [hget, Bool.or_eq_true, decide_eq_true_eq] at b2
         rcases b2 with b2 | b2
         · subst b2; exact hwk
         · exact a1 i b1 b2
   · have hlt : ((List.range n).filter fun i => !(listed.setIfInBounds j true).getD i false).length < ((List.range n).filter fun i => !listed.getD i false).length := by
       have hsub : ((List.range n).filter fun i => !(listed.setIfInBounds j true).getD i false) = ((List.range n).filter fun i => !listed.getD i false).filter fun i => !decide (i = j) := by
         rw [List.filter_filter]
         apply List.filter_congr
         intro i _
         rw [hget, Bool.not_or]
       rw [hsub]
       apply List.length_filter_lt_length_iff_exists.2
       exact ⟨j, by simp only [List.mem_filter, List.mem_range, Bool.not_eq_true']; exact ⟨hjn, hjl⟩, by simp⟩
     omega
end
end
end Go.Proofs.Ytbaihlhoedbpkaa.Tm
namespace Go.Proofs.Ytbaihlhoedbpkaa.Tm
open Go
section
variable {P : Program} {G : Ctx} {s : St} {cf : FuncId → List AD → Option Res} {ts ts' : TS} {o : Out} {E : Env}
noncomputable def normEnt (ts : TS) (e : Ent) : Ent := match e with
 | ⟨.vw p v, _, t⟩ => bif Nat.beq (ts.get p).ver v then ⟨.vw p 0, 0, t⟩ else ⟨.dead, 0, t⟩
 | ⟨.el p v, _, t⟩ => bif Nat.beq (ts.get p).ver v then ⟨.el p 0, 0, t⟩ else ⟨.dead, 0, t⟩
 | ⟨.ad s v o, _, t⟩ => bif Nat.beq (ts.get (key s 0)).ver v then ⟨.ad s 0 o, 0, t⟩ else ⟨.dead, 0, t⟩
 | ⟨.sb s v, _, t⟩ => bif Nat.beq (ts.get (key s 0)).ver v then ⟨.sb s 0, 0, t⟩ else ⟨.dead, 0, t⟩
 | ⟨.clo g s v, _, t⟩ => bif Nat.beq (ts.get (key s 0)).ver v then ⟨.clo g s 0, 0, t⟩ else ⟨.dead, 0, t⟩
 | ⟨.mp l s v, _, t⟩ => bif Nat.beq (ts.get (key s 0)).ver v then ⟨.mp l s 0, 0, t⟩ else ⟨.dead, 0, t⟩
 | ⟨.ma s v, _, t⟩ => bif Nat.beq (ts.get (key s 0)).ver v then ⟨.ma s 0, 0, t⟩ else ⟨.dead, 0, t⟩
 | ⟨k, _, t⟩ => ⟨k, 0, t⟩
theorem normE_eq {α : Type} (ts : TS) (e : Ent) (f : Ent → α) : normE ts e f = f (normEnt ts e) := by
 obtain ⟨k, v, t⟩ := e
 cases k with
 | vw p w => show (bif _ then _ else _) = f (bif _ then _ else _); cases Nat.beq (ts.get p).ver w <;> rfl
 | el p w => show (bif _ then _ else _) = f (bif _ then _ else _); cases Nat.beq (ts.get p).ver w <;> rfl
 | ad p w o => show (bif _ then _ else _) = f (bif _ then _ else _); cases Nat.beq (ts.get (key p 0)).ver w <;> rfl
 | sb p w => show (bif _ then _ else _) = f (bif _ then _ else _); cases Nat.beq (ts.get (key p 0)).ver w <;> rfl
 | clo g p w => show (bif _ then _ else _) = f (bif _ then _ else _); cases Nat.beq (ts.get (key p 0)).ver w <;> rfl
 | mp l p w => show (bif _ then _ else _) = f (bif _ then _ else _); cases Nat.beq (ts.get (key p 0)).ver w <;> rfl
 | ma p w => show (bif _ then _ else _) = f (bif _ then _ else _); cases Nat.beq (ts.get (key p 0)).ver w <;> rfl
 | _ => rfl
theorem normEnt_ver (ts : TS) (e : Ent) : (normEnt ts e).ver = 0 := by
 obtain ⟨k, v, t⟩ := e
 cases k with
 | vw p w => show Ent.ver (bif _ then _ else _) = _; cases Nat.beq (ts.get p).ver w <;> rfl
 | el p w => show Ent.ver (bif _ then _ else _) = _; cases Nat.beq (ts.get p).ver w <;> rfl
 | ad p w o => show Ent.ver (bif _ then _ else _) = _; cases Nat.beq (ts.get (key p 0)).ver w <;> rfl
 | sb p w => show Ent.ver (bif _ then _ else _) = _; cases Nat.beq (ts.get (key p 0)).ver w <;> rfl
 | clo g p w => show Ent.ver (bif _ then _ else _) = _; cases Nat.beq (ts.get (key p 0)).ver w <;> rfl
 | mp l p w => show Ent.ver (bif _ then _ else _) = _; cases Nat.beq (ts.get (key p 0)).ver w <;> rfl
 | ma p w => show Ent.ver (bif _ then _ else _) = _; cases Nat.beq (ts.get (key p 0)).ver w <;> rfl
 | _ => rfl
def keeps (ts : TS) (keep k : Nat) : Bool := hasBit keep (Nat.shiftRight k 6) && hasBit ts.m k
noncomputable def cleanP (ts : TS) (keep : Nat) : List (Nat × Ent) → Nat → Nat × List (Nat × Ent)
 | [], seen => (seen, [])
 | (k, e) :: l, seen => bif keeps ts keep k && !hasBit seen k then ((cleanP ts keep l (setBit seen k)).1, (k, normEnt ts e) :: (cleanP ts keep l (setBit seen k)).2) else cleanP ts keep l seen
theorem cleanL_eq {α : Type} (ts : TS) (keep : Nat) : ∀ (l : List (Nat × Ent)) (seen : Nat) (f : Nat → List (Nat × Ent) → α), cleanL ts keep l seen f = f (cleanP ts keep l seen).1 (cleanP ts keep l seen).2
 | [], seen, f => rfl
 | (k, e) :: l, seen, f => by
   have h : cleanL ts keep ((k, e) :: l) seen f = Bool.rec (motive := fun _ => α) (cleanL ts keep l seen f)
       (fNat (setBit seen k) fun m => normE ts e fun e => cleanL ts keep l m fun m r => f m ((k, e) :: r))
       (Bool.rec (motive := fun _ => Bool) false (Bool.rec (motive := fun _ => Bool) true false (hasBit seen k)) (Bool.rec (motive := fun _ => Bool) false (hasBit ts.m k) (hasBit keep (Nat.shiftRight k 6)))) := rfl
   rw [h]
   have hb : (Bool.rec (motive := fun _ => Bool) false (Bool.rec (motive := fun _ => Bool) true false (hasBit seen k)) (Bool.rec (motive := fun _ => Bool) false (hasBit ts.m k) (hasBit keep (Nat.shiftRight k 6)))) = (keeps ts keep k && !hasBit seen k) := by
     unfold keeps
     cases hasBit keep (Nat.shiftRight k 6) <;> cases hasBit ts.m k <;> cases hasBit seen k <;> rfl
   rw [hb, fNat_eq, normE_eq, cleanL_eq ts keep l, cleanL_eq ts keep l]
   show _ = f (bif _ then _ else _ : Nat × List (Nat × Ent)).1 (bif _ then _ else _ : Nat × List (Nat × Ent)).2
   cases keeps ts keep k && !hasBit seen k <;> rfl
theorem walk_cons (x : Nat × Ent) (l : List (Nat × Ent)) (k : Nat) : walk (x :: l) k = if k = x.1 then x.2 else walk l k := by
 have h : walk (x :: l) k = Bool.rec (motive := fun _ => Ent) (walk l k) x.2 (Nat.beq x.1 k) := rfl
 rw [h]
 by_cases hk : k = x.1
 · rw [if_pos hk, (beq_iff _ _).2 hk.symm]
 · rw [if_neg hk]
   cases hq : Nat.beq x.1 k with
   | false => rfl
   | true => exact absurd ((beq_iff _ _).1 hq).symm hk
theorem TS.get_eq (ts : TS) (k : Nat) : ts.get k = bif hasBit ts.m k then walk ts.l k else Ent.no := by
 have h : ts.get k = Bool.rec (motive := fun _ => Ent) Ent.no (walk ts.l k) (hasBit ts.m k) := rfl
 rw [h]; cases hasBit ts.m k <;> rfl
theorem cleanP_get (ts : TS) (keep : Nat) : ∀ (l : List (Nat × Ent)) (seen : Nat) (k : Nat),
   hasBit (cleanP ts keep l seen).1 k = (hasBit seen k || (keeps ts keep k && l.any fun x => Nat.beq x.1 k)) ∧
   walk (cleanP ts keep l seen).2 k = bif keeps ts keep k && !hasBit seen k && l.any (fun x => Nat.beq x.1 k) then normEnt ts (walk l k) else Ent.no
 | [], seen, k => ⟨by simp [cleanP], by simp [cleanP]; rfl⟩
 | (j, e) :: l, seen, k => by
   have ih1 := cleanP_get ts keep l seen k
   have ih2 := cleanP_get ts keep l (setBit seen j) k
   simp only [cleanP]
   have hset : hasBit (setBit seen j) k = (decide (k = j) || hasBit seen k) := hasBit_set _ _ _
   by_cases hk : k = j
   · subst hk
     have hkk : Nat.beq k k = true := (beq_iff _ _).2 rfl
     cases hq : keeps ts keep k && !hasBit seen k with
     | true =>
       rw [cond_true, walk_cons, if_pos rfl, ih2.1, hset, walk_cons, if_pos rfl]
       rw [Bool.and_eq_true, Bool.not_eq_true'] at hq
       simp [hkk, hq.1, hq.2]
     | false =>
       rw [cond_false, ih1.1, ih1.2]
       simp only [List.any_cons, hkk, Bool.true_or, Bool.and_true]
       cases h1 : keeps ts keep k <;> cases h2 : hasBit seen k <;> simp [h1, h2] at hq ⊢
   · have hkk : Nat.beq j k = false := by
       cases hq : Nat.beq j k with
       | false => rfl
       | true => exact absurd ((beq_iff _ _).1 hq).symm hk
     have hdk : decide (k = j) = false := by simp [hk]
     rw [hdk, Bool.false_or] at hset
     cases hq : keeps ts keep j && !hasBit seen j with
     | true =>
       rw [cond_true, walk_cons, if_neg hk, ih2.1, ih2.2, hset]
       simp only [List.any_cons, hkk, Bool.false_or]
       rw [walk_cons, if_neg hk]
       exact ⟨by first | rfl | trivial, by first | rfl | trivial⟩
     | false =>
       rw [cond_false, ih1.1, ih1.2]
       simp only [List.any_cons, hkk, Bool.false_or]
       rw [walk_cons, if_neg hk]
       exact ⟨by first | rfl | trivial, by first | rfl | trivial⟩
theorem walk_none : ∀ (l : List (Nat × Ent)) (k : Nat), l.any (fun x => Nat.beq x.1 k) = false → walk l k = Ent.no
 | [], _, _ => rfl
 | x :: l, k, h => by
   simp only [List.any_cons, Bool.or_eq_false_iff] at h
   rw [walk_cons, if_neg (fun e => by rw [(beq_iff _ _).2 e.symm] at h; cases h.1), walk_none l k h.2]
theorem normEnt_no (ts : TS) : normEnt ts Ent.no = Ent.no := rfl
noncomputable def cleaned (ts : TS) (keep : Nat) : TS := ⟨(cleanP ts keep ts.l 0).1, (cleanP ts keep ts.l 0).2⟩
theorem clean_eq {α : Type} (ts : TS) (keep : Nat) (f : TS → α) : clean ts keep f = f (cleaned ts keep) := by unfold clean; rw [cleanL_eq]; rfl
theorem cleaned_get (ts : TS) (keep k : Nat) : (cleaned ts keep).get k = if hasBit keep (Nat.shiftRight k 6) = true then normEnt ts (ts.get k) else Ent.no := by
 have h := cleanP_get ts keep ts.l 0 k
 rw [TS.get_eq]
 show (bif hasBit (cleanP ts keep ts.l 0).1 k then walk (cleanP ts keep ts.l 0).2 k else Ent.no) = _
 rw [h.1, h.2, bit_zero, Bool.false_or, TS.get_eq]
 simp only [Bool.not_false, Bool.and_true, keeps]
 cases h1 : hasBit keep (Nat.shiftRight k 6) with
 | false => simp
 | true =>
   cases h2 : hasBit ts.m k with
   | false => simp [normEnt_no]
   | true =>
     cases h3 : ts.l.any fun x => Nat.beq x.1 k with
     | true => simp
     | false => simp [walk_none _ _ h3, normEnt_no]
theorem clean_ok (h : Ok P G s) (keep : Nat) : Ok P G { s with ts := cleaned s.ts keep } := by
 have hver : ∀ k, ((cleaned s.ts keep).get k).ver = 0 := fun k => by rw [cleaned_get]; split; exact normEnt_ver _ _; rfl
 have hcell : ∀ k, CellOk P { s with ts := cleaned s.ts keep } k := fun k => by
   have hc := h.cell k (by intro h; cases h)
   unfold CellOk at hc ⊢
   dsimp only
   rw [cleaned_get]
   by_cases hkp : hasBit keep (Nat.shiftRight k 6) = true
   · rw [if_pos hkp]
     generalize hE : s.ts.get k = e at hc
     obtain ⟨kk, v, t⟩ := e
     cases kk with
     | vw p w =>
       have hn : normEnt s.ts ⟨.vw p w, v, t⟩ = bif Nat.beq (s.ts.get p).ver w then ⟨.vw p 0, 0, t⟩ else ⟨.dead, 0, t⟩ := rfl
       rw [hn]
       cases hb : Nat.beq (s.ts.get p).ver w with
       | true => exact ⟨Nat.zero_le _, fun _ => hc.2 ((beq_iff _ _).1 hb)⟩
       | false => trivial
     | ad p w o =>
       have hn : normEnt s.ts ⟨.ad p w o, v, t⟩ = bif Nat.beq (s.ts.get (key p 0)).ver w then ⟨.ad p 0 o, 0, t⟩ else ⟨.dead, 0, t⟩ := rfl
       rw [hn]; cases Nat.beq (s.ts.get (key p 0)).ver w <;> trivial
     | sb p w =>
       have hn : normEnt s.ts ⟨.sb p w, v, t⟩ = bif Nat.beq (s.ts.get (key p 0)).ver w then ⟨.sb p 0, 0, t⟩ else ⟨.dead, 0, t⟩ := rfl
       rw [hn]; cases Nat.beq (s.ts.get (key p 0)).ver w <;> trivial
     | clo g p w =>
       have hn : normEnt s.ts ⟨.clo g p w, v, t⟩ = bif Nat.beq (s.ts.get (key p 0)).ver w then ⟨.clo g p 0, 0, t⟩ else ⟨.dead, 0, t⟩ := rfl
       rw [hn]; cases Nat.beq (s.ts.get (key p 0)).ver w <;> trivial
     | mp l p w =>
       have hn : normEnt s.ts ⟨.mp l p w, v, t⟩ = bif Nat.beq (s.ts.get (key p 0)).ver w then ⟨.mp l p 0, 0, t⟩ else ⟨.dead, 0, t⟩ := rfl
       rw [hn]; cases Nat.beq (s.ts.get (key p 0)).ver w <;> trivial
     | ma p w =>
       have hn : normEnt s.ts ⟨.ma p w, v, t⟩ = bif Nat.beq (s.ts.get (key p 0)).ver w then ⟨.ma p 0, 0, t⟩ else ⟨.dead, 0, t⟩ := rfl
       rw [hn]; cases Nat.beq (s.ts.get (key p 0)).ver w <;> trivial
     | el p w =>
       have hn : normEnt s.ts ⟨.el p w, v, t⟩ = bif Nat.beq (s.ts.get p).ver w then ⟨.el p 0, 0, t⟩ else ⟨.dead, 0, t⟩ := rfl
       rw [hn]; cases Nat.beq (s.ts.get p).ver w <;> trivial
     | im => exact hc
     | own e => exact hc
     | _ => trivial
   · rw [if_neg hkp]; trivial
 have hbox : ∀ i, isBox ((cleaned s.ts keep).get (key i 0)).k = true → ∃ e n, (s.ts.get (key i 0)).k = .box e n := fun i hb => by
   rw [cleaned_get] at hb
   split at hb
   · generalize hE : s.ts.get (key i 0) = e at hb
     obtain ⟨kk, v, t⟩ := e
     cases kk with
     | vw p w => rw [show normEnt s.ts ⟨.vw p w, v, t⟩ = bif Nat.beq (s.ts.get p).ver w then ⟨.vw p 0, 0, t⟩ else ⟨.dead, 0, t⟩ from rfl] at hb; cases hq : Nat.beq (s.ts.get p).ver w <;> rw [hq] at hb <;> cases hb
     | ad p w o => rw [show normEnt s.ts ⟨.ad p w o, v, t⟩ = bif Nat.beq (s.ts.get (key p 0)).ver w then ⟨.ad p 0 o, 0, t⟩ else ⟨.dead, 0, t⟩ from rfl] at hb; cases hq : Nat.beq (s.ts.get (key p 0)).ver w <;> rw [hq] at hb <;> cases hb
     | sb p w => rw [show normEnt s.ts ⟨.sb p w, v, t⟩ = bif Nat.beq (s.ts.get (key p 0)).ver w then ⟨.sb p 0, 0, t⟩ else ⟨.dead, 0, t⟩ from rfl] at hb; cases hq : Nat.beq (s.ts.get (key p 0)).ver w <;> rw [hq] at hb <;> cases hb
     | clo g p w => rw [show normEnt s.ts ⟨.clo g p w, v, t⟩ = bif Nat.beq (s.ts.get (key p 0)).ver w then ⟨.clo g p 0, 0, t⟩ else ⟨.dead, 0, t⟩ from rfl] at hb; cases hq : Nat.beq (s.ts.get (key p 0)).ver w <;> rw [hq] at hb <;> cases hb
     | mp l p w => rw [show normEnt s.ts ⟨.mp l p w, v, t⟩ = bif Nat.beq (s.ts.get (key p 0)).ver w then ⟨.mp l p 0, 0, t⟩ else ⟨.dead, 0, t⟩ from rfl] at hb; cases hq : Nat.beq (s.ts.get (key p 0)).ver w <;> rw [hq] at hb <;> cases hb
     | ma p w => rw [show normEnt s.ts ⟨.ma p w, v, t⟩ = bif Nat.beq (s.ts.get (key p 0)).ver w then ⟨.ma p 0, 0, t⟩ else ⟨.dead, 0, t⟩ from rfl] at hb; cases hq : Nat.beq (s.ts.get (key p 0)).ver w <;> rw [hq] at hb <;> cases hb
     | el p w => rw [show normEnt s.ts ⟨.el p w, v, t⟩ = bif Nat.beq (s.ts.get p).ver w then ⟨.el p 0, 0, t⟩ else ⟨.dead, 0, t⟩ from rfl] at hb; cases hq : Nat.beq (s.ts.get p).ver w <;> rw [hq] at hb <;> cases hb
     | box e n => exact ⟨e, n, rfl⟩
     | _ => cases hb
   · cases hb
 have hmain : ∀ i, MainOk { s with ts := cleaned s.ts keep } i := fun i => by
   have hm := h.main i (by intro h; cases h)
   unfold MainOk at hm ⊢
   dsimp only
   have hg := cleaned_get s.ts keep (key i 0)
   split at hg
   · rw [hg]
     generalize hE : s.ts.get (key i 0) = e at hm hg
     obtain ⟨kk, v, t⟩ := e
     cases kk with
     | vw p w =>
       rw [show normEnt s.ts ⟨.vw p w, v, t⟩ = bif Nat.beq (s.ts.get p).ver w then ⟨.vw p 0, 0, t⟩ else ⟨.dead, 0, t⟩ from rfl]; cases Nat.beq (s.ts.get p).ver w <;> trivial
     | ad p w o =>
       rw [show normEnt s.ts ⟨.ad p w o, v, t⟩ = bif Nat.beq (s.ts.get (key p 0)).ver w then ⟨.ad p 0 o, 0, t⟩ else ⟨.dead, 0, t⟩ from rfl]
       cases hb : Nat.beq (s.ts.get (key p 0)).ver w with
       | false => trivial
       | true =>
         refine ⟨Nat.zero_le _, fun _ hbx => hm.2 ((beq_iff _ _).1 hb) ?_⟩
         obtain ⟨e, n, he⟩ := hbox p hbx
         rw [he]; rfl
     | sb p w =>
       rw [show normEnt s.ts ⟨.sb p w, v, t⟩ = bif Nat.beq (s.ts.get (key p 0)).ver w then ⟨.sb p 0, 0, t⟩ else ⟨.dead, 0, t⟩ from rfl]
       cases hb : Nat.beq (s.ts.get (key p 0)).ver w with
       | false => trivial
       | true =>
         refine ⟨Nat.zero_le _, fun _ hbx => hm.2 ((beq_iff _ _).1 hb) ?_⟩
         obtain ⟨e, n, he⟩ := hbox p hbx
         rw [he]; rfl
     | clo g p w =>
       rw [show normEnt s.ts ⟨.clo g p w, v, t⟩ = bif Nat.beq (s.ts.get (key p 0)).ver w then ⟨.clo g p 0, 0, t⟩ else ⟨.dead, 0, t⟩ from rfl]
       cases hb : Nat.beq (s.ts.get (key p 0)).ver w with
       | false => trivial
       | true =>
         refine ⟨Nat.zero_le _, fun _ hbx => hm.2 ((beq_iff _ _).1 hb) ?_⟩
         obtain ⟨e, n, he⟩ := hbox p hbx
         rw [he]; rfl
     | mp l p w =>
       rw [show normEnt s.ts ⟨.mp l p w, v, t⟩ = bif Nat.beq (s.ts.get (key p 0)).ver w then ⟨.mp l p 0, 0, t⟩ else ⟨.dead, 0, t⟩ from rfl]
       cases hb : Nat.beq (s.ts.get (key p 0)).ver w with
       | false => trivial
       | true =>
         obtain ⟨_, b, es, ck, c2, c3, c4, c5, cs, c6⟩ := hm
         exact ⟨Nat.zero_le _, b, es, ck, c2, c3, c4, c5, cs, fun _ => c6 ((beq_iff _ _).1 hb)⟩
     | ma p w =>
       rw [show normEnt s.ts ⟨.ma p w, v, t⟩ = bif Nat.beq (s.ts.get (key p 0)).ver w then ⟨.ma p 0, 0, t⟩ else ⟨.dead, 0, t⟩ from rfl]
       cases hb : Nat.beq (s.ts.get (key p 0)).ver w with
       | false => trivial
       | true => exact ⟨Nat.zero_le _, fun _ => hm.2 ((beq_iff _ _).1 hb)⟩
     | el p w =>
       have hn : normEnt s.ts ⟨.el p w, v, t⟩ = bif Nat.beq (s.ts.get p).ver w then ⟨.el p 0, 0, t⟩ else ⟨.dead, 0, t⟩ := rfl
       rw [hn]
       cases hb : Nat.beq (s.ts.get p).ver w with
       | false => trivial
       | true =>
         refine ⟨Nat.zero_le _, fun _ x y hxy => ?_⟩
         exact hm.2 ((beq_iff _ _).1 hb) x y hxy
     | ai =>
       intro x cs hx
       exact hm x cs hx
     | cp =>
       intro n cs hx
       exact hm n cs hx
     | one => exact hm
     | agg n => exact hm
     | box e n => exact hm
     | tup sh => exact hm
     | und => exact hm
     | _ => trivial
   · rw [hg]; trivial
 exact { keep := h.keep, nt := h.nt, df := h.df, lt := h.lt, ex := h.ex, s0 := h.s0, cell := fun k _ => hcell k, main := fun i _ => hmain i, pok := h.pok,
         prot := fun i hi hb => by obtain ⟨e, n, he⟩ := hbox i hb; exact h.prot i hi (by rw [he]; rfl)
         fix := h.fix }
theorem walk_ins (x : Nat × Ent) (k : Nat) : ∀ l : List (Nat × Ent), walk (insE x l) k = walk (x :: l) k
 | [] => rfl
 | y :: l => by
   simp only [insE]
   cases hb : Nat.ble x.1 y.1 with
   | true => rfl
   | false =>
     rw [cond_false, walk_cons, walk_ins x k l, walk_cons, walk_cons, walk_cons]
     by_cases h1 : k = y.1
     · have h2 : ¬ k = x.1 := fun e => by
         have : Nat.ble x.1 y.1 = true := (ble_iff _ _).2 (by omega)
         rw [hb] at this; cases this
       rw [if_pos h1, if_neg h2, if_pos h1]
     · rw [if_neg h1]
       by_cases h2 : k = x.1
       · rw [if_pos h2, if_pos h2]
       · rw [if_neg h2, if_neg h2, if_neg h1]
theorem walk_sort (k : Nat) : ∀ l : List (Nat × Ent), walk (sortE l) k = walk l k
 | [] => rfl
 | x :: l => by
   show walk (insE x (sortE l)) k = _
   rw [walk_ins, walk_cons, walk_cons, walk_sort k l]
theorem freezeKeys_ok : ∀ (ks : List Nat) {s : St}, Ok P G s → ∃ s', Ok P G s' ∧ s'.a = s.a ∧ s'.w = s.w ∧ s'.ts = freezeKeys ks s.ts
 | [], s, h => ⟨s, h, rfl, rfl, rfl⟩
 | k :: ks, s, h => by
   simp only [freezeKeys]
   cases hk : (s.ts.get k).k with
   | own e =>
     have h1 := (h.froze hk).1
     obtain ⟨s', a1, a2, a3, a4⟩ := freezeKeys_ok ks h1
     exact ⟨s', a1, a2, a3, a4⟩
   | _ => exact freezeKeys_ok ks h
theorem loopHead_ok (h : Ok P G s) (hh : Hint) (lbl : Nat) : ∃ s', Ok P G s' ∧ s'.a = s.a ∧ s'.w = s.w ∧ s'.ts = loopHead hh lbl s.ts := by
 unfold loopHead
 cases headOf hh lbl with
 | none => exact ⟨s, h, rfl, rfl, rfl⟩
 | some x =>
   obtain ⟨ks, fz⟩ := x
   obtain ⟨s1, h1, h2, h3, h4⟩ := freezeKeys_ok fz h
   dsimp only
   rw [clean_eq, ← h4]
   have h5 := clean_ok h1 ks
   refine ⟨_, h5.ext (ts1 := ⟨(cleaned s1.ts ks).m, sortE (cleaned s1.ts ks).l⟩) fun k => ?_, h2, h3, rfl⟩
   show TS.get _ k = (cleaned s1.ts ks).get k
   rw [TS.get_eq, TS.get_eq, walk_sort]
theorem loopTail_ok (h : Ok P G s) (hh : Hint) (lbl : Nat) : ∃ s', Ok P G s' ∧ s'.a = s.a ∧ s'.w = s.w ∧ s'.ts = loopTail hh lbl s.ts := by
 unfold loopTail
 cases (hh.tails.find? fun x => Nat.beq x.1 lbl).map (·.2) with
 | none => exact ⟨s, h, rfl, rfl, rfl⟩
 | some ks =>
   dsimp only
   rw [clean_eq]
   have h5 := clean_ok h ks
   refine ⟨_, h5.ext (ts1 := ⟨(cleaned s.ts ks).m, sortE (cleaned s.ts ks).l⟩) fun k => ?_, rfl, rfl, rfl⟩
   show TS.get _ k = (cleaned s.ts ks).get k
   rw [TS.get_eq, TS.get_eq, walk_sort]
theorem tailed_eq (hh : Hint) (lbl : Nat) (body : TS → Option (Ex × TS)) (ts : TS) : tailed hh lbl body ts = match body ts with
 | some (.normal, ts') => some (.normal, ts')
 | some (e, ts') => some (e, loopTail hh lbl ts')
 | none => none := by
 unfold tailed
 cases body ts with
 | none => rfl
 | some x =>
   obtain ⟨ex, ts'⟩ := x
   cases ex <;> first | rfl | exact fTS_eq _ _
end
end Go.Proofs.Ytbaihlhoedbpkaa.Tm
namespace Go.Proofs.Ytbaihlhoedbpkaa.Tm
open Go
section
variable {P : Program} {G : Ctx} {s : St} {cf : FuncId → List AD → Option Res} {ts ts' : TS} {o : Out} {E : Env}
def exOf : Ex → Exit
 | .normal => .normal
 | .exit id => .exit id
 | .ret => .ret
def QE (P : Program) (G : Ctx) (ex : Ex) (ts' : TS) : Exit → Act → World → Prop := fun e a w => e = exOf ex ∧ ∃ s', s'.a = a ∧ s'.w = w ∧ Ok P G s' ∧ s'.ts = ts'
theorem drawSchedule (hm : P.follows .mixedOrders = true) (ops : Array Oper) (t : Nat) : Region.schedule (P.follows .mixedOrders) ops t = Region.linearise .any ops t := by
 unfold Region.schedule
 rw [hm]; simp
theorem region_ok (hE : EnvOk P E) (hm : Meets P E cf) {hh : Hint} (hnt : hh.nt ≤ G.nt) (hp : hh.prot = G.prot) (hkp : hh.kp = G.kp) {id : Nat} {ops : Array Oper} {draw : Bool} {ex : Ex} (h : Ok P G s)
   (hr : codeRegion E hh cf ops draw s.ts = some (ex, ts')) : (Code.region id ops draw).wp P (QE P G ex ts') s.a s.w := by
 unfold codeRegion at hr
 cases h1 : runOps E hh cf ops ops.toList s.ts with
 | none => rw [h1] at hr; cases hr
 | some x =>
   obtain ⟨ts1, fs⟩ := x
   rw [h1] at hr
   dsimp only at hr
   cases h2 : (!draw || (indep ops fs && edgesOk 0 ops.toList)) with
   | false => rw [h2] at hr; cases hr
   | true =>
     rw [h2, cond_true, clean_eq] at hr
     cases hr
     have fin : ∀ s', Ok P G s' → (∀ k, s'.ts.get k = ts1.get k) → QE P G .normal (cleaned ts1 hh.keep) .normal s'.a s'.w := fun s' h3 h4 =>
       ⟨rfl, { s' with ts := cleaned ts1 hh.keep }, rfl, rfl, clean_ok (h3.ext (ts1 := ts1) fun k => (h4 k).symm) hh.keep, rfl⟩
     cases draw with
     | false =>
       refine wp_region ?_
       have := seq_ok (Q := QE P G .normal (cleaned ts1 hh.keep)) hE hm hnt hp hkp (pre := []) (l := ops.toList) rfl h h1 fun s' h3 h4 => fin s' h3 fun k => by rw [h4]
       simpa using this
     | true =>
       simp only [Bool.not_true, Bool.false_or, Bool.and_eq_true] at h2
       obtain ⟨hi, he⟩ := h2
       obtain ⟨hfl, c, hc0, hcn, hst⟩ := runOps_trace h1
       refine wp_region_draw fun t => ?_
       rw [drawSchedule hE.mixed]
       have hF : ∀ i, i < ops.size → ∃ f, fs[i]? = some f := fun i hi => ⟨fs[i]'(by rw [hfl]; simpa using hi), List.getElem?_eq_getElem _⟩
       let F : Nat → Foot := fun i => fs.getD i ⟨0, 0⟩
       have hFi : ∀ i f, fs[i]? = some f → F i = f := fun i f hf => by show fs.getD i _ = f; rw [List.getD_eq_getElem?_getD, hf]; rfl
       have hlen : ops.toList.length = ops.size := by simp
       have hany := any_ok (c := c) (F := F) (n := ops.size) (Q := QE P G .normal (cleaned ts1 hh.keep)) hE hm hnt hp hkp rfl (fun i op hi hop => by
         obtain ⟨f, hf, ou, hou⟩ := hst i op (by rw [Array.getElem?_toList]; exact hop)
         exact ⟨ou, by rw [hFi i f hf]; exact hou⟩) (fun i j hij hj => by
         obtain ⟨f, hf⟩ := hF i (by omega)
         obtain ⟨g, hg⟩ := hF j hj
         obtain ⟨m, a1, a2⟩ := indepL_ok hi i j f g hij hf hg
         rw [hFi i f hf, hFi j g hg]
         exact ⟨m, a1, by rwa [Nat.zero_add] at a2⟩) he (fun s' h3 h4 => fin s' h3 fun k => by rw [h4 k]; rw [hlen] at hcn; rw [hcn])
       have h0 := hany ops.size (Array.replicate ops.size false) { s with w := { s.w with drawn := s.w.drawn + 1 } } (by simp) (h.drew _) (fun i op hi hl => by
           simp [Array.getD_eq_getD_getElem?, Array.getElem?_replicate] at hl
           split at hl <;> simp at hl) (fun k => .inr ⟨fun i hi hl => by
           simp [Array.getD_eq_getD_getElem?, Array.getElem?_replicate] at hl
           split at hl <;> simp at hl, by rw [hc0]⟩) (Nat.le_trans (List.length_filter_le _ _) (by simp))
       exact wpAny_sound ops.size t _ _ _ h0
theorem cond_ok {c : Operand} {x y : Code} {X Y : TS → Option (Ex × TS)} {ex : Ex} (h : Ok P G s) (hx : ∀ s, Ok P G s → X s.ts = some (ex, ts') → x.wp P (QE P G ex ts') s.a s.w) (hy : ∀ s, Ok P G s → Y s.ts = some (ex, ts') → y.wp P (QE P G ex ts') s.a s.w)
   (hr : codeCond cf c X Y s.ts = some (ex, ts')) : (Code.cond c x y).wp P (QE P G ex ts') s.a s.w := by
 unfold codeCond at hr
 cases h1 : (condP c fun b => .ret (.bool b)).run cf s.ts 0 0 with
 | none => rw [h1] at hr; cases hr
 | some z =>
   obtain ⟨ou, ts1, R, W⟩ := z
   rw [h1] at hr
   have hrun : Runs cf (condP c fun b => .ret (.bool b)) s.ts ou ts1 := ⟨_, _, _, _, h1⟩
   obtain ⟨d, hd, hr1⟩ := opd_ok h hrun
   obtain ⟨_, hr2⟩ := litOf_ok hd hr1
   generalize hv : s.a.eval c = v at hr2
   cases v <;> try exact (Runs.fail hr2).elim
   rename_i b
   have hr3 := Runs.test hr2
   obtain ⟨rfl, rfl⟩ := Runs.ret hr3
   dsimp only at hr
   refine wp_cond_split hv (fun hb => ?_) (fun hb => ?_)
   · subst hb; exact hx s h hr
   · subst hb; exact hy s h hr
theorem exists_least {p : Nat → Prop} (h : ∃ n, p n) : ∃ n, p n ∧ ∀ m, p m → n ≤ m := by
 obtain ⟨n, hn⟩ := h
 induction n using Nat.strongRecOn with
 | _ n ih =>
   by_cases hm : ∃ m, m < n ∧ p m
   · obtain ⟨m, h1, h2⟩ := hm; exact ih m h1 h2
   · exact ⟨n, hn, fun m hp => Nat.le_of_not_lt fun h => hm ⟨m, h, hp⟩⟩
theorem loop_ok {hh : Hint} {lbl : Nat} {c : Code} {B : TS → Option (Ex × TS)} (hB : ∀ s ex ts', Ok P G s → B s.ts = some (ex, ts') → c.wp P (QE P G ex ts') s.a s.w) {fuel : Nat} {ex : Ex} (h : Ok P G s)
   (hr : loopN B (loopHead hh lbl) fuel s.ts = some (ex, ts')) : (Code.loop c).wp P (QE P G ex ts') s.a s.w := by
 have step : ∀ n ts, loopN B (loopHead hh lbl) (n + 1) ts = match B (loopHead hh lbl ts) with
     | some (.normal, ts') => loopN B (loopHead hh lbl) n ts'
     | some (e, ts') => some (e, ts')
     | none => none := fun n ts => by
   have : loopN B (loopHead hh lbl) (n + 1) ts = match fTS (loopHead hh lbl ts) B with
     | some (.normal, ts') => loopN B (loopHead hh lbl) n ts'
     | some (e, ts') => some (e, ts')
     | none => none := rfl
   rw [this, fTS_eq]
 let I : Nat → Act → World → Prop := fun n a w => ∃ s, s.a = a ∧ s.w = w ∧ Ok P G s ∧ loopN B (loopHead hh lbl) n s.ts = some (ex, ts')
 classical
 let μ : Act → World → Nat := fun a w => if hex : ∃ n, I n a w then Classical.choose (exists_least hex) else 0
 have hμ : ∀ a w (hex : ∃ n, I n a w), I (μ a w) a w ∧ ∀ m, I m a w → μ a w ≤ m := fun a w hex => by
   have : μ a w = Classical.choose (exists_least hex) := dif_pos hex
   rw [this]; exact Classical.choose_spec (exists_least hex)
 refine wp_loop (fun a w => ∃ n, I n a w) μ ⟨fuel, s, rfl, rfl, h, hr⟩ ?_
 intro a w hex
 obtain ⟨⟨s, rfl, rfl, hok, hrun⟩, _⟩ := hμ a w hex
 cases hn : μ s.a s.w with
 | zero =>
   rw [hn] at hrun
   have h0 : (none : Option (Ex × TS)) = some (ex, ts') := hrun
   cases h0
 | succ m =>
   rw [hn, step] at hrun
   obtain ⟨s1, h1, h2, h3, h4⟩ := loopHead_ok hok hh lbl
   rw [← h4] at hrun
   rw [← h2, ← h3]
   cases hb : B s1.ts with
   | none => rw [hb] at hrun; cases hrun
   | some z =>
     obtain ⟨ex1, ts1⟩ := z
     rw [hb] at hrun
     refine Code.wp_mono ?_ (hB s1 ex1 ts1 h1 hb)
     rintro e a' w' ⟨rfl, s2, rfl, rfl, h5, h6⟩
     cases ex1 with
     | normal =>
       have hI2 : I m s2.a s2.w := ⟨s2, rfl, rfl, h5, by rw [h6]; exact hrun⟩
       exact ⟨⟨m, hI2⟩, Nat.lt_succ_of_le ((hμ s2.a s2.w ⟨m, hI2⟩).2 m hI2)⟩
     | exit id => cases hrun; exact ⟨rfl, s2, rfl, rfl, h5, h6⟩
     | ret => cases hrun; exact ⟨rfl, s2, rfl, rfl, h5, h6⟩
theorem code_ok (hE : EnvOk P E) (hm : Meets P E cf) {hh : Hint} (hnt : hh.nt ≤ G.nt) (hp : hh.prot = G.prot) (hkp : hh.kp = G.kp) (fuel : Nat) : ∀ (c : Code) (l : Nat) (s : St) (ex : Ex) (ts' : TS), Ok P G s → code E hh cf fuel c l s.ts = some (ex, ts') → c.wp P (QE P G ex ts') s.a s.w := by
 intro c
 induction c with
 | skip =>
   intro l s ex ts' h hr
   have hr' : some (Ex.normal, s.ts) = some (ex, ts') := hr
   cases hr'
   exact wp_skip ⟨rfl, s, rfl, rfl, h, rfl⟩
 | region id ops draw =>
   intro l s ex ts' h hr
   have h1 : (atRegion hh id).nt = hh.nt ∧ (atRegion hh id).prot = hh.prot ∧ (atRegion hh id).kp = hh.kp := by
     unfold atRegion
     cases (hh.keeps.find? fun x => Nat.beq x.1 id).map (·.2) <;> exact ⟨rfl, rfl, rfl⟩
   exact region_ok hE hm (hh := atRegion hh id) (by rw [h1.1]; exact hnt) (by rw [h1.2.1]; exact hp) (by rw [h1.2.2]; exact hkp) h hr
 | seq a b iha ihb =>
   intro l s ex ts' h hr
   have hr' : exSeq (code E hh cf fuel b l) (code E hh cf fuel a l s.ts) = some (ex, ts') := hr
   refine wp_seq ?_
   cases h1 : code E hh cf fuel a l s.ts with
   | none => rw [h1] at hr'; cases hr'
   | some z =>
     obtain ⟨ex1, ts1⟩ := z
     rw [h1] at hr'
     refine Code.wp_mono ?_ (iha l s ex1 ts1 h h1)
     rintro e a' w' ⟨rfl, s2, rfl, rfl, h5, h6⟩
     cases ex1 with
     | normal => exact ihb l s2 ex ts' h5 (by rw [h6]; exact hr')
     | exit id => cases hr'; exact ⟨rfl, s2, rfl, rfl, h5, h6⟩
     | ret => cases hr'; exact ⟨rfl, s2, rfl, rfl, h5, h6⟩
 | cond c x y ihx ihy =>
   intro l s ex ts' h hr
   exact cond_ok (X := code E hh cf fuel x l) (Y := code E hh cf fuel y l) h (fun s h hr => ihx l s ex ts' h hr) (fun s h hr => ihy l s ex ts' h hr) hr
 | block id b ih =>
   intro l s ex ts' h hr
   have hr' : exBlock id (code E hh cf fuel b id s.ts) = some (ex, ts') := hr
   refine wp_block ?_
   cases h1 : code E hh cf fuel b id s.ts with
   | none => rw [h1] at hr'; cases hr'
   | some z =>
     obtain ⟨ex1, ts1⟩ := z
     rw [h1] at hr'
     refine Code.wp_mono ?_ (ih id s ex1 ts1 h h1)
     rintro e a' w' ⟨rfl, s2, rfl, rfl, h5, h6⟩
     cases ex1 with
     | normal => cases hr'; exact ⟨rfl, s2, rfl, rfl, h5, h6⟩
     | ret => cases hr'; exact ⟨rfl, s2, rfl, rfl, h5, h6⟩
     | exit j =>
       have hr2 : (bif Nat.beq j id then some (Ex.normal, ts1) else some (Ex.exit j, ts1)) = some (ex, ts') := hr'
       show if j = id then QE P G ex ts' .normal s2.a s2.w else QE P G ex ts' (.exit j) s2.a s2.w
       cases hb : Nat.beq j id with
       | true =>
         rw [hb] at hr2; cases hr2
         rw [if_pos ((beq_iff _ _).1 hb)]
         exact ⟨rfl, s2, rfl, rfl, h5, h6⟩
       | false =>
         rw [hb] at hr2; cases hr2
         rw [if_neg (fun e => by rw [(beq_iff _ _).2 e] at hb; cases hb)]
         exact ⟨rfl, s2, rfl, rfl, h5, h6⟩
 | loop b ih =>
   intro l s ex ts' h hr
   refine loop_ok (B := tailed hh l (code E hh cf fuel b l)) (fun s ex ts' h hr => ?_) h hr
   rw [tailed_eq] at hr
   cases h1 : code E hh cf fuel b l s.ts with
   | none => rw [h1] at hr; cases hr
   | some z =>
     obtain ⟨ex1, ts1⟩ := z
     rw [h1] at hr
     refine Code.wp_mono ?_ (ih l s ex1 ts1 h h1)
     rintro e a' w' ⟨rfl, s2, rfl, rfl, h5, h6⟩
     obtain ⟨s3, g1, g2, g3, g4⟩ := loopTail_ok h5 hh l
     rw [h6] at g4
     cases ex1 with
     | normal => cases hr; exact ⟨rfl, s2, rfl, rfl, h5, h6⟩
     | exit id => cases hr; exact ⟨rfl, s3, g2, g3, g1, g4⟩
     | ret => cases hr; exact ⟨rfl, s3, g2, g3, g1, g4⟩
 | rangeFunc f ps asg b _ _ => intro l s ex ts' h hr; have hr' : (none : Option (Ex × TS)) = some (ex, ts') := hr; cases hr'
 | exit id =>
   intro l s ex ts' h hr
   have hr' : some (Ex.exit id, s.ts) = some (ex, ts') := hr
   cases hr'
   exact wp_exit ⟨rfl, s, rfl, rfl, h, rfl⟩
 | scope b ih =>
   intro l s ex ts' h hr
   refine wp_scope_straight (Code.wp_mono ?_ (ih l s ex ts' h hr))
   rintro e a' w' ⟨rfl, s2, rfl, rfl, h5, h6⟩
   cases ex <;> exact ⟨rfl, s2, rfl, rfl, h5, h6⟩
 | label i =>
   intro l s ex ts' h hr
   have hr' : some (Ex.normal, s.ts) = some (ex, ts') := hr
   cases hr'
   exact wp_label ⟨rfl, s, rfl, rfl, h, rfl⟩
 | goto i => intro l s ex ts' h hr; have hr' : (none : Option (Ex × TS)) = some (ex, ts') := hr; cases hr'
 | ret =>
   intro l s ex ts' h hr
   have hr' : some (Ex.ret, s.ts) = some (ex, ts') := hr
   cases hr'
   exact wp_ret ⟨rfl, s, rfl, rfl, h, rfl⟩
 | refuse w => intro l s ex ts' h hr; have hr' : (none : Option (Ex × TS)) = some (ex, ts') := hr; cases hr'
end
end Go.Proofs.Ytbaihlhoedbpkaa.Tm
namespace Go.Proofs.Ytbaihlhoedbpkaa.Tm
open Go
section
variable {P : Program} {G : Ctx} {s : St} {cf : FuncId → List AD → Option Res} {ts ts' : TS} {o : Out} {E : Env}
theorem get_of (l : List (Nat × Ent)) (k : Nat) : (TS.of l).get k = walk l k := by
 rw [TS.get_eq]
 have h : ∀ l : List (Nat × Ent), hasBit (maskOf l) k = l.any fun x => Nat.beq x.1 k := by
   intro l
   induction l with
   | nil => exact bit_zero k
   | cons x l ih =>
     show hasBit (setBit (maskOf l) x.1) k = _
     rw [hasBit_set, ih, List.any_cons]
     congr 1
     rw [Bool.eq_iff_iff, decide_eq_true_eq, beq_iff]; exact eq_comm
 show (bif hasBit (maskOf l) k then walk l k else Ent.no) = _
 rw [h]
 cases hq : l.any fun x => Nat.beq x.1 k with
 | true => rfl
 | false => rw [walk_none l k hq]; rfl
theorem walk_append (l r : List (Nat × Ent)) (k : Nat) (h : l.any (fun x => Nat.beq x.1 k) = false) : walk (l ++ r) k = walk r k := by
 induction l with
 | nil => rfl
 | cons x l ih =>
   simp only [List.any_cons, Bool.or_eq_false_iff] at h
   rw [List.cons_append, walk_cons, if_neg (fun e => by rw [(beq_iff _ _).2 e.symm] at h; cases h.1), ih h.2]
theorem walk_append_left (l r : List (Nat × Ent)) (k : Nat) (h : l.any (fun x => Nat.beq x.1 k) = true) : walk (l ++ r) k = walk l k := by
 induction l with
 | nil => cases h
 | cons x l ih =>
   rw [List.cons_append, walk_cons, walk_cons]
   by_cases hk : k = x.1
   · rw [if_pos hk, if_pos hk]
   · rw [if_neg hk, if_neg hk]
     simp only [List.any_cons, Bool.or_eq_true] at h
     exact ih (h.resolve_left fun e => hk ((beq_iff _ _).1 e).symm)
def initEnt : RC → Ent
 | .im t => ⟨.im, 0, t⟩
 | .own e t => ⟨.own e, 0, t⟩
 | .nil => ⟨.im, 0, .sl 0 []⟩
theorem initRC_eq (k : Nat) (c : RC) : initRC k c = (k, initEnt c) := by cases c <;> rfl
theorem initCells_any (i : Nat) : ∀ (cs : List RC) (x k : Nat), (initCells i x cs).any (fun y => Nat.beq y.1 k) = decide (∃ q, q < cs.length ∧ k = key i (x + q))
 | [], x, k => by simp [initCells]
 | c :: cs, x, k => by
   simp only [initCells, initRC_eq, List.any_cons, initCells_any i cs]
   rw [Bool.eq_iff_iff, Bool.or_eq_true, beq_iff, decide_eq_true_eq, decide_eq_true_eq]
   constructor
   · rintro (h | ⟨q, h1, h2⟩)
     · exact ⟨0, by simp, h.symm⟩
     · exact ⟨q + 1, by simpa using h1, by rw [h2, show Nat.succ x + q = x + (q + 1) by omega]⟩
   · rintro ⟨q, h1, h2⟩
     cases q with
     | zero => exact .inl h2.symm
     | succ q => exact .inr ⟨q, by simpa using h1, by rw [h2, show Nat.succ x + q = x + (q + 1) by omega]⟩
theorem initCells_walk (i : Nat) : ∀ (cs : List RC) (x q : Nat) (c : RC), cs[q]? = some c → walk (initCells i x cs) (key i (x + q)) = initEnt c
 | [], x, q, c, h => by simp at h
 | d :: cs, x, q, c, h => by
   simp only [initCells, initRC_eq, walk_cons]
   match q, h with
   | 0, h => simp at h; subst h; exact if_pos rfl
   | q + 1, h =>
     rw [if_neg (by rw [key_eq, key_eq]; omega), show x + (q + 1) = Nat.succ x + q by omega]
     exact initCells_walk i cs (Nat.succ x) q c (by simpa using h)
def argEnt (a : AD) (x : Nat) : Ent := match a, x with
 | .one _, 0 => ⟨.one, 0, nob⟩
 | .one t, 1 => ⟨.im, 0, t⟩
 | .one _, _ => Ent.no
 | .agg ts, 0 => ⟨.agg ts.length, 0, nob⟩
 | .agg ts, x + 1 => match ts[x]? with | some t => ⟨.im, 0, t⟩ | none => Ent.no
 | .box e cs, 0 => ⟨.box e cs.length, 0, nob⟩
 | .box _ cs, x + 1 => match cs[x]? with | some c => initEnt c | none => Ent.no
def lenA : AD → Nat
 | .one _ => 1
 | .agg ts => ts.length
 | .box _ cs => cs.length
theorem smallArg_iff (a : AD) : smallArg a = true → lenA a ≤ 62 := by
 cases a <;> simp only [smallArg, lenA] <;> intro h
 · omega
 · exact (ble_iff _ _).1 h
 · exact (ble_iff _ _).1 h
theorem initArg_any (i : Nat) (a : AD) (k : Nat) : (initArg i a).any (fun y => Nat.beq y.1 k) = decide (∃ x, x ≤ lenA a ∧ k = key i x) := by
 have hc : ∀ (m : Nat) (e : Ent) (cs : List RC), ((key i 0, e) :: initCells i 1 cs).any (fun y => Nat.beq y.1 k) = decide (∃ x, x ≤ cs.length ∧ k = key i x) := by
   intro m e cs
   simp only [List.any_cons, initCells_any]
   rw [Bool.eq_iff_iff, Bool.or_eq_true, beq_iff, decide_eq_true_eq, decide_eq_true_eq]
   constructor
   · rintro (h | ⟨q, h1, h2⟩)
     · exact ⟨0, Nat.zero_le _, h.symm⟩
     · exact ⟨1 + q, by omega, h2⟩
   · rintro ⟨x, h1, h2⟩
     cases x with
     | zero => exact .inl h2.symm
     | succ x => exact .inr ⟨x, by omega, by rw [h2, Nat.add_comm]⟩
 cases a with
 | one t =>
   have := hc 0 ⟨.one, 0, nob⟩ [.im t]
   exact this
 | agg ts =>
   have := hc 0 ⟨.agg ts.length, 0, nob⟩ (ts.map RC.im)
   rw [List.length_map] at this
   exact this
 | box e cs => exact hc 0 ⟨.box e cs.length, 0, nob⟩ cs
theorem initArg_walk (i : Nat) (a : AD) (x : Nat) (hx : x ≤ lenA a) : walk (initArg i a) (key i x) = argEnt a x := by
 cases a with
 | one t =>
   match x, hx with
   | 0, _ => rw [initArg, walk_cons, if_pos rfl]; rfl
   | 1, _ => rw [initArg, walk_cons, if_neg (by rw [key_eq, key_eq]; omega), walk_cons, if_pos rfl]; rfl
   | x + 2, hx => simp [lenA] at hx
 | agg ts =>
   match x, hx with
   | 0, _ => rw [initArg, walk_cons, if_pos rfl]; rfl
   | x + 1, hx =>
     simp only [lenA] at hx
     rw [initArg, walk_cons, if_neg (by rw [key_eq, key_eq]; omega), Nat.add_comm x 1, initCells_walk i _ 1 x (.im ts[x]) (by simp [show x < ts.length by omega]), Nat.add_comm 1 x]
     simp only [argEnt, List.getElem?_eq_getElem (show x < ts.length by omega), initEnt]
 | box e cs =>
   match x, hx with
   | 0, _ => rw [initArg, walk_cons, if_pos rfl]; rfl
   | x + 1, hx =>
     simp only [lenA] at hx
     rw [initArg, walk_cons, if_neg (by rw [key_eq, key_eq]; omega), Nat.add_comm x 1, initCells_walk i _ 1 x cs[x] (List.getElem?_eq_getElem (by omega)), Nat.add_comm 1 x]
     simp only [argEnt, List.getElem?_eq_getElem (show x < cs.length by omega)]
theorem argEnt_out (a : AD) (x : Nat) (hx : lenA a < x) : argEnt a x = Ent.no := by
 cases a with
 | one t =>
   match x, hx with
   | x + 2, _ => rfl
   | 0, hx => simp [lenA] at hx
   | 1, hx => simp [lenA] at hx
 | agg ts =>
   match x, hx with
   | 0, hx => simp [lenA] at hx
   | x + 1, hx => simp only [lenA] at hx; simp only [argEnt, List.getElem?_eq_none (show ts.length ≤ x by omega)]
 | box e cs =>
   match x, hx with
   | 0, hx => simp [lenA] at hx
   | x + 1, hx => simp only [lenA] at hx; simp only [argEnt, List.getElem?_eq_none (show cs.length ≤ x by omega)]
theorem initArgs_get : ∀ (as : List AD) (i0 i x : Nat), (∀ a ∈ as, lenA a ≤ 62) → x < 64 → walk (initArgs i0 as) (key i x) = if i0 ≤ i then (match as[i - i0]? with | some a => argEnt a x | none => Ent.no) else Ent.no
 | [], i0, i, x, _, _ => by simp [initArgs]; rfl
 | a :: as, i0, i, x, hs, hx => by
   simp only [initArgs]
   have ha := hs a (by simp)
   have ih := initArgs_get as (i0 + 1) i x (fun a h => hs a (by simp [h])) hx
   by_cases hi : i = i0
   · subst hi
     rw [if_pos (Nat.le_refl _), Nat.sub_self, List.getElem?_cons_zero]
     by_cases hxl : x ≤ lenA a
     · rw [walk_append_left _ _ _ (by rw [initArg_any]; exact decide_eq_true ⟨x, hxl, rfl⟩), initArg_walk i a x hxl]
     · rw [walk_append _ _ _ (by rw [initArg_any]; refine decide_eq_false ?_; rintro ⟨y, h1, h2⟩; rw [key_eq, key_eq] at h2; omega), ih, if_neg (by omega)]; exact (argEnt_out a x (by omega)).symm
   · rw [walk_append _ _ _ (by rw [initArg_any]; refine decide_eq_false ?_; rintro ⟨y, h1, h2⟩; rw [key_eq, key_eq] at h2; omega), ih]
     by_cases h1 : i0 ≤ i
     · rw [if_pos (by omega), if_pos h1, show i - i0 = (i - (i0 + 1)) + 1 by omega, List.getElem?_cons_succ]
     · rw [if_neg (by omega), if_neg h1]
def cvOf (w : World) : AD → Value → Nat → Value
 | .agg _, .agg us, x + 1 => us.getD x undef
 | .box _ _, .pointer (some a), x + 1 => (match w.heap[a.block]? with | some (.cells c _ _) => c.getD x undef | _ => undef)
 | _, v, _ => v
def cvInit (as : List AD) (vs : List Value) (w : World) (k : Nat) : Value := match as[k / 64]?, vs[k / 64]? with
 | some a, some v => cvOf w a v (k % 64)
 | _, _ => undef
def ctxInit (as : List AD) (vs : List Value) (w : World) (ow : Nat → Ow) (nt kp : Nat) : Ctx :=
 { w0 := w, X := fun b => ∃ k, ow b = .key k, S0 := fun b => ow b = .st, nt := nt, prot := protOf 0 as, pv := fun i => vs.getD i undef, kp := kp, fv := cvInit as vs w }
def stInit (as : List AD) (vs : List Value) (w : World) (ow : Nat → Ow) (nt : Nat) : St :=
 { ts := TS.of (initArgs 0 as), a := { tmps := vs.toArray ++ Array.replicate (nt - vs.toArray.size) undef, defers := [] }, w := w, cv := cvInit as vs w, ow := ow, pd := fun _ => none }
theorem protOf_bit : ∀ (as : List AD) (i0 i : Nat), hasBit (protOf i0 as) i = true → i0 ≤ i ∧ ∃ e cs, as[i - i0]? = some (.box e cs)
 | [], i0, i, h => by rw [show protOf i0 [] = 0 from rfl, bit_zero] at h; cases h
 | a :: as, i0, i, h => by
   have rec_ : hasBit (protOf (Nat.succ i0) as) i = true → i0 ≤ i ∧ ∃ e cs, (a :: as)[i - i0]? = some (.box e cs) := fun h => by
     obtain ⟨h1, e, cs, h2⟩ := protOf_bit as (Nat.succ i0) i h
     exact ⟨by omega, e, cs, by rw [show i - i0 = (i - Nat.succ i0) + 1 by omega]; simpa using h2⟩
   cases a with
   | one t => exact rec_ h
   | agg ts => exact rec_ h
   | box e cs =>
     have h' : hasBit (setBit (protOf (Nat.succ i0) as) i0) i = true := h
     rw [hasBit_set, Bool.or_eq_true, decide_eq_true_eq] at h'
     rcases h' with h' | h'
     · subst h'; exact ⟨Nat.le_refl _, e, cs, by simp⟩
     · exact rec_ h'
theorem init_ok {as : List AD} {vs : List Value} {w : World} {ow : Nat → Ow} (en : Entry P as vs w ow) (hs : ∀ a ∈ as, lenA a ≤ 62) (nt kp : Nat) : Ok P (ctxInit as vs w ow nt kp) (stInit as vs w ow nt) := by
 have hget : ∀ i x, x < 64 → (stInit as vs w ow nt).ts.get (key i x) = (match as[i]? with | some a => argEnt a x | none => Ent.no) := fun i x hx => by
   show (TS.of (initArgs 0 as)).get _ = _
   rw [get_of, initArgs_get as 0 i x hs hx, if_pos (Nat.zero_le _), Nat.sub_zero]
 have hcv : ∀ i x a v, x < 64 → as[i]? = some a → vs[i]? = some v → (stInit as vs w ow nt).cv (key i x) = cvOf w a v x := fun i x a v hx ha hv => by
   show cvInit as vs w (key i x) = _
   rw [cvInit, key_div hx, key_mod hx, ha, hv]
 have hv : ∀ i a, as[i]? = some a → ∃ v, vs[i]? = some v ∧ ArgOk P w ow i a v := fun i a hi => by
   have hlt : i < vs.length := by rw [en.len]; exact (List.getElem?_eq_some_iff.1 hi).1
   exact ⟨vs[i], List.getElem?_eq_getElem hlt, en.arg i a _ hi (List.getElem?_eq_getElem hlt)⟩
 have htmp : ∀ i v, vs[i]? = some v → (stInit as vs w ow nt).a.tmps.getD i undef = v := fun i v hi => by
   have hlt := (List.getElem?_eq_some_iff.1 hi).1
   show (vs.toArray ++ _).getD i undef = v
   rw [Array.getD_eq_getD_getElem?, Array.getElem?_append_left (by simpa using hlt)]
   simp [hi]
 exact {
   keep := Keep.refl _ _
   nt := by show nt ≤ (vs.toArray ++ _).size; simp; omega
   df := rfl
   lt := en.lt
   ex := fun b hb => by
     show ow b = .st ∨ w.heap.size ≤ b ∨ ∃ k, ow b = .key k
     cases h1 : ow b with
     | st => exact .inl rfl
     | key k => exact .inr (.inr ⟨k, rfl⟩)
     | no => exact absurd h1 hb
     | pd i => exact absurd h1 (en.pd b i)
   s0 := fun b hb => hb
   cell := fun k _ => by
     obtain ⟨i, x, hx, rfl⟩ : ∃ i x, x < 64 ∧ k = key i x := ⟨k / 64, k % 64, Nat.mod_lt _ (by omega), by rw [key_eq]; omega⟩
     rw [CellOk, hget i x hx]
     cases hi : as[i]? with
     | none => exact trivial
     | some a =>
       obtain ⟨v, hvi, harg⟩ := hv i a hi
       rw [hcv i x a v hx hi hvi]
       cases a with
       | one t =>
         match x with
         | 0 => exact trivial
         | 1 => exact harg
         | x + 2 => exact trivial
       | agg ts =>
         match x with
         | 0 => exact trivial
         | x + 1 =>
           obtain ⟨us, rfl, hrt⟩ := harg
           simp only [argEnt]
           cases ht : ts[x]? with
           | none => exact trivial
           | some t =>
             have hlt : x < us.length := by rw [hrt.1]; exact (List.getElem?_eq_some_iff.1 ht).1
             have := hrt.2 x t us[x] ht (List.getElem?_eq_getElem hlt)
             dsimp only [cvOf]
             rw [Array.getD_eq_getD_getElem?]
             simp only [List.getElem?_toArray, List.getElem?_eq_getElem hlt, Option.getD_some]
             exact this
       | box e cs =>
         match x with
         | 0 => exact trivial
         | x + 1 =>
           obtain ⟨b, us, rfl, hl, hb, ho, hc⟩ := harg
           simp only [argEnt]
           cases ht : cs[x]? with
           | none => exact trivial
           | some c =>
             have hlt : x < us.length := by rw [hl]; exact (List.getElem?_eq_some_iff.1 ht).1
             have := hc x c us[x] ht (List.getElem?_eq_getElem hlt)
             dsimp only [cvOf]
             rw [hb]
             dsimp only
             rw [Array.getD_eq_getD_getElem?]
             simp only [List.getElem?_toArray, List.getElem?_eq_getElem hlt, Option.getD_some]
             cases c with
             | im t => exact this
             | own e t => rw [Nat.add_comm 1 x] at this; exact this
             | nil => rw [show us[x] = _ from this]; exact .nil
   main := fun i _ => by
     rw [MainOk, hget i 0 (by omega)]
     cases hi : as[i]? with
     | none => exact trivial
     | some a =>
       obtain ⟨v, hvi, harg⟩ := hv i a hi
       have ha := hs a (List.mem_of_getElem? hi)
       cases a with
       | one t =>
         show _ = _
         rw [htmp i v hvi, hcv i 1 _ v (by omega) hi hvi]
         rfl
       | agg ts =>
         obtain ⟨us, rfl, hrt⟩ := harg
         refine ⟨ha, ?_⟩
         rw [htmp i _ hvi]
         congr 2
         have := cvals_eq (cv := (stInit as vs w ow nt).cv) (s := i) (o := 1) (vs := us) fun m v hm => by
           have hlt := (List.getElem?_eq_some_iff.1 hm).1
           rw [hrt.1] at hlt
           simp only [lenA] at ha
           rw [hcv i (1 + m) _ _ (by omega) hi hvi, Nat.add_comm 1 m]
           dsimp only [cvOf]
           rw [Array.getD_eq_getD_getElem?]
           simp [hm]
         rw [hrt.1] at this
         exact this.symm
       | box e cs =>
         obtain ⟨b, us, rfl, hl, hb, ho, hc⟩ := harg
         refine ⟨ha, Nat.le_refl _, b, by rw [hcv i 0 _ _ (by omega) hi hvi]; rfl, htmp i _ hvi, ?_, ho⟩
         show w.heap[b]? = _
         rw [hb]
         congr 3
         have := cvals_eq (cv := (stInit as vs w ow nt).cv) (s := i) (o := 1) (vs := us) fun m v hm => by
           have hlt := (List.getElem?_eq_some_iff.1 hm).1
           rw [hl] at hlt
           simp only [lenA] at ha
           rw [hcv i (1 + m) _ _ (by omega) hi hvi, Nat.add_comm 1 m]
           dsimp only [cvOf]
           rw [hb]
           dsimp only
           rw [Array.getD_eq_getD_getElem?]
           simp [hm]
         rw [hl] at this
         exact this.symm
   pok := fun i x hx => by cases hx
   prot := fun i hi _ => by
     obtain ⟨_, e, cs, h2⟩ := protOf_bit as 0 i hi
     obtain ⟨v, hvi, harg⟩ := hv i _ (by simpa using h2)
     rw [hcv i 0 _ _ (by omega) (by simpa using h2) hvi]
     obtain ⟨b, us, rfl, _⟩ := harg
     show _ = vs.getD i undef
     rw [List.getD_eq_getElem?_getD, hvi]; rfl
   fix := fun _ _ => rfl }
end
end Go.Proofs.Ytbaihlhoedbpkaa.Tm
namespace Go.Proofs.Ytbaihlhoedbpkaa.Tm
open Go
section
variable {P : Program} {G : Ctx} {s : St} {cf : FuncId → List AD → Option Res} {ts ts' : TS} {o : Out} {E : Env}
theorem CVOk.tau {τ τ' : Nat} {c : CV} {v : Value} (h : CVOk True s τ c v) : CVOk True s τ' c v := by
 cases c with
 | new e t => exact absurd trivial h.1
 | _ => exact h
theorem CVsOk.tau {τ τ' : Nat} {cs : List CV} {vs : List Value} (h : CVsOk True s τ cs vs) : CVsOk True s τ' cs vs := ⟨h.1, fun j c v a b => (h.2 j c v a b).tau⟩
theorem takeM_ok (h : Ok P G s) {m i : Nat} {c : CV} {v : Value} {τ : Nat} {kk : RC → Prog} (hc : CVOk False s τ c v) (hr : Runs cf (takeM m i c kk) s.ts o ts') :
   ∃ rc s', Ok P G s' ∧ Same s s' ∧ CVOk False s' τ rc.cv v ∧ (∀ j, j ≠ τ → s'.pd j = s.pd j) ∧ Runs cf (kk rc) s'.ts o ts' := by
 unfold takeM at hr
 cases hb : hasBit m i with
 | false => rw [hb] at hr; exact take_ok h hc hr
 | true =>
   rw [hb] at hr
   obtain ⟨t, s', h1, h2, h3, h4, h5⟩ := freeze_ok h hc hr
   exact ⟨.im t, s', h1, h2, h3, h4, h5⟩
theorem takesM_ok : ∀ {cs : List CV} {s : St} {m i : Nat} {vs : List Value} {τ : Nat} {kk : List RC → Prog}, Ok P G s → CVsOk False s τ cs vs → Runs cf (takesM m i cs kk) s.ts o ts' →
   ∃ rcs s', Ok P G s' ∧ Same s s' ∧ CVsOk False s' τ (rcs.map RC.cv) vs ∧ (∀ j, j < τ ∨ τ + cs.length ≤ j → s'.pd j = s.pd j) ∧ Runs cf (kk rcs) s'.ts o ts' := by
 intro cs
 induction cs with
 | nil =>
   intro s m i vs τ kk h hc hr
   have := hc.nil_inv; subst this
   exact ⟨[], s, h, Same.refl s, CVsOk.nil _ _ _, fun _ _ => rfl, hr⟩
 | cons c cs ih =>
   intro s m i vs τ kk h hc hr
   obtain ⟨v, vr, rfl, hc1, hc2⟩ := hc.cons_inv
   obtain ⟨rc, s1, ok1, sm1, c1, p1, hr1⟩ := takeM_ok h hc1 hr
   obtain ⟨rcs, s2, ok2, sm2, c2, p2, hr2⟩ := ih ok1 (hc2.ev sm1.ev fun j hj => p1 j (by omega)) hr1
   refine ⟨rc :: rcs, s2, ok2, sm1.trans sm2, CVsOk.cons (c1.ev sm2.ev (p2 τ (by omega))) c2, fun j hj => ?_, hr2⟩
   simp only [List.length_cons] at hj
   exact (p2 j (by omega)).trans (p1 j (by omega))
theorem rvOf_ok (h : Ok P G s) {m i : Nat} {d : D} {v : Value} (τ : Nat) (hd : DOk True s d v) {kk : RV → Prog} (hr : Runs cf (rvOf m i d kk) s.ts o ts') :
   ∃ rv us s', Ok P G s' ∧ Same s s' ∧ us.length = (rvCells rv).length ∧ CVsOk False s' τ ((rvCells rv).map RC.cv) us ∧ (∀ x r, tupOf (shR rv :: r) (us ++ x) = v :: tupOf r x) ∧
     (∀ j, j < τ ∨ τ + (rvCells rv).length ≤ j → s'.pd j = s.pd j) ∧ Runs cf (kk rv) s'.ts o ts' := by
 cases d with
 | one c =>
   obtain ⟨rc, s', h1, h2, h3, h4, h5⟩ := takeM_ok h (τ := τ) (CVOk.weak (CVOk.tau hd)) hr
   refine ⟨.one rc, [v], s', h1, h2, rfl, CVsOk.cons h3 (CVsOk.nil _ _ _), fun x r => rfl, fun j hj => h4 j ?_, h5⟩
   simp only [rvCells, List.length_cons, List.length_nil] at hj
   omega
 | agg cs =>
   obtain ⟨us, rfl, hcs⟩ := hd
   obtain ⟨rcs, s', h1, h2, h3, h4, h5⟩ := takesM_ok h (τ := τ) (CVsOk.weak (CVsOk.tau hcs)) hr
   have hl : us.length = rcs.length := by have := h3.1; simpa using this
   refine ⟨.agg rcs, us, s', h1, h2, hl, h3, fun x r => ?_, fun j hj => h4 j ?_, h5⟩
   · simp only [shR, tupOf]
     rw [List.take_left' hl, List.drop_left' hl]
   · simp only [rvCells] at hj
     have := hcs.1
     omega
 | _ => exact (Runs.fail hr).elim
theorem CVsOk.append {L : Prop} {τ : Nat} {cs ds : List CV} {us vs : List Value} (h : CVsOk L s τ cs us) (g : CVsOk L s (τ + cs.length) ds vs) : CVsOk L s τ (cs ++ ds) (us ++ vs) := by
 refine ⟨by simp [h.1, g.1], fun j c v hc hv => ?_⟩
 rw [List.getElem?_append] at hc hv
 rw [h.1] at hv
 split at hc
 · rename_i hj; rw [if_pos hj] at hv; exact h.2 j c v hc hv
 · rename_i hj; rw [if_neg hj] at hv
   have := g.2 _ c v hc hv
   rwa [show τ + cs.length + (j - cs.length) = τ + j by omega] at this
def resVar (tmps : Array Value) : ResultVar → Sem Value
 | .tmp t => pure (tmps.getD t undef)
 | .cell a t => do loadVar t (← asAddr (tmps.getD a undef))
theorem resultD_ok (h : Ok P G s) (hE : EnvOk P E) (τ : Nat) {m i : Nat} {x : ResultVar} {kk : RV → Prog} (hr : Runs cf (resultD E m i x kk) s.ts o ts') :
   ∃ v rv us s', (resVar s.a.tmps x).run P s.w = .ok v s.w ∧ Ok P G s' ∧ Same s s' ∧ us.length = (rvCells rv).length ∧ CVsOk False s' τ ((rvCells rv).map RC.cv) us ∧ (∀ x r, tupOf (shR rv :: r) (us ++ x) = v :: tupOf r x) ∧
     (∀ j, j < τ ∨ τ + (rvCells rv).length ≤ j → s'.pd j = s.pd j) ∧ Runs cf (kk rv) s'.ts o ts' := by
 cases x with
 | tmp t =>
   obtain ⟨d, hd, hr1⟩ := slotD_ok h hr
   obtain ⟨rv, us, s', h1⟩ := rvOf_ok h τ hd hr1
   exact ⟨_, rv, us, s', rfl, h1⟩
 | cell a t =>
   obtain ⟨p, hp, hr1⟩ := slotD_ok h hr
   obtain ⟨d, v, h1, hd, hr2⟩ := loadD_okT h hE hp hr1
   obtain ⟨rv, us, s', h2⟩ := rvOf_ok h τ hd hr2
   refine ⟨v, rv, us, s', ?_, h2⟩
   have h3 : ((do loadVar t (← Instr.sureAddr (s.a.tmps.getD a undef))) : Sem Value).run P s.w = .ok v s.w := h1
   show ((do loadVar t (← asAddr (s.a.tmps.getD a undef))) : Sem Value).run P s.w = .ok v s.w
   generalize s.a.tmps.getD a undef = va at h3
   cases va with
   | pointer q =>
     cases q with
     | none => cases h3
     | some ad => exact h3
   | _ => cases h3
theorem resultsD_ok (hE : EnvOk P E) : ∀ {rs : List ResultVar} {s : St} {τ m i : Nat} {kk : List RV → Prog}, Ok P G s → Runs cf (resultsD E m i rs kk) s.ts o ts' →
   ∃ vs rvs us s', (rs.mapM (resVar s.a.tmps)).run P s.w = .ok vs s.w ∧ Ok P G s' ∧ Same s s' ∧ us.length = (cellsR rvs).length ∧ CVsOk False s' τ ((cellsR rvs).map RC.cv) us ∧ tupOf (rvs.map shR) us = vs ∧
     rvs.length = rs.length ∧ (∀ j, j < τ → s'.pd j = s.pd j) ∧ Runs cf (kk rvs) s'.ts o ts'
 | [], s, τ, m, i, kk, h, hr => ⟨[], [], [], s, rfl, h, Same.refl s, rfl, CVsOk.nil _ _ _, rfl, rfl, fun _ _ => rfl, hr⟩
 | x :: rs, s, τ, m, i, kk, h, hr => by
   obtain ⟨v, rv, us, s1, a1, a2, a3, a4, a5, a6, a7, a8⟩ := resultD_ok h hE τ hr
   obtain ⟨vs, rvs, us2, s2, b1, b2, b3, b4, b5, b6, b7, b8, b9⟩ := resultsD_ok hE (τ := τ + (rvCells rv).length) a2 a8
   refine ⟨v :: vs, rv :: rvs, us ++ us2, s2, ?_, b2, a3.trans b3, ?_, ?_, ?_, by simp [b7], fun j hj => (b8 j (by omega)).trans (a7 j (by omega)), b9⟩
   · rw [List.mapM_cons]
     simp only [Sem.run_bind, a1, Result.andThen_ok]
     rw [a3.a, a3.w] at b1
     simp only [b1, Result.andThen_ok]
     rfl
   · show _ = (rvCells rv ++ cellsR rvs).length
     rw [List.length_append, List.length_append, a4, b4]
   · show CVsOk False s2 τ ((rvCells rv ++ cellsR rvs).map RC.cv) _
     rw [List.map_append]
     refine CVsOk.append (CVsOk.weak ⟨a5.1, fun j c v hc hv => (a5.2 j c v hc hv).ev b3.ev (b8 _ ?_)⟩) (by rw [List.length_map]; exact b5)
     have := (List.getElem?_eq_some_iff.1 hc).1
     rw [List.length_map] at this
     omega
   · rw [List.map_cons, a6, b6]
theorem endBoxes_ok (h : Ok P G s) : ∀ {as : List AD} {vs : List Value} {i0 : Nat} {kk : List (List RC) → Prog}, vs.length = as.length →
   (∀ i e cs, as[i]? = some (.box e cs) → s.cv (key (i0 + i) 0) = vs.getD i undef ∨ isBox (s.ts.get (key (i0 + i) 0)).k = false) → Runs cf (endBoxes i0 as kk) s.ts o ts' → ∃ bs, BoxesOk P s.w s.ow i0 as vs bs ∧
     (∀ i e cs, as[i]? = some (.box e cs) → (s.ts.get (key (i0 + i) 0)).k = .box e cs.length ∧ ∃ z, (s.ts.get (key (i0 + i) 0)).t = .lit z) ∧ Runs cf (kk bs) s.ts o ts'
 | [], [], i0, kk, _, _, hr => ⟨[], trivial, fun i e cs h => by simp at h, hr⟩
 | [], _ :: _, _, _, hl, _, _ => by cases hl
 | _ :: _, [], _, _, hl, _, _ => by cases hl
 | a :: as, v :: vs, i0, kk, hl, hp, hr => by
   have hl' : vs.length = as.length := by simpa using hl
   have hp' : ∀ i e cs, as[i]? = some (.box e cs) → s.cv (key (i0 + 1 + i) 0) = vs.getD i undef ∨ isBox (s.ts.get (key (i0 + 1 + i) 0)).k = false := fun i e cs hi => by
     have := hp (i + 1) e cs (by simpa using hi)
     rw [show i0 + (i + 1) = i0 + 1 + i by omega] at this
     simpa using this
   have up : ∀ {Q : Prop}, (∀ i e cs, as[i]? = some (.box e cs) → (s.ts.get (key (i0 + 1 + i) 0)).k = .box e cs.length ∧ ∃ z, (s.ts.get (key (i0 + 1 + i) 0)).t = .lit z) → (∀ e cs, a = .box e cs → (s.ts.get (key i0 0)).k = .box e cs.length ∧ ∃ z, (s.ts.get (key i0 0)).t = .lit z) →
       ∀ i e cs, (a :: as)[i]? = some (.box e cs) → (s.ts.get (key (i0 + i) 0)).k = .box e cs.length ∧ ∃ z, (s.ts.get (key (i0 + i) 0)).t = .lit z := fun h1 h2 i e cs hi => by
     cases i with
     | zero => simp at hi; exact h2 e cs hi
     | succ i => have := h1 i e cs (by simpa using hi); rwa [show i0 + 1 + i = i0 + (i + 1) by omega] at this
   cases a with
   | one t =>
     obtain ⟨bs, h1, h3, h2⟩ := endBoxes_ok h (i0 := i0 + 1) hl' hp' hr
     exact ⟨bs, h1, up (Q := True) h3 (fun e cs he => by cases he), h2⟩
   | agg ts =>
     obtain ⟨bs, h1, h3, h2⟩ := endBoxes_ok h (i0 := i0 + 1) hl' hp' hr
     exact ⟨bs, h1, up (Q := True) h3 (fun e cs he => by cases he), h2⟩
   | box e cs =>
     have hr1 := Runs.get hr
     have hpi := hp 0 e cs rfl
     rw [Nat.add_zero] at hpi
     have hm := h.main i0 (by intro h; cases h)
     cases hk : (s.ts.get (key i0 0)).k <;> rw [hk] at hr1 <;> try exact (Runs.fail hr1).elim
     rename_i e' n
     cases htt : (s.ts.get (key i0 0)).t with
     | sl _ _ => rw [htt] at hr1; exact (Runs.fail hr1).elim
     | lit zz =>
     rw [htt] at hr1
     simp only [MainOk, hk, htt, boxLen, boxVal] at hm
     obtain ⟨hm1, _, b, hb1, _, hb3, hb4⟩ := hm
     have hpv : s.cv (key i0 0) = v := by
       rcases hpi with h1 | h1
       · simpa using h1
       · rw [hk] at h1; cases h1
     have hr2 : Runs cf (bif Nat.beq n cs.length && Nat.beq e' e then boxCells i0 1 n fun x => endBoxes (Nat.succ i0) as fun xs => kk (x :: xs) else .fail) s.ts o ts' := hr1
     cases hq : Nat.beq n cs.length && Nat.beq e' e with
     | false => rw [hq] at hr2; exact (Runs.fail hr2).elim
     | true =>
       rw [hq] at hr2
       rw [Bool.and_eq_true, beq_iff, beq_iff] at hq
       obtain ⟨hn, rfl⟩ := hq
       obtain ⟨rcs, g1, g2, g3⟩ := boxCells_ok hr2
       obtain ⟨bs, h1, h3, h2⟩ := endBoxes_ok h (i0 := i0 + 1) hl' hp' g3
       refine ⟨rcs :: bs, ⟨⟨b, cvals s.cv i0 1 n, by rw [← hpv, hb1], by omega, by rw [cvals_length, g1], hb3, hb4, fun j c u hc hu => ?_⟩, h1⟩, up (Q := True) h3 (fun e cs he => by cases he; exact ⟨by rw [hk, hn], zz, htt⟩), h2⟩
       have hlt : j < n := by rw [← g1]; exact (List.getElem?_eq_some_iff.1 hc).1
       rw [cvals_get _ _ _ _ _ hlt] at hu
       cases hu
       have hbc := g2 j c hc
       have hcell := h.cell (key i0 (1 + j)) (by intro h; cases h)
       cases c with
       | im t =>
         obtain ⟨k1, k2⟩ := hbc
         simp only [CellOk, k1, k2] at hcell
         exact hcell
       | own ty t =>
         obtain ⟨k1, k2⟩ := hbc
         simp only [CellOk, k1, k2] at hcell
         exact hcell
       | nil => exact hbc.elim
theorem results_run {fn : Func} {tmps : Array Value} {w : World} {vs : List Value} (h : (fn.results.toList.mapM (resVar tmps)).run P w = .ok vs w) :
   (results fn tmps).run P w = .ok (if hs : vs.toArray.size = 1 then vs.toArray[0] else .tuple vs.toArray) w := by
 have e : results fn tmps = (do let vs ← fn.results.mapM (resVar tmps); pure (if h : vs.size = 1 then vs[0] else .tuple vs)) := by
   unfold results
   congr 1
 rw [e, Array.mapM_eq_mapM_toList]
 simp only [Sem.run_bind, Sem.run_map, h, Result.andThen_ok, Sem.run_pure]
theorem valR_eq {rvs : List RV} {us : List Value} (h : us.length = (cellsR rvs).length) : (if hs : (tupOf (rvs.map shR) us).toArray.size = 1 then (tupOf (rvs.map shR) us).toArray[0] else .tuple (tupOf (rvs.map shR) us).toArray) = valR rvs us := by
 match rvs, h with
 | [], h => rfl
 | [.one c], h =>
   match us, h with
   | [u], _ => rfl
 | [.agg cs], h =>
   have hl : us.length = cs.length := by simpa [cellsR, rvCells] using h
   have : tupOf ([RV.agg cs].map shR) us = [.agg us.toArray] := by
     simp only [List.map_cons, List.map_nil, shR, tupOf]
     rw [← hl, List.take_length]
   have key : ∀ l : List Value, l = [.agg us.toArray] → (if hs : l.toArray.size = 1 then l.toArray[0] else .tuple l.toArray) = valR [.agg cs] us := by rintro l rfl; rfl
   exact key _ this
 | x :: y :: l, h =>
   have hlen : ∀ (l : List RV) (us : List Value), us.length = (cellsR l).length → (tupOf (l.map shR) us).length = l.length := by
     intro l
     induction l with
     | nil => intro us _; rfl
     | cons x l ih =>
       intro us hus
       have hus' : us.length = (rvCells x).length + (cellsR l).length := by rw [hus, show cellsR (x :: l) = rvCells x ++ cellsR l from rfl, List.length_append]
       cases x with
       | one c =>
         match us, hus' with
         | [], hus' => simp [rvCells] at hus'; omega
         | u :: us, hus' =>
           simp only [List.map_cons, shR, tupOf, List.length_cons]
           rw [ih us (by simp [rvCells] at hus'; omega)]
       | agg cs =>
         simp only [List.map_cons, shR, tupOf, List.length_cons]
         rw [ih _ (by rw [List.length_drop]; simp [rvCells] at hus'; omega)]
   have h2 := hlen (x :: y :: l) us h
   rw [dif_neg (by rw [List.size_toArray, h2]; simp)]
   cases x <;> rfl
theorem protOf_of : ∀ (as : List AD) (i0 i : Nat) (e : TypeId) (cs : List RC), as[i]? = some (.box e cs) → hasBit (protOf i0 as) (i0 + i) = true := by
 intro as
 induction as with
 | nil => intro i0 i e cs h; simp at h
 | cons a as ih =>
   intro i0 i e cs h
   cases i with
   | zero =>
     simp at h; subst h
     exact hasBit_setBit_self _ _
   | succ i =>
     have h1 := ih (Nat.succ i0) i e cs (by simpa using h)
     rw [show Nat.succ i0 + i = i0 + (i + 1) by omega] at h1
     cases a with
     | one _ => exact h1
     | agg _ => exact h1
     | box _ _ => exact hasBit_setBit_of h1
theorem fnBody_ok (hE : EnvOk P E) (hm : Meets P E cf) {g : FuncId} {fn : Func} (hf : P.funcs[g]? = some fn) (h : Hint) (hkp : h.kp = keptOf E g) (fuel : Nat) {as : List AD} {r : Res} (hr : fnBody E h cf fuel fn as = some r) :
   fn.body.isSome = true ∧ ∀ vs w ow, Entry P as vs w ow → Calls P g vs.toArray w fun e w' => ∃ v ow', e = .returned v ∧ Leave P (keptOf E g) as vs w ow r v w' ow' := by
 unfold fnBody at hr
 cases hb : fn.body with
 | none => rw [hb] at hr; cases hr
 | some c =>
   rw [hb] at hr
   dsimp only at hr
   refine ⟨rfl, fun vs w ow en => ?_⟩
   cases hq : Nat.beq as.length fn.params.size && as.all smallArg with
   | false => rw [hq] at hr; cases hr
   | true =>
     rw [hq] at hr
     rw [Bool.and_eq_true] at hq
     have hsm : ∀ a ∈ as, lenA a ≤ 62 := fun a ha => smallArg_iff a (List.all_eq_true.1 hq.2 a ha)
     have h0 := init_ok en hsm fn.ntmps h.kp
     simp only [cond_true] at hr
     cases hc : code E { h with nt := fn.ntmps, prot := protOf 0 as } cf fuel c 0 (TS.of (initArgs 0 as)) with
     | none => rw [hc] at hr; cases hr
     | some z =>
       obtain ⟨ex, ts1⟩ := z
       rw [hc] at hr
       have hcode := code_ok (G := ctxInit as vs w ow fn.ntmps h.kp) (hh := { h with nt := fn.ntmps, prot := protOf 0 as }) hE hm (Nat.le_refl _) rfl rfl fuel c 0 (stInit as vs w ow fn.ntmps) ex ts1 h0 hc
       have fin : ∀ (z : Option (Out × TS × Nat × Nat)), (endD E h.rim fn as fun r => .ret (.res r)).run cf ts1 0 0 = z → (match z with | some (.res r, _, _, _) => some r | _ => none) = some r → ∀ s', Ok P (ctxInit as vs w ow fn.ntmps h.kp) s' → s'.ts = ts1 →
           s'.a.defers = [] ∧ ∃ v, (results fn s'.a.tmps).run P s'.w = .ok v s'.w ∧ ∃ v' ow', Ending.returned v = .returned v' ∧ Leave P (keptOf E g) as vs w ow r v' s'.w ow' := by
         intro z hz hzr s' ok' hts
         match z, hz, hzr with
         | some (.res r', ts2, R, W), hz, hzr =>
           cases hzr
           have hruns : Runs cf (endD E h.rim fn as fun r => .ret (.res r)) s'.ts (.res r) ts2 := ⟨_, _, _, _, by rw [hts]; exact hz⟩
           obtain ⟨rvals, rvs, us, s2, a1, a2, a3, a4, a5, a6, a7, a8, a9⟩ := resultsD_ok hE (τ := 0) ok' hruns
           obtain ⟨bs, b1, b3, b2⟩ := endBoxes_ok a2 (i0 := 0) en.len (fun i e cs hi => by
             rw [Nat.zero_add]
             cases hbx : isBox (s2.ts.get (key i 0)).k with
             | false => exact .inr rfl
             | true =>
               refine .inl (a2.prot i ?_ hbx)
               have := protOf_of as 0 i e cs hi
               rwa [Nat.zero_add] at this) a9
           obtain ⟨he, _⟩ := Runs.ret b2
           cases he
           refine ⟨ok'.df, _, results_run a1, _, s2.ow, rfl, ?_⟩
           rw [← a6, valR_eq a4, ← a3.w]
           exact {
             keep := a2.keep
             lt := a2.lt
             st := a2.s0
             ex := a2.ex
             vals := ⟨us, a4, rfl, fun j rc u hc hu => by
               have h1 := a5.2 j rc.cv u (by rw [List.getElem?_map, hc]; rfl) hu
               rw [Nat.zero_add] at h1
               cases rc with
               | im t => exact h1
               | own e t => exact a2.pok j _ h1.2
               | nil => exact h1⟩
             boxes := b1
             fix := fun i e cs b us us' hi hv h1 h2 q hq hb => by
               rw [← hkp] at hb
               obtain ⟨hk, z, ht⟩ := b3 i e cs hi
               rw [Nat.zero_add] at hk ht
               have hm := a2.main i (by intro h; cases h)
               rw [MainOk, hk, ht] at hm
               obtain ⟨hn, _, b', q1, _, q3, _⟩ := hm
               dsimp only [boxLen] at q3
               have hpi : hasBit (protOf 0 as) i = true := by have := protOf_of as 0 i e cs hi; rwa [Nat.zero_add] at this
               have hpr : s2.cv (key i 0) = vs.getD i undef := a2.prot i hpi (by rw [hk]; rfl)
               rw [List.getD_eq_getElem?_getD, hv] at hpr
               have hpr' : s2.cv (key i 0) = .pointer (some ⟨b, 0, none⟩) := hpr
               rw [q1] at hpr'; cases hpr'
               have e1 := Option.some.inj (h2.symm.trans q3)
               injection e1 with e2
               subst e2
               obtain ⟨b', us0, c1, c2, c3, _⟩ := en.arg i _ _ hi hv
               cases c1
               have e3 := Option.some.inj (h1.symm.trans c3)
               injection e3 with e4
               subst e4
               by_cases hql : q < cs.length
               · have hfx := a2.fix (key i (1 + q)) (by rw [fixed_key (by omega)]; show (hasBit (protOf 0 as) i && hasBit h.kp (1 + q)) = true; rw [hpi, hb]; rfl)
                 rw [Array.getD_eq_getD_getElem?, List.getElem?_toArray, cvals_get _ _ _ _ _ hql]
                 show s2.cv (key i (1 + q)) = _
                 rw [hfx]
                 show cvInit as vs w (key i (1 + q)) = _
                 rw [cvInit, key_div (show 1 + q < 64 by omega), key_mod (show 1 + q < 64 by omega), hi, hv]
                 dsimp only
                 rw [Nat.add_comm 1 q]
                 dsimp only [cvOf]
                 rw [h1]
               · rw [Array.getD_eq_getD_getElem?, Array.getD_eq_getD_getElem?, List.getElem?_toArray, List.getElem?_toArray, List.getElem?_eq_none (by rw [cvals_length]; omega), List.getElem?_eq_none (by omega)] }
       refine calls_of_wp hf hb ?_
       have hbody : c.wp P (bodyPost P fn fun e w' => ∃ v ow', e = .returned v ∧ Leave P (keptOf E g) as vs w ow r v w' ow') (stInit as vs w ow fn.ntmps).a w := by
         refine Code.wp_mono ?_ hcode
         rintro e a w' ⟨rfl, s', rfl, rfl, ok', hts⟩
         cases ex with
         | exit id => dsimp only at hr; cases hr
         | normal =>
           obtain ⟨h1, v, h2, v', ow', h3, h4⟩ := fin _ rfl hr s' ok' hts
           exact ⟨h1, v, h2, v', ow', h3, h4⟩
         | ret =>
           obtain ⟨h1, v, h2, v', ow', h3, h4⟩ := fin _ rfl hr s' ok' hts
           exact ⟨h1, v, h2, v', ow', h3, h4⟩
       exact hbody
theorem fnN_meets (hE : EnvOk P E) (H : FuncId → Hint) (lf : Nat) : ∀ n, Meets P E (fnN E H lf n)
 | 0 => fun g as r h => by cases h
 | n + 1 => fun g as r h => by
   have h' : (match lookF E.fns g with | some fn => fnBody E { H g with kp := keptOf E g } (fnN E H lf n) lf fn as | none => none) = some r := h
   cases hf : lookF E.fns g with
   | none => rw [hf] at h'; cases h'
   | some fn =>
     rw [hf] at h'
     obtain ⟨h1, h2⟩ := hE.fn g fn hf
     obtain ⟨h3, h4⟩ := fnBody_ok hE (fnN_meets hE H lf n) h1 { H g with kp := keptOf E g } rfl lf h'
     exact ⟨⟨fn, h1, h3, h2⟩, h4⟩
end
end Go.Proofs.Ytbaihlhoedbpkaa.Tm
namespace Go.Proofs.Ytbaihlhoedbpkaa.Tm
open Go
theorem sVal_eq {α : Type} (v : Value) (f : Value → α) : sVal v f = f v := by cases v <;> simp [sVal, fKind_eq]
theorem sT_eq {α : Type} (t : T) (f : T → α) : sT t f = f t := by cases t <;> simp [sT, sVal_eq]
theorem sEnt_eq {α : Type} (e : Ent) (f : Ent → α) : sEnt e f = f e := by simp [sEnt, fK_eq, fNat_eq, sT_eq]
section
variable (cf : FuncId → List AD → Option Res) (lp : Nat → Code → TS → Option (Ex × TS))
def Free.run : Free → Option FEnd
 | .done e => some e
 | .fail => none
 | .mark _ f => f.run
 | .test b f => (f b).run
 | .int v f => (f v).run
 | .sl n cs f => (f n cs).run
 | .sub cs i n f => if ((cs.drop i).take n).length = n then (f ((cs.drop i).take n)).run else none
 | .call g as f => match cf g as with
   | some r => (f r).run
   | none => none
 | .loop l c ts f => match lp l c ts with
   | some (ex, ts') => (f ex ts').run
   | none => none
theorem progF_run (p : Prog) : ∀ (ts : TS) (R W : Nat) (k : Out → TS → Nat → Nat → Free), (progF p ts R W k).run cf lp = match p.run cf ts R W with
     | some (o, ts', R', W') => (k o ts' R' W').run cf lp
     | none => none := by
 induction p with
 | ret a => intro ts R W k; rw [run_ret]; rfl
 | fail => intro ts R W k; rw [run_fail]; rfl
 | get q f ih => intro ts R W k; rw [run_get]; exact ih _ ts _ W k
 | put q e c ih =>
   intro ts R W k
   rw [run_put]
   have : progF (.put q e c) ts R W k = sEnt e fun e => fNat (setBit ts.m q) fun m => progF c ⟨m, (q, e) :: ts.l⟩ R (setBit W q) k := rfl
   rw [this, sEnt_eq, fNat_eq]
   exact ih _ R _ k
 | test b f ih => intro ts R W k; rw [run_test]; exact ih b ts R W k
 | sub cs i n f ih =>
   intro ts R W k
   show (if ((cs.drop i).take n).length = n then (progF (f ((cs.drop i).take n)) ts R W k).run cf lp else none) = _
   by_cases h : ((cs.drop i).take n).length = n
   · rw [if_pos h, run_sub_eq h]; exact ih _ ts R W k
   · rw [if_neg h]
     have : (Prog.sub cs i n f).run cf ts R W = none := by
       show Bool.rec (motive := fun _ => Option (Out × TS × Nat × Nat)) none ((f ((cs.drop i).take n)).run cf ts R W) (Nat.beq ((cs.drop i).take n).length n) = _
       cases hb : Nat.beq ((cs.drop i).take n).length n with
       | false => rfl
       | true => exact absurd ((beq_iff _ _).1 hb) h
     rw [this]
 | int v f ih => intro ts R W k; rw [run_int]; exact ih v ts R W k
 | sl n cs f ih => intro ts R W k; rw [run_sl]; exact ih n cs ts R W k
 | call g as f ih =>
   intro ts R W k
   have e1 : progF (.call g as f) ts R W k = .call g as fun r => progF (f r) ts R W k := rfl
   rw [e1, Free.run]
   cases h : cf g as with
   | none =>
     have : (Prog.call g as f).run cf ts R W = none := by
       show Option.rec (motive := fun _ => Option (Out × TS × Nat × Nat)) none (fun x => (f x).run cf ts R W) (cf g as) = _
       rw [h]
     rw [this]
   | some x => rw [run_call_eq h]; exact ih x ts R W k
theorem runOpsF_run {E : Env} {h : Hint} (ops : Array Oper) : ∀ (l : List Oper) (i : Nat) (ts : TS) (k : TS → List Foot → Free), (runOpsF E h ops l i ts k).run cf lp = match runOps E h cf ops l ts with
     | some (ts', fs) => (k ts' fs).run cf lp
     | none => none
 | [], _, ts, k => rfl
 | o :: l, i, ts, k => by
   have h1 : runOpsF E h ops (o :: l) i ts k = .mark i (progF (bif dstOk h o.dst then guardOp E h ops o fun _ => .ret .unit else .fail) ts 0 0 fun _ ts' R W => runOpsF E h ops l (Nat.succ i) ts' fun ts2 fs => k ts2 (⟨R, W⟩ :: fs)) := rfl
   have hr : run1 E h cf ops o ts = (bif dstOk h o.dst then guardOp E h ops o fun _ => Prog.ret Out.unit else Prog.fail).run cf ts 0 0 := rfl
   rw [h1, Free.run, progF_run, runOps_cons, hr]
   cases (bif dstOk h o.dst then guardOp E h ops o fun _ => Prog.ret Out.unit else Prog.fail).run cf ts 0 0 with
   | none => rfl
   | some x =>
     obtain ⟨ou, ts', R, W⟩ := x
     dsimp only
     rw [runOpsF_run ops l]
     cases runOps E h cf ops l ts' with
     | none => rfl
     | some y => rfl
noncomputable def loopM (body : TS → Option (Ex × TS)) (head : TS → TS) (n : Nat) : TS → Option (Ex × TS) :=
 Nat.rec (motive := fun _ => TS → Option (Ex × TS)) (fun _ => none)
   (fun _ ih ts => match body ts with
     | some (.normal, ts') => ih (head ts')
     | some (e, ts') => some (e, ts')
     | none => none) n
theorem loopN_eq (body : TS → Option (Ex × TS)) (head : TS → TS) : ∀ (n : Nat) (ts : TS), loopN body head n ts = loopM body head n (head ts)
 | 0, ts => rfl
 | n + 1, ts => by
   have h1 : loopN body head (n + 1) ts = match fTS (head ts) body with
     | some (.normal, ts') => loopN body head n ts'
     | some (e, ts') => some (e, ts')
     | none => none := rfl
   have h2 : loopM body head (n + 1) (head ts) = match body (head ts) with
     | some (.normal, ts') => loopM body head n (head ts')
     | some (e, ts') => some (e, ts')
     | none => none := rfl
   rw [h1, h2, fTS_eq]
   cases body (head ts) with
   | none => rfl
   | some x =>
     obtain ⟨ex, ts'⟩ := x
     cases ex <;> first | exact loopN_eq body head n ts' | rfl
theorem codeF_run {E : Env} {h : Hint} (fuel : Nat) (hlp : ∀ l c ts, lp l c ts = loopM (tailed h l (code E h cf fuel c l)) (loopHead h l) fuel ts) (c : Code) :
   ∀ (l : Nat) (ts : TS) (k : Ex → TS → Free), (codeF E h c l ts k).run cf lp = match code E h cf fuel c l ts with
     | some (ex, ts') => (k ex ts').run cf lp
     | none => none := by
 induction c with
 | skip => intro l ts k; rfl
 | region id ops draw =>
   intro l ts k
   have h1 : codeF E h (.region id ops draw) l ts k = regionF E (atRegion h id) id ops draw ts k := rfl
   have h2 : code E h cf fuel (.region id ops draw) l ts = codeRegion E (atRegion h id) cf ops draw ts := rfl
   rw [h1, h2, regionF, runOpsF_run]
   unfold codeRegion
   cases runOps E (atRegion h id) cf ops ops.toList ts with
   | none => rfl
   | some x =>
     obtain ⟨ts', fs⟩ := x
     dsimp only
     cases (!draw || (indep ops fs && edgesOk 0 ops.toList)) with
     | false => rfl
     | true => rw [cond_true, cond_true, clean_eq, clean_eq]
 | seq a b iha ihb =>
   intro l ts k
   have h1 : codeF E h (.seq a b) l ts k = codeF E h a l ts (seqK (codeF E h b l) k) := rfl
   have h2 : code E h cf fuel (.seq a b) l ts = exSeq (code E h cf fuel b l) (code E h cf fuel a l ts) := rfl
   rw [h1, h2, iha]
   cases code E h cf fuel a l ts with
   | none => rfl
   | some x =>
     obtain ⟨ex, ts'⟩ := x
     cases ex with
     | normal => exact ihb l ts' k
     | exit id => rfl
     | ret => rfl
 | cond c x y ihx ihy =>
   intro l ts k
   have h1 : codeF E h (.cond c x y) l ts k = condF c (codeF E h x l) (codeF E h y l) ts k := rfl
   have h2 : code E h cf fuel (.cond c x y) l ts = codeCond cf c (code E h cf fuel x l) (code E h cf fuel y l) ts := rfl
   rw [h1, h2, condF, progF_run]
   unfold codeCond
   cases (condP c fun b => Prog.ret (Out.bool b)).run cf ts 0 0 with
   | none => rfl
   | some z =>
     obtain ⟨ou, ts', R, W⟩ := z
     cases ou with
     | bool b => cases b; exact ihy l ts' k; exact ihx l ts' k
     | _ => rfl
 | block id b ih =>
   intro l ts k
   have h1 : codeF E h (.block id b) l ts k = codeF E h b id ts (blockK id k) := rfl
   have h2 : code E h cf fuel (.block id b) l ts = exBlock id (code E h cf fuel b id ts) := rfl
   rw [h1, h2, ih]
   cases code E h cf fuel b id ts with
   | none => rfl
   | some x =>
     obtain ⟨ex, ts'⟩ := x
     cases ex with
     | exit j =>
       show (bif Nat.beq j id then k .normal ts' else k (.exit j) ts').run cf lp = match (bif Nat.beq j id then some (Ex.normal, ts') else some (Ex.exit j, ts')) with | some (ex, ts') => _ | none => _
       cases Nat.beq j id <;> rfl
     | normal => rfl
     | ret => rfl
 | loop b ih =>
   intro l ts k
   have h1 : codeF E h (.loop b) l ts k = .loop l b (loopHead h l ts) k := rfl
   have h2 : code E h cf fuel (.loop b) l ts = loopN (tailed h l (code E h cf fuel b l)) (loopHead h l) fuel ts := rfl
   rw [h1, h2, Free.run, hlp, loopN_eq]
 | rangeFunc f ps asg b _ _ => intro l ts k; rfl
 | exit id => intro l ts k; rfl
 | scope b ih => intro l ts k; exact ih l ts k
 | label i => intro l ts k; rfl
 | goto i => intro l ts k; rfl
 | ret => intro l ts k; rfl
 | refuse w => intro l ts k; rfl
theorem fnF_run {E : Env} {h : Hint} {fn : Func} {args : List AD} (fuel : Nat) (hlp : ∀ l c ts, lp l c ts = loopM (tailed (hintOf h fn args) l (code E (hintOf h fn args) cf fuel c l)) (loopHead (hintOf h fn args) l) fuel ts) {r : Res}
   (hr : (fnF E h fn args).run cf lp = some (.res r)) : fnBody E h cf fuel fn args = some r := by
 unfold fnF at hr
 unfold fnBody
 cases hb : fn.body with
 | none => rw [hb] at hr; cases hr
 | some c =>
   rw [hb] at hr
   dsimp only at hr ⊢
   cases hq : Nat.beq args.length fn.params.size && args.all smallArg with
   | false => rw [hq] at hr; cases hr
   | true =>
     rw [hq, cond_true, codeF_run cf lp fuel hlp] at hr
     rw [cond_true]
     have : code E { h with nt := fn.ntmps, prot := protOf 0 args } cf fuel c 0 (TS.of (initArgs 0 args)) = code E (hintOf h fn args) cf fuel c 0 (TS.of (initArgs 0 args)) := rfl
     rw [this]
     cases hc : code E (hintOf h fn args) cf fuel c 0 (TS.of (initArgs 0 args)) with
     | none => rw [hc] at hr; cases hr
     | some x =>
       obtain ⟨ex, ts⟩ := x
       rw [hc] at hr
       have fin : (progF (endD E h.rim fn args fun r => .ret (.res r)) ts 0 0 fun o _ _ _ => match o with | .res r => .done (.res r) | _ => .fail).run cf lp = some (.res r) →
           (match (endD E h.rim fn args fun r => .ret (.res r)).run cf ts 0 0 with | some (.res r, _, _, _) => some r | _ => none) = some r := by
         intro hr
         rw [progF_run] at hr
         cases he : (endD E h.rim fn args fun r => .ret (.res r)).run cf ts 0 0 with
         | none => rw [he] at hr; cases hr
         | some z =>
           obtain ⟨ou, ts', R, W⟩ := z
           rw [he] at hr
           cases ou with
           | res r' => cases hr; rfl
           | _ => cases hr
       cases ex with
       | exit id => cases hr
       | normal => exact fin hr
       | ret => exact fin hr
end
section
variable (E : Env) (H : FuncId → Hint)
def Evt (g : FuncId) (as : List AD) (r : Res) : Prop := ∃ N, ∀ lf n, N ≤ lf → N ≤ n → fnN E H lf n g as = some r
def LoopEv (h : Hint) (l : Nat) (c : Code) (ts : TS) (ex : Ex) (ts' : TS) : Prop := ∃ N, ∀ lf n m, N ≤ lf → N ≤ n → N ≤ m → loopM (tailed h l (code E h (fnN E H lf n) lf c l)) (loopHead h l) m ts = some (ex, ts')
def Cond.Holds (h : Hint) : Cond → Prop
 | .test b v => b = v
 | .int b v => b = v
 | .sl v cs n l => v = n ∧ cs = l
 | .sub cs i n v => v.length = n ∧ (cs.drop i).take n = v
 | .call g as r => Evt E H g as r
 | .loop l c ts ex ts' => LoopEv E H h l c ts ex ts'
def HoldAll (h : Hint) : List Cond → Prop
 | [] => True
 | c :: cs => c.Holds E H h ∧ HoldAll h cs
theorem addC_some {c : Cond} {x : Option (FEnd × List Cond)} {e : FEnd} {cs : List Cond} (h : addC c x = some (e, cs)) : ∃ cs', x = some (e, cs') ∧ cs = c :: cs' := by
 cases x with
 | none => cases h
 | some y => obtain ⟨e', cs'⟩ := y; cases h; exact ⟨cs', rfl, rfl⟩
theorem play_run {h : Hint} : ∀ (fr : Free) (os : List Ans) (e : FEnd) (cs : List Cond), fr.play os = some (e, cs) → HoldAll E H h cs →
   ∃ N, ∀ lf n, N ≤ lf → N ≤ n → fr.run (fnN E H lf n) (fun l c ts => loopM (tailed h l (code E h (fnN E H lf n) lf c l)) (loopHead h l) lf ts) = some e := by
 intro fr
 induction fr with
 | done e0 =>
   intro os e cs hp hc
   cases os with
   | nil => cases hp; exact ⟨0, fun _ _ _ _ => rfl⟩
   | cons a os => cases hp
 | fail => intro os e cs hp; cases os <;> cases hp
 | mark i f ih => intro os e cs hp hc; rw [Free.play] at hp; exact ih os e cs hp hc
 | test b f ih =>
   intro os e cs hp hc
   match os, hp with
   | .test v :: os, hp =>
     obtain ⟨cs', h1, rfl⟩ := addC_some hp
     obtain ⟨h2, h3⟩ := hc
     have h2 : b = v := h2
     subst h2
     exact ih b os e cs' h1 h3
 | int b f ih =>
   intro os e cs hp hc
   match os, hp with
   | .int v :: os, hp =>
     obtain ⟨cs', h1, rfl⟩ := addC_some hp
     obtain ⟨h2, h3⟩ := hc
     have h2 : b = v := h2
     subst h2
     exact ih b os e cs' h1 h3
 | sl v cs0 f ih =>
   intro os e cs hp hc
   match os, hp with
   | .sl n l :: os, hp =>
     obtain ⟨cs', h1, rfl⟩ := addC_some hp
     obtain ⟨⟨h2, h4⟩, h3⟩ := hc
     subst h2; subst h4
     exact ih v cs0 os e cs' h1 h3
 | sub cs0 i n f ih =>
   intro os e cs hp hc
   match os, hp with
   | .sub v :: os, hp =>
     obtain ⟨cs', h1, rfl⟩ := addC_some hp
     obtain ⟨⟨h2, h4⟩, h3⟩ := hc
     obtain ⟨N, hN⟩ := ih v os e cs' h1 h3
     refine ⟨N, fun lf n' a b => ?_⟩
     rw [Free.run, h4, if_pos h2]
     exact hN lf n' a b
 | call g as f ih =>
   intro os e cs hp hc
   match os, hp with
   | .call r :: os, hp =>
     obtain ⟨cs', h1, rfl⟩ := addC_some hp
     obtain ⟨⟨N1, h2⟩, h3⟩ := hc
     obtain ⟨N, hN⟩ := ih r os e cs' h1 h3
     refine ⟨max N N1, fun lf n a b => ?_⟩
     rw [Free.run, h2 lf n (by omega) (by omega)]
     exact hN lf n (by omega) (by omega)
 | loop l c ts f ih =>
   intro os e cs hp hc
   match os, hp with
   | .loop ex ts' :: os, hp =>
     obtain ⟨cs', h1, rfl⟩ := addC_some hp
     obtain ⟨⟨N1, h2⟩, h3⟩ := hc
     obtain ⟨N, hN⟩ := ih ex ts' os e cs' h1 h3
     refine ⟨max N N1, fun lf n a b => ?_⟩
     rw [Free.run, h2 lf n lf (by omega) (by omega) (by omega)]
     exact hN lf n (by omega) (by omega)
theorem fn_play {f : FuncId} {as : List AD} {r : Res} {os : List Ans} {cs : List Cond} (hp : (fnT E H f as).play os = some (.res r, cs)) (hc : HoldAll E H (hintT E H f as) cs) : Evt E H f as r := by
 unfold fnT at hp
 unfold hintT at hc
 cases hf : lookF E.fns f with
 | none => rw [hf] at hp; cases os <;> cases hp
 | some fn =>
   rw [hf] at hp hc
   obtain ⟨N, hN⟩ := play_run E H _ os _ cs hp hc
   refine ⟨N + 1, fun lf n a b => ?_⟩
   cases n with
   | zero => omega
   | succ n =>
     have h1 := fnF_run (E := E) (h := { H f with kp := keptOf E f }) (fn := fn) (args := as) (fnN E H lf n) (fun l c ts => loopM (tailed (hintOf { H f with kp := keptOf E f } fn as) l (code E (hintOf { H f with kp := keptOf E f } fn as) (fnN E H lf n) lf c l)) (loopHead (hintOf { H f with kp := keptOf E f } fn as) l) lf ts) lf (fun _ _ _ => rfl) (hN lf n (by omega) (by omega))
     show (match lookF E.fns f with | some fn => fnBody E { H f with kp := keptOf E f } (fnN E H lf n) lf fn as | none => none) = _
     rw [hf]; exact h1
theorem round_play {h : Hint} {l : Nat} {c : Code} {ts : TS} {os : List Ans} {e : FEnd} {cs : List Cond} (hp : (roundF E h l c ts).play os = some (e, cs)) (hc : HoldAll E H h cs) :
   ∃ N, ∀ lf n, N ≤ lf → N ≤ n → (match code E h (fnN E H lf n) lf c l ts with | some (ex, ts') => (roundK h l ex ts').run (fnN E H lf n) (fun l c ts => loopM (tailed h l (code E h (fnN E H lf n) lf c l)) (loopHead h l) lf ts) | none => none) = some e := by
 obtain ⟨N, hN⟩ := play_run E H _ os _ cs hp hc
 refine ⟨N, fun lf n a b => ?_⟩
 have := hN lf n a b
 rw [roundF, codeF_run _ _ lf (fun _ _ _ => rfl)] at this
 exact this
theorem loop_next {h : Hint} {l : Nat} {c : Code} {ts ts1 : TS} {os : List Ans} {cs : List Cond} (hp : (roundF E h l c ts).play os = some (.code .normal ts1, cs)) (hc : HoldAll E H h cs) {ex : Ex} {ts' : TS} (hn : LoopEv E H h l c ts1 ex ts') :
   LoopEv E H h l c ts ex ts' := by
 obtain ⟨N, hN⟩ := round_play E H hp hc
 obtain ⟨N1, h1⟩ := hn
 refine ⟨max N N1 + 1, fun lf n m a b d => ?_⟩
 have h2 := hN lf n (by omega) (by omega)
 cases m with
 | zero => omega
 | succ m =>
   have h3 : loopM (tailed h l (code E h (fnN E H lf n) lf c l)) (loopHead h l) (m + 1) ts = match tailed h l (code E h (fnN E H lf n) lf c l) ts with
     | some (.normal, ts') => loopM (tailed h l (code E h (fnN E H lf n) lf c l)) (loopHead h l) m (loopHead h l ts')
     | some (e, ts') => some (e, ts')
     | none => none := rfl
   rw [h3, tailed_eq]
   cases hcd : code E h (fnN E H lf n) lf c l ts with
   | none => rw [hcd] at h2; cases h2
   | some x =>
     obtain ⟨ex1, ts2⟩ := x
     rw [hcd] at h2
     cases ex1 with
     | normal =>
       have h4 : some (FEnd.code .normal (loopHead h l ts2)) = some (FEnd.code .normal ts1) := h2
       cases h4
       exact h1 lf n m (by omega) (by omega) (by omega)
     | exit id => cases h2
     | ret => cases h2
theorem loop_end {h : Hint} {l : Nat} {c : Code} {ts ts' : TS} {ex : Ex} {os : List Ans} {cs : List Cond} (hp : (roundF E h l c ts).play os = some (.code ex ts', cs)) (hx : match ex with | .normal => False | _ => True) (hc : HoldAll E H h cs) :
   LoopEv E H h l c ts ex ts' := by
 obtain ⟨N, hN⟩ := round_play E H hp hc
 refine ⟨N + 1, fun lf n m a b d => ?_⟩
 have h2 := hN lf n (by omega) (by omega)
 cases m with
 | zero => omega
 | succ m =>
   have h3 : loopM (tailed h l (code E h (fnN E H lf n) lf c l)) (loopHead h l) (m + 1) ts = match tailed h l (code E h (fnN E H lf n) lf c l) ts with
     | some (.normal, ts') => loopM (tailed h l (code E h (fnN E H lf n) lf c l)) (loopHead h l) m (loopHead h l ts')
     | some (e, ts') => some (e, ts')
     | none => none := rfl
   rw [h3, tailed_eq]
   cases hcd : code E h (fnN E H lf n) lf c l ts with
   | none => rw [hcd] at h2; cases h2
   | some x =>
     obtain ⟨ex1, ts2⟩ := x
     rw [hcd] at h2
     cases ex1 with
     | normal =>
       have h4 : some (FEnd.code .normal (loopHead h l ts2)) = some (FEnd.code ex ts') := h2
       cases h4
       exact hx.elim
     | exit id => cases h2; rfl
     | ret => cases h2; rfl
end
end Go.Proofs.Ytbaihlhoedbpkaa.Tm
namespace Go.Proofs.Ytbaihlhoedbpkaa.Tm
open Go
def eInt (k : IntKind) (n : Int) : List T := [.lit (.int k n)]
def eBool (b : Bool) : List T := [.lit (.bool b)]
def eStr (s : ByteArray) : List T := [.lit (.string s)]
def eVal (v : Value) : List T := [.lit v]
def len {α : Type} (l : List α) : Nat := l.length
def flat {α : Type} (enc : α → List T) (l : List α) : List T := l.flatMap enc
def elAt {α : Type} (l : List α) (i : Int) : Option α := l[i.toNat]?
def putAt {α : Type} (l : List α) (i : Int) (x : α) : List α := l.set i.toNat x
def appL {α : Type} (a b : List α) : List α := a ++ b
def subL {α : Type} (l : List α) (a b : Int) : List α := (l.drop a.toNat).take (b.toNat - a.toNat)
def repL {α : Type} (n : Int) (x : α) : List α := List.replicate n.toNat x
def copyL {α : Type} (src dst : List α) : List α := src.take dst.length ++ dst.drop src.length
def strOf (l : List Int) : ByteArray := ⟨(l.map fun n => UInt8.ofNat n.toNat).toArray⟩
def isFn (v : Value) (g : Nat) : Bool := match v with
 | .func (.func f) a b => Nat.beq f g && a.isEmpty && b.isEmpty
 | _ => false
def isNilFn (v : Value) : Bool := match v with
 | .nilFunc => true
 | _ => false
def areFns (vs : List Value) (ns : List Nat) : Bool := Nat.beq vs.length ns.length && (vs.zip ns).all fun p => bif Nat.beq p.2 0 then isNilFn p.1 else isFn p.1 p.2
def bs (l : List Nat) : ByteArray := ⟨(l.map UInt8.ofNat).toArray⟩
def fnV (g : Nat) : Value := .func (.func g) #[] #[]
def fnOfN (n : Nat) : Value := bif Nat.beq n 0 then .nilFunc else fnV n
noncomputable def loops (c : Code) : List Code := Code.rec (motive := fun _ => List Code) [] (fun _ _ _ => []) (fun _ _ a b => a ++ b) (fun _ _ _ a b => a ++ b) (fun _ _ a => a) (fun b a => b :: a) (fun _ _ _ _ _ _ => []) (fun _ => []) (fun _ a => a) (fun _ => []) (fun _ => []) [] (fun _ => []) c
noncomputable def loopOf (E : Env) (f : FuncId) (i : Nat) : Code := match lookF E.fns f with
 | some fn => (match fn.body with | some c => (loops c).getD i .skip | none => .skip)
 | none => .skip
def eSl {α : Type} (enc : α → List T) (l : List α) : List T := [.sl (len l) (flat enc l)]
theorem eInt_len (k : IntKind) (n : Int) : (eInt k n).length = 1 := rfl
theorem eBool_len (b : Bool) : (eBool b).length = 1 := rfl
theorem eStr_len (b : ByteArray) : (eStr b).length = 1 := rfl
theorem eVal_len (b : Value) : (eVal b).length = 1 := rfl
theorem eSl_len {α : Type} (enc : α → List T) (l : List α) : (eSl enc l).length = 1 := rfl
theorem eInt_ns (k : IntKind) (n : Int) : (eInt k n).any hasSl = false := rfl
theorem eBool_ns (b : Bool) : (eBool b).any hasSl = false := rfl
theorem eStr_ns (b : ByteArray) : (eStr b).any hasSl = false := rfl
theorem isFn_eq {v : Value} {g : Nat} (h : isFn v g = true) : v = fnV g := by
 unfold isFn at h
 split at h
 · simp only [Bool.and_eq_true, beq_iff, Array.isEmpty_iff] at h
   obtain ⟨⟨rfl, rfl⟩, rfl⟩ := h; rfl
 · cases h
theorem isNilFn_eq {v : Value} (h : isNilFn v = true) : v = .nilFunc := by
 unfold isNilFn at h
 split at h
 · rfl
 · cases h
theorem areFns_cons {v : Value} {vs : List Value} {n : Nat} {ns : List Nat} (h : areFns (v :: vs) (n :: ns) = true) : v = fnOfN n ∧ areFns vs ns = true := by
 simp only [areFns, Bool.and_eq_true, beq_iff, List.length_cons, List.zip_cons_cons, List.all_cons] at h
 obtain ⟨h1, h2, h3⟩ := h
 refine ⟨?_, ?_⟩
 · unfold fnOfN
   cases hn : Nat.beq n 0 with
   | true => rw [hn, cond_true] at h2; exact isNilFn_eq h2
   | false => rw [hn, cond_false] at h2; exact isFn_eq h2
 · simp only [areFns, Bool.and_eq_true, beq_iff]
   exact ⟨by omega, h3⟩
section
variable {α : Type} {enc : α → List T} {z : Nat}
theorem flat_len (h : ∀ x, (enc x).length = z) (l : List α) : (flat enc l).length = l.length * z := by
 induction l with
 | nil => simp [flat]
 | cons x l ih =>
   have : flat enc (x :: l) = enc x ++ flat enc l := rfl
   rw [this, List.length_append, h, ih, List.length_cons, Nat.succ_mul, Nat.add_comm]
theorem flat_ns (h : ∀ x, (enc x).any hasSl = false) (l : List α) : (flat enc l).any hasSl = false := by
 induction l with
 | nil => rfl
 | cons x l ih =>
   have : flat enc (x :: l) = enc x ++ flat enc l := rfl
   rw [this, List.any_append, h, ih]; rfl
theorem leqm_flat (h : ∀ x, (enc x).length = z) (l : List α) : leqm (flat enc l) (len l) z = true := (beq_iff _ _).2 (flat_len h l)
theorem flat_drop (h : ∀ x, (enc x).length = z) (l : List α) (n : Nat) : (flat enc l).drop (n * z) = flat enc (l.drop n) := by
 induction l generalizing n with
 | nil => simp [flat]
 | cons x l ih =>
   cases n with
   | zero => simp
   | succ n =>
     have : flat enc (x :: l) = enc x ++ flat enc l := rfl
     rw [this, List.drop_succ_cons, ← ih n, List.drop_append, h]
     rw [List.drop_eq_nil_of_le (by rw [h, Nat.succ_mul]; omega), List.nil_append]
     congr 1; rw [Nat.succ_mul]; omega
theorem flat_take (h : ∀ x, (enc x).length = z) (l : List α) (n : Nat) : (flat enc l).take (n * z) = flat enc (l.take n) := by
 induction l generalizing n with
 | nil => simp [flat]
 | cons x l ih =>
   cases n with
   | zero => simp [flat]
   | succ n =>
     have e1 : flat enc (x :: l) = enc x ++ flat enc l := rfl
     have e2 : flat enc (x :: l.take n) = enc x ++ flat enc (l.take n) := rfl
     rw [List.take_succ_cons, e1, e2, ← ih n, List.take_append, h]
     rw [List.take_of_length_le (by rw [h, Nat.succ_mul]; omega)]
     congr 2; rw [Nat.succ_mul]; omega
theorem sub_flat (h : ∀ x, (enc x).length = z) {l : List α} {i : Int} {x : α} (hx : elAt l i = some x) (off n : Nat) (hn : off + n ≤ z) : ((flat enc l).drop (nadd (nidx i z) off)).take n = ((enc x).drop off).take n := by
 have hl : i.toNat < l.length := (List.getElem?_eq_some_iff.1 hx).1
 have he : l.drop i.toNat = x :: l.drop (i.toNat + 1) := by
   rw [List.drop_eq_getElem_cons hl]
   congr 1
   exact (List.getElem?_eq_some_iff.1 hx).2
 show ((flat enc l).drop (i.toNat * z + off)).take n = _
 rw [← List.drop_drop, flat_drop h, he]
 have : flat enc (x :: l.drop (i.toNat + 1)) = enc x ++ flat enc (l.drop (i.toNat + 1)) := rfl
 rw [this, List.drop_append_of_le_length (by rw [h]; omega), List.take_append_of_le_length (by rw [List.length_drop, h]; omega)]
theorem sub_flat0 (h : ∀ x, (enc x).length = z) {l : List α} {i : Int} {x : α} (hx : elAt l i = some x) (n : Nat) (hn : n ≤ z) : ((flat enc l).drop (nidx i z)).take n = (enc x).take n := by
 have := sub_flat h hx 0 n (by omega)
 simpa [nadd] using this
theorem flat_app (a b : List α) : lapp (flat enc a) (flat enc b) = flat enc (appL a b) := by simp [flat, lapp, appL]
theorem len_app (a b : List α) : nadd (len a) (len b) = len (appL a b) := by simp [len, nadd, appL]
theorem app_ok (a b : List α) : nadd (len a) (len b) = len (appL a b) ∧ lapp (flat enc a) (flat enc b) = flat enc (appL a b) := ⟨len_app a b, flat_app a b⟩
theorem sub_ok (h : ∀ x, (enc x).length = z) {l : List α} {lo hi : Int} (hb : bnd lo hi (len l) = true) : nsub lo hi = len (subL l lo hi) ∧ lsub (flat enc l) lo hi z = flat enc (subL l lo hi) := by
 have hb' : 0 ≤ lo ∧ lo ≤ hi ∧ hi ≤ (l.length : Int) := of_decide_eq_true hb
 refine ⟨?_, ?_⟩
 · simp only [nsub, len, subL, List.length_take, List.length_drop]; omega
 · simp only [lsub, subL]; rw [flat_drop h, flat_take h]
theorem rep_ok (n : Int) (x : α) : nint n = len (repL n x) ∧ lrep n (enc x) = flat enc (repL n x) := by
 refine ⟨by simp [nint, len, repL], ?_⟩
 simp only [lrep, repL, flat, List.flatMap]
 rw [List.map_replicate]
theorem rep_okC {n : Int} {x : α} {cs : List T} (hc : enc x = cs) : nint n = len (repL n x) ∧ lrep n cs = flat enc (repL n x) := by
 subst hc; exact rep_ok n x
theorem inr_lt {l : List α} {i : Int} (h : inr i (len l) = true) : 0 ≤ i ∧ i.toNat < l.length := by
 have : 0 ≤ i ∧ i < (l.length : Int) := of_decide_eq_true h
 omega
theorem set_ok (h : ∀ x, (enc x).length = z) {l : List α} {i : Int} {x y : α} (hx : elAt l i = some x) (off : Nat) (ts : List T) (hn : off + ts.length ≤ z) (hy : lset (enc x) off ts = enc y) :
   len l = len (putAt l i y) ∧ lset (flat enc l) (nadd (nidx i z) off) ts = flat enc (putAt l i y) := by
 have hl : i.toNat < l.length := (List.getElem?_eq_some_iff.1 hx).1
 have hxx : l[i.toNat] = x := (List.getElem?_eq_some_iff.1 hx).2
 refine ⟨by simp [len, putAt], ?_⟩
 have e1 : flat enc l = flat enc (l.take i.toNat) ++ (enc x ++ flat enc (l.drop (i.toNat + 1))) := by
   have : l = l.take i.toNat ++ (x :: l.drop (i.toNat + 1)) := by
     rw [← hxx, ← List.drop_eq_getElem_cons hl, List.take_append_drop]
   conv => lhs; rw [this]
   simp [flat]
 have e2 : flat enc (putAt l i y) = flat enc (l.take i.toNat) ++ (enc y ++ flat enc (l.drop (i.toNat + 1))) := by
   rw [putAt, List.set_eq_take_append_cons_drop, if_pos hl]
   simp [flat]
 have hlen : (flat enc (l.take i.toNat)).length = i.toNat * z := by rw [flat_len h, List.length_take, Nat.min_eq_left (by omega)]
 rw [e2, ← hy, e1]
 simp only [lset, nadd, nidx]
 rw [List.take_append, hlen, List.take_of_length_le (by rw [hlen]; omega), show i.toNat * z + off - i.toNat * z = off by omega, List.take_append_of_le_length (by rw [h]; omega)]
 rw [List.drop_append, hlen, List.drop_eq_nil_of_le (by rw [hlen]; omega), show i.toNat * z + off + ts.length - i.toNat * z = off + ts.length by omega, List.drop_append_of_le_length (by rw [h]; omega)]
 simp [List.append_assoc]
theorem set_ok0 (h : ∀ x, (enc x).length = z) {l : List α} {i : Int} {x y : α} (hx : elAt l i = some x) (ts : List T) (hn : ts.length ≤ z) (hy : lset (enc x) 0 ts = enc y) :
   len l = len (putAt l i y) ∧ lset (flat enc l) (nidx i z) ts = flat enc (putAt l i y) := by
 have := set_ok h hx 0 ts (by omega) hy
 simpa [nadd] using this
theorem lfits_flat (h : ∀ x, (enc x).length = z) {l : List α} {i : Int} {x : α} (hx : elAt l i = some x) (off n : Nat) (hn : off + n ≤ z) : lfits (nadd (nidx i z) off) n (flat enc l) = true := by
 have hl : i.toNat < l.length := (List.getElem?_eq_some_iff.1 hx).1
 refine (ble_iff _ _).2 ?_
 rw [flat_len h]
 show i.toNat * z + off + n ≤ _
 have : (i.toNat + 1) * z ≤ l.length * z := Nat.mul_le_mul_right _ hl
 rw [Nat.succ_mul] at this; omega
theorem lfits_flat0 (h : ∀ x, (enc x).length = z) {l : List α} {i : Int} {x : α} (hx : elAt l i = some x) (n : Nat) (hn : n ≤ z) : lfits (nidx i z) n (flat enc l) = true := by
 have := lfits_flat h hx 0 n (by omega)
 simpa [nadd] using this
theorem copy_ok (h : ∀ x, (enc x).length = z) (a b : List α) : len b = len (copyL a b) ∧ lcopy (flat enc a) (flat enc b) (len a) (len b) z = flat enc (copyL a b) := by
 refine ⟨by simp [len, copyL]; omega, ?_⟩
 simp only [lcopy, copyL, len]
 rw [flat_take h, flat_drop h]
 have e1 : a.take (min a.length b.length) = a.take b.length := by
   rcases Nat.le_total a.length b.length with h1 | h1
   · rw [Nat.min_eq_left h1, List.take_of_length_le (Nat.le_refl _), List.take_of_length_le h1]
   · rw [Nat.min_eq_right h1]
 have e2 : b.drop (min a.length b.length) = b.drop a.length := by
   rcases Nat.le_total a.length b.length with h1 | h1
   · rw [Nat.min_eq_left h1]
   · rw [Nat.min_eq_right h1, List.drop_eq_nil_of_le (Nat.le_refl _), List.drop_eq_nil_of_le h1]
 rw [e1, e2]
 simp [flat]
theorem isby_ok (l : List Int) : isby (flat (eInt .u8) l) (len l) = true := by
 have h1 : (flat (eInt .u8) l).length = l.length := by rw [flat_len (z := 1) (fun _ => rfl)]; omega
 have h2 : (bytesOf (flat (eInt .u8) l)).isSome = true := by
   induction l with
   | nil => rfl
   | cons x l ih =>
     have ih := ih (by rw [flat_len (z := 1) (fun _ => rfl)]; omega)
     show (match bytesOf (flat (eInt .u8) l) with | some l => some (UInt8.ofNat x.toNat :: l) | none => none).isSome = true
     cases h : bytesOf (flat (eInt .u8) l) with
     | none => rw [h] at ih; cases ih
     | some _ => rfl
 show (Nat.beq _ _ && _) = true
 rw [h2, Bool.and_true]
 exact (beq_iff _ _).2 h1
theorem bytes_flat (l : List Int) : bytesOf (flat (eInt .u8) l) = some (l.map fun n => UInt8.ofNat n.toNat) := by
 induction l with
 | nil => rfl
 | cons x l ih =>
   show (match bytesOf (flat (eInt .u8) l) with | some l => some (UInt8.ofNat x.toNat :: l) | none => none) = _
   rw [ih]; rfl
theorem bstr_ok (l : List Int) : bstr (flat (eInt .u8) l) = strOf l := by simp only [bstr, bytes_flat, Option.getD_some, strOf]
end
theorem bnot_eq {c v : Bool} (h : c = v) : bnot c = !v := by subst h; rfl
theorem bnot_t {c : Bool} (h : c = true) : bnot c = false := by subst h; rfl
theorem bnot_f {c : Bool} (h : c = false) : bnot c = true := by subst h; rfl
theorem beqb_t {c v : Bool} (h : c = v) : beqb c true = v := by subst h; cases c <;> rfl
theorem beqb_ft {c : Bool} (h : c = true) : beqb c false = false := by subst h; rfl
theorem beqb_ff {c : Bool} (h : c = false) : beqb c false = true := by subst h; rfl
theorem ine_t {a b : Int} (h : ieq a b = true) : ine a b = false := by simp only [ieq, ine, bne] at h ⊢; rw [h]; rfl
theorem ine_f {a b : Int} (h : ieq a b = false) : ine a b = true := by simp only [ieq, ine, bne] at h ⊢; rw [h]; rfl
theorem igt_eq {a b : Int} {v : Bool} (h : ilt b a = v) : igt a b = v := h
theorem ige_eq {a b : Int} {v : Bool} (h : ile b a = v) : ige a b = v := h
theorem band_tt {a b : Bool} (h : a = true) (g : b = true) : band a b = true := by subst h; subst g; rfl
theorem band_f1 {a b : Bool} (h : a = false) : band a b = false := by subst h; rfl
theorem band_f2 {a b : Bool} (h : a = true) (g : b = false) : band a b = false := by subst h; subst g; rfl
def maskK : List Nat → Nat
 | [] => 0
 | k :: r => setBit (maskK r) k
def TS.on (ks : List Nat) (l : List (Nat × Ent)) : TS := ⟨maskK ks, l⟩
def ansOf : Cond → Ans
 | .test _ v => .test v
 | .int _ n => .int n
 | .sl _ _ n l => .sl n l
 | .sub _ _ _ l => .sub l
 | .call _ _ r => .call r
 | .loop _ _ _ ex ts => .loop ex ts
def ansL : List Cond → List Ans
 | [] => []
 | c :: cs => ansOf c :: ansL cs
theorem holdAll_app {E : Env} {H : FuncId → Hint} {h : Hint} : ∀ {a b : List Cond}, HoldAll E H h a → HoldAll E H h b → HoldAll E H h (a ++ b)
 | [], _, _, g => g
 | _ :: _, _, h, g => ⟨h.1, holdAll_app h.2 g⟩
theorem hasSl_lit (v : Value) : hasSl (.lit v) = false := rfl
theorem leads_ok {r : Res} {v : Bool} (h : leadsAny r = v) : leadsAny r = v := h
theorem fn_playH {E : Env} {H : FuncId → Hint} (h : Hint) {f : FuncId} {ads : List AD} {r : Res} {os : List Ans} {cs : List Cond} (hh : hintT E H f ads = h) (hp : (fnT E H f ads).play os = some (.res r, cs)) (hc : HoldAll E H h cs) : Evt E H f ads r := by
 subst hh; exact fn_play E H hp hc
theorem fn_playC {E : Env} {H : FuncId → Hint} (h : Hint) {f : FuncId} {ads : List AD} {r : Res} {cs : List Cond} (hc : HoldAll E H h cs) (hh : hintT E H f ads = h) (hp : (fnT E H f ads).play (ansL cs) = some (.res r, cs)) : Evt E H f ads r := fn_playH h hh hp hc
theorem loop_nextC {E : Env} {H : FuncId → Hint} {h : Hint} {l : Nat} {c : Code} {ts ts1 : TS} {cs : List Cond} (hc : HoldAll E H h cs) (hp : (roundF E h l c ts).play (ansL cs) = some (.code .normal ts1, cs)) {ex : Ex} {ts' : TS} (hn : LoopEv E H h l c ts1 ex ts') :
   LoopEv E H h l c ts ex ts' := loop_next (E := E) (H := H) hp hc hn
theorem loop_endC {E : Env} {H : FuncId → Hint} {h : Hint} {l : Nat} {c : Code} {ts ts' : TS} {ex : Ex} {cs : List Cond} (hc : HoldAll E H h cs) (hp : (roundF E h l c ts).play (ansL cs) = some (.code ex ts', cs)) (hx : match ex with | .normal => False | _ => True) :
   LoopEv E H h l c ts ex ts' := loop_end (E := E) (H := H) hp (by cases ex <;> first | exact hx | trivial) hc
section
variable {α β γ : Type} {G : Prop}
theorem cond_some {c : Bool} {a b : Option α} {r : α} (h : (bif c then a else b) = some r) (h1 : c = true → a = some r → G) (h2 : c = false → b = some r → G) : G := by
 cases c
 · exact h2 rfl h
 · exact h1 rfl h
theorem bind_some {o : Option α} {f : α → Option β} {r : β} (h : o.bind f = some r) (k : ∀ x, o = some x → f x = some r → G) : G := by
 cases o with
 | none => cases h
 | some x => exact k x rfl h
theorem sum_some {x : α ⊕ β} {f : α → Option γ} {g : β → Option γ} {r : γ} (h : Sum.elim f g x = some r) (h1 : ∀ a, x = .inl a → f a = some r → G) (h2 : ∀ b, x = .inr b → g b = some r → G) : G := by
 cases x with
 | inl a => exact h1 a rfl h
 | inr b => exact h2 b rfl h
end
end Go.Proofs.Ytbaihlhoedbpkaa.Tm
namespace Go.Proofs.Ytbaihlhoedbpkaa.Tm
open Go
section
variable {cf cf' : FuncId → List AD → Option Res} (hcf : ∀ g as r, cf g as = some r → cf' g as = some r)
include hcf
theorem prog_mono (p : Prog) : ∀ {ts : TS} {R W : Nat} {x}, p.run cf ts R W = some x → p.run cf' ts R W = some x := by
 induction p with
 | ret a => intro ts R W x h; exact h
 | fail => intro ts R W x h; exact h
 | get q f ih => intro ts R W x h; rw [run_get] at h ⊢; exact ih _ h
 | put q e c ih => intro ts R W x h; rw [run_put] at h ⊢; exact ih h
 | test b f ih => intro ts R W x h; rw [run_test] at h ⊢; exact ih b h
 | sub cs i n f ih =>
   intro ts R W x h
   by_cases hl : ((cs.drop i).take n).length = n
   · rw [run_sub_eq hl] at h ⊢; exact ih _ h
   · have : (Prog.sub cs i n f).run cf ts R W = none := by
       show Bool.rec (motive := fun _ => Option (Out × TS × Nat × Nat)) none ((f ((cs.drop i).take n)).run cf ts R W) (Nat.beq ((cs.drop i).take n).length n) = _
       cases hb : Nat.beq ((cs.drop i).take n).length n with
       | false => rfl
       | true => exact absurd ((beq_iff _ _).1 hb) hl
     rw [this] at h; cases h
 | int v f ih => intro ts R W x h; rw [run_int] at h ⊢; exact ih v h
 | sl n cs f ih => intro ts R W x h; rw [run_sl] at h ⊢; exact ih n cs h
 | call g as f ih =>
   intro ts R W x h
   cases hg : cf g as with
   | none =>
     have : (Prog.call g as f).run cf ts R W = none := by
       show Option.rec (motive := fun _ => Option (Out × TS × Nat × Nat)) none (fun x => (f x).run cf ts R W) (cf g as) = _
       rw [hg]
     rw [this] at h; cases h
   | some r => rw [run_call_eq hg] at h; rw [run_call_eq (hcf _ _ _ hg)]; exact ih r h
theorem ops_mono {E : Env} {hn : Hint} (ops : Array Oper) : ∀ (l : List Oper) {ts : TS} {x}, runOps E hn cf ops l ts = some x → runOps E hn cf' ops l ts = some x
 | [], _, _, h => h
 | o :: l, ts, x, h => by
   have hr : ∀ c, run1 E hn c ops o ts = (bif dstOk hn o.dst then guardOp E hn ops o fun _ => Prog.ret Out.unit else Prog.fail).run c ts 0 0 := fun _ => rfl
   rw [runOps_cons, hr] at h ⊢
   cases h1 : (bif dstOk hn o.dst then guardOp E hn ops o fun _ => Prog.ret Out.unit else Prog.fail).run cf ts 0 0 with
   | none => rw [h1] at h; cases h
   | some y =>
     obtain ⟨ou, ts', R, W⟩ := y
     rw [prog_mono hcf _ h1]
     rw [h1] at h
     dsimp only at h ⊢
     cases h2 : runOps E hn cf ops l ts' with
     | none => rw [h2] at h; cases h
     | some z => rw [ops_mono ops l h2]; rw [h2] at h; exact h
omit hcf in
theorem loop_mono {b b' : TS → Option (Ex × TS)} (hb : ∀ ts x, b ts = some x → b' ts = some x) {hd : TS → TS} : ∀ {n n' : Nat}, n ≤ n' → ∀ {ts : TS} {x}, loopN b hd n ts = some x → loopN b' hd n' ts = some x
 | 0, _, _, _, _, h => by cases h
 | n + 1, 0, hn, _, _, _ => by omega
 | n + 1, n' + 1, hn, ts, x, h => by
   have h1 : ∀ (b : TS → Option (Ex × TS)) (n : Nat), loopN b hd (n + 1) ts = match fTS (hd ts) b with
     | some (.normal, ts') => loopN b hd n ts'
     | some (e, ts') => some (e, ts')
     | none => none := fun _ _ => rfl
   rw [h1, fTS_eq] at h ⊢
   cases h2 : b (hd ts) with
   | none => rw [h2] at h; cases h
   | some y =>
     obtain ⟨ex, ts'⟩ := y
     rw [hb _ _ h2]
     rw [h2] at h
     cases ex with
     | normal => exact loop_mono hb (by omega) h
     | exit _ => exact h
     | ret => exact h
omit hcf in
theorem tailed_mono {hn : Hint} {l : Nat} {b b' : TS → Option (Ex × TS)} (hb : ∀ ts x, b ts = some x → b' ts = some x) (ts : TS) (x) (h : tailed hn l b ts = some x) : tailed hn l b' ts = some x := by
 unfold tailed at h ⊢
 cases h2 : b ts with
 | none => rw [h2] at h; cases h
 | some y => rw [hb _ _ h2]; rw [h2] at h; exact h
theorem code_mono {E : Env} {hn : Hint} {fu fu' : Nat} (hf : fu ≤ fu') (c : Code) : ∀ (l : Nat) (ts : TS) (x), code E hn cf fu c l ts = some x → code E hn cf' fu' c l ts = some x := by
 induction c with
 | region id ops draw =>
   intro l ts x h
   have e : ∀ cf fu, code E hn cf fu (.region id ops draw) l ts = codeRegion E (atRegion hn id) cf ops draw ts := fun _ _ => rfl
   rw [e] at h ⊢
   unfold codeRegion at h ⊢
   cases h1 : runOps E (atRegion hn id) cf ops ops.toList ts with
   | none => rw [h1] at h; cases h
   | some y => rw [ops_mono hcf _ _ h1]; rw [h1] at h; exact h
 | seq a b iha ihb =>
   intro l ts x h
   have e : ∀ cf fu, code E hn cf fu (.seq a b) l ts = exSeq (code E hn cf fu b l) (code E hn cf fu a l ts) := fun _ _ => rfl
   rw [e] at h ⊢
   cases h1 : code E hn cf fu a l ts with
   | none => rw [h1] at h; cases h
   | some y =>
     rw [iha _ _ _ h1]; rw [h1] at h
     obtain ⟨ex, ts'⟩ := y
     cases ex with
     | normal => exact ihb _ _ _ h
     | exit _ => exact h
     | ret => exact h
 | cond c a b iha ihb =>
   intro l ts x h
   have e : ∀ cf fu, code E hn cf fu (.cond c a b) l ts = codeCond cf c (code E hn cf fu a l) (code E hn cf fu b l) ts := fun _ _ => rfl
   rw [e] at h ⊢
   unfold codeCond at h ⊢
   cases h1 : (condP c fun b => Prog.ret (Out.bool b)).run cf ts 0 0 with
   | none => rw [h1] at h; cases h
   | some y =>
     rw [prog_mono hcf _ h1]; rw [h1] at h
     obtain ⟨ou, ts', R, W⟩ := y
     cases ou with
     | bool v => cases v; exact ihb _ _ _ h; exact iha _ _ _ h
     | _ => cases h
 | block id b ih =>
   intro l ts x h
   have e : ∀ cf fu, code E hn cf fu (.block id b) l ts = exBlock id (code E hn cf fu b id ts) := fun _ _ => rfl
   rw [e] at h ⊢
   cases h1 : code E hn cf fu b id ts with
   | none => rw [h1] at h; cases h
   | some y => rw [ih _ _ _ h1]; rw [h1] at h; exact h
 | loop b ih =>
   intro l ts x h
   have e : ∀ cf fu, code E hn cf fu (.loop b) l ts = loopN (tailed hn l (code E hn cf fu b l)) (loopHead hn l) fu ts := fun _ _ => rfl
   rw [e] at h ⊢
   exact loop_mono (tailed_mono (ih l)) hf h
 | scope b ih => intro l ts x h; exact ih l ts x h
 | skip => intro l ts x h; exact h
 | rangeFunc f ps asg b _ _ => intro l ts x h; exact h
 | exit id => intro l ts x h; exact h
 | label i => intro l ts x h; exact h
 | goto i => intro l ts x h; exact h
 | ret => intro l ts x h; exact h
 | refuse w => intro l ts x h; exact h
theorem body_mono {E : Env} {hn : Hint} {fu fu' : Nat} (hf : fu ≤ fu') {fn : Func} {as : List AD} {r : Res} (h : fnBody E hn cf fu fn as = some r) : fnBody E hn cf' fu' fn as = some r := by
 unfold fnBody at h ⊢
 cases hb : fn.body with
 | none => rw [hb] at h; cases h
 | some c =>
   rw [hb] at h
   dsimp only at h ⊢
   cases hq : Nat.beq as.length fn.params.size && as.all smallArg with
   | false => rw [hq] at h; cases h
   | true =>
     rw [hq, cond_true] at h
     rw [cond_true]
     cases h1 : code E { hn with nt := fn.ntmps, prot := protOf 0 as } cf fu c 0 (TS.of (initArgs 0 as)) with
     | none => rw [h1] at h; cases h
     | some y =>
       rw [code_mono hcf hf _ _ _ _ h1]; rw [h1] at h
       obtain ⟨ex, ts⟩ := y
       have fin : (match (endD E hn.rim fn as fun r => .ret (.res r)).run cf ts 0 0 with | some (.res r, _, _, _) => some r | _ => none) = some r →
           (match (endD E hn.rim fn as fun r => .ret (.res r)).run cf' ts 0 0 with | some (.res r, _, _, _) => some r | _ => none) = some r := by
         intro h
         cases h2 : (endD E hn.rim fn as fun r => .ret (.res r)).run cf ts 0 0 with
         | none => rw [h2] at h; cases h
         | some z => rw [prog_mono hcf _ h2]; rw [h2] at h; exact h
       cases ex with
       | exit id => cases h
       | normal => exact fin h
       | ret => exact fin h
end
theorem fnN_mono {E : Env} {H : FuncId → Hint} {lf lf' : Nat} (hl : lf ≤ lf') : ∀ {n n' : Nat}, n ≤ n' → ∀ (g : FuncId) (as : List AD) (r : Res), fnN E H lf n g as = some r → fnN E H lf' n' g as = some r
 | 0, _, _, _, _, _, h => by cases h
 | n + 1, 0, hn, _, _, _, _ => by omega
 | n + 1, n' + 1, hn, g, as, r, h => by
   have e : ∀ lf n, fnN E H lf (n + 1) g as = match lookF E.fns g with
     | some fn => fnBody E { H g with kp := keptOf E g } (fnN E H lf n) lf fn as
     | none => none := fun _ _ => rfl
   rw [e] at h ⊢
   cases h1 : lookF E.fns g with
   | none => rw [h1] at h; cases h
   | some fn =>
     rw [h1] at h
     exact body_mono (fun g as r => fnN_mono hl (by omega) g as r) hl h
theorem evt_of {E : Env} {H : FuncId → Hint} {lf n : Nat} {g : FuncId} {as : List AD} {r : Res} (h : fnN E H lf n g as = some r) : Evt E H g as r :=
 ⟨max lf n, fun lf' n' a b => fnN_mono (by omega) (by omega) g as r h⟩
end Go.Proofs.Ytbaihlhoedbpkaa.Tm
namespace Go.Proofs.Ytbaihlhoedbpkaa.Tm
open Go Go.RowKit
def owAll (w : World) : Nat → Ow := fun b => if b < w.heap.size then .st else .no
theorem owAll_st {w : World} {b : Nat} : owAll w b = .st ↔ b < w.heap.size := by
 unfold owAll; split <;> simp_all
def ArgIs (w : World) : AD → Value → Prop
 | .one t, v => RT w (fun b => b < w.heap.size) t v
 | .agg ts, v => ∃ us, v = .agg us.toArray ∧ RTs w (fun b => b < w.heap.size) ts us
 | .box _ _, _ => False
def ArgsAre (w : World) : List AD → List Value → Prop
 | [], [] => True
 | a :: as, v :: vs => ArgIs w a v ∧ ArgsAre w as vs
 | _, _ => False
theorem argsAre_get {w : World} : ∀ {as : List AD} {vs : List Value}, ArgsAre w as vs → vs.length = as.length ∧ ∀ (i : Nat) a v, as[i]? = some a → vs[i]? = some v → ArgIs w a v
 | [], [], _ => ⟨rfl, fun i a v h => by simp at h⟩
 | a :: as, v :: vs, h => by
   obtain ⟨e, g⟩ := argsAre_get h.2
   refine ⟨by simp [e], fun i b u hb hu => ?_⟩
   cases i with
   | zero => simp at hb hu; subst hb; subst hu; exact h.1
   | succ i => exact g i b u (by simpa using hb) (by simpa using hu)
 | [], _ :: _, h => h.elim
 | _ :: _, [], h => h.elim
theorem entry_of {P : Program} {w : World} {as : List AD} {vs : List Value} (h : ArgsAre w as vs) : Entry P as vs w (owAll w) := by
 obtain ⟨e, g⟩ := argsAre_get h
 refine ⟨e, fun b hb => ?_, fun b i => ?_, fun i a v ha hv => ?_⟩
 · unfold owAll at hb; split at hb
   · assumption
   · exact absurd rfl hb
 · unfold owAll; split <;> exact fun h => by cases h
 · have hx : (fun b => owAll w b = .st) = fun b => b < w.heap.size := funext fun b => propext owAll_st
   have := g i a v ha hv
   cases a with
   | one t => show RT w _ t v; rw [hx]; exact this
   | agg ts => obtain ⟨us, e1, e2⟩ := this; exact ⟨us, e1, by rw [hx]; exact e2⟩
   | box _ _ => exact this.elim
theorem law_calls {P : Program} {E : Env} {H : FuncId → Hint} (hE : EnvOk P E) {g : FuncId} {as : List AD} {b : Bool} (he : Evt E H g as ⟨[.one (.im (.lit (.bool b)))], []⟩) {vs : List Value} {w : World} (ha : ArgsAre w as vs) :
   Calls P g vs.toArray w fun e w' => e = .returned (.bool b) ∧ Below w.heap.size w w' := by
 obtain ⟨N, hN⟩ := he
 have h1 := hN N N (Nat.le_refl _) (Nat.le_refl _)
 refine ((fnN_meets hE H N N g as _ h1).2 vs w (owAll w) (entry_of ha)).mono fun e w' hh => ?_
 obtain ⟨v, ow', rfl, hl⟩ := hh
 obtain ⟨us, hu, hv, hr⟩ := hl.vals
 have e1 : us.length = 1 := hu
 match us, e1 with
 | [u], _ =>
   have h2 : RCOk P w' ow' (.pd 0) (.im (.lit (.bool b))) u := hr 0 _ u rfl rfl
   have h3 : u = .bool b := by
     have h4 : RT w' (fun k => ow' k = .st) (.lit (.bool b)) u := h2
     cases h4; rfl
   have h5 : v = u := hv
   refine ⟨by rw [h5, h3], hl.keep.os, hl.keep.tape, hl.keep.output, hl.keep.size, fun k hk => hl.keep.block k hk ?_⟩
   rintro ⟨q, hq⟩
   unfold owAll at hq
   split at hq <;> cases hq
end Go.Proofs.Ytbaihlhoedbpkaa.Tm
namespace Go.Proofs.Ytbaihlhoedbpkaa.Tm
open Go Go.RowKit
section
variable {P : Program} {w : World}
def Rd (P : Program) (w : World) (t : TypeId) {α : Type} (en : α → List T) (W : α → Prop) : Prop :=
 ∀ (H : Type) (enc : TypeId × Value → H) (fuel : Nat) (cs : List Value) (x : DataW H × List MemPlace), DataW.trod enc P w 0 (fun _ => true) true fuel t cs = some x →
   (x.1.weights P t).all (· ≤ reachBytes) = true → ∃ y, W y ∧ RTs w (fun b => b < w.heap.size) (en y) cs
theorem rts_one {S : Nat → Prop} {t : T} {v : Value} (h : RT w S t v) : RTs w S [t] [v] :=
 ⟨rfl, fun j t' u a b => by
   cases j with
   | zero => cases a; cases b; exact h
   | succ j => cases a⟩
theorem rts_nil {S : Nat → Prop} : RTs w S [] [] := ⟨rfl, fun j t u a => by cases a⟩
theorem rts_app {S : Nat → Prop} {a b : List T} {u v : List Value} (h : RTs w S a u) (g : RTs w S b v) : RTs w S (a ++ b) (u ++ v) := by
 refine ⟨by simp [h.1, g.1], fun j t x ht hx => ?_⟩
 rcases Nat.lt_or_ge j a.length with q | q
 · rw [List.getElem?_append_left q] at ht
   rw [List.getElem?_append_left (by rw [h.1]; exact q)] at hx
   exact h.2 j t x ht hx
 · rw [List.getElem?_append_right q] at ht
   rw [List.getElem?_append_right (by rw [h.1]; exact q), h.1] at hx
   exact g.2 _ t x ht hx
theorem rd_int {t : TypeId} {k : IntKind} (hu : P.underlying t = some (.int k)) : Rd P w t (eInt k) (fun n => (Lit.int k n).wf = true) := by
 intro H enc fuel cs x h _
 obtain ⟨n, rfl, _, hw⟩ := DataW.trod_int hu h
 exact ⟨n, hw, rts_one (.lit rfl)⟩
theorem rd_bool {t : TypeId} (hu : P.underlying t = some .bool) : Rd P w t eBool (fun _ => True) := by
 intro H enc fuel cs x h _
 obtain ⟨b, rfl, _⟩ := DataW.trod_bool hu h
 exact ⟨b, trivial, rts_one (.lit rfl)⟩
theorem rd_string {t : TypeId} (hu : P.underlying t = some .string) : Rd P w t eStr (fun s => s.size ≤ reachBytes) := by
 intro H enc fuel cs x h hz
 obtain ⟨s, rfl, rfl, _⟩ := DataW.trod_string hu h
 refine ⟨s, ?_, rts_one (.lit rfl)⟩
 have e : (DataW.weights P t (.lit (.string s.data.toList) : DataW H)) = [s.data.toList.length] := by simp [DataW.weights]
 simp only [e, List.all_cons, List.all_nil, Bool.and_true, decide_eq_true_eq, Array.length_toList] at hz
 exact hz
theorem addr_add_add (a : Addr) (m n : Nat) : (a.add m).add n = a.add (m + n) := by
 unfold Addr.add
 by_cases h1 : m = 0
 · subst h1; simp
 · by_cases h2 : n = 0
   · subst h2; simp [h1]
   · rw [if_neg h1, if_neg h2, if_neg (by omega), Nat.add_assoc]
theorem cells_get {a : Addr} {n : Nat} {us : List Value} (h : w.cells? 0 a n = some us) : us.length = n ∧ ∀ (j : Nat) u, us[j]? = some u → w.cell? (a.add j) = some u := by
 unfold World.cells? at h
 rw [if_pos (Nat.zero_le _)] at h
 have hl : us.length = n := by simpa using mapM_some_length h
 refine ⟨hl, fun j u hj => ?_⟩
 have hlt : j < n := by rw [← hl]; exact (List.getElem?_eq_some_iff.1 hj).1
 have := mapM_some_get h j j (by simp [hlt])
 rw [this, hj]
theorem rd_slice {t e : TypeId} {α : Type} {en : α → List T} {W : α → Prop} {z bb : Nat} (hu : P.underlying t = some (.slice e)) (hz : P.cellsOf e = z) (hbb : P.bytesOf e = bb) (hl : ∀ x, (en x).length = z) (z0 : 0 < z) (he : Rd P w e en W) :
   Rd P w t (eSl en) (fun l => l.length * bb ≤ reachBytes ∧ ∀ y ∈ l, W y) := by
 intro H enc fuel cs x h hw
 subst hbb
 rcases DataW.trod_slice hu h with ⟨rfl, rfl⟩ | ⟨a, len', cap, elems, rest, n, rfl, rfl, rfl, _, hc, _, hel, hem, _, _⟩
 · exact ⟨[], ⟨by simp, fun y hy => (nomatch hy)⟩, rts_one .nil⟩
 · have ew : (DataW.weights P t (.slice (elems.map (·.1)) (rest.map (·.1)) : DataW H)) = ((elems.map (·.1)).length + (rest.map (·.1)).length) * P.bytesOf e :: (DataW.weightsAll P e (elems.map (·.1)) ++ DataW.weightsAll P e (rest.map (·.1))) := by
     simp [DataW.weights, hu]
   simp only [ew, List.all_cons, List.all_append, Bool.and_eq_true, decide_eq_true_eq, List.length_map] at hw
   obtain ⟨w1, w2, _⟩ := hw
   have wAll : ∀ (l : List (DataW H)), (DataW.weightsAll P e l).all (· ≤ reachBytes) = true → ∀ d ∈ l, (d.weights P e).all (· ≤ reachBytes) = true := by
     intro l
     induction l with
     | nil => intro _ d hd; cases hd
     | cons y l ih =>
       intro hq d hd
       have eq1 : DataW.weightsAll P e (y :: l) = y.weights P e ++ DataW.weightsAll P e l := by simp [DataW.weightsAll]
       rw [eq1, List.all_append, Bool.and_eq_true] at hq
       rcases List.mem_cons.1 hd with r | r
       · subst r; exact hq.1
       · exact ih hq.2 d r
   have each : ∀ i, i < len' → ∃ (y : α) (us : List Value), W y ∧ w.cells? 0 (a.add (i * z)) z = some us ∧ RTs w (fun b => b < w.heap.size) (en y) us := by
     intro i hi
     have h1 := hem i hi
     rw [hz] at h1
     rw [List.getElem?_eq_getElem (by omega : i < elems.length)] at h1
     obtain ⟨us, hus, htr⟩ := Option.bind_eq_some_iff.1 h1
     obtain ⟨y, hy, hr⟩ := he H enc n us elems[i] htr (wAll _ w2 _ (List.mem_map.2 ⟨elems[i], List.getElem_mem _, rfl⟩))
     exact ⟨y, us, hy, hus, hr⟩
   have all : ∀ m, m ≤ len' → ∃ (l : List α) (vs : List Value), l.length = m ∧ (∀ y ∈ l, W y) ∧ RTs w (fun b => b < w.heap.size) (flat en l) vs ∧ vs.length = m * z ∧ ∀ (j : Nat) u, vs[j]? = some u → w.cell? (a.add j) = some u := by
     intro m
     induction m with
     | zero => intro _; exact ⟨[], [], rfl, fun y hy => (nomatch hy), rts_nil, by simp, fun j u hu => (nomatch hu)⟩
     | succ m ih =>
       intro hm
       obtain ⟨l, vs, h1, h2, h3, h4, h5⟩ := ih (by omega)
       obtain ⟨y, us, hy, hus, hr⟩ := each m (by omega)
       obtain ⟨g1, g2⟩ := cells_get hus
       refine ⟨l ++ [y], vs ++ us, by simp [h1], fun q hq => ?_, ?_, by simp [h4, g1, Nat.succ_mul], fun j u hj => ?_⟩
       · rcases List.mem_append.1 hq with r | r
         · exact h2 q r
         · rw [List.mem_singleton.1 r]; exact hy
       · have : flat en (l ++ [y]) = flat en l ++ en y := by simp [flat]
         rw [this]; exact rts_app h3 hr
       · rcases Nat.lt_or_ge j vs.length with q | q
         · rw [List.getElem?_append_left q] at hj; exact h5 j u hj
         · rw [List.getElem?_append_right q] at hj
           have := g2 _ u hj
           rw [← this]
           have e0 : m * z + (j - vs.length) = j := by omega
           have e1 : Addr.add (Addr.add a (m * z)) (j - vs.length) = Addr.add a j := by
             rw [addr_add_add, e0]
           rw [← e1]
   obtain ⟨l, vs, h1, h2, h3, h4, h5⟩ := all len' (Nat.le_refl _)
   refine ⟨l, ⟨?_, h2⟩, ?_⟩
   · refine Nat.le_trans (Nat.mul_le_mul_right _ ?_) w1
     omega
   · cases l with
     | nil =>
       have : len' = 0 := h1.symm
       subst this
       exact rts_one .nil
     | cons y l =>
       have hv : 0 < vs.length := by
         rw [h4, ← h1]; exact Nat.mul_pos (by simp) z0
       have hb : a.block < w.heap.size := by
         have := h5 0 vs[0] (List.getElem?_eq_getElem hv)
         unfold World.cell? at this
         cases hh : w.heap[(a.add 0).block]? with
         | none => simp [hh] at this
         | some o => exact (Array.getElem?_eq_some_iff.1 hh).1
       have e1 : len (y :: l) = len' := h1
       show RTs w _ [.sl (len (y :: l)) (flat en (y :: l))] _
       rw [e1]
       exact rts_one (.sl hb hc h3.1 h5 h3.2)
def RdFs (P : Program) (w : World) (fts : List (TypeId × Nat × Nat)) {β : Type} (en : β → List T) (W : β → Prop) : Prop :=
 ∀ (H : Type) (enc : TypeId × Value → H) (n : Nat) (cs : List Value) (xs : List (DataW H × List MemPlace)), xs.length = fts.length →
   (∀ (i : Nat) (f : TypeId × Nat × Nat), fts[i]? = some f → DataW.trod enc P w 0 (fun _ => true) true n f.1 ((cs.drop f.2.1).take f.2.2) = xs[i]?) →
   (DataW.weightsEach P (fts.map (·.1)) (xs.map (·.1))).all (· ≤ reachBytes) = true →
   ∃ y, W y ∧ RTs w (fun b => b < w.heap.size) (en y) (fts.flatMap fun f => (cs.drop f.2.1).take f.2.2)
theorem rdFs_nil : RdFs P w [] (fun _ : Unit => []) (fun _ => True) := by
 intro H enc n cs xs _ _ _
 exact ⟨(), trivial, rts_nil⟩
theorem rdFs_cons {t : TypeId} {o z : Nat} {fts : List (TypeId × Nat × Nat)} {α β : Type} {en : α → List T} {W : α → Prop} {en' : β → List T} {W' : β → Prop} (h : Rd P w t en W) (h' : RdFs P w fts en' W') :
   RdFs P w ((t, o, z) :: fts) (fun p : α × β => en p.1 ++ en' p.2) (fun p => W p.1 ∧ W' p.2) := by
 intro H enc n cs xs hl hx hw
 cases xs with
 | nil => cases hl
 | cons x xs =>
   have e : (DataW.weightsEach P (((t, o, z) :: fts).map (·.1)) ((x :: xs).map (·.1))) = x.1.weights P t ++ DataW.weightsEach P (fts.map (·.1)) (xs.map (·.1)) := by simp [DataW.weightsEach]
   rw [e, List.all_append, Bool.and_eq_true] at hw
   obtain ⟨y, hy, r⟩ := h H enc n _ x (hx 0 _ rfl) hw.1
   obtain ⟨y', hy', r'⟩ := h' H enc n cs xs (by simpa using hl) (fun i f hf => hx (i + 1) f (by simpa using hf)) hw.2
   refine ⟨(y, y'), ⟨hy, hy'⟩, ?_⟩
   rw [List.flatMap_cons]
   exact rts_app r r'
def contig : Nat → List (TypeId × Nat × Nat) → Option Nat
 | o, [] => some o
 | o, (_, p, z) :: r => bif Nat.beq p o then contig (o + z) r else none
theorem contig_flat {cs : List Value} : ∀ {fts : List (TypeId × Nat × Nat)} {o m : Nat}, contig o fts = some m → o ≤ m ∧ (fts.flatMap fun f => (cs.drop f.2.1).take f.2.2) = (cs.drop o).take (m - o)
 | [], o, m, h => by
   have : o = m := by simpa [contig] using h
   subst this; simp
 | (t, p, z) :: r, o, m, h => by
   rw [contig] at h
   cases hb : Nat.beq p o with
   | false => rw [hb] at h; cases h
   | true =>
     rw [hb, cond_true] at h
     have hp : p = o := Nat.eq_of_beq_eq_true hb
     subst hp
     obtain ⟨h1, h2⟩ := contig_flat (cs := cs) h
     refine ⟨by omega, ?_⟩
     rw [List.flatMap_cons, h2]
     show (cs.drop p).take z ++ _ = _
     have : cs.drop (p + z) = (cs.drop p).drop z := by rw [List.drop_drop]
     rw [this, show m - p = z + (m - (p + z)) by omega, List.take_add]
theorem rd_struct {t : TypeId} {fs : Array Field} {fts : List (TypeId × Nat × Nat)} {β : Type} {en : β → List T} {W : β → Prop} {m : Nat} (hu : P.underlying t = some (.struct fs))
   (hf : fs.toList.map (fun f => (f.type, f.offset, P.cellsOf f.type)) = fts) (hc : contig 0 fts = some m) (hm : P.cellsOf t = m) (h : RdFs P w fts en W) : Rd P w t en W := by
 intro H enc fuel cs x hx hw
 obtain ⟨xs, n, rfl, rfl, hl, hn, hg⟩ := DataW.trod_struct hu hx
 have ew : (DataW.weights P t (.agg (xs.map (·.1)) : DataW H)) = DataW.weightsEach P (fs.toList.map (·.type)) (xs.map (·.1)) := by simp [DataW.weights, hu]
 rw [ew] at hw
 have e1 : fts.map (·.1) = fs.toList.map (·.type) := by rw [← hf, List.map_map]; rfl
 have hlen : fts.length = fs.size := by rw [← hf]; simp
 obtain ⟨y, hy, r⟩ := h H enc n cs xs (by omega) (fun i f hi => by
   rw [← hf, List.getElem?_map] at hi
   cases hq : fs.toList[i]? with
   | none => rw [hq] at hi; cases hi
   | some g =>
     rw [hq] at hi
     cases hi
     exact hg i g (by rw [← Array.getElem?_toList]; exact hq)) (by rw [e1]; exact hw)
 refine ⟨y, hy, ?_⟩
 rw [(contig_flat (cs := cs) hc).2, List.drop_zero, Nat.sub_zero, List.take_of_length_le (by rw [hl, hm]; exact Nat.le_refl _)] at r
 exact r
theorem rd_map {t : TypeId} {α β : Type} {en : α → List T} {W : α → Prop} {en' : β → List T} {W' : β → Prop} (f : α → β) (he : ∀ x, en' (f x) = en x) (hw : ∀ x, W x → W' (f x)) (h : Rd P w t en W) : Rd P w t en' W' := by
 intro H enc fuel cs x hx hz
 obtain ⟨y, hy, r⟩ := h H enc fuel cs x hx hz
 exact ⟨f y, hw y hy, by rw [he]; exact r⟩
theorem cells_of {k : Nat} {y : Ty} (h : TyOk P k y) : P.cellsOf k = y.size := by
 obtain ⟨i, z, h1, h2, h3, h4, h5⟩ := h.info
 simp [Program.cellsOf, h1, h2]
theorem weight_at {H : Type} {ts : List TypeId} {ds : List (DataW H)} (h : (DataW.weightsEach P ts ds).all (· ≤ reachBytes) = true) {j : Nat} {t : TypeId} {d : DataW H} (ht : ts[j]? = some t) (hd : ds[j]? = some d) : (d.weights P t).all (· ≤ reachBytes) = true :=
 List.all_eq_true.2 fun n hn => List.all_eq_true.1 h n (DataW.weights_mem_each ht hd n hn)
section
variable {H : Type} {enc : TypeId × Value → H} {r : Reach} {base : Nat} {t : TypeId} {v : Value} {d : DataW H} {ps : List MemPlace} {α : Type} {en : α → List T} {W : α → Prop}
theorem arg_cells (hd : DataW.Trod enc P w 0 (fun _ => true) true t v d ps) (hz : (d.weights P t).all (· ≤ reachBytes) = true) (h : Rd P w t en W) : ∃ y, W y ∧ RTs w (fun b => b < w.heap.size) (en y) v.cells.toList := by
 obtain ⟨fuel, hf⟩ := hd
 exact h H enc fuel v.cells.toList (d, ps) hf hz
theorem arg_agg {fs : Array Field} (hu : P.underlying t = some (.struct fs)) (hval : Value.okWide P w r base t v) (hd : DataW.Trod enc P w 0 (fun _ => true) true t v d ps) (hz : (d.weights P t).all (· ≤ reachBytes) = true) (h : Rd P w t en W) :
   ∃ y, W y ∧ ArgIs w (.agg (en y)) v := by
 obtain ⟨y, hy, hr⟩ := arg_cells hd hz h
 simp only [Value.okWide, hu] at hval
 obtain ⟨cs, rfl, _⟩ := hval
 exact ⟨y, hy, cs.toList, rfl, hr⟩
theorem arg_one {g : α → T} (hg : ∀ y, en y = [g y]) (hv : v.cells = #[v]) (hd : DataW.Trod enc P w 0 (fun _ => true) true t v d ps) (hz : (d.weights P t).all (· ≤ reachBytes) = true) (h : Rd P w t en W) :
   ∃ y, W y ∧ ArgIs w (.one (g y)) v := by
 obtain ⟨y, hy, hr⟩ := arg_cells hd hz h
 rw [hg, hv] at hr
 exact ⟨y, hy, hr.2 0 _ _ rfl rfl⟩
theorem one_slice {e : TypeId} (hu : P.underlying t = some (.slice e)) (hval : Value.okWide P w r base t v) : v.cells = #[v] := by
 obtain ⟨a, l, c, rfl⟩ := Go.WideShapes.okWide_slice hu hval; rfl
theorem one_string (hu : P.underlying t = some .string) (hval : Value.okWide P w r base t v) : v.cells = #[v] := by
 obtain ⟨s, rfl⟩ := Go.WideShapes.okWide_string hu hval; rfl
theorem one_int {k : IntKind} (hu : P.underlying t = some (.int k)) (hval : Value.okWide P w r base t v) : v.cells = #[v] := by
 obtain ⟨n, rfl⟩ := Go.WideShapes.okWide_int hu hval; rfl
theorem one_bool (hu : P.underlying t = some .bool) (hval : Value.okWide P w r base t v) : v.cells = #[v] := by
 obtain ⟨b, rfl⟩ := Go.WideShapes.okWide_bool hu hval; rfl
end
end
end Go.Proofs.Ytbaihlhoedbpkaa.Tm

/- The tree machine: more operations that leave memory as it is. Conditions: none. -/
import Derived.Test.YtnjanliihnadjaaK5
import Derived.Laws.BytesString
import Derived.Laws.Slices
namespace Go.Proofs.Ytnjanliihnadjaa.Tm
open Go

section
variable {P : Program} {G : Ctx} {s : St} {cf : FuncId → List AD → Option Res} {ts ts' : TS} {o : Out} {E : Env}

theorem unD_ok {L : Prop} {op : UnOp} {x : D} {vx : Value} (hx : DOk L s x vx) : Pure P s (unD op x) (Op.unary op vx) := by
  unfold unD
  split
  · have h1 := lit_inv hx; subst h1; exact Pure.intR rfl
  · have h1 := lit_inv hx; subst h1; exact Pure.intR rfl
  · have h1 := lit_inv hx; subst h1; exact Pure.lit rfl rfl
  · exact Pure.fail

/-- What a slice in hand reads as. -/
def Reads (s : St) (n : Nat) (cs : List T) (A : Option Addr) (cap : Nat) : Prop :=
  n = 0 ∧ cs = [] ∨ ∃ (ad : Addr) (vs : List Value), A = some ad ∧ n ≤ cap ∧ RTs s.w s.S cs vs ∧ ∀ (j : Nat) u, vs[j]? = some u → s.w.cell? (ad.add j) = some u

theorem RT.reads {n : Nat} {cs : List T} {v : Value} (h : RT s.w s.S (.sl n cs) v) : ∃ A cap, v = .slice A n cap ∧ Reads s n cs A cap := by
  cases h with
  | nil => exact ⟨_, _, rfl, .inl ⟨rfl, rfl⟩⟩
  | @sl n cs ad c vs h1 h2 h3 h4 h5 => exact ⟨_, _, rfl, .inr ⟨ad, vs, rfl, h2, ⟨h3, h5⟩, h4⟩⟩

theorem OwnOk.reads {e : TypeId} {n : Nat} {cs : List T} {v : Value} (h : OwnOk P s.w s.S e (.sl n cs) v) : ∃ A cap, v = .slice A n cap ∧ Reads s n cs A cap := by
  obtain ⟨n', cs', he, h⟩ := h
  cases he
  rcases h with ⟨rfl, rfl, rfl⟩ | ⟨i, xs, hi, ho, hr⟩
  · exact ⟨_, _, rfl, .inl ⟨rfl, rfl⟩⟩
  · rcases ho.2 with ⟨rfl, rfl⟩ | ⟨g, cap, cur, rfl, _, hg, hn, hc, hcs, htk⟩
    · refine ⟨_, _, rfl, .inl ⟨rfl, ?_⟩⟩
      have h1 := ho.1; have h2 := hr.1
      exact List.eq_nil_of_length_eq_zero (by rw [← h2, h1]; simp)
    · exact ⟨_, _, rfl, .inr ⟨_, xs, rfl, hn, hr, fun j u hj => World.ownsRow.cells ho rfl j u hj⟩⟩

theorem peek_ok (h : Ok P G s) {τ : Nat} {c : CV} {v : Value} (hc : CVOk True s τ c v) {n : Nat} {cs : List T} (hp : peek c = .sl n cs) : ∃ A cap, v = .slice A n cap ∧ Reads s n cs A cap := by
  cases c with
  | im t => simp only [peek] at hp; subst hp; exact RT.reads hc
  | new e t => exact absurd trivial hc.1
  | nil => simp only [peek] at hp; cases hp; rw [show v = _ from hc]; exact ⟨_, _, rfl, .inl ⟨rfl, rfl⟩⟩
  | ref p m e t =>
    simp only [peek] at hp; subst hp
    obtain ⟨_, _, h3, h4⟩ := hc
    obtain ⟨h5, h6⟩ := h3 trivial
    obtain ⟨h7, h8, _⟩ := h4 h5
    have hcell := h.cell p (by intro h; cases h)
    simp only [CellOk, h6, h7, h8] at hcell
    exact hcell.1.reads

theorem lenD_ok (h : Ok P G s) (hE : EnvOk P E) {t ty : TypeId} {x : D} {vx : Value} (hx : DOk True s x vx) (ts0 : Array TypeId) (h0 : ts0[0]? = some t) : Pure P s (lenD E t x) (Builtin.len_ ts0 ty #[vx]) := by
  intro cf kk o ts' hr
  obtain ⟨y, hy, _, hr1⟩ := tdesc_ok hE hr
  have hu := hy.run_under s.w
  dsimp only at hr1
  generalize hdd : y.d = dd at hr1 hu
  split at hr1
  · rename_i b
    have h1 := lit_inv hx; subst h1
    exact Pure.intR (by simp [Builtin.len_, h0, hu, goInt]) cf kk o ts' hr1
  · rename_i n el
    exact Pure.lit rfl (by simp [Builtin.len_, h0, hu, goInt]) cf kk o ts' hr1
  · rename_i el c
    cases hp : peek c with
    | lit v => rw [hp] at hr1; exact (Runs.fail hr1).elim
    | sl n cs =>
      rw [hp] at hr1
      obtain ⟨A, cap, rfl, _⟩ := peek_ok h hx hp
      exact Pure.intR (by simp [Builtin.len_, h0, hu, goInt]) cf kk o ts' hr1
  · exact (Runs.fail hr1).elim

theorem bytesOf_ok {S : Nat → Prop} {w : World} : ∀ {cs : List T} {l : List UInt8} {vs : List Value}, bytesOf cs = some l → RTs w S cs vs → ∃ ns : List Int, vs = ns.map (fun n => .int .u8 n) ∧ l = ns.map fun n => UInt8.ofNat n.toNat
  | [], l, vs, h, hr => by
    cases h
    exact ⟨[], List.eq_nil_of_length_eq_zero hr.1, rfl⟩
  | .lit (.int .u8 n) :: r, l, vs, h, hr => by
    simp only [bytesOf] at h
    cases hb : bytesOf r with
    | none => rw [hb] at h; cases h
    | some l' =>
      rw [hb] at h; cases h
      match vs, hr with
      | [], hr => exact absurd hr.1 (by simp)
      | v :: vr, hr =>
        obtain ⟨ns, h1, h2⟩ := bytesOf_ok (vs := vr) hb ⟨by simpa using hr.1, fun j t u ht hu => hr.2 (j + 1) t u (by simpa using ht) (by simpa using hu)⟩
        have h3 : RT w S (.lit (.int .u8 n)) v := hr.2 0 _ _ rfl rfl
        cases h3
        exact ⟨n :: ns, by rw [h1]; rfl, by rw [h2]; rfl⟩

def ODOk (s : St) : Option D → Option Value → Prop
  | none, none => True
  | some d, some v => DOk True s d v
  | _, _ => False

theorem opdo_ok (h : Ok P G s) {x : Option Operand} {kk : Option D → Prog} (hr : Runs cf (opdo x kk) s.ts o ts') : ∃ d, ODOk s d (x.map s.a.eval) ∧ Runs cf (kk d) s.ts o ts' := by
  cases x with
  | none => exact ⟨none, trivial, hr⟩
  | some x =>
    obtain ⟨d, hd, hr1⟩ := opd_ok h hr
    exact ⟨some d, hd, hr1⟩

theorem boundD_ok {d : Option D} {v : Option Value} (h : ODOk s d v) {dflt : Int} {kk : Int → Prog} (hr : Runs cf (boundD d dflt kk) ts o ts') :
    ∃ i, (v = none ∧ i = dflt ∨ ∃ k, v = some (.int k i)) ∧ Runs cf (kk i) ts o ts' := by
  cases d with
  | none => cases v with
    | none => exact ⟨dflt, .inl ⟨rfl, rfl⟩, hr⟩
    | some v => exact h.elim
  | some d => cases v with
    | none => exact h.elim
    | some v =>
      obtain ⟨rfl, hr1⟩ := litOf_ok (L := True) (s := s) h hr
      dsimp only at hr1
      cases v <;> dsimp only at hr1 <;> try exact (Runs.fail hr1).elim
      exact ⟨_, .inr ⟨_, rfl⟩, hr1⟩

theorem run_bounds (w : World) (b : Bool) (len cap : Nat) {lo hi : Option Value} {l h : Int} (h1 : lo = none ∧ l = 0 ∨ ∃ k, lo = some (.int k l)) (h2 : hi = none ∧ h = len ∨ ∃ k, hi = some (.int k h))
    (h3 : 0 ≤ l) (h4 : l ≤ h) (h5 : h ≤ cap) : (Instr.sliceBounds b len cap lo hi none).run P w = .ok (l.toNat, h.toNat, cap) w := by
  have hh : 0 ≤ h := Int.le_trans h3 h4
  have e4 : l ≤ ((h.toNat : Nat) : Int) := by omega
  rcases h1 with ⟨rfl, rfl⟩ | ⟨k, rfl⟩ <;> rcases h2 with ⟨rfl, rfl⟩ | ⟨k2, rfl⟩ <;>
    simp [Instr.sliceBounds, run_sliceBound, *]
  rw [run_sliceBound _ _ _ _ _ h3 e4]; simp


/-- Slicing: of a slice the cells between. -/
theorem sliceD_ok (h : Ok P G s) (hE : EnvOk P E) {t : TypeId} {x : D} {vx : Value} {lo hi mx : Option D} {vlo vhi vmx : Option Value} (hx : DOk True s x vx) (hlo : ODOk s lo vlo) (hhi : ODOk s hi vhi) (hmx : ODOk s mx vmx)
    {kk : D → Prog} (hr : Runs cf (sliceD E t x lo hi mx kk) s.ts o ts') :
    ∃ d v s', (Instr.sliceAt t vx vlo vhi vmx).run P s.w = .ok v s'.w ∧ Ok P G s' ∧ s'.a = s.a ∧ DOk False s' d v ∧ Runs cf (kk d) s'.ts o ts' := by
  obtain ⟨y, hy, _, hr1⟩ := tdesc_ok hE hr
  have hu := hy.run_under s.w
  dsimp only at hr1
  generalize hdd : y.d = dd at hr1 hu
  split at hr1
  · rename_i b
    have h1 := lit_inv hx; subst h1
    have hm : vmx = none := by cases vmx with | none => rfl | some v => exact hmx.elim
    subst hm
    obtain ⟨l, hl, hr2⟩ := boundD_ok hlo hr1
    obtain ⟨r, hrr, hr3⟩ := boundD_ok hhi hr2
    have hr4 := Runs.test hr3
    cases hb : sbnd l r b with
    | false => rw [hb] at hr4; exact (Runs.fail hr4).elim
    | true =>
      rw [hb] at hr4
      obtain ⟨b1, b2, b3⟩ : 0 ≤ l ∧ l ≤ r ∧ r ≤ (b.size : Int) := by simpa using hb
      refine ⟨_, .string (b.extract l.toNat r.toNat), s, ?_, h, rfl, lit_ok _ _ rfl, hr4⟩
      simp only [Instr.sliceAt, Sem.run_bind, hu, Result.andThen_ok, Instr.slice, Option.isSome_none, Bool.false_eq_true, if_false, run_bounds s.w false b.size b.size hl hrr b1 b2 b3, Sem.run_pure]
  · rename_i e c
    have hm : vmx = none := by cases vmx with | none => rfl | some v => exact hmx.elim
    subst hm
    obtain ⟨ye, hye, _, hr2⟩ := tsize_ok hE hr1
    obtain ⟨tt, s1, ok1, sm1, rt1, _, hr3⟩ := freeze_ok h (CVOk.weak hx) hr2
    cases tt with
    | lit v => exact (Runs.fail hr3).elim
    | sl n cs =>
      obtain ⟨l, hl, hr4⟩ := boundD_ok hlo hr3
      obtain ⟨r, hrr, hr5⟩ := boundD_ok hhi hr4
      have hr6 := Runs.test hr5
      cases hb : bnd l r n with
      | false => rw [hb] at hr6; exact (Runs.fail hr6).elim
      | true =>
        rw [hb] at hr6
        obtain ⟨b1, b2, b3⟩ : 0 ≤ l ∧ l ≤ r ∧ r ≤ (n : Int) := by simpa using hb
        have go : ∀ (A : Option Addr) (cap : Nat), vx = .slice A n cap → n ≤ cap →
            RT s1.w s1.S (.sl (r.toNat - l.toNat) ((cs.drop (l.toNat * ye.size)).take ((r.toNat - l.toNat) * ye.size))) (.slice (if cap = l.toNat then A else A.map (·.add (l.toNat * ye.size))) (r.toNat - l.toNat) (cap - l.toNat)) →
            ∃ d v s', (Instr.sliceAt t vx vlo vhi none).run P s.w = .ok v s'.w ∧ Ok P G s' ∧ s'.a = s.a ∧ DOk False s' d v ∧ Runs cf (kk d) s'.ts o ts' := fun A cap hv hc hrt => by
          refine ⟨.one (.im (.sl (r.toNat - l.toNat) ((cs.drop (l.toNat * ye.size)).take ((r.toNat - l.toNat) * ye.size)))), _, s1, ?_, ok1, sm1.a, hrt, Runs.sl hr6⟩
          subst hv
          simp only [Instr.sliceAt, Sem.run_bind, hu, Result.andThen_ok, Instr.slice, run_bounds s.w true n cap hl hrr b1 b2 (by omega), hye.run_size, Sem.run_pure, sm1.w]
        cases rt1 with
        | nil =>
          refine go _ _ rfl (Nat.zero_le _) ?_
          have e1 : r.toNat - l.toNat = 0 := by omega
          rw [e1]
          simp only [Nat.zero_mul, List.take_zero]
          exact .nil
        | @sl n cs ad c vs h1 h2 h3 h4 h5 =>
          refine go _ _ rfl h2 ?_
          by_cases hc : c = l.toNat
          · have e1 : r.toNat - l.toNat = 0 := by omega
            rw [e1, if_pos hc]
            simp only [Nat.zero_mul, List.take_zero]
            exact .nil
          · rw [if_neg hc]
            refine .sl (vs := (vs.drop (l.toNat * ye.size)).take ((r.toNat - l.toNat) * ye.size)) (by show s1.S (ad.add _).block; rw [add_block]; exact h1) (by omega) (by simp [h3]) (fun j u hj => ?_) (fun j tt u ht hu' => ?_)
            · rw [add_add]
              rw [List.getElem?_take] at hj
              split at hj
              · rw [List.getElem?_drop] at hj; exact h4 _ u hj
              · cases hj
            · rw [List.getElem?_take] at ht hu'
              split at ht
              · rename_i hlt
                rw [if_pos hlt] at hu'
                rw [List.getElem?_drop] at ht hu'; exact h5 _ tt u ht hu'
              · cases ht
  · exact (Runs.fail hr1).elim

theorem CVsOk.take {L : Prop} {τ : Nat} {cs : List CV} {vs : List Value} (h : CVsOk L s τ cs vs) (n : Nat) : CVsOk L s τ (cs.take n) (vs.take n) := by
  refine ⟨by simp [h.1], fun j c v hc hv => ?_⟩
  rw [List.getElem?_take] at hc hv
  split at hc
  · rename_i hlt; rw [if_pos hlt] at hv; exact h.2 j c v hc hv
  · cases hc

/-- No fresh one among them: the place is nothing. -/
theorem CVOk.move {τ τ' : Nat} {c : CV} {v : Value} (h : CVOk True s τ c v) : CVOk True s τ' c v := by
  cases c with
  | new e t => exact absurd trivial h.1
  | _ => exact h

theorem CVsOk.drop {τ : Nat} {cs : List CV} {vs : List Value} (h : CVsOk True s τ cs vs) (n : Nat) : CVsOk True s τ (cs.drop n) (vs.drop n) := by
  refine ⟨by simp [h.1], fun j c v hc hv => ?_⟩
  rw [List.getElem?_drop] at hc hv
  exact (h.2 _ c v hc hv).move

theorem part_ok (hE : EnvOk P E) {t : TypeId} {cs : List CV} {vs : List Value} {off : Nat} (h : CVsOk True s 0 cs vs) : Pure P s (partD E t cs off) (part t vs.toArray off) := by
  intro cf kk o ts' hr
  obtain ⟨y, hy, hl, hr1⟩ := tsize_ok hE hr
  obtain ⟨y', hy', hl', hr2⟩ := tagg_ok hE hr1
  rw [hl] at hl'; cases hl'
  have hag := hy.run_isAgg s.w
  cases ha : isAggD y.d with
  | true =>
    rw [ha] at hr2 hag
    refine ⟨.agg ((cs.drop off).take y.size), .agg ((vs.drop off).take y.size).toArray, ?_, ⟨_, rfl, ((h.drop off).take y.size).weak⟩, hr2⟩
    simp [part, hag, hy.run_size]
  | false =>
    rw [ha] at hr2 hag
    simp only [cond_false] at hr2
    cases hd : cs.drop off with
    | nil => rw [hd] at hr2; exact (Runs.fail hr2).elim
    | cons c r =>
      rw [hd] at hr2
      have hc : cs[off]? = some c := by
        have : (cs.drop off)[0]? = some c := by rw [hd]; rfl
        rwa [List.getElem?_drop] at this
      have hlt : off < vs.length := by rw [h.1]; exact (List.getElem?_eq_some_iff.1 hc).1
      refine ⟨.one c, vs[off], ?_, ((h.2 off c _ hc (List.getElem?_eq_getElem hlt)).move (τ' := 0)).weak, hr2⟩
      simp [part, hag, hlt]

theorem fieldOf_ok (hE : EnvOk P E) {t : TypeId} {f : Nat} {kk : Field → Prog} (hr : Runs cf (fieldOf E t f kk) ts o ts') :
    ∃ y fs fd, TyOk P t y ∧ y.d = .struct fs ∧ fs[f]? = some fd ∧ Runs cf (kk fd) ts o ts' := by
  obtain ⟨y, hy, _, hr1⟩ := tdesc_ok hE hr
  dsimp only at hr1
  cases hd : y.d <;> simp only [hd] at hr1 <;> try exact (Runs.fail hr1).elim
  rename_i fs
  cases hf : fs[f]? with
  | none => rw [hf] at hr1; exact (Runs.fail hr1).elim
  | some fd => rw [hf] at hr1; exact ⟨y, fs, fd, hy, hd, hf, hr1⟩

theorem fieldD_ok (hE : EnvOk P E) {t : TypeId} {x : D} {vx : Value} {f : Nat} (hx : DOk True s x vx) : Pure P s (fieldD E t x f) (Instr.field t vx f) := by
  intro cf kk o ts' hr
  obtain ⟨y, fs, fd, hy, hd, hf, hr1⟩ := fieldOf_ok hE hr
  dsimp only at hr1
  split at hr1
  · rename_i cs
    obtain ⟨vs, rfl, hcs⟩ := hx
    obtain ⟨d, v, h1, h2, h3⟩ := part_ok hE (t := fd.type) (off := fd.offset) hcs cf kk o ts' hr1
    refine ⟨d, v, ?_, h2, h3⟩
    have hu := hy.run_under s.w
    rw [hd] at hu
    simp [Instr.field, hu, hf, asAgg, h1]
  · exact (Runs.fail hr1).elim

theorem indexD_ok (hE : EnvOk P E) {t : TypeId} {x i : D} {vx vi : Value} (hx : DOk True s x vx) (hi : DOk True s i vi) : Pure P s (indexD E t x i) (Instr.index t vx vi) := by
  intro cf kk o ts' hr
  obtain ⟨rfl, hr0⟩ := litOf_ok hi hr
  dsimp only at hr0
  split at hr0
  · rename_i k i
    obtain ⟨y, hy, _, hr1⟩ := tdesc_ok hE hr0
    have hu := hy.run_under s.w
    dsimp only at hr1
    generalize hdd : y.d = dd at hr1 hu
    split at hr1
    · rename_i b
      have h1 := lit_inv hx; subst h1
      have hr2 := Runs.test hr1
      cases hb : sinr i b with
      | false => rw [hb] at hr2; exact (Runs.fail hr2).elim
      | true =>
        rw [hb] at hr2
        obtain ⟨b1, b2⟩ : 0 ≤ i ∧ i.toNat < b.size := by simpa using hb
        have hg : b[i.toNat]? = some (b.get! i.toNat) := by
          rw [ByteArray.getElem?_lt' _ _ b2]
          congr 1
          simp [ByteArray.get!, ByteArray.getElem_eq_getElem_data, getElem!_pos, b2]
        exact Pure.intR (by simp [Instr.index, asIntOf, hu, b1, hg]) cf kk o ts' hr2
    · rename_i n e cs
      obtain ⟨vs, rfl, hcs⟩ := hx
      have hr2 := Runs.test hr1
      cases hb : decide (0 ≤ i ∧ i < (n : Int)) with
      | false => rw [hb] at hr2; exact (Runs.fail hr2).elim
      | true =>
        rw [hb] at hr2
        have b1 : 0 ≤ i ∧ i < (n : Int) := by simpa using hb
        obtain ⟨ye, hye, _, hr3⟩ := tsize_ok hE hr2
        obtain ⟨d, v, h1, h2, h3⟩ := part_ok hE (t := e) (off := i.toNat * ye.size) hcs cf kk o ts' hr3
        refine ⟨d, v, ?_, h2, h3⟩
        simp only [Instr.index, asIntOf, Sem.run_bind, Sem.run_pure, Result.andThen_ok, hu, if_pos b1, hye.run_size, h1]
    · exact (Runs.fail hr1).elim
  · exact (Runs.fail hr0).elim

theorem fieldAddrD_ok (hE : EnvOk P E) {t : TypeId} {x : D} {vx : Value} {f : Nat} (hx : DOk True s x vx) : Pure P s (fieldAddrD E t x f) (Instr.fieldAt t vx f) := by
  intro cf kk o ts' hr
  obtain ⟨y, fs, fd, hy, hd, hf, hr1⟩ := fieldOf_ok hE hr
  obtain ⟨yf, hyf, _, hr2⟩ := tsize_ok hE hr1
  have hu := hy.run_under s.w
  rw [hd] at hu
  dsimp only at hr2
  cases hz : Nat.beq yf.size 0 with
  | true => rw [hz] at hr2; exact (Runs.fail hr2).elim
  | false =>
    rw [hz] at hr2
    have hne : yf.size ≠ 0 := fun e => by rw [(beq_iff _ _).2 e] at hz; cases hz
    have run : ∀ a : Addr, vx = .pointer (some a) → (Instr.fieldAt t vx f).run P s.w = .ok (.pointer (some (a.add fd.offset))) s.w := fun a ha => by
      subst ha
      simp only [Instr.fieldAt, Sem.run_bind, hu, Result.andThen_ok, hf, Instr.sureAddr, Sem.run_pure, fieldPlace, hyf.run_size, if_neg hne, Sem.run_ite]
    have hadd : ∀ b off, (⟨b, off, none⟩ : Addr).add fd.offset = ⟨b, off + fd.offset, none⟩ := fun b off => by
      unfold Addr.add; split
      · rename_i h0; rw [h0]; rfl
      · rfl
    simp only [cond_false] at hr2
    split at hr2
    · rename_i j n off
      obtain ⟨h1, h2, h3⟩ := hx
      obtain ⟨h4, h5⟩ := h2 trivial
      obtain ⟨b, hb1, hb2⟩ := h3 h4 h5
      refine ⟨.ad j n (off + fd.offset), _, run _ hb2, ⟨h1, False.elim, fun _ _ => ⟨b, hb1, by rw [hadd]⟩⟩, hr2⟩
    · rename_i p n i
      obtain ⟨h1, h2, h3⟩ := hx
      obtain ⟨g, l, c, hb1, hb2⟩ := h3 (h2 trivial).1
      refine ⟨.el p n (i + fd.offset), _, run _ hb2, ⟨h1, False.elim, fun _ => ⟨g, l, c, hb1, by rw [hadd]⟩⟩, hr2⟩
    · rename_i i cs
      obtain ⟨ad, vs, a1, a2, a3, a4⟩ := hx
      exact ⟨.ai (i + fd.offset) cs, _, run _ a4, ⟨ad, vs, a1, a2, a3, by rw [add_add]⟩, hr2⟩
    · exact (Runs.fail hr2).elim
end
end Go.Proofs.Ytnjanliihnadjaa.Tm

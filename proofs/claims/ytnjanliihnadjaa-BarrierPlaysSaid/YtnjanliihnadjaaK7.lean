/- The tree machine: what is read from memory. Conditions: none. -/
import Derived.Test.YtnjanliihnadjaaK6
namespace Go.Proofs.Ytnjanliihnadjaa.Tm
open Go

section
variable {P : Program} {G : Ctx} {s : St} {cf : FuncId → List AD → Option Res} {ts ts' : TS} {o : Out} {E : Env}

theorem run_loadVar_agg {t : TypeId} {y : Ty} (hy : TyOk P t y) (ha : isAggD y.d = true) {a : Addr} {us : List Value} (hl : us.length = y.size) {w : World}
    (hc : ∀ (j : Nat) u, us[j]? = some u → w.cell? (a.add j) = some u) : (loadVar t a).run P w = .ok (.agg us.toArray) w := by
  simp only [loadVar, Sem.run_bind, hy.run_isAgg, ha, Result.andThen_ok, if_true, hy.run_size, ← hl, run_loadCells_list w a us hc, Sem.run_pure]
theorem run_loadVar_one {t : TypeId} {y : Ty} (hy : TyOk P t y) (ha : isAggD y.d = false) {a : Addr} {u : Value} {w : World}
    (hc : w.cell? a = some u) : (loadVar t a).run P w = .ok u w := by
  simp [loadVar, hy.run_isAgg, ha, hc]

theorem add_zero' (a : Addr) : a.add 0 = a := rfl

theorem ofCells_ok {L : Prop} {t : TypeId} {y : Ty} (hy : TyOk P t y) {a : Addr} {cs : List CV} {us : List Value} (hl : cs.length = y.size) (h : CVsOk L s 0 cs us)
    (hc : ∀ (j : Nat) u, us[j]? = some u → s.w.cell? (a.add j) = some u) {kk : D → Prog} (hr : Runs cf (ofCells (isAggD y.d) cs kk) ts o ts') :
    ∃ d v, (loadVar t a).run P s.w = .ok v s.w ∧ DOk L s d v ∧ Runs cf (kk d) ts o ts' := by
  cases ha : isAggD y.d with
  | true =>
    rw [ha] at hr
    exact ⟨.agg cs, _, run_loadVar_agg hy ha (h.1.trans hl) hc, ⟨us, rfl, h⟩, hr⟩
  | false =>
    rw [ha] at hr
    match cs, h, hr with
    | [x], h, hr =>
      match us, h with
      | [], h => exact absurd h.1 (by simp)
      | u :: ur, h => exact ⟨.one x, u, run_loadVar_one hy ha (hc 0 u rfl), h.2 0 x u rfl rfl, hr⟩
    | [], h, hr => exact (Runs.fail hr).elim
    | _ :: _ :: _, h, hr => exact (Runs.fail hr).elim

theorem ofList_eq (g : Bool) (xs : List T) (kk : D → Prog) : ofList g xs kk = ofCells g (xs.map CV.im) kk := by
  cases g
  · match xs with
    | [] => rfl
    | [x] => rfl
    | x :: y :: r => rfl
  · rfl

theorem RTs.cvs {L : Prop} {xs : List T} {us : List Value} (h : RTs s.w s.S xs us) : CVsOk L s 0 (xs.map CV.im) us := by
  refine ⟨by simp [h.1], fun j c v hc hv => ?_⟩
  rw [List.getElem?_map] at hc
  cases hx : xs[j]? with
  | none => rw [hx] at hc; cases hc
  | some x => rw [hx] at hc; cases hc; exact h.2 j x v hx hv

theorem RTs.seg {w : World} {S : Nat → Prop} {xs : List T} {us : List Value} (h : RTs w S xs us) (i n : Nat) : RTs w S ((xs.drop i).take n) ((us.drop i).take n) := by
  refine ⟨by simp [h.1], fun j t u ht hu => ?_⟩
  rw [List.getElem?_take] at ht hu
  split at ht
  · rename_i hlt; rw [if_pos hlt] at hu
    rw [List.getElem?_drop] at ht hu; exact h.2 _ t u ht hu
  · cases ht

theorem seg_cell {w : World} {us : List Value} {a : Addr} (h : ∀ (j : Nat) u, us[j]? = some u → w.cell? (a.add j) = some u) (i n : Nat) :
    ∀ (j : Nat) u, ((us.drop i).take n)[j]? = some u → w.cell? ((a.add i).add j) = some u := by
  intro j u hj
  rw [add_add]
  rw [List.getElem?_take] at hj
  split at hj
  · rw [List.getElem?_drop] at hj; exact h _ u hj
  · cases hj

/-- A box's cells, where they lie. -/
theorem box_cells (h : OkH P G none none s) {j : Nat} {e : TypeId} {m : Nat} (hk : (s.ts.get (key j 0)).k = .box e m) :
    m ≤ 62 ∧ ∃ b, s.cv (key j 0) = .pointer (some ⟨b, 0, none⟩) ∧ s.w.heap[b]? = some (.cells (cvals s.cv j 1 m).toArray e (0, 0)) ∧ s.ow b = .key (key j 0) := by
  have hmn := h.main j (by intro h; cases h)
  simp only [MainOk, hk] at hmn
  obtain ⟨h1, b, h2, _, h3, h4⟩ := hmn
  exact ⟨h1, b, h2, h3, h4⟩

theorem mk_add (b off j : Nat) : (⟨b, off, none⟩ : Addr).add j = ⟨b, off + j, none⟩ := by
  unfold Addr.add; split
  · rename_i h0; rw [h0]; rfl
  · rfl

theorem fits_iff {off n : Nat} {k : K} (h : fits off n k = true) : ∃ e m, k = .box e m ∧ off + n ≤ m := by
  unfold fits at h
  split at h
  · exact ⟨_, _, rfl, (ble_iff _ _).1 h⟩
  · cases h

theorem loadD_okT (h : Ok P G s) (hE : EnvOk P E) {t : TypeId} {a : D} {va : Value} (ha : DOk True s a va) {kk : D → Prog} (hr : Runs cf (loadD E t a kk) s.ts o ts') :
    ∃ d v, (Instr.loadAt t va).run P s.w = .ok v s.w ∧ DOk True s d v ∧ Runs cf (kk d) s.ts o ts' := by
  obtain ⟨y, hy, _, hr1⟩ := tinfo_ok hE hr
  have run : ∀ (ad : Addr) v, va = .pointer (some ad) → (loadVar t ad).run P s.w = .ok v s.w → (Instr.loadAt t va).run P s.w = .ok v s.w := fun ad v h1 h2 => by
    subst h1; simp only [Instr.loadAt, Instr.sureAddr, Sem.run_bind, Sem.run_pure, Result.andThen_ok, h2]
  cases a with
  | one c => exact (Runs.fail hr1).elim
  | agg cs => exact (Runs.fail hr1).elim
  | tup sh cs => exact (Runs.fail hr1).elim
  | ad j n off =>
    obtain ⟨a1, a2, a3⟩ := ha
    obtain ⟨a4, a5⟩ := a2 trivial
    obtain ⟨b, hb1, hb2⟩ := a3 a4 a5
    have hr2 := Runs.get hr1
    cases hf : fits off y.size (s.ts.get (key j 0)).k with
    | false => rw [hf] at hr2; exact (Runs.fail hr2).elim
    | true =>
      rw [hf] at hr2
      obtain ⟨e, m, hk, hm⟩ := fits_iff hf
      obtain ⟨h62, b', hb', hheap, _⟩ := box_cells h hk
      rw [hb1] at hb'; cases hb'
      obtain ⟨cs, hl, hcs, hr3⟩ := cells_ok h (τ := 0) hr2
      obtain ⟨d, v, h1, h2, h3⟩ := ofCells_ok (a := ⟨b, off, none⟩) hy hl hcs (fun i u hi => by
        have hlt : i < y.size := by
          have := (List.getElem?_eq_some_iff.1 hi).1
          rwa [cvals_length] at this
        rw [cvals_get _ _ _ _ _ hlt] at hi
        rw [mk_add]
        have hc := cvals_get s.cv j m 1 (off + i) (by omega)
        simp only [World.cell?, hheap, Option.isSome_none, Bool.false_eq_true, if_false, List.getElem?_toArray, hc]
        rw [← hi, show 1 + (off + i) = Nat.succ off + i by omega]) hr3
      exact ⟨d, v, run _ _ hb2 h1, h2, h3⟩
  | el p n i =>
    obtain ⟨a1, a2, a3⟩ := ha
    obtain ⟨a4, e, a5⟩ := a2 trivial
    obtain ⟨g, l, c, hg1, hg2⟩ := a3 a4
    have hr2 := Runs.get hr1
    cases hf : stillOwn (s.ts.get p) n with
    | false => rw [hf] at hr2; exact (Runs.fail hr2).elim
    | true =>
      rw [hf] at hr2
      have hcell := h.cell p (by intro h; cases h)
      simp only [CellOk, a5] at hcell
      simp only [cond_true] at hr2
      cases ht : (s.ts.get p).t with
      | lit v => rw [ht] at hr2; exact (Runs.fail hr2).elim
      | sl n' cs =>
        rw [ht] at hr2
        obtain ⟨hlen, hr3⟩ := Runs.sub hr2
        rw [ofList_eq] at hr3
        rw [ht, hg1] at hcell
        obtain ⟨A, cap, hA, hrd⟩ := hcell.1.reads
        cases hA
        rcases hrd with ⟨_, rfl⟩ | ⟨ad, vs, had, _, hrt, hcl⟩
        · have h0 : y.size = 0 := by rw [← hlen]; simp
          obtain ⟨d, v, h1, h2, h3⟩ := ofCells_ok (s := s) (a := ⟨g, i, none⟩) (us := []) hy (by rw [List.length_map, hlen]) (by simpa using CVsOk.nil True s 0) (fun i u hi => by simp at hi) hr3
          exact ⟨d, v, run _ _ hg2 h1, h2, h3⟩
        · cases had
          obtain ⟨d, v, h1, h2, h3⟩ := ofCells_ok (a := (⟨g, 0, none⟩ : Addr).add i) hy (by rw [List.length_map, hlen]) ((hrt.seg i y.size).cvs (L := True)) (seg_cell hcl i y.size) hr3
          rw [mk_add, Nat.zero_add] at h1
          exact ⟨d, v, run _ _ hg2 h1, h2, h3⟩
  | ai i cs =>
    obtain ⟨ad, vs, a1, a2, a3, a4⟩ := ha
    obtain ⟨hlen, hr3⟩ := Runs.sub hr1
    rw [ofList_eq] at hr3
    obtain ⟨d, v, h1, h2, h3⟩ := ofCells_ok (a := ad.add i) hy (by rw [List.length_map, hlen]) ((a2.seg i y.size).cvs (L := True)) (seg_cell a3 i y.size) hr3
    exact ⟨d, v, run _ _ a4 h1, h2, h3⟩

theorem loadD_ok (h : Ok P G s) (hE : EnvOk P E) {t : TypeId} {a : D} {va : Value} (ha : DOk True s a va) : Pure P s (loadD E t a) (Instr.loadAt t va) := by
  intro cf kk o ts' hr
  obtain ⟨d, v, h1, h2, h3⟩ := loadD_okT h hE ha hr
  exact ⟨d, v, h1, h2.weak, h3⟩

end
end Go.Proofs.Ytnjanliihnadjaa.Tm

/- The tree machine: variables that are assigned and made. Conditions: none. -/
import Derived.Test.YtnjanliihnadjaaK10
namespace Go.Proofs.Ytnjanliihnadjaa.Tm
open Go

section
variable {P : Program} {G : Ctx} {s : St} {cf : FuncId → List AD → Option Res} {ts ts' : TS} {o : Out} {E : Env}

theorem RTs.im {L : Prop} {xs : List T} {us : List Value} (h : RTs s.w s.S xs us) : CVsOk L s 0 (xs.map CV.im) us := h.cvs

theorem assignD_ok {h : Hint} {d ty : Nat} {D : D} {v : Value} {kk : Unit → Prog} (ok : Ok P G s) (hd : d < s.a.tmps.size) (hD : DOk True s D v)
    (hr : Runs cf (assignD E h d ty D kk) s.ts o ts') : ∃ s', Ok P G s' ∧ s'.a = s.a.put (some d) v ∧ s'.w = s.w ∧ Runs cf (kk ()) s'.ts o ts' := by
  have fin : ∀ (s1 : St) (D' : Tm.D), Ok P G s1 → Same s s1 → DOk False s1 D' v → Runs cf (setD E d ty D' kk) s1.ts o ts' → ∃ s', Ok P G s' ∧ s'.a = s.a.put (some d) v ∧ s'.w = s.w ∧ Runs cf (kk ()) s'.ts o ts' := by
    intro s1 D' ok1 sm1 h1 hr1
    obtain ⟨s2, ok2, _, a2, w2, hr2⟩ := setD_ok ok1 (by rw [sm1.a]; exact hd) h1 hr1
    exact ⟨s2, ok2, by rw [a2, sm1.a], w2.trans sm1.w, hr2⟩
  cases D with
  | one c =>
    simp only [assignD] at hr
    cases hb : hasBit h.fz d with
    | true =>
      rw [hb] at hr
      obtain ⟨t, s1, ok1, sm1, rt1, _, hr1⟩ := freeze_ok ok (CVOk.weak hD) hr
      exact fin s1 (.one (.im t)) ok1 sm1 rt1 hr1
    | false =>
      rw [hb] at hr
      obtain ⟨rc, s1, ok1, sm1, c1, _, hr1⟩ := take_ok ok (CVOk.weak hD) hr
      exact fin s1 (.one rc.cv) ok1 sm1 c1 hr1
  | agg cs =>
    obtain ⟨vs, rfl, hcs⟩ := hD
    simp only [assignD] at hr
    cases hb : hasBit h.fz d with
    | true =>
      rw [hb] at hr
      obtain ⟨t, s1, ok1, sm1, rt1, _, hr1⟩ := freezes_ok ok hcs.weak hr
      exact fin s1 (.agg (t.map CV.im)) ok1 sm1 ⟨vs, rfl, rt1.cvs⟩ hr1
    | false =>
      rw [hb] at hr
      obtain ⟨rc, s1, ok1, sm1, c1, _, hr1⟩ := takes_ok ok hcs.weak hr
      exact fin s1 (.agg (rc.map RC.cv)) ok1 sm1 ⟨vs, rfl, c1⟩ hr1
  | tup sh cs => exact fin s _ ok (Same.refl s) hD.weak hr
  | ad j n off => exact fin s _ ok (Same.refl s) hD.weak hr
  | el p n i => exact fin s _ ok (Same.refl s) hD.weak hr
  | ai i cs => exact fin s _ ok (Same.refl s) hD.weak hr

theorem keep_alloc (w : World) (x : Obj) (Y : Nat → Prop) : Keep Y w (w.alloc x) :=
  ⟨rfl, rfl, rfl, (by rw [show (w.alloc x).heap = w.heap.push x from rfl, Array.size_push]; omega), fun k hk _ => heap_alloc_old w x k hk⟩

/-- A new variable under slot d, its cells given. -/
theorem newBox_ok {d n : Nat} {t : TypeId} {rcs : List RC} {us : List Value} {tys : List (Option TypeId)} {kk : Unit → Prog} (ok : Ok P G s) (hd : d < s.a.tmps.size) (hp : hasBit G.prot d = false)
    (hc : CVsOk False s 0 (rcs.map RC.cv) us) (hn : us.length = n) (h62 : n ≤ 62) (hr : Runs cf (bump (key d 0) (.box t n) nob fun _ => putRCs d 1 tys rcs kk) s.ts o ts') :
    ∃ s', Ok P G s' ∧ s'.a = s.a.put (some d) (.pointer (some ⟨s.w.heap.size, 0, none⟩)) ∧ s'.w = s.w.alloc (.cells us.toArray t) ∧ Runs cf (kk ()) s'.ts o ts' := by
  have hkd : key d 0 / 64 = d := key_div (by omega)
  have hr1 := (Runs.get hr).put
  have ok1 := (ok.openM d).bump (key d 0) (.box t n) nob (.pointer (some ⟨s.w.heap.size, 0, none⟩)) (by rw [hkd]) (fun _ => by
    rw [CellOk, show (s.bump (key d 0) (.box t n) nob _).ts.get (key d 0) = ⟨.box t n, Nat.succ (s.ts.get (key d 0)).ver, nob⟩ from get_same _ _ _]; trivial) (fun _ _ => by rw [hkd]; exact hp)
  have hget : (s.bump (key d 0) (.box t n) nob (.pointer (some ⟨s.w.heap.size, 0, none⟩))).ts.get (key d 0) = ⟨.box t n, Nat.succ (s.ts.get (key d 0)).ver, nob⟩ := get_same _ _ _
  obtain ⟨ok2, ev2⟩ := ok1.reblock (b := s.w.heap.size) (keep_alloc s.w (.cells us.toArray t) _) (.inr (Nat.le_refl _)) (by rw [show (s.w.alloc (.cells us.toArray t)).heap = s.w.heap.push _ from rfl, Array.size_push]; omega) (by intro e; rw [hget]; intro hh; cases hh)
  have ok3 := ok2.put (.pointer (some ⟨s.w.heap.size, 0, none⟩))
  have ev1 := ev_bump (s := s) (key d 0) (.box t n) nob (.pointer (some ⟨s.w.heap.size, 0, none⟩))
  have hrl : rcs.length = n := by have := hc.1; rw [List.length_map] at this; omega
  rw [putRCs_looks] at hr1
  have hc3 := (hc.ev ev1 fun _ _ => rfl).ev ev2 fun _ _ => rfl
  obtain ⟨s4, ok4, ev4, e1, e2, e3, e4, e5, e6, hr2⟩ := looks_ok ok3 (Nat.le_refl 1) (by rw [List.length_map]; omega) (vs := us) (τ := 0) ⟨hc3.1, fun j c v h1 h2 => hc3.2 j c v h1 h2⟩ hr1
  refine ⟨s4, ok4.closeM ?_, e1, e2, hr2⟩
  have h0 := e3 (key d 0) fun q hq => by rw [key_eq, key_eq]; omega
  have hk4 : s4.ts.get (key d 0) = ⟨.box t n, Nat.succ (s.ts.get (key d 0)).ver, nob⟩ := h0.1.trans hget
  rw [MainOk, hk4]
  refine ⟨h62, s.w.heap.size, h0.2.trans (upd_same _ _ _), ?_, ?_, e6 _ _ (upd_same _ _ _)⟩
  · rw [e1]; simp [Act.put, St.reblock, St.bump, hd]
  · rw [e2]
    show (s.w.alloc _).heap[s.w.heap.size]? = _
    rw [heap_alloc_new, ← hn, cvals_eq e4]

theorem boxD_ok (hE : EnvOk P E) {h : Hint} {d : Nat} {t : TypeId} {cs : List CV} {us : List Value} {kk : Unit → Prog} (ok : Ok P G s) (hd : d < s.a.tmps.size) (hp : hasBit G.prot d = false)
    (hc : CVsOk True s 0 cs us) (hr : Runs cf (boxD E h d t cs kk) s.ts o ts') :
    ∃ y s', TyOk P t y ∧ us.length = y.size ∧ Ok P G s' ∧ s'.a = s.a.put (some d) (.pointer (some ⟨s.w.heap.size, 0, none⟩)) ∧ s'.w = s.w.alloc (.cells us.toArray t) ∧ Runs cf (kk ()) s'.ts o ts' := by
  obtain ⟨y, hy, _, hr1⟩ := tsize_ok hE hr
  cases hl : Nat.beq cs.length y.size && Nat.ble y.size 62 with
  | false => rw [hl] at hr1; exact (Runs.fail hr1).elim
  | true =>
    rw [hl] at hr1
    rw [Bool.and_eq_true, beq_iff, ble_iff] at hl
    have hul : us.length = y.size := hc.1.trans hl.1
    simp only [cond_true] at hr1
    have fin : ∀ (s1 : St) (rcs : List RC), Ok P G s1 → Same s s1 → CVsOk False s1 0 (rcs.map RC.cv) us → Runs cf (bump (key d 0) (.box t y.size) nob fun _ => putRCs d 1 (leaves E t) rcs kk) s1.ts o ts' →
        ∃ y s', TyOk P t y ∧ us.length = y.size ∧ Ok P G s' ∧ s'.a = s.a.put (some d) (.pointer (some ⟨s.w.heap.size, 0, none⟩)) ∧ s'.w = s.w.alloc (.cells us.toArray t) ∧ Runs cf (kk ()) s'.ts o ts' := by
      intro s1 rcs ok1 sm1 c1 hr2
      obtain ⟨s2, ok2, a2, w2, hr3⟩ := newBox_ok ok1 (by rw [sm1.a]; exact hd) hp c1 hul hl.2 hr2
      exact ⟨y, s2, hy, hul, ok2, by rw [a2, sm1.a, sm1.w], by rw [w2, sm1.w], hr3⟩
    cases hb : hasBit h.fz d with
    | true =>
      rw [hb] at hr1
      obtain ⟨tl, s1, ok1, sm1, rt1, _, hr2⟩ := freezes_ok ok hc.weak hr1
      refine fin s1 (tl.map RC.im) ok1 sm1 ?_ hr2
      have : (tl.map RC.im).map RC.cv = tl.map CV.im := by simp [List.map_map]; intro _ _; rfl
      rw [this]
      exact rt1.cvs
    | false =>
      rw [hb] at hr1
      obtain ⟨rcs, s1, ok1, sm1, c1, _, hr2⟩ := takes_ok ok hc.weak hr1
      exact fin s1 rcs ok1 sm1 c1 hr2
end
end Go.Proofs.Ytnjanliihnadjaa.Tm

/- The tree machine: what writes to memory, and what makes boxes. Conditions: none. -/
import Derived.Test.YtnjanliihnadjaaK9
namespace Go.Proofs.Ytnjanliihnadjaa.Tm
open Go

section
variable {P : Program} {G : Ctx} {s : St} {cf : FuncId → List AD → Option Res} {ts ts' : TS} {o : Out} {E : Env}

theorem cells_one {v : Value} (h : v.oneCell' = true) : v.cells = #[v] := by cases v <;> first | rfl | cases h

theorem cvs_ok (h : Ok P G s) {L : Prop} {x : D} {vx : Value} (hx : DOk L s x vx) {kk : List CV → Prog} (hr : Runs cf (cvs x kk) ts o ts') :
    ∃ cs us, CVsOk L s 0 cs us ∧ vx.cells = us.toArray ∧ (∀ u ∈ us, u.oneCell' = true) ∧ Runs cf (kk cs) ts o ts' := by
  have ones : ∀ {cs us}, CVsOk L s 0 cs us → ∀ u ∈ us, u.oneCell' = true := fun {cs us} hcs u hu => by
    obtain ⟨j, hj⟩ := List.getElem?_of_mem hu
    have hlt : j < cs.length := by rw [← hcs.1]; exact (List.getElem?_eq_some_iff.1 hj).1
    exact (hcs.2 j _ u (List.getElem?_eq_getElem hlt) hj).one h
  cases x with
  | one c =>
    have h1 : CVsOk L s 0 [c] [vx] := CVsOk.cons hx (CVsOk.nil _ _ _)
    exact ⟨[c], [vx], h1, cells_one (CVOk.one h hx), ones h1, hr⟩
  | agg cs =>
    obtain ⟨vs, rfl, hcs⟩ := hx
    exact ⟨cs, vs, hcs, rfl, ones hcs, hr⟩
  | _ => exact (Runs.fail hr).elim

theorem cvs_splice (cv : Nat → Value) (i off m : Nat) (us : List Value) (h : off + us.length ≤ m) (cv' : Nat → Value) (h1 : ∀ (j : Nat) u, us[j]? = some u → cv' (key i (1 + off + j)) = u)
    (h2 : ∀ x, 1 ≤ x → x ≤ m → (∀ j, j < us.length → x ≠ 1 + off + j) → cv' (key i x) = cv (key i x)) :
    cvals cv' i 1 m = (cvals cv i 1 m).take off ++ us ++ (cvals cv i 1 m).drop (off + us.length) := by
  apply List.ext_getElem?
  intro j
  by_cases hj : j < m
  · rw [cvals_get _ _ _ _ _ hj]
    rw [List.append_assoc, List.getElem?_append]
    have hl : ((cvals cv i 1 m).take off).length = off := by rw [List.length_take, cvals_length]; omega
    rw [hl]
    by_cases ha : j < off
    · rw [if_pos ha, List.getElem?_take, if_pos ha, cvals_get _ _ _ _ _ hj, h2 (1 + j) (by omega) (by omega) (fun q hq => by omega)]
    · rw [if_neg ha, List.getElem?_append]
      by_cases hb : j - off < us.length
      · rw [if_pos hb, List.getElem?_eq_getElem hb, ← h1 (j - off) us[j - off] (List.getElem?_eq_getElem hb), show 1 + off + (j - off) = 1 + j by omega]
      · rw [if_neg hb, List.getElem?_drop, show off + us.length + (j - off - us.length) = j by omega, cvals_get _ _ _ _ _ hj, h2 (1 + j) (by omega) (by omega) (fun q hq => by omega)]
  · rw [List.getElem?_eq_none (by rw [cvals_length]; omega), List.getElem?_eq_none]
    simp only [List.length_append, List.length_take, List.length_drop, cvals_length]; omega

theorem keep_setRow (w : World) (g : Nat) (cs : Array Value) : Keep (fun b => b = g) w (w.setRow g cs) :=
  ⟨rfl, rfl, rfl, by simp, fun k _ hk => setRow_other w g k cs hk⟩

def setL {α : Type} (xs : List α) (i : Nat) (us : List α) : List α := xs.take i ++ us ++ xs.drop (i + us.length)

theorem setL_length {α : Type} {xs us : List α} {i : Nat} (h : i + us.length ≤ xs.length) : (setL xs i us).length = xs.length := by
  simp [setL]; omega

theorem setL_get {α : Type} {xs us : List α} {i : Nat} (h : i + us.length ≤ xs.length) (j : Nat) :
    (setL xs i us)[j]? = if j < i then xs[j]? else if j < i + us.length then us[j - i]? else xs[j]? := by
  unfold setL
  rw [List.append_assoc, List.getElem?_append]
  have hl : (xs.take i).length = i := by rw [List.length_take]; omega
  rw [hl]
  by_cases ha : j < i
  · rw [if_pos ha, if_pos ha, List.getElem?_take, if_pos ha]
  · rw [if_neg ha, if_neg ha, List.getElem?_append]
    by_cases hb : j - i < us.length
    · rw [if_pos hb, if_pos (by omega)]
    · rw [if_neg hb, if_neg (by omega), List.getElem?_drop, show i + us.length + (j - i - us.length) = j by omega]

theorem RTs.set {w : World} {S : Nat → Prop} {cs ts : List T} {xs us : List Value} {i : Nat} (h : RTs w S cs xs) (hr : RTs w S ts us) (hi : i + ts.length ≤ cs.length) : RTs w S (setL cs i ts) (setL xs i us) := by
  have e1 := h.1; have e2 := hr.1
  refine ⟨by rw [setL_length hi, setL_length (by omega), e1], fun j t u ht hu => ?_⟩
  rw [setL_get hi] at ht
  rw [setL_get (by omega), e2] at hu
  split at ht
  · rename_i hj; rw [if_pos hj] at hu; exact h.2 j t u ht hu
  · rename_i hj
    rw [if_neg hj] at hu
    split at ht
    · rename_i hj2; rw [if_pos hj2] at hu; exact hr.2 _ t u ht hu
    · rename_i hj2; rw [if_neg hj2] at hu; exact h.2 j t u ht hu

/-- The row behind an own slice turns in part. -/
theorem OwnOk.set {S : Nat → Prop} {w : World} {e : TypeId} {n : Nat} {cs : List T} {g l c : Nat} (h : OwnOk P w S e (.sl n cs) (.slice (some ⟨g, 0, none⟩) l c)) {i : Nat} {ts : List T} {us : List Value}
    (hS : ¬ S g) (hi : i + ts.length ≤ cs.length) (hr : RTs w S ts us) (h1 : ∀ u ∈ us, u.oneCell' = true) :
    ∃ w', (storeCells ⟨g, i, none⟩ us).run P w = .ok () w' ∧ Keep (fun b => b = g) w w' ∧ OwnOk P w' S e (.sl n (setL cs i ts)) (.slice (some ⟨g, 0, none⟩) l c) := by
  obtain ⟨n', cs', he, ⟨h2, _⟩ | ⟨inf, xs, hinf, ho, hrt⟩⟩ := h
  · cases h2
  · cases he
    rcases ho.2 with ⟨h3, _⟩ | ⟨g', cap, cur, hv, _, hg, hn, hc, hcs, htk⟩
    · cases h3
    · cases hv
      have hxl : xs.length = cs.length := hrt.1
      have hcur : xs.length ≤ cur.size := by rw [← htk, List.length_take, Array.length_toList]; exact Nat.min_le_right _ _
      have hul : us.length = ts.length := hr.1
      have hst := run_storeCells_at P g i e us 0 cur w hg (by omega) h1
      have hfit : i + us.length ≤ cur.toList.length := (by omega : i + us.length ≤ cur.size)
      rw [Nat.add_zero] at hst
      have hkeep := keep_setRow w g (setL cur.toList i us).toArray
      have hw : ∀ b, S b → (w.setRow g (setL cur.toList i us).toArray).heap[b]? = w.heap[b]? := fun b hb => setRow_other _ _ _ _ fun e => hS (e ▸ hb)
      refine ⟨_, hst, hkeep, n, _, rfl, .inr ⟨inf, setL xs i us, hinf, ⟨?_, .inr ⟨g, c, _, rfl, Nat.zero_le _, setRow_heap w g cur _ e _ hg, hn, hc, ?_, ?_⟩⟩, ?_⟩⟩
      · rw [setL_length (by omega)]; exact ho.1
      · show (setL cur.toList i us).length = _
        rw [setL_length hfit]; exact hcs
      · apply List.ext_getElem?
        intro j
        rw [List.getElem?_take, setL_get (by omega)]
        have hxj : xs[j]? = if j < n * inf.size then cur.toList[j]? else none := by rw [← htk, List.getElem?_take]
        have hgl : (cur.toList.take i ++ us ++ cur.toList.drop (i + us.length)).toArray.toList[j]? = (setL cur.toList i us)[j]? := rfl
        rw [hgl, setL_get hfit, hxj]
        have hxs := ho.1
        by_cases hj : j < n * inf.size
        · simp only [hj, if_true]
        · simp only [hj, if_false]
          rw [if_neg (by omega), if_neg (by omega)]
      · exact (hrt.set hr hi).mono (fun _ h => h) hw

theorem storeD_ok (h : Ok P G s) (hE : EnvOk P E) {t : TypeId} {a x : D} {va vx : Value} (ha : DOk True s a va) (hx : DOk True s x vx) {kk : Unit → Prog} (hr : Runs cf (storeD E t a x kk) s.ts o ts') :
    ∃ s', (Instr.storeAt t va vx).run P s.w = .ok () s'.w ∧ Ok P G s' ∧ s'.a = s.a ∧ Runs cf (kk ()) s'.ts o ts' := by
  obtain ⟨y, hy, _, hr1⟩ := tsize_ok hE hr
  obtain ⟨cs, us, hcs, hcells, hone, hr2⟩ := cvs_ok h hx hr1
  cases hl : Nat.beq cs.length y.size with
  | false => rw [hl] at hr2; exact (Runs.fail hr2).elim
  | true =>
    rw [hl] at hr2
    have hl' := (beq_iff _ _).1 hl
    have hul : us.length = y.size := hcs.1.trans hl'
    have run : ∀ (ad : Addr) (w w' : World), va = .pointer (some ad) → (storeCells ad us).run P w = .ok () w' → (Instr.storeAt t va vx).run P w = .ok () w' := fun ad w w' h1 h2 => by
      subst h1
      have hne : ¬ us.length ≠ y.size := by simp [hul]
      simp only [Instr.storeAt, Instr.sureAddr, storeVar, Sem.run_bind, Sem.run_pure, Result.andThen_ok, hy.run_size, hcells, List.size_toArray, if_neg hne, h2]
    have hr3 : Runs cf (storeA E t y.size cs a kk) s.ts o ts' := hr2
    cases a with
    | ad j n off =>
      obtain ⟨a1, a2, a3⟩ := ha
      obtain ⟨a4, a5⟩ := a2 trivial
      obtain ⟨b, hb1, hb2⟩ := a3 a4 a5
      have hr4 := Runs.get hr3
      cases hf : fits off y.size (s.ts.get (key j 0)).k with
      | false => rw [hf] at hr4; exact (Runs.fail hr4).elim
      | true =>
        rw [hf] at hr4
        obtain ⟨e, m, hk, hm⟩ := fits_iff hf
        obtain ⟨rcs, s1, ok1, sm1, c1, _, hr5⟩ := takes_ok h hcs.weak hr4
        have hk1 : (s1.ts.get (key j 0)).k = .box e m := by rw [sm1.ent _ (by intro e'; rw [hk]; intro hh; cases hh)]; exact hk
        obtain ⟨h62, b', hb', hheap, how⟩ := box_cells ok1 hk1
        rw [sm1.cv, hb1] at hb'; cases hb'
        have htm : s1.a.tmps.getD j undef = .pointer (some ⟨b, 0, none⟩) := by
          have := ok1.main j (by intro h; cases h)
          simp only [MainOk, hk1] at this
          obtain ⟨_, b2, q1, q2, _⟩ := this
          rw [sm1.cv, hb1] at q1; cases q1; exact q2
        have hlc := cvals_length s1.cv j m 1
        have hst := run_storeCells_at P b off e us 0 (cvals s1.cv j 1 m).toArray s1.w hheap (by simp only [List.size_toArray, hlc]; omega) hone
        rw [Nat.add_zero] at hst
        have hrl : rcs.length = us.length := by have := c1.1; simpa using this.symm
        obtain ⟨ok2, ev2⟩ := (ok1.openM j).reblock (keep_setRow s1.w b (setL (cvals s1.cv j 1 m) off us).toArray) (.inl how) (by rw [setRow_size]; exact ok1.lt b (by rw [how]; intro hh; cases hh)) (by intro e'; rw [hk1]; intro hh; cases hh)
        rw [putRCs_looks] at hr5
        obtain ⟨s3, ok3, ev3, e1, e2, e3, e4, e5, e6, hr6⟩ := looks_ok ok2 (by omega) (by rw [List.length_map]; omega) (c1.ev ev2 fun _ _ => rfl) hr5
        refine ⟨s3, ?_, ok3.closeM ?_, e1.trans sm1.a, hr6⟩
        · rw [e2]
          refine run _ s.w _ hb2 ?_
          rw [← sm1.w]; exact hst
        · have hk3 : s3.ts.get (key j 0) = s1.ts.get (key j 0) := (e3 (key j 0) fun q hq => by rw [key_eq, key_eq]; omega).1
          have hcv0 : s3.cv (key j 0) = s1.cv (key j 0) := (e3 (key j 0) fun q hq => by rw [key_eq, key_eq]; omega).2
          rw [MainOk, hk3, hk1]
          refine ⟨h62, b, by rw [hcv0, sm1.cv, hb1], by rw [e1]; exact htm, ?_, e6 b _ (by show upd s1.ow b _ b = _; exact upd_same _ _ _)⟩
          rw [e2]
          show (s1.w.setRow b _).heap[b]? = _
          rw [setRow_heap s1.w b _ _ e _ hheap]
          congr 3
          have hsp := cvs_splice s1.cv j off m us (by omega) s3.cv (fun q u hq => by have := e4 q u hq; rwa [show Nat.succ off + q = 1 + off + q by omega] at this) (fun x hx1 hx2 hx3 => (e3 (key j x) fun q hq => by
            rw [List.length_map, hrl] at hq
            have := hx3 q hq
            rw [key_eq, key_eq]; omega).2)
          rw [hsp]
          rfl
    | el p n i =>
      obtain ⟨a1, a2, a3⟩ := ha
      obtain ⟨a4, e, a5⟩ := a2 trivial
      obtain ⟨g, l, c, hg1, hg2⟩ := a3 a4
      obtain ⟨tl, s1, ok1, sm1, rt1, _, hr4⟩ := freezes_ok h hcs.weak hr3
      have hr5 := Runs.get hr4
      cases hf : stillOwn (s1.ts.get p) n with
      | false => rw [hf] at hr5; exact (Runs.fail hr5).elim
      | true =>
        rw [hf] at hr5
        obtain ⟨⟨e', he'⟩, _⟩ := stillOwn_iff hf
        simp only [cond_true] at hr5
        have hcell := ok1.cell p (by intro h; cases h)
        simp only [CellOk, he'] at hcell
        cases ht : (s1.ts.get p).t with
        | lit v => rw [ht] at hr5; exact (Runs.fail hr5).elim
        | sl n' xs =>
          rw [ht] at hr5
          dsimp only at hr5
          replace hr5 := Runs.test hr5
          cases hb : lfits i y.size xs with
          | false => rw [hb] at hr5; exact (Runs.fail hr5).elim
          | true =>
            rw [hb] at hr5
            replace hr5 := Runs.sl hr5
            have hfit : i + y.size ≤ xs.length := (ble_iff _ _).1 hb
            have hr6 := Runs.put hr5
            have hcvp : s1.cv p = .slice (some ⟨g, 0, none⟩) l c := by rw [sm1.cv]; exact hg1
            rw [ht, hcvp] at hcell
            have hog := hcell.2 g rfl
            have htl : tl.length = y.size := by have := rt1.1; omega
            obtain ⟨w', st, kp, ow'⟩ := hcell.1.set (i := i) (ts := tl) (us := us) (fun hs => by rw [show s1.ow g = .st from hs] at hog; cases hog) (by omega) rt1 hone
            refine ⟨s1.rewrite p e' (.sl n' (setL xs i tl)) w', ?_, ok1.rewrite he' (by rw [hcvp]; exact ⟨kp.os, kp.tape, kp.output, kp.size, fun k hk hn => kp.block k hk fun e => hn (by rw [e]; rfl)⟩) (by rw [hcvp]; exact ow'), sm1.a, ?_⟩
            · exact run _ s.w _ hg2 (by rw [← sm1.w]; exact st)
            · have he2 : (⟨(s1.ts.get p).k, (s1.ts.get p).ver, .sl n' (lset xs i tl)⟩ : Ent) = ⟨.own e', (s1.ts.get p).ver, .sl n' (setL xs i tl)⟩ := by rw [he']; rfl
              rw [he2] at hr6
              exact hr6
    | _ => exact (Runs.fail hr3).elim
end
end Go.Proofs.Ytnjanliihnadjaa.Tm

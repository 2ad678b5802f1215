/- The tree machine: values that are built. Conditions: none. -/
import Derived.Test.YtnjanliihnadjaaK11
import Derived.Great.BuildSlice
import Derived.Laws.OwnMore
namespace Go.Proofs.Ytnjanliihnadjaa.Tm
open Go

section
variable {P : Program} {G : Ctx} {s : St} {cf : FuncId → List AD → Option Res} {ts ts' : TS} {o : Out} {E : Env}

theorem foldl_set (off : Nat) : ∀ (us : List Value) (k : Nat) (cs : Array Value), off + k + us.length ≤ cs.size →
    ((us.zipIdx k).foldl (fun (cs : Array Value) (x : Value × Nat) => cs.setIfInBounds (off + x.2) x.1) cs).toList = setL cs.toList (off + k) us
  | [], k, cs, _ => by simp [setL]
  | u :: us, k, cs, h => by
    simp only [List.length_cons] at h
    simp only [List.zipIdx_cons, List.foldl_cons]
    rw [foldl_set off us (k + 1) _ (by simp; omega)]
    have := list_seg_step cs.toList (off + k) u us (by simp; omega)
    simp only [setL, Array.toList_setIfInBounds, List.length_cons]
    rw [show off + (k + 1) = off + k + 1 by omega]
    exact this

theorem fold_cells (off : Nat) (v : Value) (cs : Array Value) (us : List Value) (hv : v.cells = us.toArray) (h : off + us.length ≤ cs.size) :
    (v.cells.zipIdx.foldl (fun cs (c, j) => cs.setIfInBounds (off + j) c) cs).toList = setL cs.toList off us := by
  rw [hv, ← Array.foldl_toList]
  have := foldl_set off us 0 cs (by omega)
  simpa using this

theorem CVsOk.setL {cs xs : List CV} {vs us : List Value} {i : Nat} (h : CVsOk True s 0 cs vs) (hr : CVsOk True s 0 xs us) (hi : i + xs.length ≤ cs.length) : CVsOk True s 0 (setL cs i xs) (setL vs i us) := by
  have e1 := h.1; have e2 := hr.1
  refine ⟨by rw [setL_length hi, setL_length (by omega), e1], fun j t u ht hu => ?_⟩
  rw [setL_get hi] at ht
  rw [setL_get (by omega), e2] at hu
  split at ht
  · rename_i hj; rw [if_pos hj] at hu; exact h.2 j t u ht hu
  · rename_i hj
    rw [if_neg hj] at hu
    split at ht
    · rename_i hj2; rw [if_pos hj2] at hu; exact (hr.2 _ t u ht hu).move
    · rename_i hj2; rw [if_neg hj2] at hu; exact h.2 j t u ht hu

theorem opds_ok (h : Ok P G s) : ∀ {ps : List (Nat × Operand)} {kk : List (Nat × D) → Prog}, Runs cf (opds ps kk) s.ts o ts' →
    ∃ ds, ds.map (·.1) = ps.map (·.1) ∧ (∀ (j : Nat) d p, ds[j]? = some d → ps[j]? = some p → DOk True s d.2 (s.a.eval p.2)) ∧ Runs cf (kk ds) s.ts o ts'
  | [], kk, hr => ⟨[], rfl, fun j d p h => by simp at h, hr⟩
  | (i, x) :: r, kk, hr => by
    obtain ⟨d, hd, hr1⟩ := opd_ok h hr
    obtain ⟨ds, h1, h2, hr2⟩ := opds_ok h hr1
    refine ⟨(i, d) :: ds, by simp [h1], fun j d' p hd' hp => ?_, hr2⟩
    match j, hd', hp with
    | 0, hd', hp => simp at hd' hp; subst hd'; subst hp; exact hd
    | j + 1, hd', hp => exact h2 j d' p (by simpa using hd') (by simpa using hp)

/-- The filling of a built value, one part behind the other. -/
theorem fillD_ok (h : Ok P G s) {place : Nat → C (Nat × Nat)} {pm : Nat → Option (Nat × Nat)}
    (hpl : ∀ (i : Nat) (kk : Nat × Nat → Prog), Runs cf (place i kk) s.ts o ts' → ∃ q, pm i = some q ∧ Runs cf (kk q) s.ts o ts') :
    ∀ {ds : List (Nat × D)} {ps : List (Nat × Operand)} {cs : List CV} {arr : Array Value} {kk : List CV → Prog}, ds.map (·.1) = ps.map (·.1) →
      (∀ (j : Nat) d p, ds[j]? = some d → ps[j]? = some p → DOk True s d.2 (s.a.eval p.2)) → CVsOk True s 0 cs arr.toList → Runs cf (fillD E place cs ds kk) s.ts o ts' →
      ∃ cs' arr', Instr.fill pm arr (ps.map fun (i, x) => (i, s.a.eval x)) = some arr' ∧ CVsOk True s 0 cs' arr'.toList ∧ Runs cf (kk cs') s.ts o ts'
  | [], [], cs, arr, kk, _, _, hc, hr => ⟨cs, arr, rfl, hc, hr⟩
  | [], _ :: _, _, _, _, h1, _, _, _ => by simp at h1
  | _ :: _, [], _, _, _, h1, _, _, _ => by simp at h1
  | (i, d) :: ds, (i', x) :: ps, cs, arr, kk, h1, h2, hc, hr => by
    simp only [List.map_cons, List.cons.injEq] at h1
    obtain ⟨rfl, h1⟩ := h1
    obtain ⟨⟨off, n⟩, hq, hr1⟩ := hpl i _ hr
    have hd := h2 0 (i, d) (i, x) rfl rfl
    obtain ⟨xs, us, hx, hcells, _, hr2⟩ := cvs_ok h hd hr1
    dsimp only at hr2
    cases hb : Nat.beq xs.length n && Nat.ble (off + n) cs.length with
    | false => rw [hb] at hr2; exact (Runs.fail hr2).elim
    | true =>
      rw [hb] at hr2
      rw [Bool.and_eq_true, beq_iff, ble_iff] at hb
      have hul : us.length = n := hx.1.trans hb.1
      have hcl : arr.size = cs.length := hc.1
      have hset : cs.take off ++ xs ++ cs.drop (off + n) = setL cs off xs := by rw [← hb.1]; rfl
      simp only [cond_true, hset] at hr2
      have hfold := fold_cells off (s.a.eval x) arr us hcells (by omega)
      have hc' := hc.setL hx (i := off) (by omega)
      obtain ⟨cs', arr', h3, h4, hr3⟩ := fillD_ok h hpl (ds := ds) (ps := ps) (cs := setL cs off xs)
        (arr := (s.a.eval x).cells.zipIdx.foldl (fun cs (c, j) => cs.setIfInBounds (off + j) c) arr) h1
        (fun j d' p hd' hp => h2 (j + 1) d' p (by simpa using hd') (by simpa using hp)) (by rw [hfold]; exact hc') hr2
      refine ⟨cs', arr', ?_, h4, hr3⟩
      simp only [List.map_cons, Instr.fill, hq]
      have hne : ¬ ((s.a.eval x).cells.size ≠ n ∨ off + (s.a.eval x).cells.size > arr.size) := by rw [hcells]; simp; omega
      simp only [Bool.or_eq_true, decide_eq_true_eq]
      rw [if_neg hne]
      exact h3

theorem mapM_get {α β : Type} (f : α → Option β) : ∀ {l : List α} {r : List β}, l.mapM f = some r → ∀ (i : Nat) a, l[i]? = some a → ∃ b, f a = some b ∧ r[i]? = some b
  | [], r, _, i, a, hi => by simp at hi
  | x :: l, r, h, i, a, hi => by
    rw [List.mapM_cons] at h
    cases hx : f x with
    | none => simp [hx] at h
    | some b =>
      cases hl : l.mapM f with
      | none => simp [hx, hl] at h
      | some rest =>
        simp [hx, hl] at h
        subst h
        cases i with
        | zero => simp at hi; subst hi; exact ⟨b, hx, rfl⟩
        | succ i => simpa using mapM_get f hl i a (by simpa using hi)

theorem zero_cvs (z : List Value) (hz : z.all isOne = true) : CVsOk True s 0 (z.map zeroCV) z := zeroCVs_ok _ _ _ (List.all_eq_true.1 hz)

theorem buildD_ok (h : Ok P G s) (hE : EnvOk P E) {t : TypeId} {parts : Array (Nat × Operand)} : Pure P s (buildD E t parts.toList) (Instr.build t (parts.map fun (i, x) => (i, s.a.eval x))) := by
  intro cf kk o ts' hr
  obtain ⟨yz, hyz, hlz, hr0⟩ := zeroOf_ok hE hr
  obtain ⟨ds, hd1, hd2, hr1⟩ := opds_ok h hr0
  obtain ⟨y, hy, hl, hr2⟩ := tdesc_ok hE hr1
  rw [hlz] at hl; cases hl
  obtain ⟨it, z, hi1, hi2, hi3, hi4, hi5⟩ := hy.info
  have hzc : CVsOk True s 0 (yz.zero.map zeroCV) z.cells.toList := by rw [hi5]; exact zero_cvs _ hy.one
  have hmap : (parts.map fun (i, x) => (i, s.a.eval x)).toList = parts.toList.map fun (i, x) => (i, s.a.eval x) := by rw [Array.toList_map]
  dsimp only at hr2
  generalize hdd : yz.d = dd at hr2
  split at hr2
  · rename_i fs
    cases hpl : fs.toList.mapM (fun f => (P.info? f.type).map fun i => (f.offset, i.size)) with
    | none => have := hy.places fs hdd; rw [hpl] at this; cases this
    | some places =>
      obtain ⟨cs', arr', hf, hc, hr3⟩ := fillD_ok (E := E) (ts' := ts') (cf := cf) (o := o) h (pm := fun i => places.toArray[i]?) (fun i kk hr => by
        cases hfi : fs[i]? with
        | none => rw [hfi] at hr; exact (Runs.fail hr).elim
        | some f =>
          rw [hfi] at hr
          obtain ⟨yf, hyf, _, hr'⟩ := tsize_ok hE hr
          obtain ⟨b, hb1, hb2⟩ := mapM_get _ hpl i f (by simpa using hfi)
          obtain ⟨jf, zf, hj1, hj2, _⟩ := hyf.info
          rw [hj1] at hb1
          simp at hb1
          exact ⟨_, by simpa using hb2, by rw [← hb1, hj2]; exact hr'⟩) hd1 hd2 hzc hr2
      refine ⟨.agg cs', .agg arr', run_build s.w t _ arr' ?_, ⟨arr'.toList, by simp, hc.weak⟩, hr3⟩
      rw [hmap]
      simp only [Program.built, hi1, hy.under, hdd, hi4, hpl]
      exact hf
  · rename_i n e
    obtain ⟨ye, hye, _, hr3⟩ := tsize_ok hE hr2
    obtain ⟨ie, ze, he1, he2, he3, he4, he5⟩ := hye.info
    obtain ⟨cs', arr', hf, hc, hr4⟩ := fillD_ok (E := E) (ts' := ts') (cf := cf) (o := o) h (pm := fun i => some (i * ie.size, ie.size)) (fun i kk hr => ⟨_, rfl, by rw [he2]; exact hr⟩) hd1 hd2 hzc hr3
    refine ⟨.agg cs', .agg arr', run_build s.w t _ arr' ?_, ⟨arr'.toList, by simp, hc.weak⟩, hr4⟩
    rw [hmap]
    simp only [Program.built, hi1, hy.under, hdd, hi4, he1]
    exact hf
  · exact (Runs.fail hr2).elim
end
end Go.Proofs.Ytnjanliihnadjaa.Tm

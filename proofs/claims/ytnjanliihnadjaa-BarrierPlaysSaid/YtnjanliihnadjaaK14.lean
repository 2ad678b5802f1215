/- The tree machine: append and copy. Conditions: none. -/
import Derived.Test.YtnjanliihnadjaaK13
import Derived.Maps.AppendAt
namespace Go.Proofs.Ytnjanliihnadjaa.Tm
open Go

section
variable {P : Program} {G : Ctx} {s : St} {cf : FuncId → List AD → Option Res} {ts ts' : TS} {o : Out} {E : Env}

theorem run_append_none (w : World) (base : Nat) (t ty e : TypeId) (i : TypeInfo) (size c : Nat) (ht : P.underlying t = some (.slice e)) (hi : P.info? e = some i)
    (v : Value) (n : Nat) (xs : List Value) (hown : w.ownsRow base e size v n xs) :
    (Builtin.append_ #[t, t] ty #[v, .slice none 0 c]).run P w = .ok v w := by
  rcases hown.2 with ⟨rfl, rfl⟩ | ⟨g, cap, cur, rfl, _, _, hnc, _⟩
  · simp [Builtin.append_, run_underlying ht, sizeOf, typeInfo, hi, Builtin.lenOf, Builtin.firstCells]
  · simp [Builtin.append_, run_underlying ht, sizeOf, typeInfo, hi, Builtin.lenOf, Builtin.firstCells, hnc, storeCells]

theorem OwnOk.row {w : World} {S : Nat → Prop} {e : TypeId} {n : Nat} {cs : List T} {v : Value} {i : TypeInfo} (hi : P.info? e = some i) (h : OwnOk P w S e (.sl n cs) v) :
    ∃ xs, w.ownsRow 0 e i.size v n xs ∧ RTs w S cs xs := by
  obtain ⟨n', cs', he, ⟨rfl, rfl, rfl⟩ | ⟨i', xs, hi', ho, hr⟩⟩ := h
  · cases he; exact ⟨[], World.ownsRow_nil w 0 e i.size, rfl, fun j t u h => by simp at h⟩
  · cases he
    rw [hi] at hi'; cases hi'
    exact ⟨xs, ho, hr⟩

theorem RTs.append {w : World} {S : Nat → Prop} {a b : List T} {x y : List Value} (h : RTs w S a x) (g : RTs w S b y) : RTs w S (a ++ b) (x ++ y) := by
  refine ⟨by simp [h.1, g.1], fun j t u ht hu => ?_⟩
  rw [List.getElem?_append] at ht hu
  rw [h.1] at hu
  split at ht
  · rename_i hj; rw [if_pos hj] at hu; exact h.2 j t u ht hu
  · rename_i hj; rw [if_neg hj] at hu; exact g.2 _ t u ht hu

theorem RTs.ones {w : World} {S : Nat → Prop} {a : List T} {x : List Value} (h : RTs w S a x) : ∀ u ∈ x, u.oneCell' = true := fun u hu => by
  obtain ⟨j, hj⟩ := List.getElem?_of_mem hu
  have hlt : j < a.length := by rw [← h.1]; exact (List.getElem?_eq_some_iff.1 hj).1
  exact (h.2 j _ u (List.getElem?_eq_getElem hlt) hj).one

/-- The end of an append: the row is in hand. -/
theorem appendFin_ok (hm : Ok P G s) {t e ty : TypeId} {y : Ty} {i : Ty} (hy : TyOk P t y) (hd : y.d = .slice e) (hi : TyOk P e i) {n m : Nat} {cs xs : List T} {v vx : Value} (hz : 1 ≤ i.size) (hxl : xs.length = m * i.size)
    (hv : OwnOk P s.w s.S e (.sl n cs) v) (hpd : ∀ b, v.ownBlock = some b → s.ow b = .pd 0) {A : Option Addr} {cap : Nat} (hvx : vx = .slice A m cap) (hrd : Reads s m xs A cap) {kk : D → Prog}
    (hr : Runs cf (appendFin e i.bytes n m cs xs kk) s.ts o ts') :
    ∃ d v' s', (Builtin.append_ #[t, t] ty #[v, vx]).run P s.w = .ok v' s'.w ∧ Ok P G s' ∧ s'.a = s.a ∧ DOk False s' d v' ∧ Runs cf (kk d) s'.ts o ts' := by
  have hr1 := Runs.test hr
  obtain ⟨it, z, hi1, hi2, hi3, hi4, hi5⟩ := hi.info
  cases hb : apok n m i.bytes with
  | false => rw [hb] at hr1; exact (Runs.fail hr1).elim
  | true =>
    rw [hb] at hr1
    obtain ⟨b1, b2⟩ : n + m ≤ 140737488355328 ∧ (n + m) * i.bytes ≤ 140737488355328 := by simpa using hb
    simp only [cond_true] at hr1
    obtain ⟨vals, hrow, hrt⟩ := hv.row hi1
    have hzs : z.cells.size = i.size := by have := congrArg List.length hi5; simpa [hi.size] using this
    -- what was appended, and how
    have go : ∀ (v' : Value) (w' : World) (news : List Value), (Builtin.append_ #[t, t] ty #[v, vx]).run P s.w = .ok v' w' → w'.ownsRow 0 e it.size v' (n + m) (vals ++ news) → s.w.grownBy w' v.ownBlock →
        (v'.ownBlock = v.ownBlock ∨ v'.ownBlock = some s.w.heap.size) → RTs s.w s.S xs news →
        ∃ d v' s', (Builtin.append_ #[t, t] ty #[v, vx]).run P s.w = .ok v' s'.w ∧ Ok P G s' ∧ s'.a = s.a ∧ DOk False s' d v' ∧ Runs cf (kk d) s'.ts o ts' := by
      intro v' w' news hrun hown hgr hat hnr
      have hkp : Keep (fun b => v.ownBlock = some b) s.w w' := ⟨hgr.os, hgr.tape, hgr.output, hgr.size, fun k hk hn => hgr.block k hk fun e => hn e.symm⟩
      have hSw : ∀ b, s.S b → w'.heap[b]? = s.w.heap[b]? := fun b hb => hkp.block b (hm.lt b (by rw [show s.ow b = .st from hb]; intro hh; cases hh)) fun hy => by
        have := hpd b hy; rw [show s.ow b = .st from hb] at this; cases this
      have hoo : OwnOk P w' s.S e (.sl (n + m) (cs ++ xs)) v' := ⟨_, _, rfl, .inr ⟨it, _, hi1, hown, (hrt.append hnr).mono (fun _ h => h) hSw⟩⟩
      obtain ⟨ok1, ev1⟩ := hm.fresh 0 hkp hpd ⟨e, .sl (n + m) (cs ++ xs), v'⟩ hoo (fun b hb => by
        rcases hat with h1 | h1
        · exact .inl (hpd b (h1 ▸ hb))
        · refine .inr ⟨?_, (hown.lt b hb).2⟩
          rw [show v'.ownBlock = some b from hb] at h1; cases h1; exact Nat.le_refl _)
      exact ⟨.one (.new e (.sl (n + m) (cs ++ xs))), v', _, hrun, ok1, rfl, ⟨id, upd_same s.pd 0 _⟩, Runs.sl hr1⟩
    subst hvx
    have some_case : ∀ (ad : Addr) (news : List Value), A = some ad → RTs s.w s.S xs news → (∀ (j : Nat) u, news[j]? = some u → s.w.cell? (ad.add j) = some u) →
        ∃ d v' s', (Builtin.append_ #[t, t] ty #[v, .slice A m cap]).run P s.w = .ok v' s'.w ∧ Ok P G s' ∧ s'.a = s.a ∧ DOk False s' d v' ∧ Runs cf (kk d) s'.ts o ts' := by
      intro ad news hA hnr hcl
      subst hA
      obtain ⟨v', w', h1, h2, h3, _, h5⟩ := run_append_own_at s.w 0 t ty e it z it.size it.bytes (by rw [hy.under, hd]) hi1 hi4 rfl rfl (by rw [hzs, hi2]) (by omega) v n vals hrow ad m cap news
        (by rw [hnr.1, hxl, hi2]) hcl hnr.ones (by simp only [maxLen]; omega) (by rw [hi3]; exact b2) (Nat.zero_le _)
      exact go v' w' news h1 h2 h3 h5 hnr
    rcases hrd with ⟨rfl, rfl⟩ | ⟨ad, news, hA, _, hnr, hcl⟩
    · cases A with
      | none => exact go v s.w [] (run_append_none s.w 0 t ty e it it.size cap (by rw [hy.under, hd]) hi1 v n vals hrow) (by simpa using hrow) ⟨rfl, rfl, rfl, Nat.le_refl _, fun _ _ _ => rfl⟩ (.inl rfl) ⟨rfl, fun j t u h => by simp at h⟩
      | some ad => exact some_case ad [] rfl ⟨rfl, fun j t u h => by simp at h⟩ (fun j u h => by simp at h)
    · exact some_case ad news hA hnr hcl

theorem Reads.ev {s s' : St} {n : Nat} {cs : List T} {A : Option Addr} {cap : Nat} (h : Reads s n cs A cap) (hS : ∀ b, s.S b → s'.S b) (hw : s'.w = s.w) : Reads s' n cs A cap := by
  rcases h with h | ⟨ad, vs, h1, h2, h3, h4⟩
  · exact .inl h
  · exact .inr ⟨ad, vs, h1, h2, h3.mono hS (fun _ _ => by rw [hw]), by rw [hw]; exact h4⟩

theorem appendD_ok (h : Ok P G s) (hE : EnvOk P E) {t ty : TypeId} {b x : D} {vb vx : Value} (hb : DOk True s b vb) (hx : DOk True s x vx) {kk : D → Prog} (hr : Runs cf (appendD E t b x kk) s.ts o ts') :
    ∃ d v s', (Builtin.append_ #[t, t] ty #[vb, vx]).run P s.w = .ok v s'.w ∧ Ok P G s' ∧ s'.a = s.a ∧ DOk False s' d v ∧ Runs cf (kk d) s'.ts o ts' := by
  obtain ⟨y, e, hy, hd, hr1⟩ := tslice_ok hE hr
  obtain ⟨i, hi, _, hr2⟩ := tinfo_ok hE hr1
  cases x with
  | one cx =>
    dsimp only at hr2
    cases hp : peek cx with
    | lit v => rw [hp] at hr2; exact (Runs.fail hr2).elim
    | sl m xs =>
      rw [hp] at hr2
      dsimp only at hr2
      obtain ⟨A, cap, hvx, hrd⟩ := peek_ok h hx hp
      replace hr2 := Runs.test hr2
      cases hq : leqm xs m i.size && Nat.ble 1 i.size with
      | false => rw [hq] at hr2; exact (Runs.fail hr2).elim
      | true =>
        rw [hq] at hr2
        rw [Bool.and_eq_true, beq_iff, ble_iff] at hq
        obtain ⟨hxl, hz⟩ := hq
        simp only [cond_true] at hr2
        cases b with
        | one cb =>
          cases cb with
          | nil =>
            have hvb : vb = .slice none 0 0 := hb
            subst hvb
            exact appendFin_ok h hy hd hi hz hxl ⟨0, [], rfl, .inl ⟨rfl, rfl, rfl⟩⟩ (fun b hb => by cases hb) hvx hrd hr2
          | ref p v tyr tr =>
            cases tr with
            | lit _ => exact (Runs.fail hr2).elim
            | sl n cs =>
              simp only [appendTo] at hr2
              cases hc : Nat.beq tyr e && otherThan p cx with
              | false => rw [hc] at hr2; exact (Runs.fail hr2).elim
              | true =>
                rw [hc] at hr2
                rw [Bool.and_eq_true, beq_iff] at hc
                obtain ⟨rfl, _⟩ := hc
                have hr3 := Runs.get hr2
                cases hf : stillOwn (s.ts.get p) v with
                | false => rw [hf] at hr3; exact (Runs.fail hr3).elim
                | true =>
                  rw [hf] at hr3
                  obtain ⟨c1, c2, c3, c4⟩ := hb
                  obtain ⟨c5, c6⟩ := c3 trivial
                  obtain ⟨c7, c8, _⟩ := c4 c5
                  have hr4 := Runs.put hr3
                  obtain ⟨ok1, ev1⟩ := h.took 0 c6
                  have sm1 := h.same_took 0 c6
                  have hpk := ok1.pok 0 ⟨tyr, (s.ts.get p).t, s.cv p⟩ (upd_same s.pd 0 _)
                  rw [c7, c8] at hpk
                  have hrun := appendFin_ok (ty := ty) ok1 hy hd hi hz hxl hpk.1 hpk.2 hvx (hrd.ev ev1.S rfl) hr4
                  exact hrun
          | _ => exact (Runs.fail hr2).elim
        | _ => exact (Runs.fail hr2).elim
  | _ => exact (Runs.fail hr2).elim

theorem min_mul (m n z : Nat) : min m n * z ≤ m * z ∧ min m n * z ≤ n * z := ⟨Nat.mul_le_mul_right _ (Nat.min_le_left _ _), Nat.mul_le_mul_right _ (Nat.min_le_right _ _)⟩

theorem copyD_ok (h : Ok P G s) (hE : EnvOk P E) {t ty : TypeId} {b x : D} {vb vx : Value} (hb : DOk True s b vb) (hx : DOk True s x vx) {kk : D → Prog} (hr : Runs cf (copyD E t b x kk) s.ts o ts') :
    ∃ d v s', (Builtin.copy_ #[t, t] ty #[vb, vx]).run P s.w = .ok v s'.w ∧ Ok P G s' ∧ s'.a = s.a ∧ DOk False s' d v ∧ Runs cf (kk d) s'.ts o ts' := by
  obtain ⟨y, e, hy, hd, hr1⟩ := tslice_ok hE hr
  obtain ⟨i, hi, _, hr2⟩ := tsize_ok hE hr1
  obtain ⟨it, z, hi1, hi2, hi3, hi4, hi5⟩ := hi.info
  have hu := hy.run_under s.w
  rw [hd] at hu
  cases x with
  | one cx =>
    dsimp only at hr2
    cases hp : peek cx with
    | lit v => rw [hp] at hr2; exact (Runs.fail hr2).elim
    | sl m xs =>
      rw [hp] at hr2
      dsimp only at hr2
      obtain ⟨A, cap, hvx, hrd⟩ := peek_ok h hx hp
      subst hvx
      replace hr2 := Runs.test hr2
      cases hq : leqm xs m i.size with
      | false => rw [hq] at hr2; exact (Runs.fail hr2).elim
      | true =>
        rw [hq] at hr2
        rw [beq_iff] at hq
        have hxl : xs.length = m * i.size := hq
        simp only [cond_true] at hr2
        cases b with
        | one cb =>
          cases cb with
          | ref p v tyr tr =>
            cases tr with
            | lit _ => exact (Runs.fail hr2).elim
            | sl n cs =>
              simp only [copyTo] at hr2
              cases hc : Nat.beq tyr e && otherThan p cx with
              | false => rw [hc] at hr2; exact (Runs.fail hr2).elim
              | true =>
                rw [hc] at hr2
                rw [Bool.and_eq_true, beq_iff] at hc
                obtain ⟨rfl, _⟩ := hc
                have hr3 := Runs.get hr2
                cases hf : stillOwn (s.ts.get p) v with
                | false => rw [hf] at hr3; exact (Runs.fail hr3).elim
                | true =>
                  rw [hf] at hr3
                  obtain ⟨c1, c2, c3, c4⟩ := hb
                  obtain ⟨c5, c6⟩ := c3 trivial
                  obtain ⟨c7, c8, _⟩ := c4 c5
                  have hr4 := Runs.int (Runs.put (Runs.sl hr3))
                  have hcell := h.cell p (by intro h; cases h)
                  simp only [CellOk, c6, c8, c7] at hcell
                  obtain ⟨hoo, how⟩ := hcell
                  obtain ⟨vals, hrow, hrt⟩ := hoo.row hi1
                  have hcl : cs.length = n * i.size := by rw [← hrt.1, hrow.1, hi2]
                  obtain ⟨mm1, mm2⟩ := min_mul m n i.size
                  -- what is read
                  have hread : ∃ news : List Value, RTs s.w s.S (xs.take (min m n * i.size)) news ∧ (Builtin.firstCells i.size (min m n) (.slice A m cap)).run P s.w = .ok news.toArray s.w := by
                    rcases hrd with ⟨rfl, rfl⟩ | ⟨ad, vs, rfl, _, hnr, hvc⟩
                    · refine ⟨[], ⟨by simp, fun j t u h => by simp at h⟩, ?_⟩
                      cases A with
                      | none => rfl
                      | some ad => simp [Builtin.firstCells, loadCells, loadCellsFrom]
                    · have hs := hnr.seg 0 (min m n * i.size)
                      simp only [List.drop_zero] at hs
                      refine ⟨_, hs, ?_⟩
                      have hl : (vs.take (min m n * i.size)).length = min m n * i.size := by rw [List.length_take, hnr.1, hxl]; omega
                      have := run_loadCells_list (P := P) s.w ad (vs.take (min m n * i.size)) (fun j u hj => by
                        have h2 := seg_cell hvc 0 (min m n * i.size) j u (by simpa using hj)
                        exact h2)
                      rw [hl] at this
                      exact this
                  obtain ⟨news, hnr, hfirst⟩ := hread
                  have hnl : news.length = min m n * i.size := by rw [hnr.1, List.length_take, hxl]; omega
                  rcases hrow.2 with ⟨hv, hn0⟩ | ⟨g, cap', cur, hv, _, hg, _⟩
                  · subst hv
                    subst hn0
                    refine ⟨.one (.im (.lit (.int .i64 ((min m 0 : Nat) : Int)))), .int .i64 ((min m 0 : Nat) : Int), s.rewrite p tyr (.sl 0 (xs.take (min m 0 * i.size) ++ cs.drop (min m 0 * i.size))) s.w, ?_, ?_, rfl, lit_ok _ _ rfl, ?_⟩
                    · have h0 : Nat.min m 0 = min m 0 := rfl
                      simp only [Builtin.copy_, Sem.run_bind, hu, Result.andThen_ok, Builtin.lenOf, Sem.run_pure, List.getElem?_toArray, List.getElem?_cons_zero, List.getElem?_cons_succ, hi.run_size, h0, hfirst, goInt]
                      rfl
                    · have h1 := h.rewrite c6 (t := .sl 0 (xs.take (min m 0 * i.size) ++ cs.drop (min m 0 * i.size))) (Keep.refl _ _) (by
                        have hcs : cs = [] := List.eq_nil_of_length_eq_zero (by rw [hcl]; simp)
                        subst hcs
                        rw [c7]
                        refine ⟨0, [], ?_, .inl ⟨rfl, rfl, rfl⟩⟩
                        simp)
                      exact h1
                    · rw [c6] at hr4
                      exact hr4
                  · subst hv
                    have hog := how g rfl
                    obtain ⟨w', st, kp, ow'⟩ := hoo.set (i := 0) (ts := xs.take (min m n * i.size)) (us := news) (fun hs => by rw [show s.ow g = .st from hs] at hog; cases hog) (by rw [List.length_take]; omega) hnr hnr.ones
                    have htl : (xs.take (min m n * i.size)).length = min m n * i.size := by rw [List.length_take]; omega
                    have hset : setL cs 0 (xs.take (min m n * i.size)) = xs.take (min m n * i.size) ++ cs.drop (min m n * i.size) := by
                      simp only [setL, List.take_zero, List.nil_append, Nat.zero_add, htl]
                    rw [hset] at ow'
                    refine ⟨.one (.im (.lit (.int .i64 ((min m n : Nat) : Int)))), .int .i64 ((min m n : Nat) : Int), s.rewrite p tyr (.sl n (xs.take (min m n * i.size) ++ cs.drop (min m n * i.size))) w', ?_, ?_, rfl, lit_ok _ _ rfl, ?_⟩
                    · have h0 : Nat.min m n = min m n := rfl
                      simp only [Builtin.copy_, Sem.run_bind, hu, Result.andThen_ok, Builtin.lenOf, Sem.run_pure, List.getElem?_toArray, List.getElem?_cons_zero, List.getElem?_cons_succ, hi.run_size, h0, hfirst, goInt, st]
                      rfl
                    · exact h.rewrite c6 (by rw [c7]; exact ⟨kp.os, kp.tape, kp.output, kp.size, fun k hk hn => kp.block k hk fun e => hn (by rw [e]; rfl)⟩) (by rw [c7]; exact ow')
                    · rw [c6] at hr4
                      exact hr4
          | _ => exact (Runs.fail hr2).elim
        | _ => exact (Runs.fail hr2).elim
  | _ => exact (Runs.fail hr2).elim
end
end Go.Proofs.Ytnjanliihnadjaa.Tm

/- What the row of SeqEnds leans on: printed functions and plain laws. Conditions: none. -/
import Derived.Test.YtnjanliihnadjaaTy
import Derived.Test.YtnjanliihnadjaaTab
import Derived.Test.YtnjanliihnadjaaKn
import Derived.Test.YtnjanliihnadjaaWf
import Derived.IntWalk
import Derived.KernelRfl
import Derived.OpenShut
import Derived.Test.YtnjanliihnadjaaBSeqEnds2
set_option linter.unusedVariables false
set_option linter.unusedSimpArgs false
namespace Go.Proofs.Ytnjanliihnadjaa.Tm
open Go
theorem F110_ok (K : Nat) (a5148 : GGraph) (a5149 : GJob) (r : GAnswer) (hF : F110 K a5148 a5149 = some r) : Evt E H 110 [.agg (eGGraph a5148), .agg (eGJob a5149)] (F110_res r) := by
 rw [F110] at hF
 refine bind_some hF (fun r5150 h5151 hF => ?_)
 refine cond_some hF (fun h5152 hF => ?_) (fun h5152 hF => ?_)
 ·
  refine bind_some hF (fun w5444 h5442 hF => ?_)
  have hr := Option.some.inj hF
  subst hr
  have pz : HoldAll E H hn110 [.call 107 [.agg (eGGraph a5148), .agg (eGJob a5149)] (F107_res r5150), .test (leadsAny (Res.mk [(.agg [(.im (.lit (.int .i64 r5150.1.Step))), (.own 2 (.sl (len r5150.1.Vals) (flat (eInt .i64) r5150.1.Vals))), (.own 4 (.sl (len r5150.1.Rest) (flat eBool r5150.1.Rest))), (.own 130 (.sl (len r5150.1.In) (flat eGMsg r5150.1.In)))]), (.one (.im (.lit (.int .i64 r5150.2))))] [])) false, .test (ine r5150.2 0) false, .loop 0 c110_0 (F110_l0_0_S a5148 a5149 r5150.1.Step r5150.1.Vals r5150.1.Rest r5150.1.In) .ret (F110_l0_0_X0 a5148 a5149 w5444)] := ⟨(F107_ok K a5148 a5149 _ h5151), (leads_ok (by simp only [leadsAny, List.any_cons, List.any_nil, RV.leads, RC.leads, leadsT, hasSl_lit, Bool.or_false, flat_ns (eInt_ns _), flat_ns eBool_ns, flat_ns eGJob_ns, flat_ns eGMsg_ns])), (ine_t h5152), (F110_l0_0_ok K a5148 a5149 K r5150.1.Step r5150.1.Vals r5150.1.Rest r5150.1.In _ h5442), trivial⟩
  exact fn_playC hn110 (f := 110) (r := F110_res (GAnswer.mk w5444.1 w5444.2.1 w5444.2.2)) pz (by kernel_rfl) (by kernel_rfl)
 have hr := Option.some.inj hF
 subst hr
 have pz : HoldAll E H hn110 [.call 107 [.agg (eGGraph a5148), .agg (eGJob a5149)] (F107_res r5150), .test (leadsAny (Res.mk [(.agg [(.im (.lit (.int .i64 r5150.1.Step))), (.own 2 (.sl (len r5150.1.Vals) (flat (eInt .i64) r5150.1.Vals))), (.own 4 (.sl (len r5150.1.Rest) (flat eBool r5150.1.Rest))), (.own 130 (.sl (len r5150.1.In) (flat eGMsg r5150.1.In)))]), (.one (.im (.lit (.int .i64 r5150.2))))] [])) false, .test (ine r5150.2 0) true] := ⟨(F107_ok K a5148 a5149 _ h5151), (leads_ok (by simp only [leadsAny, List.any_cons, List.any_nil, RV.leads, RC.leads, leadsT, hasSl_lit, Bool.or_false, flat_ns (eInt_ns _), flat_ns eBool_ns, flat_ns eGJob_ns, flat_ns eGMsg_ns])), (ine_f h5152), trivial⟩
 exact fn_playC hn110 (f := 110) (r := F110_res (GAnswer.mk 4 0 [])) pz (by kernel_rfl) (by kernel_rfl)
structure goodS (s : GState) : Prop where
  nice : niceS s
  lin : s.In.length ≤ 80
  lre : s.Rest.length ≤ 24
  lva : s.Vals.length ≤ 24
theorem foldC_ok (p : Int) : ∀ (r : List GMsg) (c : GMsg) (d w : List GMsg), foldC p r c d = .inr w → i64 c.V → (∀ x ∈ r, i64 x.V) → (∀ x ∈ d, i64 x.V) → w.length ≤ d.length + r.length + 1 ∧ ∀ x ∈ w, i64 x.V
  | [], c, d, w, h, hc, _, hd => by
    injection h with h
    subst h
    refine ⟨by simp, fun x hx => ?_⟩
    rcases List.mem_append.1 hx with hx | hx
    · exact hd x hx
    · rw [List.mem_singleton.1 hx]; exact hc
  | x :: r, c, d, w, h, hc, hr, hd => by
    rw [foldC] at h
    have hx := hr x List.mem_cons_self
    have hr' := fun y hy => hr y (List.mem_cons_of_mem _ hy)
    cases h1 : ieq c.To x.To
    · rw [h1, cond_false] at h
      have := foldC_ok p r x (d ++ [c]) w h hx hr' (fun y hy => by
        rcases List.mem_append.1 hy with hy | hy
        · exact hd y hy
        · rw [List.mem_singleton.1 hy]; exact hc)
      rw [List.length_append] at this
      simp only [List.length_singleton] at this
      exact ⟨by simp only [List.length_cons]; omega, this.2⟩
    · rw [h1, cond_true] at h
      cases h2 : ieq (foldS p c.V x.V).2 0
      · rw [h2] at h; cases h
      · rw [h2, cond_true] at h
        have := foldC_ok p r _ d w h (foldS_i64 hc hx) hr' hd
        exact ⟨by simp only [List.length_cons]; omega, this.2⟩
theorem boxS_ok {p : Int} {l : List GMsg} (hl : ∀ x ∈ l, i64 x.V) : (boxS p l).1.length ≤ l.length ∧ ∀ x ∈ (boxS p l).1, i64 x.V := by
  have hn : ∀ x ∈ ([] : List GMsg), i64 x.V := fun x hx => absurd hx List.not_mem_nil
  have hs : ∀ x ∈ sortM l, i64 x.V := fun x hx => hl x ((sortM_perm l).mem_iff.1 hx)
  have hsl := sortM_len l
  rw [boxS]
  cases pbad p
  · rw [cond_false]
    generalize sortM l = m at *
    cases m with
    | nil => exact ⟨Nat.zero_le _, hn⟩
    | cons x r =>
      rw [foldO]
      cases hq : foldC p r x [] with
      | inl e => exact ⟨Nat.zero_le _, hn⟩
      | inr w =>
        have := foldC_ok p r x [] w hq (hs x List.mem_cons_self) (fun y hy => hs y (List.mem_cons_of_mem _ hy)) hn
        simp only [List.length_cons, List.length_nil] at hsl this
        exact ⟨by show w.length ≤ _; omega, this.2⟩
  · exact ⟨Nat.zero_le _, hn⟩
theorem step_ok {g : GGraph} {j : GJob} {s : GState} (h : ieq (stepS g j s).2 0 = true) : ieq (jcheck g j) 0 = true ∧ stRight g j s = true ∧ ieq s.Step 40 = false ∧
    ∃ w, stepA g j s (List.range g.N.toNat) [] [] [] = .inr w ∧ ieq (boxS j.Prog w.2.2).2 0 = true ∧ (stepS g j s).1 = GState.mk (s.Step + 1) w.1 w.2.1 (boxS j.Prog w.2.2).1 := by
  rw [stepS] at h ⊢
  cases hc : ieq (jcheck g j) 0
  · rw [hc, cond_false] at h
    have h' : ieq (jcheck g j) 0 = true := h
    rw [hc] at h'; cases h'
  · rw [hc] at h
    cases hr : stRight g j s
    · rw [hr] at h; cases h
    · rw [hr] at h
      cases h40 : ieq s.Step 40
      · rw [h40] at h
        simp only [cond_true, cond_false] at h ⊢
        cases hA : stepA g j s (List.range g.N.toNat) [] [] [] with
        | inl e =>
          rw [hA] at h
          have he : ieq e 0 = true := h
          exfalso
          have hno : ∀ (l : List Nat) a b c e, stepA g j s l a b c = .inl e → ieq e 0 = false := by
            intro l
            induction l with
            | nil => intro a b c e h; cases h
            | cons v l ih =>
              intro a b c e h
              rw [stepA] at h
              cases hq : ieq (oneS g j s v).2.2.2 0
              · rw [hq] at h
                injection h with h
                rw [← h]; exact hq
              · rw [hq] at h; exact ih _ _ _ _ h
          rw [hno _ _ _ _ _ hA] at he; cases he
        | inr w =>
          rw [hA, stepB] at h
          rw [stepB]
          cases hb : ieq (boxS j.Prog w.2.2).2 0
          · rw [hb, cond_false] at h
            have h' : ieq (boxS j.Prog w.2.2).2 0 = true := h
            rw [hb] at h'; cases h'
          · exact ⟨trivial, trivial, trivial, w, rfl, hb, rfl⟩
      · rw [h40] at h; cases h
theorem step_good {g : GGraph} {j : GJob} {s : GState} (hg : goodS s) (h : ieq (stepS g j s).2 0 = true) : goodS (stepS g j s).1 ∧ (stepS g j s).1.Step = s.Step + 1 := by
  obtain ⟨hc, hr, h40, w, hA, hb, he⟩ := step_ok h
  obtain ⟨hgc, _⟩ := jcheck_ok hc
  obtain ⟨g1, g2, g3, _⟩ := gcheck_ok hgc
  rw [List.range_eq_range'] at hA
  have kw := stepA_keep hg.nice g.N.toNat 0 [] [] [] (keep0 g) w hA
  have hwl := keep_len kw g3
  obtain ⟨b1, b2⟩ := boxS_ok (p := j.Prog) kw.vc
  rw [he]
  refine ⟨⟨⟨kw.va, b2⟩, ?_, ?_, ?_⟩, rfl⟩
  · show (boxS j.Prog w.2.2).1.length ≤ 80; omega
  · show w.2.1.length ≤ 24; rw [kw.lb]; omega
  · show w.1.length ≤ 24; rw [kw.la]; omega
theorem startS_i64 {j : GJob} {v : Int} (h0 : 0 ≤ v) (h : v ≤ 1000) : i64 (startS j v) := by
  rw [startS]
  unfold i64
  cases ieq j.Prog 2
  · cases ieq j.Prog 4
    · cases ieq j.Prog 5
      · cases ieq v j.Source <;> simp
      · simp
    · simp only [cond_true, cond_false]; omega
  · simp only [cond_true]; omega
theorem begin_good {g : GGraph} {j : GJob} (hg : ieq (gcheck g) 0 = true) : goodS (beginS g j) ∧ (beginS g j).Step = 0 := by
  obtain ⟨g1, g2, g3, _⟩ := gcheck_ok hg
  refine ⟨⟨⟨fun v hv => ?_, fun m hm => absurd hm List.not_mem_nil⟩, Nat.zero_le _, by simp [beginS]; omega, by simp [beginS]; omega⟩, rfl⟩
  obtain ⟨n, hn, rfl⟩ := List.mem_map.1 (show v ∈ (List.range g.N.toNat).map fun (v : Nat) => startS j (v : Int) from hv)
  have := List.mem_range.1 hn
  exact startS_i64 (by omega) (by omega)
def runL (g : GGraph) (j : GJob) : Nat → GState → List GState × GAnswer
  | 0, s => ([s], GAnswer.mk 0 s.Step [])
  | f + 1, s => bif restsS s then ([s], GAnswer.mk 1 s.Step s.Vals) else bif ile j.Limit s.Step then ([s], GAnswer.mk 3 s.Step s.Vals)
    else bif ieq (stepS g j s).2 0 then (s :: (runL g j f (stepS g j s).1).1, (runL g j f (stepS g j s).1).2) else ([s], GAnswer.mk 2 s.Step [])
def runS (g : GGraph) (j : GJob) : List GState × GAnswer := bif ieq (jcheck g j) 0 then runL g j 50 (beginS g j) else ([], GAnswer.mk 4 0 [])
theorem F110_loop {K : Nat} (hK : 1000 ≤ K) (g : GGraph) (j : GJob) : ∀ (f k : Nat) (s : GState), goodS s → s.Step ≤ j.Limit → j.Limit - s.Step < f → f ≤ k →
    F110_l0_0 K g j k s.Step s.Vals s.Rest s.In = some ((runL g j f s).2.Kind, ((runL g j f s).2.Step, (runL g j f s).2.Vals)) := by
  intro f
  induction f with
  | zero => intro k s hs h0 hf hk; omega
  | succ f ih =>
    intro k s hs h0 hf hk
    obtain ⟨k, rfl⟩ : ∃ q, k = q + 1 := ⟨k - 1, by omega⟩
    have e : GState.mk s.Step s.Vals s.Rest s.In = s := rfl
    have l1 := hs.lin
    have l2 := hs.lre
    rw [F110_l0_0, e, F105_spec K s (by omega) (by omega), F112_spec hK g j s hs.nice (by omega) (by omega), Option.bind_some, Option.bind_some, runL]
    cases h1 : restsS s
    · cases h2 : ile j.Limit s.Step
      · cases h3 : ieq (stepS g j s).2 0
        · rfl
        · obtain ⟨g1, g2⟩ := step_good hs h3
          have := ile_f.1 h2
          exact ih k (stepS g j s).1 g1 (by omega) (by omega) (by omega)
      · rfl
    · rfl
theorem F110_spec {K : Nat} (hK : 1000 ≤ K) (g : GGraph) (j : GJob) : F110 K g j = some (runS g j).2 := by
  rw [F110, F107_spec hK, Option.bind_some, runS]
  cases hc : ieq (jcheck g j) 0
  · simp only [cond_false, hc]
  · obtain ⟨hg, _, _, _, _, p5, p6, _⟩ := jcheck_ok hc
    obtain ⟨b1, b2⟩ := begin_good (j := j) hg
    have z : ieq 0 0 = true := rfl
    simp only [cond_true, z]
    rw [F110_loop hK g j 50 K (beginS g j) b1 (by omega) (by omega) (by omega)]; rfl
theorem run_vals (g : GGraph) (j : GJob) : ∀ (f : Nat) (s : GState), goodS s → (runL g j f s).2.Vals.length ≤ 24 := by
  intro f
  induction f with
  | zero => intro s _; exact Nat.zero_le _
  | succ f ih =>
    intro s hs
    rw [runL]
    cases restsS s
    · cases ile j.Limit s.Step
      · cases h3 : ieq (stepS g j s).2 0
        · exact Nat.zero_le _
        · exact ih _ (step_good hs h3).1
      · exact hs.lva
    · exact hs.lva
theorem runS_vals (g : GGraph) (j : GJob) : (runS g j).2.Vals.length ≤ 24 := by
  rw [runS]
  cases hc : ieq (jcheck g j) 0
  · exact Nat.zero_le _
  · obtain ⟨hg, _⟩ := jcheck_ok hc
    exact run_vals g j 50 _ (begin_good hg).1
theorem same109 {K : Nat} (hK : 1000 ≤ K) (a : GAnswer) (h : a.Vals.length ≤ 24) : F109 K a a = some true := by
  rw [F109, ieq_refl, ieq_refl, same140 a.Vals (by omega) (by omega)]; rfl
noncomputable def hn32 : Hint := { H 32 with nt := 68, prot := 0 }
def F32_res (r5580 : Bool) : Res := ⟨[(.one (.im (.lit (.bool r5580))))], []⟩
def F32 (K : Nat) (a5551 : GGraph) (a5552 : GJob) (a5553 : Int) : Option (Bool) :=
 (F101 K a5551).bind fun r5554 =>
 bif r5554 then
  (some true)
 else
 (F110 K a5551 a5552).bind fun r5557 =>
 bif (ieq r5557.Kind 4) then
  ((F59 K a5551 a5552).bind fun r5560 =>
  bif (ieq r5560 0) then
   (some false)
  else
  some true)
 else
 bif (ilt r5557.Step 0) then
  (some false)
 else
 bif (ilt a5552.Limit r5557.Step) then
  (some false)
 else
 (F110 K a5551 (GJob.mk a5552.Prog a5552.Source a5553 a5552.Parts)).bind fun r5565 =>
 bif (ilt a5553 a5552.Limit) then
  (some true)
 else
 bif (ilt 40 a5553) then
  (some true)
 else
 bif (ieq r5557.Kind 3) then
  (bif (ile r5557.Step r5565.Step) then
   (some true)
  else
  some false)
 else
 (F109 K r5557 r5565).bind fun r5571 =>
 bif r5571 then
  (some true)
 else
 some false
theorem F32_ok (K : Nat) (a5551 : GGraph) (a5552 : GJob) (a5553 : Int) (r : Bool) (hF : F32 K a5551 a5552 a5553 = some r) : Evt E H 32 [.agg (eGGraph a5551), .agg (eGJob a5552), .one (.lit (.int .i64 a5553))] (F32_res r) := by
 rw [F32] at hF
 refine bind_some hF (fun r5554 h5555 hF => ?_)
 refine cond_some hF (fun h5556 hF => ?_) (fun h5556 hF => ?_)
 ·
  have hr := Option.some.inj hF
  subst hr
  have pz : HoldAll E H hn32 [.call 101 [.agg (eGGraph a5551)] (F101_res r5554), .test (leadsAny (Res.mk [(.one (.im (.lit (.bool r5554))))] [])) false, .test r5554 true, .call 103 [] (Res.mk [(.one (.im (.lit (.bool true))))] []), .test (leadsAny (Res.mk [(.one (.im (.lit (.bool true))))] [])) false] := ⟨(F101_ok K a5551 _ h5555), (leads_ok (by simp only [leadsAny, List.any_cons, List.any_nil, RV.leads, RC.leads, leadsT, hasSl_lit, Bool.or_false])), h5556, knows103, (leads_ok (by simp only [leadsAny, List.any_cons, List.any_nil, RV.leads, RC.leads, leadsT, hasSl_lit, Bool.or_false])), trivial⟩
  exact fn_playC hn32 (f := 32) (r := F32_res true) pz (by kernel_rfl) (by kernel_rfl)
 refine bind_some hF (fun r5557 h5558 hF => ?_)
 have pq5574 : ∀ {l : List Cond}, HoldAll E H hn32 l → HoldAll E H hn32 (.call 101 [.agg (eGGraph a5551)] (F101_res r5554) :: .test (leadsAny (Res.mk [(.one (.im (.lit (.bool r5554))))] [])) false :: .test r5554 false :: .call 110 [.agg (eGGraph a5551), .agg (eGJob a5552)] (F110_res r5557) :: .test (leadsAny (Res.mk [(.agg [(.im (.lit (.int .i64 r5557.Kind))), (.im (.lit (.int .i64 r5557.Step))), (.own 2 (.sl (len r5557.Vals) (flat (eInt .i64) r5557.Vals)))])] [])) false :: l) := fun z => ⟨(F101_ok K a5551 _ h5555), (leads_ok (by simp only [leadsAny, List.any_cons, List.any_nil, RV.leads, RC.leads, leadsT, hasSl_lit, Bool.or_false, flat_ns (eInt_ns _), flat_ns eGJob_ns])), h5556, (F110_ok K a5551 a5552 _ h5558), (leads_ok (by simp only [leadsAny, List.any_cons, List.any_nil, RV.leads, RC.leads, leadsT, hasSl_lit, Bool.or_false, flat_ns (eInt_ns _), flat_ns eGJob_ns])), z⟩
 refine cond_some hF (fun h5559 hF => ?_) (fun h5559 hF => ?_)
 ·
  refine bind_some hF (fun r5560 h5561 hF => ?_)
  have pq5575 : ∀ {l : List Cond}, HoldAll E H hn32 l → HoldAll E H hn32 (.test (ieq r5557.Kind 4) true :: .call 59 [.agg (eGGraph a5551), .agg (eGJob a5552)] (F59_res r5560) :: .test (leadsAny (Res.mk [(.one (.im (.lit (.int .i64 r5560))))] [])) false :: l) := fun z => ⟨h5559, (F59_ok K a5551 a5552 _ h5561), (leads_ok (by simp only [leadsAny, List.any_cons, List.any_nil, RV.leads, RC.leads, leadsT, hasSl_lit, Bool.or_false, flat_ns eGJob_ns])), z⟩
  refine cond_some hF (fun h5562 hF => ?_) (fun h5562 hF => ?_)
  ·
   have hr := Option.some.inj hF
   subst hr
   have pz : HoldAll E H hn32 [.test (beqb (ine r5560 0) true) false, .test (ine r5560 0) false] := ⟨(beqb_t (ine_t h5562)), (ine_t h5562), trivial⟩
   exact fn_playC hn32 (f := 32) (r := F32_res false) (pq5574 (pq5575 pz)) (by kernel_rfl) (by kernel_rfl)
  have hr := Option.some.inj hF
  subst hr
  have pz : HoldAll E H hn32 [.test (beqb (ine r5560 0) true) true, .call 103 [] (Res.mk [(.one (.im (.lit (.bool true))))] []), .test (leadsAny (Res.mk [(.one (.im (.lit (.bool true))))] [])) false, .test (ine r5560 0) true] := ⟨(beqb_t (ine_f h5562)), knows103, (leads_ok (by simp only [leadsAny, List.any_cons, List.any_nil, RV.leads, RC.leads, leadsT, hasSl_lit, Bool.or_false])), (ine_f h5562), trivial⟩
  exact fn_playC hn32 (f := 32) (r := F32_res true) (pq5574 (pq5575 pz)) (by kernel_rfl) (by kernel_rfl)
 refine cond_some hF (fun h5563 hF => ?_) (fun h5563 hF => ?_)
 ·
  have hr := Option.some.inj hF
  subst hr
  have pz : HoldAll E H hn32 [.test (ieq r5557.Kind 4) false, .test (beqb (ilt r5557.Step 0) false) false, .test (beqb (ilt r5557.Step 0) false) false, .test (beqb (ilt r5557.Step 0) false) false, .test (beqb (ilt r5557.Step 0) false) false, .test (beqb (ilt r5557.Step 0) false) false, .test (ilt r5557.Step 0) true, .test true true] := ⟨h5559, (beqb_ft h5563), (beqb_ft h5563), (beqb_ft h5563), (beqb_ft h5563), (beqb_ft h5563), h5563, rfl, trivial⟩
  exact fn_playC hn32 (f := 32) (r := F32_res false) (pq5574 pz) (by kernel_rfl) (by kernel_rfl)
 have pq5576 : ∀ {l : List Cond}, HoldAll E H hn32 l → HoldAll E H hn32 (.test (ieq r5557.Kind 4) false :: .test (beqb (ilt r5557.Step 0) false) true :: .test (beqb (ilt r5557.Step 0) false) true :: .test (beqb (ilt r5557.Step 0) false) true :: .test (beqb (ilt r5557.Step 0) false) true :: .test (beqb (ilt r5557.Step 0) false) true :: .test (ilt r5557.Step 0) false :: l) := fun z => ⟨h5559, (beqb_ff h5563), (beqb_ff h5563), (beqb_ff h5563), (beqb_ff h5563), (beqb_ff h5563), h5563, z⟩
 refine cond_some hF (fun h5564 hF => ?_) (fun h5564 hF => ?_)
 ·
  have hr := Option.some.inj hF
  subst hr
  have pz : HoldAll E H hn32 [.test (igt r5557.Step a5552.Limit) true] := ⟨(igt_eq h5564), trivial⟩
  exact fn_playC hn32 (f := 32) (r := F32_res false) (pq5574 (pq5576 pz)) (by kernel_rfl) (by kernel_rfl)
 refine bind_some hF (fun r5565 h5566 hF => ?_)
 have pq5577 : ∀ {l : List Cond}, HoldAll E H hn32 l → HoldAll E H hn32 (.test (igt r5557.Step a5552.Limit) false :: .call 110 [.agg (eGGraph a5551), .agg (eGJob (GJob.mk a5552.Prog a5552.Source a5553 a5552.Parts))] (F110_res r5565) :: .test (leadsAny (Res.mk [(.agg [(.im (.lit (.int .i64 r5565.Kind))), (.im (.lit (.int .i64 r5565.Step))), (.own 2 (.sl (len r5565.Vals) (flat (eInt .i64) r5565.Vals)))])] [])) false :: l) := fun z => ⟨(igt_eq h5564), (F110_ok K a5551 (GJob.mk a5552.Prog a5552.Source a5553 a5552.Parts) _ h5566), (leads_ok (by simp only [leadsAny, List.any_cons, List.any_nil, RV.leads, RC.leads, leadsT, hasSl_lit, Bool.or_false, flat_ns (eInt_ns _), flat_ns eGJob_ns])), z⟩
 refine cond_some hF (fun h5567 hF => ?_) (fun h5567 hF => ?_)
 ·
  have hr := Option.some.inj hF
  subst hr
  have pz : HoldAll E H hn32 [.test (beqb (ilt a5553 a5552.Limit) false) false, .test (beqb (ilt a5553 a5552.Limit) false) false, .test (ilt a5553 a5552.Limit) true, .test true true, .call 103 [] (Res.mk [(.one (.im (.lit (.bool true))))] []), .test (leadsAny (Res.mk [(.one (.im (.lit (.bool true))))] [])) false] := ⟨(beqb_ft h5567), (beqb_ft h5567), h5567, rfl, knows103, (leads_ok (by simp only [leadsAny, List.any_cons, List.any_nil, RV.leads, RC.leads, leadsT, hasSl_lit, Bool.or_false])), trivial⟩
  exact fn_playC hn32 (f := 32) (r := F32_res true) (pq5574 (pq5576 (pq5577 pz))) (by kernel_rfl) (by kernel_rfl)
 have pq5578 : ∀ {l : List Cond}, HoldAll E H hn32 l → HoldAll E H hn32 (.test (beqb (ilt a5553 a5552.Limit) false) true :: .test (beqb (ilt a5553 a5552.Limit) false) true :: .test (ilt a5553 a5552.Limit) false :: l) := fun z => ⟨(beqb_ff h5567), (beqb_ff h5567), h5567, z⟩
 refine cond_some hF (fun h5568 hF => ?_) (fun h5568 hF => ?_)
 ·
  have hr := Option.some.inj hF
  subst hr
  have pz : HoldAll E H hn32 [.test (igt a5553 40) true, .call 103 [] (Res.mk [(.one (.im (.lit (.bool true))))] []), .test (leadsAny (Res.mk [(.one (.im (.lit (.bool true))))] [])) false] := ⟨(igt_eq h5568), knows103, (leads_ok (by simp only [leadsAny, List.any_cons, List.any_nil, RV.leads, RC.leads, leadsT, hasSl_lit, Bool.or_false])), trivial⟩
  exact fn_playC hn32 (f := 32) (r := F32_res true) (pq5574 (pq5576 (pq5577 (pq5578 pz)))) (by kernel_rfl) (by kernel_rfl)
 refine cond_some hF (fun h5569 hF => ?_) (fun h5569 hF => ?_)
 ·
  refine cond_some hF (fun h5570 hF => ?_) (fun h5570 hF => ?_)
  ·
   have hr := Option.some.inj hF
   subst hr
   have pz : HoldAll E H hn32 [.test (igt a5553 40) false, .test (ieq r5557.Kind 3) true, .test (beqb (ige r5565.Step r5557.Step) true) true, .call 103 [] (Res.mk [(.one (.im (.lit (.bool true))))] []), .test (leadsAny (Res.mk [(.one (.im (.lit (.bool true))))] [])) false, .test (ige r5565.Step r5557.Step) true] := ⟨(igt_eq h5568), h5569, (beqb_t (ige_eq h5570)), knows103, (leads_ok (by simp only [leadsAny, List.any_cons, List.any_nil, RV.leads, RC.leads, leadsT, hasSl_lit, Bool.or_false])), (ige_eq h5570), trivial⟩
   exact fn_playC hn32 (f := 32) (r := F32_res true) (pq5574 (pq5576 (pq5577 (pq5578 pz)))) (by kernel_rfl) (by kernel_rfl)
  have hr := Option.some.inj hF
  subst hr
  have pz : HoldAll E H hn32 [.test (igt a5553 40) false, .test (ieq r5557.Kind 3) true, .test (beqb (ige r5565.Step r5557.Step) true) false, .test (ige r5565.Step r5557.Step) false] := ⟨(igt_eq h5568), h5569, (beqb_t (ige_eq h5570)), (ige_eq h5570), trivial⟩
  exact fn_playC hn32 (f := 32) (r := F32_res false) (pq5574 (pq5576 (pq5577 (pq5578 pz)))) (by kernel_rfl) (by kernel_rfl)
 refine bind_some hF (fun r5571 h5572 hF => ?_)
 have pq5579 : ∀ {l : List Cond}, HoldAll E H hn32 l → HoldAll E H hn32 (.test (igt a5553 40) false :: .test (ieq r5557.Kind 3) false :: .call 109 [.agg (eGAnswer r5557), .agg (eGAnswer r5565)] (F109_res r5571) :: .test (leadsAny (Res.mk [(.one (.im (.lit (.bool r5571))))] [])) false :: l) := fun z => ⟨(igt_eq h5568), h5569, (F109_ok K r5557 r5565 _ h5572), (leads_ok (by simp only [leadsAny, List.any_cons, List.any_nil, RV.leads, RC.leads, leadsT, hasSl_lit, Bool.or_false])), z⟩
 refine cond_some hF (fun h5573 hF => ?_) (fun h5573 hF => ?_)
 ·
  have hr := Option.some.inj hF
  subst hr
  have pz : HoldAll E H hn32 [.test (beqb r5571 true) true, .call 103 [] (Res.mk [(.one (.im (.lit (.bool true))))] []), .test (leadsAny (Res.mk [(.one (.im (.lit (.bool true))))] [])) false, .test r5571 true] := ⟨(beqb_t h5573), knows103, (leads_ok (by simp only [leadsAny, List.any_cons, List.any_nil, RV.leads, RC.leads, leadsT, hasSl_lit, Bool.or_false])), h5573, trivial⟩
  exact fn_playC hn32 (f := 32) (r := F32_res true) (pq5574 (pq5576 (pq5577 (pq5578 (pq5579 pz))))) (by kernel_rfl) (by kernel_rfl)
 have hr := Option.some.inj hF
 subst hr
 have pz : HoldAll E H hn32 [.test (beqb r5571 true) false, .test r5571 false] := ⟨(beqb_t h5573), h5573, trivial⟩
 exact fn_playC hn32 (f := 32) (r := F32_res false) (pq5574 (pq5576 (pq5577 (pq5578 (pq5579 pz))))) (by kernel_rfl) (by kernel_rfl)
def limJ (j : GJob) (n : Int) : GJob := GJob.mk j.Prog j.Source n j.Parts
theorem lim_check {g : GGraph} {j : GJob} {n : Int} (hc : ieq (jcheck g j) 0 = true) (h0 : 0 ≤ n) (h40 : n ≤ 40) : jcheck g (limJ j n) = jcheck g j := by
  obtain ⟨hg, p1, p2, p3, p4, p5, p6, p7, p8⟩ := jcheck_ok hc
  have e : ∀ i : GJob, 1 ≤ i.Prog → i.Prog ≤ 5 → 0 ≤ i.Source → i.Source < g.N → 0 ≤ i.Limit → i.Limit ≤ 40 → 1 ≤ i.Parts → i.Parts ≤ 6 → jcheck g i = 0 := fun i a b c d e f k l => by
    rw [jcheck, hg, pbad, jbad, ilt_f.2 a, ilt_f.2 b, ilt_f.2 c, ile_f.2 d, ilt_f.2 e, ilt_f.2 f, ilt_f.2 k, ilt_f.2 l]; rfl
  rw [e j p1 p2 p3 p4 p5 p6 p7 p8, e (limJ j n) p1 p2 p3 p4 h0 h40 p7 p8]
theorem lim_turn {g : GGraph} {j : GJob} {n : Int} (h : jcheck g (limJ j n) = jcheck g j) (step v val got : Int) (sm : Bool) : turnS g (limJ j n) step v val got sm = turnS g j step v val got sm := by
  rw [turnS, turnS, h]; rfl
theorem lim_one {g : GGraph} {j : GJob} {n : Int} (h : jcheck g (limJ j n) = jcheck g j) (s : GState) (v : Nat) : oneS g (limJ j n) s v = oneS g j s v := by
  rw [oneS, oneS, lim_turn h]
theorem lim_stepA {g : GGraph} {j : GJob} {n : Int} (h : jcheck g (limJ j n) = jcheck g j) (s : GState) : ∀ (l : List Nat) a b c, stepA g (limJ j n) s l a b c = stepA g j s l a b c
  | [], a, b, c => rfl
  | v :: l, a, b, c => by rw [stepA, stepA, lim_one h, lim_stepA h s l]
theorem lim_step {g : GGraph} {j : GJob} {n : Int} (h : jcheck g (limJ j n) = jcheck g j) (s : GState) : stepS g (limJ j n) s = stepS g j s := by
  have hr : stRight g (limJ j n) s = stRight g j s := by rw [stRight, stRight, h]
  have hb : ∀ w, stepB g (limJ j n) s w = stepB g j s w := fun w => by cases w <;> rfl
  rw [stepS, stepS, h, hr, lim_stepA h, hb]
theorem run_step (g : GGraph) (j : GJob) : ∀ (f : Nat) (s : GState), goodS s → s.Step ≤ (runL g j f s).2.Step ∧ (s.Step ≤ j.Limit → (runL g j f s).2.Step ≤ j.Limit) := by
  intro f
  induction f with
  | zero => intro s _; exact ⟨Int.le_refl _, fun h => h⟩
  | succ f ih =>
    intro s hs
    rw [runL]
    cases restsS s
    · cases h2 : ile j.Limit s.Step
      · cases h3 : ieq (stepS g j s).2 0
        · exact ⟨Int.le_refl _, fun h => h⟩
        · obtain ⟨g1, g2⟩ := step_good hs h3
          obtain ⟨i1, i2⟩ := ih _ g1
          have := ile_f.1 h2
          refine ⟨?_, fun h => ?_⟩
          · show s.Step ≤ (runL g j f (stepS g j s).1).2.Step; omega
          · exact i2 (by omega)
      · exact ⟨Int.le_refl _, fun h => h⟩
    · exact ⟨Int.le_refl _, fun h => h⟩
theorem lim_run {g : GGraph} {j : GJob} {n : Int} (h : jcheck g (limJ j n) = jcheck g j) (hn : j.Limit ≤ n) : ∀ (f : Nat) (s : GState), goodS s →
    (runL g j f s).2 = (runL g (limJ j n) f s).2 ∨ ((runL g j f s).2.Kind = 3 ∧ (runL g j f s).2.Step ≤ (runL g (limJ j n) f s).2.Step) := by
  intro f
  induction f with
  | zero => intro s _; left; rfl
  | succ f ih =>
    intro s hs
    rcases hx : restsS s with _ | _
    · cases h2 : ile j.Limit s.Step
      · have h2' := ile_f.1 h2
        have h2n : ile (limJ j n).Limit s.Step = false := ile_f.2 (by show s.Step < n; omega)
        cases h3 : ieq (stepS g j s).2 0
        · left
          rw [runL, runL, hx, h2, h2n, lim_step h, h3]; rfl
        · have := ih _ (step_good hs h3).1
          rw [runL, runL, hx, h2, h2n, lim_step h, h3]
          exact this
      · right
        have := (run_step g (limJ j n) (f + 1) s hs).1
        refine ⟨by rw [runL, hx, h2]; rfl, ?_⟩
        have e : (runL g j (f + 1) s).2.Step = s.Step := by rw [runL, hx, h2]; rfl
        rw [e]; exact this
    · left
      rw [runL, runL, hx]; rfl
theorem run_kind (g : GGraph) (j : GJob) : ∀ (f : Nat) (s : GState), (runL g j f s).2.Kind ≠ 4 := by
  intro f
  induction f with
  | zero => intro s h; cases h
  | succ f ih =>
    intro s
    rw [runL]
    cases restsS s
    · cases ile j.Limit s.Step
      · cases ieq (stepS g j s).2 0
        · intro h; cases h
        · exact ih _
      · intro h; cases h
    · intro h; cases h
theorem law32 (g : GGraph) (j : GJob) (n : Int) (_ : WGGraph g) (_ : WGJob j) (_ : (Lit.int .i64 n).wf = true) : F32 1000 g j n = some true := by
  generalize hq : 1000 = K
  have hK : 1000 ≤ K := by omega
  rw [F32, F101, F110_spec hK, F59_spec (by omega), F110_spec hK, Option.bind_some]
  cases igt (nlen (len g.Edges)) 200
  · rw [cond_false, Option.bind_some, Option.bind_some]
    cases hc : ieq (jcheck g j) 0
    · have e : runS g j = ([], GAnswer.mk 4 0 []) := by rw [runS, hc]; rfl
      have z4 : ieq 4 4 = true := rfl
      rw [e]
      simp only [z4, cond_true, Option.bind_some, hc, cond_false]
    · obtain ⟨hg, _, _, _, _, p5, p6, _⟩ := jcheck_ok hc
      obtain ⟨b1, b2⟩ := begin_good (j := j) hg
      have e : runS g j = runL g j 50 (beginS g j) := by rw [runS, hc]; rfl
      have k4 : ieq (runS g j).2.Kind 4 = false := ieq_f.2 (by rw [e]; exact run_kind g j 50 _)
      obtain ⟨r1, r2⟩ := run_step g j 50 (beginS g j) b1
      have s0 : ilt (runS g j).2.Step 0 = false := ilt_f.2 (by rw [e]; omega)
      have s1 : ilt j.Limit (runS g j).2.Step = false := ilt_f.2 (by rw [e]; exact r2 (by omega))
      rw [k4, s0, s1, cond_false, cond_false, cond_false, Option.bind_some]
      cases hn : ilt n j.Limit
      · cases h40 : ilt 40 n
        · have hn' := ilt_f.1 hn
          have h40' := ilt_f.1 h40
          have hl := lim_check (n := n) hc (by omega) h40'
          have e' : runS g (limJ j n) = runL g (limJ j n) 50 (beginS g j) := by rw [runS, hl, hc]; rfl
          have el : GJob.mk j.Prog j.Source n j.Parts = limJ j n := rfl
          rw [el, cond_false, cond_false]
          rcases lim_run hl hn' 50 (beginS g j) b1 with h | ⟨h1, h2⟩
          · have h' : (runS g j).2 = (runS g (limJ j n)).2 := by rw [e, e']; exact h
            rw [← h', same109 hK _ (runS_vals g j), Option.bind_some, ile_iff.2 (Int.le_refl _)]
            cases ieq (runS g j).2.Kind 3 <;> rfl
          · have k3 : ieq (runS g j).2.Kind 3 = true := ieq_iff.2 (by rw [e]; exact h1)
            rw [k3, cond_true, ile_iff.2 (by rw [e, e']; exact h2)]; rfl
        · rfl
      · rfl
  · rfl
end Go.Proofs.Ytnjanliihnadjaa.Tm

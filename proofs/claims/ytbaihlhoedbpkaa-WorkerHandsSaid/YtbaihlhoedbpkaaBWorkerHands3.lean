/- What the row of WorkerHands leans on: printed functions and plain laws. Conditions: none. -/
import Derived.Test.YtbaihlhoedbpkaaTy
import Derived.Test.YtbaihlhoedbpkaaTab
import Derived.Test.YtbaihlhoedbpkaaKn
import Derived.Test.YtbaihlhoedbpkaaWf
import Derived.IntWalk
import Derived.KernelRfl
import Derived.OpenShut
import Derived.Test.YtbaihlhoedbpkaaBWorkerHands2
set_option linter.unusedVariables false
set_option linter.unusedSimpArgs false
namespace Go.Proofs.Ytbaihlhoedbpkaa.Tm
open Go
noncomputable section
section
variable {g : GGraph} {j : GJob} {id : Int} {n : Nat} {w : GWorker}
theorem outs_held (p : Int) : ∀ (l : List (List GMsg)) (q : Nat) (w : GWorker), (outsW p q l w).Held = w.Held ∧ (outsW p q l w).T = w.T ∧ (outsW p q l w).Goal = w.Goal ∧ (outsW p q l w).Id = w.Id ∧ (outsW p q l w).Until = w.Until ∧ (outsW p q l w).Coming = w.Coming
 | [], _, _ => ⟨rfl, rfl, rfl, rfl, rfl, rfl⟩
 | x :: l, q, w => by
  obtain ⟨a, b, c, d, e, f⟩ := outs_held p l (q + 1) (outStep p w q x)
  have h : (outStep p w q x).Held = w.Held ∧ (outStep p w q x).T = w.T ∧ (outStep p w q x).Goal = w.Goal ∧ (outStep p w q x).Id = w.Id ∧ (outStep p w q x).Until = w.Until ∧ (outStep p w q x).Coming = w.Coming := by
   rw [outStep]
   cases ieq (toT w.T (q : Int)).1 w.Id
   · exact ⟨rfl, rfl, rfl, rfl, rfl, rfl⟩
   · rw [cT, dataS]
     cases ile w.T.Epoch (outM w p q x).Epoch && ilt (gotS w.Buf (outM w p q x).Epoch (outM w p q x).Step (outM w p q x).Q (outM w p q x).P) 0 <;> exact ⟨rfl, rfl, rfl, rfl, rfl, rfl⟩
  rw [outsW]
  exact ⟨a.trans h.1, b.trans h.2.1, c.trans h.2.2.1, d.trans h.2.2.2.1, e.trans h.2.2.2.2.1, f.trans h.2.2.2.2.2⟩
theorem do_keeps (g : GGraph) (j : GJob) (w : GWorker) (i : Nat) (h : GHeld) : (doAt g j w i h).2.Held.length = w.Held.length ∧ (doAt g j w i h).2.T = w.T ∧ (doAt g j w i h).2.Goal = w.Goal ∧ (doAt g j w i h).1.length ≤ 1 := by
 rw [doAt]
 cases ieq (doS g j h.X).2.2 6 || ieq (doS g j h.X).2.2 1
 · cases ieq (doS g j h.X).2.2 0
   · exact ⟨List.length_set, rfl, rfl, Nat.zero_le _⟩
   · obtain ⟨a, b, c, _⟩ := outs_held h.X.P (doS g j h.X).2.1 0 { w with Held := w.Held.set i (GHeld.mk (doS g j h.X).1 true h.Given) }
     exact ⟨(congrArg List.length a).trans List.length_set, b, c, Nat.le_refl _⟩
 · exact ⟨rfl, rfl, rfl, Nat.zero_le _⟩
theorem collect_keeps (g : GGraph) (j : GJob) (w : GWorker) (i : Nat) (h : GHeld) : (collectAt g j w i h).Held.length = w.Held.length ∧ (collectAt g j w i h).T = w.T ∧ (collectAt g j w i h).Goal = w.Goal := by
 rw [collectAt]
 cases insW w.Buf w.T.Epoch w.Goal h.X.P (List.range j.Parts.toNat) with
 | none => exact ⟨rfl, rfl, rfl⟩
 | some ins =>
  dsimp only
  rw [collectB]
  cases ieq (takeS g j h.X ins.flatten).2 0
  · exact ⟨rfl, rfl, rfl⟩
  · exact ⟨List.length_set, rfl, rfl⟩
abbrev WT3 : Type := Int × Int × Int × Int × List Int × List Int × List Int × List GHeld × List GData × List GComing × List GPost × List GDid
abbrev wt3 (w : GWorker) (a : List GDid) : WT3 := (w.Id, (w.Goal, (w.Until, (w.T.Epoch, (w.T.Owners, (w.T.Ids, (w.T.Incs, (w.Held, (w.Buf, (w.Coming, (w.Out, a)))))))))))
theorem tick_do {K : Nat} (hK : 1000000 ≤ K) (h : WI g j id n w) (hn : n ≤ 300000) :
 F14_l0_0 K g j w K w.Id w.Goal w.Until w.T.Epoch w.T.Owners w.T.Ids w.T.Incs w.Held w.Buf w.Coming w.Out [] 0 = some (wt3 (doAll g j w).1 (doAll g j w).2) ∧ WI g j id (n + 36) (doAll g j w).1 ∧ (doAll g j w).1.Held.length = w.Held.length ∧ (doAll g j w).1.T = w.T ∧ (doAll g j w).1.Goal = w.Goal := by
 have hl := h.ok.len
 let step : Nat → GWorker × List GDid → (GWorker × List GDid → Option WT3) → Option WT3 := fun i s c =>
  bif inr (i : Int) (len s.1.Held) then (elAt s.1.Held (i : Int)).bind fun x => bif x.Wait then c s else bif x.Given then c s else bif ieq x.X.Step s.1.Goal then (F33_w K s.1 g j (i : Int)).bind fun r => bif apok (len s.2) (len r.1) 24 then c (r.2, appL s.2 r.1) else none else c s else none
 have hs := scanN (N := nlen (len w.Held)) (L := fun k (s : GWorker × List GDid) i => F14_l0_0 K g j w k s.1.Id s.1.Goal s.1.Until s.1.T.Epoch s.1.T.Owners s.1.T.Ids s.1.T.Incs s.1.Held s.1.Buf s.1.Coming s.1.Out s.2 i) step (fun s => some (wt3 s.1 s.2)) (fun k s i _ => rfl) (by rw [nlen_len]; omega) (K := K) (by rw [nlen_len]; omega) (w, [])
 have hN : (nlen (len w.Held)).toNat = w.Held.length := by rw [nlen_len]; exact Int.toNat_natCast _
 rw [hN] at hs
 have e := goL_inv (step := step) (fin := fun s => some (wt3 s.1 s.2)) (fun m s => m ≤ 6 ∧ WI g j id (n + 36 - 6 * m) s.1 ∧ s.2.length + m ≤ 6 ∧ s.1.Held.length = w.Held.length ∧ s.1.T = w.T ∧ s.1.Goal = w.Goal) (doOne g j) (List.range w.Held.length) (w, []) ⟨by simp; omega, h.up (by simp; omega), by simp; omega, rfl, rfl, rfl⟩ (fun i hi m s ⟨p1, p2, p3, p4, p5, p6⟩ => by
  have hi' : i < s.1.Held.length := by rw [p4]; exact List.mem_range.1 hi
  have hy : s.1.Held[i]? = some s.1.Held[i] := List.getElem?_eq_getElem hi'
  have c1 : inr (i : Int) (len s.1.Held) = true := decide_eq_true ⟨by omega, by show (i : Int) < (s.1.Held.length : Int); omega⟩
  have c2 : elAt s.1.Held (i : Int) = some s.1.Held[i] := by rw [elAt_nat]; exact hy
  have e0 : ∀ c, step i s c = bif s.1.Held[i].Wait then c s else bif s.1.Held[i].Given then c s else bif ieq s.1.Held[i].X.Step s.1.Goal then (F33_w K s.1 g j (i : Int)).bind fun r => bif apok (len s.2) (len r.1) 24 then c (r.2, appL s.2 r.1) else none else c s := fun c => by
   show (bif inr (i : Int) (len s.1.Held) then _ else _) = _
   rw [c1, c2, cT, bS]
  have stay : (m ≤ 6 ∧ WI g j id (n + 36 - 6 * m) s.1 ∧ s.2.length + m ≤ 6 ∧ s.1.Held.length = w.Held.length ∧ s.1.T = w.T ∧ s.1.Goal = w.Goal) := ⟨by omega, p2.up om, by omega, p4, p5, p6⟩
  rw [doOne, hy]
  dsimp only
  simp only [e0]
  cases s.1.Held[i].Wait
  · cases s.1.Held[i].Given
    · cases ieq s.1.Held[i].X.Step s.1.Goal
      · exact ⟨stay, fun c => rfl⟩
      · have hsml := p2.sml om
        have hf := F33_spec hK g j s.1 i s.1.Held[i] hy (p2.hx _ (List.getElem_mem hi')) (by have := hsml.b; omega) (by have := hsml.o; omega)
        obtain ⟨k1, k2, k3, k4⟩ := do_keeps g j s.1 i s.1.Held[i]
        refine ⟨⟨by omega, (wi_do p2 hy).up om, ?_, k1.trans p4, k2.trans p5, k3.trans p6⟩, fun c => ?_⟩
        · show (s.2 ++ (doAt g j s.1 i s.1.Held[i]).1).length + m ≤ 6
          rw [List.length_append]; omega
        · simp only [cF, cT, Bool.or_false, Bool.not_true, hf, bS]
          rw [apok_small (by show s.2.length + (doAt g j s.1 i s.1.Held[i]).1.length ≤ _; omega) om]; rfl
    · exact ⟨stay, fun c => rfl⟩
  · exact ⟨stay, fun c => rfl⟩)
 obtain ⟨e1, _, e2, _, e3, e4, e5⟩ := e
 exact ⟨hs.trans e1, e2, e3, e4, e5⟩
theorem tick_col {K : Nat} (hK : 1000000 ≤ K) (hc : ieq (jcheck g j) 0 = true) (h : WI g j id n w) (hn : n ≤ 300000) (hg : i64 (w.Goal + 1)) (a : List GDid) (b : Nat) (hb : b = w.Held.length) {r : WT3} (hr : len r.2.2.2.2.2.2.2.1 = b) :
 F14_l1_1 K g j r K w.Id w.Goal w.Until w.T.Epoch w.T.Owners w.T.Ids w.T.Incs w.Held w.Buf w.Coming w.Out 0 = some (wt (colAll g j w)) ∧ WI g j id (n + 6) (colAll g j w) ∧ (colAll g j w).T = w.T := by
 have hl := h.ok.len
 obtain ⟨_, _, _, _, _, _, _, _, j6⟩ := jcheck_ok hc
 let step : Nat → GWorker → (GWorker → Option WT) → Option WT := fun i s c =>
  bif inr (i : Int) (len s.Held) then (elAt s.Held (i : Int)).bind fun x => bif x.Wait then (bif ieq x.X.Step (wadd .i64 s.Goal 1) then (F34_w K s g j (i : Int)).bind fun r => c r else c s) else c s else none
 have hs := scanN (N := nlen (len r.2.2.2.2.2.2.2.1)) (L := fun k (s : GWorker) i => F14_l1_1 K g j r k s.Id s.Goal s.Until s.T.Epoch s.T.Owners s.T.Ids s.T.Incs s.Held s.Buf s.Coming s.Out i) step (fun s => some (wt s)) (fun k s i _ => rfl) (by rw [hr]; show (b : Int) ≤ _; omega) (K := K) (by rw [hr]; show (b : Int).toNat < _; omega) w
 have hN : (nlen (len r.2.2.2.2.2.2.2.1)).toNat = w.Held.length := by rw [hr, hb]; exact Int.toNat_natCast _
 rw [hN] at hs
 have e := goL_inv (step := step) (fin := fun s => some (wt s)) (fun m s => m ≤ 6 ∧ WI g j id (n + 6 - m) s ∧ s.Held.length = w.Held.length ∧ s.T = w.T ∧ s.Goal = w.Goal) (colOne g j) (List.range w.Held.length) w ⟨by simp; omega, h.up (by simp; omega), rfl, rfl, rfl⟩ (fun i hi m s ⟨p1, p2, p4, p5, p6⟩ => by
  have hi' : i < s.Held.length := by rw [p4]; exact List.mem_range.1 hi
  have hy : s.Held[i]? = some s.Held[i] := List.getElem?_eq_getElem hi'
  have c1 : inr (i : Int) (len s.Held) = true := decide_eq_true ⟨by omega, by show (i : Int) < (s.Held.length : Int); omega⟩
  have c2 : elAt s.Held (i : Int) = some s.Held[i] := by rw [elAt_nat]; exact hy
  have c3 : wadd .i64 s.Goal 1 = s.Goal + 1 := by rw [p6]; exact wadd_ok (by have := hg.1; omega) (by have := hg.2; omega)
  have e0 : ∀ c, step i s c = bif s.Held[i].Wait then (bif ieq s.Held[i].X.Step (s.Goal + 1) then (F34_w K s g j (i : Int)).bind fun r => c r else c s) else c s := fun c => by
   show (bif inr (i : Int) (len s.Held) then _ else _) = _
   rw [c1, c2, cT, bS, c3]
  have stay : (m ≤ 6 ∧ WI g j id (n + 6 - m) s ∧ s.Held.length = w.Held.length ∧ s.T = w.T ∧ s.Goal = w.Goal) := ⟨by omega, p2.up om, p4, p5, p6⟩
  rw [colOne, hy]
  dsimp only
  simp only [e0]
  cases s.Held[i].Wait
  · exact ⟨stay, fun c => rfl⟩
  · cases ieq s.Held[i].X.Step (s.Goal + 1)
    · exact ⟨stay, fun c => rfl⟩
    · have hsml := p2.sml om
      have hf := F34_spec hK g j s i s.Held[i] hy (p2.hx _ (List.getElem_mem hi')) (by have := hsml.b; omega) p2.bd (by have := hsml.o; omega) j6
      obtain ⟨k1, k2, k3⟩ := collect_keeps g j s i s.Held[i]
      refine ⟨⟨by omega, (wi_collect p2 hy).up om, k1.trans p4, k2.trans p5, k3.trans p6⟩, fun c => ?_⟩
      simp only [cT, Bool.and_self, hf, bS])
 obtain ⟨e1, _, e2, e3, e4, e5⟩ := e
 exact ⟨hs.trans e1, e2, e4⟩
def tickW (g : GGraph) (j : GJob) (w : GWorker) (now : Int) : GWorker × List GPost × List GDid :=
 bif ieq (jcheck g j) 0 && ilt now w.Until then ({ colAll g j (doAll g j w).1 with Out := [] }, (colAll g j (doAll g j w).1).Out, (doAll g j w).2) else (w, [], [])
theorem F14_spec {K : Nat} (hK : 1000000 ≤ K) (h : WI g j id n w) (hn : n ≤ 200000) (now : Int) : F14 K g j w now = some (tickW g j w now) := by
 have hg : i64 (w.Goal + 1) := by have := h.goal; unfold i64; omega
 rw [F14, F30_spec K w (h.sml om), bS, F31_spec om, bS, tickW]
 cases hc : ieq (jcheck g j) 0
 · rfl
 · rw [cT, Bool.true_and]
   show (some (ilt now w.Until)).bind _ = _
   rw [bS]
   cases ilt now w.Until
   · rfl
   · obtain ⟨d1, d2, d3, d4, d5⟩ := tick_do hK h om
     rw [cT, cT, d1, bS]
     obtain ⟨c1, _, _⟩ := tick_col hK hc d2 om (by rw [d5]; exact hg) [] _ rfl (r := wt3 (doAll g j w).1 (doAll g j w).2) rfl
     have c1' : F14_l1_1 K g j (wt3 (doAll g j w).1 (doAll g j w).2) K (doAll g j w).1.Id (doAll g j w).1.Goal (doAll g j w).1.Until (doAll g j w).1.T.Epoch (doAll g j w).1.T.Owners (doAll g j w).1.T.Ids (doAll g j w).1.T.Incs (doAll g j w).1.Held (doAll g j w).1.Buf (doAll g j w).1.Coming (doAll g j w).1.Out 0 = _ := c1
     dsimp only [wt3] at c1' ⊢
     rw [c1']; rfl
theorem wi_tick (h : WI g j id n w) (hK : n ≤ 200000) (now : Int) : WI g j id (n + 42) (tickW g j w now).1 ∧ (tickW g j w now).1.T = w.T ∧ (∀ p ∈ (tickW g j w now).2.1, FitM 100 p.M) := by
 have hg : i64 (w.Goal + 1) := by have := h.goal; unfold i64; omega
 rw [tickW]
 cases hc : ieq (jcheck g j) 0
 · exact ⟨h.up om, rfl, fun p hp => absurd hp List.not_mem_nil⟩
 · rw [Bool.true_and]
   cases ilt now w.Until
   · exact ⟨h.up om, rfl, fun p hp => absurd hp List.not_mem_nil⟩
   · obtain ⟨_, d2, d3, d4, d5⟩ := tick_do (Nat.le_refl 1000000) h om
     obtain ⟨_, c2, c3⟩ := tick_col (Nat.le_refl 1000000) hc d2 om (by rw [d5]; exact hg) [] _ rfl (r := wt3 (doAll g j w).1 (doAll g j w).2) rfl
     exact ⟨{ c2 with ol := Nat.zero_le _, od := fun p hp => absurd hp List.not_mem_nil }, c3.trans d4, c2.od⟩
end
section
variable {g : GGraph} {j : GJob} {id : Int} {n : Nat} {w : GWorker}
theorem fit_P {K : Nat} (hK : 1000000 ≤ K) {x : GPart} (h : x.Vals.length ≤ 2000 ∧ x.Rest.length ≤ 2000 ∧ x.In.length ≤ 2000) : fitP K x := ⟨⟨by omega, by omega⟩, ⟨by omega, by omega⟩, by omega, by omega⟩
end
section
variable {g : GGraph} {j : GJob} {id : Int}
theorem great_spec (K : Nat) (g : GGraph) : F9 K g = some (ilt 200 (g.Edges.length : Int)) := by rw [F9]; rfl
end
def opS (p a b : Int) : Option Int := if p = 5 then (if 0 ≤ a ∧ 0 ≤ b ∧ a + b ≤ 9223372036854775807 then some (a + b) else none) else some (foldS p a b).1
abbrev Acc := Option (Option Int)
def accM (p : Int) : Acc → Acc → Acc
 | none, y => y
 | some x, none => some x
 | some x, some y => some (x.bind fun a => y.bind fun b => opS p a b)
def accOne (t : Int) (m : GMsg) : Acc := if m.To = t then some (some m.V) else none
def acc (p t : Int) : List GMsg → Acc
 | [] => none
 | m :: l => accM p (accOne t m) (acc p t l)
theorem cut_nice {g : GGraph} {j : GJob} {s : GState} (hn : niceS s) (p : Int) : niceP (cutS g j s p) := by
 have h0 : i64 0 := by unfold i64; omega
 refine ⟨fun v hv => ?_, fun m hm => hn.2 m (List.mem_filter.1 hm).1⟩
 obtain ⟨u, _, rfl⟩ := List.mem_map.1 hv
 rw [List.getD_eq_getElem?_getD]
 cases hq : s.Vals[u]? with
 | none => exact h0
 | some y => exact hn.1 y (List.mem_of_getElem? hq)
theorem fairS_iff {n : Int} {l : List Int} : fairS n l = true ↔ (∀ x ∈ l, 0 ≤ x ∧ x ≤ 1099511627776) ∧ (l.length : Int) ≤ n := by
 simp only [fairS, Bool.and_eq_true, List.all_eq_true, Bool.not_eq_true', ilt_f, ile_iff]
theorem mail_right {g : GGraph} {j : GJob} {x : GPart} (h : partRight g j x = true) : x.Vals.length ≤ 24 ∧ x.Rest.length = x.Vals.length ∧ x.In.length ≤ 24 ∧ sentS x.In = true ∧ 0 ≤ x.P ∧ x.P < j.Parts ∧ j.Parts ≤ 6 ∧ 0 ≤ x.Step ∧ x.Step ≤ 40 := by
 obtain ⟨hc, p0, pj, q1, q2, hv, hr, hin⟩ := partRight_ok h
 obtain ⟨hg, _, _, _, _, _, _, _, j6⟩ := jcheck_ok hc
 obtain ⟨g1, g2, _, _⟩ := gcheck_ok hg
 have hl := verts_len g j g2 x.P
 obtain ⟨i1, i2⟩ := inOkS_ok hin
 have h3 := rising_len (fun m : GMsg => m.To) g.N x.In 0 i1 fun m hm => by have := i2 m hm; omega
 have hcv : countS g j x.P = ((vertsS g j x.P).length : Int) := rfl
 refine ⟨by omega, by omega, by omega, ?_, p0, pj, j6, q1, q2⟩
 rw [sentS, Bool.and_eq_true, ile_iff]
 refine ⟨List.all_eq_true.2 fun m hm => fairS_iff.2 ⟨fun y hy => ?_, by simp⟩, by omega⟩
 rw [List.mem_singleton.1 hy]
 have := i2 m hm
 omega
structure TabOk (j : GJob) (t : GTable) : Prop where
 r : tabR t = true
 e : 0 < t.Epoch ∧ t.Epoch ≤ 1099511627776
 n : t.Owners.length = j.Parts.toNat
 o : fairS 6 t.Owners = true
 i : fairS 5 t.Ids = true
 c : fairS (t.Ids.length : Int) t.Incs = true
def loadMl (t : GTable) (x : GPart) : GMail := GMail.mk 1 t.Epoch 0 0 0 0 0 0 t.Owners t.Ids t.Incs x []
def isO (t : GTable) (me : Int) (p : Nat) : Bool := ieq (t.Owners.getD p 0) me
def heldK (g : GGraph) (j : GJob) (s : GState) (t : GTable) (me : Int) (k : Nat) : List GHeld := ((List.range k).filter (isO t me)).map fun (p : Nat) => GHeld.mk (cutS g j s (p : Int)) false false
def outK (t : GTable) (me : Int) (k : Nat) : List GPost := ((List.range k).filter (isO t me)).map fun (p : Nat) => GPost.mk 0 0 (GMail.mk 2 t.Epoch 0 0 (p : Int) 0 0 0 [] [] [] noP' [])
def loadK (g : GGraph) (j : GJob) (s : GState) (t : GTable) (me u : Int) (k : Nat) : GWorker := GWorker.mk me (-1) u (if k = 0 then noT else t) (heldK g j s t me k) [] [] (outK t me k)
section
variable {g : GGraph} {j : GJob} {s : GState} {t : GTable} {me u : Int}
theorem ins_end : ∀ (l : List GHeld) (x : GPart), (∀ h ∈ l, h.X.P < x.P) → insH l x = l ++ [GHeld.mk x false false]
 | [], x, _ => rfl
 | h :: l, x, hl => by
  have h1 : ilt h.X.P x.P = true := ilt_iff.2 (hl h List.mem_cons_self)
  have ih := ins_end l x fun y hy => hl y (List.mem_cons_of_mem _ hy)
  rw [insH] at ih ⊢
  rw [List.takeWhile_cons, List.dropWhile_cons, h1]
  simp only [if_true, List.cons_append]
  rw [ih]
theorem pos_none {α : Type} {p : α → Bool} {l : List α} (h : ∀ x ∈ l, p x = false) : posS p l = -1 := by
 rw [posS, List.findIdx?_eq_none_iff.2 h]
theorem heldK_lt {k : Nat} : ∀ h ∈ heldK g j s t me k, h.X.P < (k : Int) := fun h hh => by
 obtain ⟨p, hp, rfl⟩ := List.mem_map.1 hh
 have := List.mem_range.1 (List.mem_filter.1 hp).1
 show (p : Int) < k
 omega
theorem load_mail (ht : TabOk j t) {x : GPart} (hx : partRight g j x = true) : mailR (loadMl t x) = true := by
 obtain ⟨h1, h2, h3, h4, h5, h6, h6', h7, h8⟩ := mail_right hx
 obtain ⟨_, _, t3, t4, _⟩ := tabR_ok ht.r
 simp only [mailR, loadMl, Bool.and_eq_true, ile_iff, ieq_iff]
 refine ⟨by omega, by omega, ?_, ht.o, ht.i, ht.c, by omega, by omega, by omega, h4, by rfl⟩
 refine fairS_iff.2 ⟨fun y hy => ?_, by simp⟩
 have := ht.e
 simp only [List.mem_cons, List.not_mem_nil, or_false] at hy
 omega
theorem load_mi (ht : TabOk j t) {x : GPart} (hx : partRight g j x = true) (hn : niceP x) : MI (loadMl t x) := by
 obtain ⟨h1, h2, h3, h4, h5, h6, h6', _⟩ := mail_right hx
 obtain ⟨_, _, t3, t4, t5, _⟩ := tabR_ok ht.r
 exact ⟨⟨by show t.Owners.length ≤ 100; omega, by show t.Ids.length ≤ 100; omega, by show t.Incs.length ≤ 100; omega, by show x.Vals.length ≤ 100; omega, by show x.Rest.length ≤ 100; omega, by show x.In.length ≤ 100; omega, Nat.zero_le _⟩, by show i64 x.P; unfold i64; omega, hn, fun y hy => absurd hy List.not_mem_nil⟩
theorem tab_to (ht : tabR t = true) {k : Nat} (hk : k < t.Owners.length) : toT t (k : Int) = (t.Owners.getD k 0, incS t (t.Owners.getD k 0), 0) := by
 have e : ownT t = t := by rw [ownT, ht]; rfl
 have h1 : ilt (k : Int) 0 = false := ilt_f.2 om
 have h2 : ile (t.Owners.length : Int) (k : Int) = false := ile_f.2 om
 rw [toT, e, h1, h2, Int.toNat_natCast]; rfl
theorem put_step (ht : TabOk j t) (hr : stRight g j s = true) {k : Nat} (hk : k < j.Parts.toNat) :
 putX g j (GWorker.mk me (-1) u t (heldK g j s t me k) [] [] (outK t me k)) (loadMl t (cutS g j s (k : Int))) = loadK g j s t me u (k + 1) := by
 have hx := cut_right hr (p := k) om
 have e1 : toT t (k : Int) = _ := tab_to ht.r (by rw [ht.n]; exact hk)
 have e2 : atHd (heldK g j s t me k) (k : Int) = -1 := pos_none fun h hh => by
  have := heldK_lt h hh
  exact ieq_f.2 om
 have e3 : mineS g j (GWorker.mk me (-1) u t (heldK g j s t me k) [] [] (outK t me k)) (cutS g j s (k : Int)) = isO t me k := by
  show (ieq (toT t (k : Int)).2.2 0 && (ieq (toT t (k : Int)).1 me && (partRight g j _ && ilt (atHd (heldK g j s t me k) (k : Int)) 0))) = _
  rw [e1, e2, hx, isO]
  cases ieq (t.Owners.getD k 0) me <;> rfl
 have eh : heldK g j s t me (k + 1) = heldK g j s t me k ++ ([k].filter (isO t me)).map fun (p : Nat) => GHeld.mk (cutS g j s (p : Int)) false false := by
  rw [heldK, List.range_succ, List.filter_append, List.map_append]; rfl
 have eo : outK t me (k + 1) = outK t me k ++ ([k].filter (isO t me)).map fun (p : Nat) => GPost.mk 0 0 (GMail.mk 2 t.Epoch 0 0 (p : Int) 0 0 0 [] [] [] noP' []) := by
  rw [outK, List.range_succ, List.filter_append, List.map_append]; rfl
 rw [loadK, if_neg om, eh, eo, putX]
 show (bif mineS g j _ (cutS g j s (k : Int)) then _ else _) = _
 rw [e3]
 cases ho : isO t me k
 · have : [k].filter (isO t me) = [] := by rw [List.filter_cons, ho]; rfl
   rw [this]; simp
 · have : [k].filter (isO t me) = [k] := by rw [List.filter_cons, ho]; rfl
   rw [this, cT, postS]
   show GWorker.mk me (-1) u t (insH (heldK g j s t me k) (cutS g j s (k : Int))) [] [] _ = _
   rw [ins_end _ _ heldK_lt]; rfl
theorem load_step (ht : TabOk j t) (hr : stRight g j s = true) {k : Nat} (hk : k < j.Parts.toNat) : takeW g j (loadK g j s t me u k) (loadMl t (cutS g j s (k : Int))) = loadK g j s t me u (k + 1) := by
 obtain ⟨hc, _⟩ := stRight_ok hr
 have hx := cut_right hr (p := k) om
 have hm := load_mail ht hx
 have htab : tableS j t.Epoch (loadMl t (cutS g j s (k : Int))) = (t, true) := by
  have e : GTable.mk t.Epoch t.Owners t.Ids t.Incs = t := rfl
  rw [tableS]
  show (GTable.mk t.Epoch t.Owners t.Ids t.Incs, tabR (GTable.mk t.Epoch t.Owners t.Ids t.Incs) && (ilt 0 t.Epoch && ieq (t.Owners.length : Int) j.Parts)) = _
  rw [e, ht.r, ilt_iff.2 ht.e.1, ieq_iff.2 (by have := ht.n; omega)]; rfl
 rw [takeW, hc, hm]
 show loadS g j _ _ = _
 rw [loadS]
 show (bif (tableS j t.Epoch _).2 then (bif ilt t.Epoch _ then _ else bif ilt _ t.Epoch then _ else _) else _) = _
 rw [htab, cT]
 rw [← put_step (u := u) (me := me) ht hr hk]
 by_cases h0 : k = 0
 · subst h0
   have q1 : ilt t.Epoch (loadK g j s t me u 0).T.Epoch = false := ilt_f.2 (by show (0 : Int) ≤ t.Epoch; have := ht.e; omega)
   have q2 : ilt (loadK g j s t me u 0).T.Epoch t.Epoch = true := ilt_iff.2 (by show (0 : Int) < t.Epoch; exact ht.e.1)
   rw [q1, q2, cF, cT]
   show putX g j (sinceS (GWorker.mk me (-1) u (tableS j t.Epoch (loadMl t (cutS g j s ((0 : Nat) : Int)))).1 [] [] [] []) t.Epoch) _ = _
   rw [htab]; rfl
 · have q0 : (loadK g j s t me u k).T = t := if_neg h0
   have q1 : ilt t.Epoch (loadK g j s t me u k).T.Epoch = false := ilt_f.2 (by rw [q0]; omega)
   have q2 : ilt (loadK g j s t me u k).T.Epoch t.Epoch = false := ilt_f.2 (by rw [q0]; omega)
   rw [q1, q2, cF, cF, loadK, if_neg h0]
theorem load_wi (ht : TabOk j t) (hr : stRight g j s = true) (hn : niceS s) : ∀ k, k ≤ j.Parts.toNat → WI g j me k (loadK g j s t me u k)
 | 0, _ => by
  rw [loadK, if_pos rfl]
  exact ⟨rfl, ⟨by show (-1 : Int) ≤ -1; omega, by show (-1 : Int) ≤ _; omega⟩, noT_right, HOk.nil, fun h hh => absurd hh List.not_mem_nil, Nat.le_refl _, fun h hh => absurd hh List.not_mem_nil, Nat.le_refl _, fun h hh => absurd hh List.not_mem_nil, Nat.le_refl _, fun h hh => absurd hh List.not_mem_nil⟩
 | k + 1, hk => by
  rw [← load_step ht hr om]
  exact wi_take (load_wi ht hr hn k om) (load_mi ht (cut_right hr om) (cut_nice hn _))
theorem load_take {K : Nat} (hK : 1000000 ≤ K) (ht : TabOk j t) (hr : stRight g j s = true) (hn : niceS s) {k : Nat} (hk : k < j.Parts.toNat) : F18 K g j (loadK g j s t me u k) (loadMl t (cutS g j s (k : Int))) = some (loadK g j s t me u (k + 1)) := by
 have hW := load_wi (me := me) (u := u) ht hr hn k om
 have hm := load_mi ht (cut_right hr (p := k) om) (cut_nice hn _)
 have h6 : k ≤ 1000 := by obtain ⟨hc, _⟩ := stRight_ok hr; have := jcheck_ok hc; omega
 rw [F18_spec hK g j _ _ (hW.sml om) hW.hx hW.cd (hm.f.up om) hm.p, load_step ht hr hk]
end
def owF (f : List Bool) (p : Nat) : Int := bif f.getD p false then 2 else 1
def tabF (j : GJob) (e : Int) (f : List Bool) : GTable := GTable.mk e ((List.range j.Parts.toNat).map (owF f)) [1, 2] [3, 4]
theorem owF_or (f : List Bool) (p : Nat) : owF f p = 1 ∨ owF f p = 2 := by
 rw [owF]; cases f.getD p false
 · exact .inl rfl
 · exact .inr rfl
theorem tabF_at (j : GJob) (e : Int) (f : List Bool) {p : Nat} (h : p < j.Parts.toNat) : (tabF j e f).Owners.getD p 0 = owF f p := by
 show ((List.range j.Parts.toNat).map (owF f)).getD p 0 = _
 rw [List.getD_eq_getElem?_getD, List.getElem?_map, List.getElem?_range h]; rfl
theorem tabF_ok {g : GGraph} {j : GJob} (hc : ieq (jcheck g j) 0 = true) {e : Int} (he : 0 < e ∧ e ≤ 1099511627776) (f : List Bool) : TabOk j (tabF j e f) := by
 obtain ⟨_, _, _, _, _, _, _, p7, p8⟩ := jcheck_ok hc
 have hl : (tabF j e f).Owners.length = j.Parts.toNat := by simp [tabF]
 have hm : ∀ o ∈ (tabF j e f).Owners, o = 1 ∨ o = 2 := fun o ho => by
  obtain ⟨p, _, rfl⟩ := List.mem_map.1 ho
  exact owF_or f p
 refine ⟨?_, he, hl, fairS_iff.2 ⟨fun o ho => by rcases hm o ho with rfl | rfl <;> omega, by omega⟩, by show fairS 5 [1, 2] = true; decide, by show fairS 2 [3, 4] = true; decide⟩
 have h1 : (tabF j e f).Owners.all (fun o => !(ilt (findS [1, 2] o) 0)) = true := List.all_eq_true.2 fun o ho => by rcases hm o ho with rfl | rfl <;> decide
 have h2 : ilt 6 ((tabF j e f).Owners.length : Int) = false := ilt_f.2 om
 have h3 : ilt e 0 = false := ilt_f.2 om
 have h4 : ilt 1099511627776 e = false := ilt_f.2 om
 show (!(ilt e 0) && (!(ilt 1099511627776 e) && (!(ilt 5 2) && (ieq 2 2 && (!(ilt 6 ((tabF j e f).Owners.length : Int)) && (risesS 0 [1, 2] [3, 4] && (tabF j e f).Owners.all fun o => !(ilt (findS [1, 2] o) 0))))))) = true
 rw [h1, h2, h3, h4]; decide
theorem set_key : ∀ {l : List GHeld}, l.Pairwise (fun a b => a.X.P ≠ b.X.P) → ∀ {h : GHeld}, h ∈ l → ∀ (y : GHeld),
 ∃ q : Nat, atHd l h.X.P = (q : Int) ∧ l[q]? = some h ∧ l.set q y = l.map (fun z => bif ieq z.X.P h.X.P then y else z)
 | [], _, h, hm, y => absurd hm List.not_mem_nil
 | a :: l, hs, h, hm, y => by
  rw [List.pairwise_cons] at hs
  rcases List.mem_cons.1 hm with rfl | hm
  · have e : ieq h.X.P h.X.P = true := ieq_iff.2 rfl
    refine ⟨0, ?_, rfl, ?_⟩
    · rw [atHd, posS, List.findIdx?_cons]; simp only [e, if_true]
    · rw [List.set_cons_zero, List.map_cons, e, cT]
      congr 1
      exact (List.map_id' l).symm.trans (List.map_congr_left fun z hz => by rw [ieq_f.2 (hs.1 z hz).symm]; rfl)
  · obtain ⟨q, h1, h2, h3⟩ := set_key hs.2 hm y
    have e : ieq a.X.P h.X.P = false := ieq_f.2 (hs.1 h hm)
    refine ⟨q + 1, ?_, by rw [List.getElem?_cons_succ]; exact h2, ?_⟩
    · rw [atHd, posS] at h1 ⊢
      rw [List.findIdx?_cons]
      simp only [e, Bool.false_eq_true, if_false]
      cases hf : l.findIdx? (fun z => ieq z.X.P h.X.P) with
      | none => rw [hf] at h1; simp only at h1; omega
      | some r => rw [hf] at h1; simp only [Option.map_some] at h1 ⊢; omega
    · rw [List.set_cons_succ, List.map_cons, e, cF, h3]
section
variable {g : GGraph} {j : GJob} {s : GState} {me : Int} {a b : List Bool}
def noG : GPart := GPart.mk 0 0 [] [] []
def movP (a b : List Bool) (p : Nat) : Bool := !(ieq (owF a p) (owF b p))
def giveMl (b : List Bool) (p : Nat) : GMail := GMail.mk 6 5 0 0 (p : Int) 0 (owF b p) 0 [] [1, 2] [3, 4] noG []
def takeMl (g : GGraph) (j : GJob) (s : GState) (p : Nat) : GMail := GMail.mk 7 5 0 0 0 0 0 0 [] [] [] (cutS g j s (p : Int)) []
def gotMl (p : Nat) : GMail := GMail.mk 8 5 0 0 (p : Int) 0 0 0 [] [] [] noP' []
def heldG (g : GGraph) (j : GJob) (s : GState) (a b : List Bool) (me : Int) (k : Nat) : List GHeld :=
 ((List.range j.Parts.toNat).filter (isO (tabF j 5 a) me)).map fun (p : Nat) => GHeld.mk (cutS g j s (p : Int)) false (decide (p < k) && movP a b p)
def postG (g : GGraph) (j : GJob) (s : GState) (b : List Bool) (p : Nat) : GPost := GPost.mk (owF b p) (bif b.getD p false then 4 else 3) (takeMl g j s p)
def outG (g : GGraph) (j : GJob) (s : GState) (a b : List Bool) (me : Int) (k : Nat) : List GPost :=
 outK (tabF j 5 a) me j.Parts.toNat ++ ((List.range k).filter (fun p => isO (tabF j 5 a) me p && movP a b p)).map (postG g j s b)
def giveW (g : GGraph) (j : GJob) (s : GState) (a b : List Bool) (me : Int) (k : Nat) : GWorker :=
 GWorker.mk me (-1) 9 (tabF j 5 a) (heldG g j s a b me k) [] [] (outG g j s a b me k)
theorem give_zero (hn : 0 < j.Parts.toNat) : loadK g j s (tabF j 5 a) me 9 j.Parts.toNat = giveW g j s a b me 0 := by
 rw [loadK, if_neg om, giveW, outG, List.range_zero, List.filter_nil, List.map_nil, List.append_nil]
 rfl
theorem heldG_ne (k : Nat) : (heldG g j s a b me k).Pairwise (fun x y => x.X.P ≠ y.X.P) := by
 rw [heldG, List.pairwise_map]
 refine (List.Pairwise.filter _ List.pairwise_lt_range).imp ?_
 intro x y h e
 have e' : (x : Int) = (y : Int) := e
 omega
theorem give_mail (hc : ieq (jcheck g j) 0 = true) {p : Nat} (hp : p < j.Parts.toNat) : mailR (giveMl b p) = true := by
 obtain ⟨_, _, _, _, _, _, _, p7, p8⟩ := jcheck_ok hc
 have ho : 0 ≤ owF b p ∧ owF b p ≤ 2 := by rcases owF_or b p with h | h <;> omega
 simp only [mailR, giveMl, noG, Bool.and_eq_true, ile_iff, ieq_iff]
 refine ⟨by omega, by omega, ?_, by decide, by decide, by decide, by simp, by simp, by simp, by decide, by rfl⟩
 refine fairS_iff.2 ⟨fun y hy => ?_, by simp⟩
 simp only [List.mem_cons, List.not_mem_nil, or_false] at hy
 omega
theorem give_mi (b : List Bool) (p : Nat) : MI (giveMl b p) :=
 ⟨⟨by simp [giveMl], by simp [giveMl], by simp [giveMl], by simp [giveMl, noG], by simp [giveMl, noG], by simp [giveMl, noG], by simp [giveMl]⟩, by show i64 0; unfold i64; omega, ⟨fun v hv => absurd hv List.not_mem_nil, fun v hv => absurd hv List.not_mem_nil⟩, fun y hy => absurd hy List.not_mem_nil⟩
theorem heldG_stay {k : Nat} (h : (isO (tabF j 5 a) me k && movP a b k) = false) : heldG g j s a b me (k + 1) = heldG g j s a b me k := by
 rw [heldG, heldG]
 refine List.map_congr_left fun p hp => ?_
 have hp' := (List.mem_filter.1 hp).2
 by_cases e : p = k
 · subst e
   rw [hp', Bool.true_and] at h
   rw [h, Bool.and_false, Bool.and_false]
 · rw [show (decide (p < k + 1)) = decide (p < k) by rw [decide_eq_decide]; omega]
theorem outG_stay {k : Nat} (h : (isO (tabF j 5 a) me k && movP a b k) = false) : outG g j s a b me (k + 1) = outG g j s a b me k := by
 have : [k].filter (fun p => isO (tabF j 5 a) me p && movP a b p) = [] := by rw [List.filter_cons, h]; rfl
 rw [outG, List.range_succ, List.filter_append, this, List.append_nil]; rfl
theorem give_stay {k : Nat} (h : (isO (tabF j 5 a) me k && movP a b k) = false) : giveW g j s a b me (k + 1) = giveW g j s a b me k := by
 rw [giveW, heldG_stay h, outG_stay h]; rfl
theorem give_step (hr : stRight g j s = true) {k : Nat} (hk : k < j.Parts.toNat) (hm : movP a b k = true) :
 takeW g j (giveW g j s a b me k) (giveMl b k) = giveW g j s a b me (k + 1) := by
 obtain ⟨hc, _⟩ := stRight_ok hr
 rw [takeW, hc, give_mail hc hk]
 show giveS (giveW g j s a b me k) (giveMl b k) = _
 have e5 : ieq (giveMl b k).Epoch (giveW g j s a b me k).T.Epoch = true := rfl
 rw [giveS, e5, Bool.true_and]
 show (bif !(ilt (atHd (heldG g j s a b me k) (k : Int)) 0) then _ else _) = _
 cases ho : isO (tabF j 5 a) me k
 · have h1 : atHd (heldG g j s a b me k) (k : Int) = -1 := pos_none fun h hh => by
    obtain ⟨p, hp, rfl⟩ := List.mem_map.1 hh
    refine ieq_f.2 fun e => ?_
    have e' : (p : Int) = (k : Int) := e
    have hp' := (List.mem_filter.1 hp).2
    rw [show p = k by omega, ho] at hp'; cases hp'
   rw [h1]
   exact (give_stay (by rw [ho]; rfl)).symm
 · have hmem : GHeld.mk (cutS g j s (k : Int)) false false ∈ heldG g j s a b me k := by
    refine List.mem_map.2 ⟨k, List.mem_filter.2 ⟨List.mem_range.2 hk, ho⟩, ?_⟩
    rw [show decide (k < k) = false from decide_eq_false om, Bool.false_and]
   obtain ⟨q, h1, h2, h3⟩ := set_key (heldG_ne k) hmem (GHeld.mk (cutS g j s (k : Int)) false true)
   have h1' : atHd (heldG g j s a b me k) (k : Int) = (q : Int) := h1
   have h0 : ilt (q : Int) 0 = false := ilt_f.2 om
   have ht : ilt (findS [1, 2] (owF b k)) 0 = false := by rcases owF_or b k with h | h <;> rw [h] <;> decide
   rw [h1', h0, Bool.not_false, cT]
   show (match (heldG g j s a b me k)[(atHd (heldG g j s a b me k) (k : Int)).toNat]? with | some h => giveAt (giveW g j s a b me k) (giveMl b k) h | none => giveW g j s a b me k) = _
   rw [h1', Int.toNat_natCast, h2]
   show giveAt (giveW g j s a b me k) (giveMl b k) (GHeld.mk (cutS g j s (k : Int)) false false) = _
   rw [giveAt]
   show (bif (false || (false || ilt (findS [1, 2] (owF b k)) 0)) then _ else _) = _
   rw [ht]
   show GWorker.mk me (-1) 9 (tabF j 5 a) ((heldG g j s a b me k).set (atHd (heldG g j s a b me k) (k : Int)).toNat (GHeld.mk (cutS g j s (k : Int)) false true)) [] [] (outG g j s a b me k ++ [GPost.mk (owF b k) (([3, 4] : List Int).getD (findS [1, 2] (owF b k)).toNat 0) (takeMl g j s k)]) = _
   rw [h1', Int.toNat_natCast, h3, giveW]
   congr 1
   · rw [heldG, List.map_map, heldG]
     refine List.map_congr_left fun p hp => ?_
     show (bif ieq (p : Int) (k : Int) then _ else _) = _
     by_cases e : p = k
     · subst e
       rw [ieq_iff.2 rfl, cT, hm, show decide (p < p + 1) = true from decide_eq_true om]; rfl
     · rw [ieq_f.2 om, cF, show (decide (p < k + 1)) = decide (p < k) by rw [decide_eq_decide]; omega]
   · have hf : [k].filter (fun p => isO (tabF j 5 a) me p && movP a b p) = [k] := by rw [List.filter_cons, ho, hm]; rfl
     rw [outG, outG, List.range_succ, List.filter_append, hf, List.map_append, List.append_assoc]
     congr 2
     show [GPost.mk (owF b k) (([3, 4] : List Int).getD (findS [1, 2] (owF b k)).toNat 0) (takeMl g j s k)] = [postG g j s b k]
     rw [postG, owF]
     cases b.getD k false <;> rfl
end
section
variable {g : GGraph} {j : GJob} {s : GState} {me : Int} {a b : List Bool}
theorem fold_id {α β : Type} {f : β → α → β} {s : β} : ∀ (l : List α), (∀ x ∈ l, f s x = s) → l.foldl f s = s
 | [], _ => rfl
 | x :: l, h => by rw [List.foldl_cons, h x List.mem_cons_self]; exact fold_id l fun y hy => h y (List.mem_cons_of_mem _ hy)
theorem idle_tick {w : GWorker} {now : Int} (hc : ieq (jcheck g j) 0 = true) (hu : ilt now w.Until = true) (hh : ∀ h ∈ w.Held, h.Wait = false ∧ ieq h.X.Step w.Goal = false) :
 tickW g j w now = ({ w with Out := [] }, w.Out, []) := by
 have h1 : doAll g j w = (w, []) := fold_id _ fun i _ => by
  rw [doOne]
  show (match w.Held[i]? with | some h => bif h.Wait || (h.Given || !(ieq h.X.Step w.Goal)) then (w, []) else ((doAt g j w i h).2, [] ++ (doAt g j w i h).1) | none => (w, [])) = _
  cases hq : w.Held[i]? with
  | none => rfl
  | some h =>
   obtain ⟨q1, q2⟩ := hh h (List.mem_of_getElem? hq)
   dsimp only
   rw [q1, q2, Bool.not_false, Bool.or_true, Bool.or_true, cT]
 have h2 : colAll g j w = w := fold_id _ fun i _ => by
  rw [colOne]
  cases hq : w.Held[i]? with
  | none => rfl
  | some h =>
   obtain ⟨q1, q2⟩ := hh h (List.mem_of_getElem? hq)
   dsimp only
   rw [q1]; rfl
 rw [tickW, hc, hu, h1]
 show ({ colAll g j w with Out := [] }, (colAll g j w).Out, []) = _
 rw [h2]
def finW (g : GGraph) (j : GJob) (s : GState) (a b : List Bool) (me : Int) (ps : List Nat) (out : List GPost) : GWorker :=
 GWorker.mk me (-1) 9 (tabF j 5 a) (heldG g j s a b me j.Parts.toNat) [] (ps.map fun (p : Nat) => GComing.mk 5 (cutS g j s (p : Int))) out
theorem give_fin : giveW g j s a b me j.Parts.toNat = finW g j s a b me [] (outG g j s a b me j.Parts.toNat) := rfl
theorem fin_tick (hr : stRight g j s = true) (ps : List Nat) (out : List GPost) : tickW g j (finW g j s a b me ps out) 1 = (finW g j s a b me ps [], out, []) := by
 obtain ⟨hc, s1, _⟩ := stRight_ok hr
 refine idle_tick hc (show ilt 1 9 = true by decide) fun h hh => ?_
 obtain ⟨p, _, rfl⟩ := List.mem_map.1 hh
 exact ⟨rfl, ieq_f.2 (by show s.Step ≠ -1; omega)⟩
theorem take_mail (hr : stRight g j s = true) {p : Nat} (hp : p < j.Parts.toNat) : mailR (takeMl g j s p) = true := by
 have hx := cut_right hr (p := p) om
 obtain ⟨h1, h2, h3, h4, h5, h6, h6', h7, h8⟩ := mail_right hx
 simp only [mailR, takeMl, Bool.and_eq_true, ile_iff, ieq_iff]
 refine ⟨by omega, by omega, ?_, by decide, by decide, by decide, by simp, by omega, by omega, h4, by rfl⟩
 refine fairS_iff.2 ⟨fun y hy => ?_, by simp⟩
 simp only [List.mem_cons, List.not_mem_nil, or_false] at hy
 omega
theorem take_mi (hr : stRight g j s = true) (hn : niceS s) {p : Nat} (hp : p < j.Parts.toNat) : MI (takeMl g j s p) := by
 have hx := cut_right hr (p := p) om
 obtain ⟨h1, h2, h3, h4, h5, h6, h6', _⟩ := mail_right hx
 exact ⟨⟨Nat.zero_le _, Nat.zero_le _, Nat.zero_le _, by show (cutS g j s (p : Int)).Vals.length ≤ 100; omega, by show (cutS g j s (p : Int)).Rest.length ≤ 100; omega, by show (cutS g j s (p : Int)).In.length ≤ 100; omega, Nat.zero_le _⟩, by show i64 (p : Int); unfold i64; omega, cut_nice hn _, fun y hy => absurd hy List.not_mem_nil⟩
def gotP (p : Nat) : GPost := GPost.mk 0 0 (gotMl p)
theorem take_one (hr : stRight g j s = true) {ps : List Nat} {out : List GPost} {p : Nat} (hp : p < j.Parts.toNat) (hd : ∀ q ∈ ps, q ≠ p) :
 takeW g j (finW g j s a b me ps out) (takeMl g j s p) = finW g j s a b me (ps ++ [p]) (out ++ [gotP p]) := by
 obtain ⟨hc, _⟩ := stRight_ok hr
 rw [takeW, hc, take_mail hr hp]
 show takeQ _ _ = _
 rw [takeQ]
 have h1 : ilt (takeMl g j s p).Epoch (finW g j s a b me ps out).T.Epoch = false := rfl
 have h2 : (finW g j s a b me ps out).Coming.any (isC (takeMl g j s p).Epoch (takeMl g j s p).X.P) = false := by
  rw [List.any_eq_false]
  intro c hc
  obtain ⟨q, hq, rfl⟩ := List.mem_map.1 hc
  have : ieq (q : Int) (p : Int) = false := ieq_f.2 (by have := hd q hq; omega)
  show ¬ (ieq 5 5 && ieq (q : Int) (p : Int)) = true
  rw [this, Bool.and_false]; decide
 rw [h1, h2, Bool.or_false, cF, finW, finW, List.map_append]
 rfl
theorem take_list (hr : stRight g j s = true) : ∀ (l ps : List Nat) (out : List GPost), (∀ p ∈ l, p < j.Parts.toNat) → (ps ++ l).Pairwise (· ≠ ·) →
 l.foldl (fun w p => takeW g j w (takeMl g j s p)) (finW g j s a b me ps out) = finW g j s a b me (ps ++ l) (out ++ l.map gotP)
 | [], ps, out, _, _ => by rw [List.append_nil, List.map_nil, List.append_nil]; rfl
 | p :: l, ps, out, hl, hd => by
  have hd' := List.pairwise_append.1 hd
  rw [List.foldl_cons, take_one hr (hl p List.mem_cons_self) fun q hq => hd'.2.2 q hq p List.mem_cons_self,
   take_list hr l (ps ++ [p]) (out ++ [gotP p]) (fun q hq => hl q (List.mem_cons_of_mem _ hq)) (by rw [List.append_assoc]; exact hd), List.append_assoc, List.append_assoc]
  rfl
def gvL (j : GJob) (a b : List Bool) (me : Int) : List Nat := (List.range j.Parts.toNat).filter (fun p => isO (tabF j 5 a) me p && movP a b p)
theorem gv_lt {p : Nat} (h : p ∈ gvL j a b me) : p < j.Parts.toNat := List.mem_range.1 (List.mem_filter.1 h).1
theorem gv_ne (j : GJob) (a b : List Bool) (me : Int) : (gvL j a b me).Pairwise (· ≠ ·) := (List.Pairwise.filter _ List.pairwise_lt_range).imp fun h => by omega
def relP (me : Int) (p : GPost) : Bool := ieq p.To (3 - me) && ieq p.Inc (5 - me)
theorem gv_own {p : Nat} (h : p ∈ gvL j a b me) : owF a p = me ∧ owF b p ≠ me := by
 obtain ⟨h1, h2⟩ := List.mem_filter.1 h
 obtain ⟨h3, h4⟩ := Bool.and_eq_true_iff.1 h2
 have h5 := ieq_iff.1 h3
 rw [tabF_at j 5 a (List.mem_range.1 h1)] at h5
 refine ⟨h5, fun e => ?_⟩
 rw [movP, h5, e, ieq_iff.2 rfl] at h4; cases h4
theorem rel_none {l : List GPost} (hm : me = 1 ∨ me = 2) (h : ∀ p ∈ l, p.To = 0) : l.filter (relP me) = [] := List.filter_eq_nil_iff.2 fun p hp => by
 rw [relP, h p hp, ieq_f.2 om]; simp
theorem rel_out (hm : me = 1 ∨ me = 2) (ps : List Nat) : (outG g j s a b me j.Parts.toNat ++ ps.map gotP).filter (relP me) = (gvL j a b me).map (postG g j s b) := by
 have h1 : (ps.map gotP).filter (relP me) = [] := rel_none hm fun p hp => by obtain ⟨q, _, rfl⟩ := List.mem_map.1 hp; rfl
 have h2 : (outK (tabF j 5 a) me j.Parts.toNat).filter (relP me) = [] := rel_none hm fun p hp => by obtain ⟨q, _, rfl⟩ := List.mem_map.1 hp; rfl
 rw [List.filter_append, h1, List.append_nil, outG, List.filter_append, h2, List.nil_append]
 refine List.filter_eq_self.2 fun p hp => ?_
 obtain ⟨q, hq, rfl⟩ := List.mem_map.1 hp
 obtain ⟨_, q2⟩ := gv_own (j := j) hq
 rw [relP, postG]
 show (ieq (owF b q) (3 - me) && ieq (bif b.getD q false then 4 else 3) (5 - me)) = true
 rw [owF] at q2 ⊢
 rcases hm with rfl | rfl <;> cases hb : b.getD q false <;> rw [hb] at q2 <;> first | rfl | exact absurd rfl q2
def chgMl (j : GJob) (b : List Bool) : GMail := GMail.mk 9 5 6 0 0 0 0 0 (tabF j 6 b).Owners [1, 2] [3, 4] noG []
theorem chg_mail (hc : ieq (jcheck g j) 0 = true) : mailR (chgMl j b) = true := by
 have ht := tabF_ok hc (e := 6) om b
 simp only [mailR, chgMl, noG, Bool.and_eq_true, ile_iff, ieq_iff]
 refine ⟨by omega, by omega, ?_, ht.o, by decide, by decide, by simp, by simp, by simp, by decide, by rfl⟩
 refine fairS_iff.2 ⟨fun y hy => ?_, by simp⟩
 simp only [List.mem_cons, List.not_mem_nil, or_false] at hy
 omega
theorem chg_mi (hc : ieq (jcheck g j) 0 = true) : MI (chgMl j b) := by
 have ht := tabF_ok hc (e := 6) om b
 obtain ⟨_, _, _, _, _, _, _, p7, p8⟩ := jcheck_ok hc
 have hl : (tabF j 6 b).Owners.length = j.Parts.toNat := ht.n
 exact ⟨⟨by show (tabF j 6 b).Owners.length ≤ 100; omega, by simp [chgMl], by simp [chgMl], by simp [chgMl, noG], by simp [chgMl, noG], by simp [chgMl, noG], by simp [chgMl]⟩, by show i64 0; unfold i64; omega, ⟨fun v hv => absurd hv List.not_mem_nil, fun v hv => absurd hv List.not_mem_nil⟩, fun y hy => absurd hy List.not_mem_nil⟩
theorem hold_all {t : GTable} : ∀ (l : List GPart) (w : GWorker), w.T = t → (∀ x ∈ l, ieq (toT t x.P).2.2 0 = true ∧ (toT t x.P).1 = w.Id ∧ partRight g j x = true) → l.Pairwise (fun x y => x.P ≠ y.P) → (∀ h ∈ w.Held, ∀ x ∈ l, h.X.P ≠ x.P) →
 (l.foldl (holdX g j) w).Held.length = w.Held.length + l.length ∧ (∀ h ∈ (l.foldl (holdX g j) w).Held, h ∈ w.Held ∨ h.X ∈ l) ∧ (l.foldl (holdX g j) w).T = t
 | [], w, ht, _, _, _ => ⟨rfl, fun h hh => .inl hh, ht⟩
 | x :: l, w, ht, hx, hp, hd => by
  obtain ⟨x1, x2, x3⟩ := hx x List.mem_cons_self
  have hm : mineS g j w x = true := by
   rw [mineS, ht, x1, x2, x3, ieq_iff.2 rfl, atHd_neg.2 fun h hh => hd h hh x List.mem_cons_self]; rfl
  have e : holdX g j w x = { w with Held := insH w.Held x } := by rw [holdX, hm]; rfl
  obtain ⟨p1, p2⟩ := List.pairwise_cons.1 hp
  obtain ⟨i1, i2, i3⟩ := hold_all (t := t) l (holdX g j w x) (by rw [e]; exact ht) (fun y hy => by rw [e]; exact hx y (List.mem_cons_of_mem _ hy)) p2 fun h hh y hy => by
   rw [e] at hh
   rcases mem_insH.1 hh with hh | rfl
   · exact hd h hh y (List.mem_cons_of_mem _ hy)
   · exact p1 y hy
  rw [List.foldl_cons]
  refine ⟨?_, fun h hh => ?_, i3⟩
  · rw [i1, e]
    show (insH w.Held x).length + _ = _
    rw [insH_len, List.length_cons]; omega
  · rcases i2 h hh with h1 | h1
    · rw [e] at h1
      rcases mem_insH.1 h1 with h1 | rfl
      · exact .inl h1
      · exact .inr List.mem_cons_self
    · exact .inr (List.mem_cons_of_mem _ h1)
def stayL (j : GJob) (a b : List Bool) (me : Int) : List Nat := (List.range j.Parts.toNat).filter (fun p => isO (tabF j 5 a) me p && !(movP a b p))
theorem fin_change (hr : stRight g j s = true) (hm : me = 1 ∨ me = 2) (out : List GPost) :
 (takeW g j (finW g j s a b me (gvL j a b (3 - me)) out) (chgMl j b)).Held.length = (stayL j a b me).length + (gvL j a b (3 - me)).length ∧
 (takeW g j (finW g j s a b me (gvL j a b (3 - me)) out) (chgMl j b)).T.Epoch = 6 ∧
 ∀ h ∈ (takeW g j (finW g j s a b me (gvL j a b (3 - me)) out) (chgMl j b)).Held, ∃ p : Nat, p < j.Parts.toNat ∧ owF b p = me ∧ h.X = cutS g j s (p : Int) := by
 obtain ⟨hc, _⟩ := stRight_ok hr
 have ht := tabF_ok hc (e := 6) om b
 have htab : tableS j 6 (chgMl j b) = (tabF j 6 b, true) := by
  rw [tableS]
  show (tabF j 6 b, tabR (tabF j 6 b) && (ilt 0 6 && ieq ((tabF j 6 b).Owners.length : Int) j.Parts)) = _
  rw [ht.r, ieq_iff.2 (by have := ht.n; have := jcheck_ok hc; omega)]; rfl
 have hrest : restH (finW g j s a b me (gvL j a b (3 - me)) out) (chgMl j b) ++ restC (finW g j s a b me (gvL j a b (3 - me)) out) (chgMl j b) = (stayL j a b me ++ gvL j a b (3 - me)).map fun (p : Nat) => cutS g j s (p : Int) := by
  rw [List.map_append]
  congr 1
  · rw [restH]
    show ((heldG g j s a b me j.Parts.toNat).filter fun h => ieq 5 5 && (!(h.Wait) && !(h.Given))).map (·.X) = _
    rw [heldG, List.filter_map, List.map_map, List.filter_filter, stayL]
    congr 1
    refine List.filter_congr fun p hp => ?_
    show (ieq 5 5 && (!false && !(decide (p < j.Parts.toNat) && movP a b p)) && isO (tabF j 5 a) me p) = _
    rw [decide_eq_true (List.mem_range.1 hp), Bool.true_and, Bool.and_comm]; rfl
  · rw [restC]
    show (((gvL j a b (3 - me)).map fun (p : Nat) => GComing.mk 5 (cutS g j s (p : Int))).filter fun c => ieq c.Epoch 5).map (·.X) = _
    rw [List.filter_eq_self.2 fun c hc => by obtain ⟨q, _, rfl⟩ := List.mem_map.1 hc; rfl, List.map_map]; rfl
 have hown : ∀ p ∈ stayL j a b me ++ gvL j a b (3 - me), p < j.Parts.toNat ∧ owF b p = me := fun p hp => by
  rcases List.mem_append.1 hp with hp | hp
  · obtain ⟨h1, h2⟩ := List.mem_filter.1 hp
    obtain ⟨h3, h4⟩ := Bool.and_eq_true_iff.1 h2
    have h5 := ieq_iff.1 h3
    rw [tabF_at j 5 a (List.mem_range.1 h1)] at h5
    rw [movP, Bool.not_not] at h4
    exact ⟨List.mem_range.1 h1, by rw [← ieq_iff.1 h4]; exact h5⟩
  · obtain ⟨q1, q2⟩ := gv_own hp
    refine ⟨gv_lt hp, ?_⟩
    rcases owF_or b p with h | h <;> rcases hm with rfl | rfl <;> omega
 have hdist : (stayL j a b me ++ gvL j a b (3 - me)).Pairwise (· ≠ ·) := by
  refine List.pairwise_append.2 ⟨(List.Pairwise.filter _ List.pairwise_lt_range).imp fun h => by omega, gv_ne j a b _, fun x hx y hy e => ?_⟩
  subst e
  obtain ⟨q1, _⟩ := gv_own hy
  obtain ⟨h1, h2⟩ := List.mem_filter.1 hx
  have h5 := ieq_iff.1 (Bool.and_eq_true_iff.1 h2).1
  rw [tabF_at j 5 a (List.mem_range.1 h1)] at h5
  rcases hm with rfl | rfl <;> omega
 obtain ⟨i1, i2, i3⟩ := hold_all (g := g) (j := j) (t := tabF j 6 b) ((stayL j a b me ++ gvL j a b (3 - me)).map fun (p : Nat) => cutS g j s (p : Int)) { finW g j s a b me (gvL j a b (3 - me)) out with T := tabF j 6 b, Goal := -1, Held := [] } rfl
  (fun x hx => by
   obtain ⟨p, hp, rfl⟩ := List.mem_map.1 hx
   obtain ⟨h1, h2⟩ := hown p hp
   have e := tab_to ht.r (k := p) (by rw [ht.n]; exact h1)
   have e' : toT (tabF j 6 b) (cutS g j s (p : Int)).P = _ := e
   rw [e', tabF_at j 6 b h1]
   exact ⟨rfl, h2, cut_right hr om⟩)
  (by
   rw [List.pairwise_map]
   refine hdist.imp fun {x y} h e => h ?_
   have e' : (x : Int) = (y : Int) := e
   omega)
  (fun h hh => absurd hh List.not_mem_nil)
 have hE : takeW g j (finW g j s a b me (gvL j a b (3 - me)) out) (chgMl j b) = sinceS (((stayL j a b me ++ gvL j a b (3 - me)).map fun (p : Nat) => cutS g j s (p : Int)).foldl (holdX g j) { finW g j s a b me (gvL j a b (3 - me)) out with T := tabF j 6 b, Goal := -1, Held := [] }) 6 := by
  rw [takeW, hc, chg_mail hc]
  show changeS g j _ _ = _
  rw [changeS]
  show (bif (tableS j 6 (chgMl j b)).2 then (bif ile 6 5 then _ else sinceS ((restH _ _ ++ restC _ _).foldl (holdX g j) { finW g j s a b me (gvL j a b (3 - me)) out with T := (tableS j 6 (chgMl j b)).1, Goal := -1, Held := [] }) 6) else _) = _
  rw [htab, hrest]; rfl
 rw [hE]
 refine ⟨?_, ?_, fun h hh => ?_⟩
 · show (List.foldl (holdX g j) _ _).Held.length = _
   rw [i1, List.length_map, List.length_append]
   show 0 + _ = _
   omega
 · show (List.foldl (holdX g j) _ _).T.Epoch = 6
   rw [i3]; rfl
 · rcases i2 h hh with h1 | h1
   · exact absurd h1 List.not_mem_nil
   · obtain ⟨p, hp, e⟩ := List.mem_map.1 h1
     exact ⟨p, (hown p hp).1, (hown p hp).2, e.symm⟩
theorem all_held (j : GJob) (a b : List Bool) : ((stayL j a b 1).length + (gvL j a b 2).length) + ((stayL j a b 2).length + (gvL j a b 1).length) = j.Parts.toNat := by
 have h : ∀ l : List Nat, (∀ p ∈ l, p < j.Parts.toNat) → ((l.filter fun p => isO (tabF j 5 a) 1 p && !(movP a b p)).length + (l.filter fun p => isO (tabF j 5 a) 2 p && movP a b p).length) + ((l.filter fun p => isO (tabF j 5 a) 2 p && !(movP a b p)).length + (l.filter fun p => isO (tabF j 5 a) 1 p && movP a b p).length) = l.length := by
  intro l
  induction l with
  | nil => intro _; rfl
  | cons p l ih =>
   intro hl
   have i := ih fun q hq => hl q (List.mem_cons_of_mem _ hq)
   have e1 : isO (tabF j 5 a) 1 p = ieq (owF a p) 1 := by rw [isO, tabF_at j 5 a (hl p List.mem_cons_self)]
   have e2 : isO (tabF j 5 a) 2 p = ieq (owF a p) 2 := by rw [isO, tabF_at j 5 a (hl p List.mem_cons_self)]
   simp only [List.filter_cons, List.length_cons]
   rw [e1, e2]
   have k1 : ieq 1 1 = true := rfl
   have k2 : ieq 1 2 = false := rfl
   have k3 : ieq 2 1 = false := rfl
   have k4 : ieq 2 2 = true := rfl
   rcases owF_or a p with e | e <;> rw [e] <;> cases movP a b p <;> simp only [k1, k2, k3, k4, Bool.true_and, Bool.false_and, Bool.not_true, Bool.not_false, if_true, Bool.false_eq_true, if_false, List.length_cons] <;> omega
 have := h (List.range j.Parts.toNat) fun p hp => List.mem_range.1 hp
 rwa [List.length_range] at this
end
def hn8 : Hint := { H 8 with nt := 325, prot := 0, kp := 0 }
def c8_0 : Code := loopOf E 8 0
def c8_1 : Code := loopOf E 8 1
def c8_2 : Code := loopOf E 8 2
def c8_3 : Code := loopOf E 8 3
def c8_4 : Code := loopOf E 8 4
def c8_5 : Code := loopOf E 8 5
def c8_6 : Code := loopOf E 8 6
def c8_7 : Code := loopOf E 8 7
def F8_res (r1 : Bool) : Res := ⟨[(.one (mB r1))], []⟩
def F8_l0_0 (K : Nat) (a1 : GGraph) (a2 : GJob) (a3 : List Bool) (a4 : List Bool) (r5 : List GPart × Int) : Nat → List Int → List Int → Int → Option (List Int × List Int)
 | 0, _, _, _ => none
 | k + 1, v6, v7, v8 =>
  bif (ilt v8 (nlen (len r5.1))) then
   (bif (ilt v8 (nlen (len a3))) then
    (bif (inr v8 (len a3)) then
    (elAt a3 v8).bind fun x9 =>
    bif x9 then
     (bif (ilt v8 (nlen (len a4))) then
      (bif (inr v8 (len a4)) then
      (elAt a4 v8).bind fun x10 =>
      bif x10 then
       (bif (apok (len v6) 1 8) then
       bif (apok (len v7) 1 8) then
       F8_l0_0 K a1 a2 a3 a4 r5 k (appL v6 [2]) (appL v7 [2]) (wadd .i64 v8 1)
       else none
       else none)
      else
      bif (apok (len v6) 1 8) then
      bif (apok (len v7) 1 8) then
      F8_l0_0 K a1 a2 a3 a4 r5 k (appL v6 [2]) (appL v7 [1]) (wadd .i64 v8 1)
      else none
      else none
      else none)
     else
     bif (apok (len v6) 1 8) then
     bif (apok (len v7) 1 8) then
     F8_l0_0 K a1 a2 a3 a4 r5 k (appL v6 [2]) (appL v7 [1]) (wadd .i64 v8 1)
     else none
     else none)
    else
    bif (ilt v8 (nlen (len a4))) then
     (bif (inr v8 (len a4)) then
     (elAt a4 v8).bind fun x11 =>
     bif x11 then
      (bif (apok (len v6) 1 8) then
      bif (apok (len v7) 1 8) then
      F8_l0_0 K a1 a2 a3 a4 r5 k (appL v6 [1]) (appL v7 [2]) (wadd .i64 v8 1)
      else none
      else none)
     else
     bif (apok (len v6) 1 8) then
     bif (apok (len v7) 1 8) then
     F8_l0_0 K a1 a2 a3 a4 r5 k (appL v6 [1]) (appL v7 [1]) (wadd .i64 v8 1)
     else none
     else none
     else none)
    else
    bif (apok (len v6) 1 8) then
    bif (apok (len v7) 1 8) then
    F8_l0_0 K a1 a2 a3 a4 r5 k (appL v6 [1]) (appL v7 [1]) (wadd .i64 v8 1)
    else none
    else none
    else none)
   else
   bif (ilt v8 (nlen (len a4))) then
    (bif (inr v8 (len a4)) then
    (elAt a4 v8).bind fun x12 =>
    bif x12 then
     (bif (apok (len v6) 1 8) then
     bif (apok (len v7) 1 8) then
     F8_l0_0 K a1 a2 a3 a4 r5 k (appL v6 [1]) (appL v7 [2]) (wadd .i64 v8 1)
     else none
     else none)
    else
    bif (apok (len v6) 1 8) then
    bif (apok (len v7) 1 8) then
    F8_l0_0 K a1 a2 a3 a4 r5 k (appL v6 [1]) (appL v7 [1]) (wadd .i64 v8 1)
    else none
    else none
    else none)
   else
   bif (apok (len v6) 1 8) then
   bif (apok (len v7) 1 8) then
   F8_l0_0 K a1 a2 a3 a4 r5 k (appL v6 [1]) (appL v7 [1]) (wadd .i64 v8 1)
   else none
   else none)
  else
  some (v6, v7)
def F8_l0_0_S (a1 : GGraph) (a2 : GJob) (a3 : List Bool) (a4 : List Bool) (r5 : List GPart × Int) (v6 : List Int) (v7 : List Int) (v8 : Int) : TS := .on (kq 192 2 <| kq 256 2 <| kq 320 3 <| kq 384 5 <| kq 704 2 <| kq 832 2 <| kq 896 2 <| kq 960 2 <| []) <| sq 192 [u0, (uS eBool a3)] <| sq 256 [u0, (uS eBool a4)] <| b0 320 a1 <| b1 384 a2 <| sq 704 [u0, (uO 45 eGPart r5.1)] <| sq 832 [u0, (uO 3 e6 v6)] <| sq 896 [u0, (uO 3 e6 v7)] <| sq 960 [u0, (uI v8)] []
def F8_l0_0_X0 (a1 : GGraph) (a2 : GJob) (a3 : List Bool) (a4 : List Bool) (r5 : List GPart × Int) (w6 : List Int × List Int) : TS := .on (kq 320 3 <| kq 384 5 <| kq 704 2 <| kq 832 2 <| kq 896 2 <| []) <| b0 320 a1 <| b1 384 a2 <| sq 704 [u0, (uO 45 eGPart r5.1)] <| sq 832 [u0, (uO 3 e6 w6.1)] <| sq 896 [u0, (uO 3 e6 w6.2)] []
theorem F8_l0_0_ok (K : Nat) (a1 : GGraph) (a2 : GJob) (a3 : List Bool) (a4 : List Bool) (r5 : List GPart × Int) : ∀ (k : Nat) (v6 : List Int) (v7 : List Int) (v8 : Int) (r : List Int × List Int), F8_l0_0 K a1 a2 a3 a4 r5 k v6 v7 v8 = some r → LoopEv E H hn8 0 c8_0 (F8_l0_0_S a1 a2 a3 a4 r5 v6 v7 v8) (.exit 0) (F8_l0_0_X0 a1 a2 a3 a4 r5 r) := by
 intro k
 induction k with
 | zero => intro v6 v7 v8 r F; cases F
 | succ k ih =>
  intro v6 v7 v8 r F
  rw [F8_l0_0] at F
  apply jc F <;> intro h9 F
  ·
   have q48 {l} (z : HA hn8 l) := zi (nl r5.1) <| zT h9 <| zi (nl a3) <| z
   apply jc F <;> intro h10 F
   ·
    apply jn F; intro h11 F
    apply jb F; intro x12 h13 F
    have q49 {l} (z : HA hn8 l) := zC3 h10 <| zT h11 <| zC1 h10 <| zS eBool_len h13 1 <| zT h10 <| z
    apply jc F <;> intro h14 F
    ·
     apply jc F <;> intro h15 F
     ·
      apply jn F; intro h16 F
      apply jb F; intro x17 h18 F
      have q50 {l} (z : HA hn8 l) := zT h14 <| zi (nl a4) <| zC3 h15 <| zT h16 <| zC1 h15 <| zS eBool_len h18 1 <| zT h15 <| z
      apply jc F <;> intro h19 F
      ·
       apply jn F; intro h20 F
       apply jn F; intro h21 F
       exact lN1 (q48 <| q49 <| q50 <| zT h19 <| zX (tt (leqm [(i6 2)] 1 1)) rfl <| zT h20 <| zV (app_ok (enc := e6) (v6 : List Int) [2]) <| zX (tt (leqm [(i6 2)] 1 1)) rfl <| zT h21 <| zV (app_ok (enc := e6) (v7 : List Int) [2]) <| zi (wadd .i64 v8 1) <| z0) (ih _ _ _ _ F)
      apply jn F; intro h22 F
      apply jn F; intro h23 F
      exact lN1 (q48 <| q49 <| q50 <| zF h19 <| zX (tt (leqm [(i6 2)] 1 1)) rfl <| zT h22 <| zV (app_ok (enc := e6) (v6 : List Int) [2]) <| zX (tt (leqm [(i6 1)] 1 1)) rfl <| zT h23 <| zV (app_ok (enc := e6) (v7 : List Int) [1]) <| zi (wadd .i64 v8 1) <| z0) (ih _ _ _ _ F)
     apply jn F; intro h24 F
     apply jn F; intro h25 F
     exact lN1 (q48 <| q49 <| zT h14 <| zi (nl a4) <| zD4x h15 <| zf1 <| zX (tt (leqm [(i6 2)] 1 1)) rfl <| zT h24 <| zV (app_ok (enc := e6) (v6 : List Int) [2]) <| zX (tt (leqm [(i6 1)] 1 1)) rfl <| zT h25 <| zV (app_ok (enc := e6) (v7 : List Int) [1]) <| zi (wadd .i64 v8 1) <| z0) (ih _ _ _ _ F)
    apply jc F <;> intro h26 F
    ·
     apply jn F; intro h27 F
     apply jb F; intro x28 h29 F
     have q51 {l} (z : HA hn8 l) := zF h14 <| zi (nl a4) <| zC3 h26 <| zT h27 <| zC1 h26 <| zS eBool_len h29 1 <| zT h26 <| z
     apply jc F <;> intro h30 F
     ·
      apply jn F; intro h31 F
      apply jn F; intro h32 F
      exact lN1 (q48 <| q49 <| q51 <| zT h30 <| zX (tt (leqm [(i6 1)] 1 1)) rfl <| zT h31 <| zV (app_ok (enc := e6) (v6 : List Int) [1]) <| zX (tt (leqm [(i6 2)] 1 1)) rfl <| zT h32 <| zV (app_ok (enc := e6) (v7 : List Int) [2]) <| zi (wadd .i64 v8 1) <| z0) (ih _ _ _ _ F)
     apply jn F; intro h33 F
     apply jn F; intro h34 F
     exact lN1 (q48 <| q49 <| q51 <| zF h30 <| zX (tt (leqm [(i6 1)] 1 1)) rfl <| zT h33 <| zV (app_ok (enc := e6) (v6 : List Int) [1]) <| zX (tt (leqm [(i6 1)] 1 1)) rfl <| zT h34 <| zV (app_ok (enc := e6) (v7 : List Int) [1]) <| zi (wadd .i64 v8 1) <| z0) (ih _ _ _ _ F)
    apply jn F; intro h35 F
    apply jn F; intro h36 F
    exact lN1 (q48 <| q49 <| zF h14 <| zi (nl a4) <| zD4x h26 <| zf1 <| zX (tt (leqm [(i6 1)] 1 1)) rfl <| zT h35 <| zV (app_ok (enc := e6) (v6 : List Int) [1]) <| zX (tt (leqm [(i6 1)] 1 1)) rfl <| zT h36 <| zV (app_ok (enc := e6) (v7 : List Int) [1]) <| zi (wadd .i64 v8 1) <| z0) (ih _ _ _ _ F)
   have q52 {l} (z : HA hn8 l) := zD4x h10 <| zf1 <| zi (nl a4) <| z
   apply jc F <;> intro h37 F
   ·
    apply jn F; intro h38 F
    apply jb F; intro x39 h40 F
    have q53 {l} (z : HA hn8 l) := zC3 h37 <| zT h38 <| zC1 h37 <| zS eBool_len h40 1 <| zT h37 <| z
    apply jc F <;> intro h41 F
    ·
     apply jn F; intro h42 F
     apply jn F; intro h43 F
     exact lN1 (q48 <| q52 <| q53 <| zT h41 <| zX (tt (leqm [(i6 1)] 1 1)) rfl <| zT h42 <| zV (app_ok (enc := e6) (v6 : List Int) [1]) <| zX (tt (leqm [(i6 2)] 1 1)) rfl <| zT h43 <| zV (app_ok (enc := e6) (v7 : List Int) [2]) <| zi (wadd .i64 v8 1) <| z0) (ih _ _ _ _ F)
    apply jn F; intro h44 F
    apply jn F; intro h45 F
    exact lN1 (q48 <| q52 <| q53 <| zF h41 <| zX (tt (leqm [(i6 1)] 1 1)) rfl <| zT h44 <| zV (app_ok (enc := e6) (v6 : List Int) [1]) <| zX (tt (leqm [(i6 1)] 1 1)) rfl <| zT h45 <| zV (app_ok (enc := e6) (v7 : List Int) [1]) <| zi (wadd .i64 v8 1) <| z0) (ih _ _ _ _ F)
   apply jn F; intro h46 F
   apply jn F; intro h47 F
   exact lN1 (q48 <| q52 <| zD4x h37 <| zf1 <| zX (tt (leqm [(i6 1)] 1 1)) rfl <| zT h46 <| zV (app_ok (enc := e6) (v6 : List Int) [1]) <| zX (tt (leqm [(i6 1)] 1 1)) rfl <| zT h47 <| zV (app_ok (enc := e6) (v7 : List Int) [1]) <| zi (wadd .i64 v8 1) <| z0) (ih _ _ _ _ F)
  apply jr F
  exact lE <| zi (nl r5.1) <| zF h9 <| z0
def F8_l2_2 (K : Nat) (a1 : GGraph) (a2 : GJob) (r3 : List GPart × Int) (w4 : List Int × List Int) (v5 : List Int) (v6 : List Int) (v7 : Int) : Nat → List GWorker → Int → Option (List GWorker)
 | 0, _, _ => none
 | k + 1, v8, v9 =>
  bif (ilt v9 (nlen (len r3.1))) then
   (bif (inr v7 (len v8)) then
   (elAt v8 v7).bind fun x10 =>
   bif (inr v9 (len r3.1)) then
   (elAt r3.1 v9).bind fun x11 =>
   (F18 K a1 a2 x10 (GMail.mk 1 5 0 0 0 0 0 0 w4.1 v5 v6 x11 [])).bind fun r12 =>
   F8_l2_2 K a1 a2 r3 w4 v5 v6 v7 k (putAt v8 v7 r12) (wadd .i64 v9 1)
   else none
   else none)
  else
  some v8
def F8_l2_2_S (a1 : GGraph) (a2 : GJob) (r3 : List GPart × Int) (w4 : List Int × List Int) (v5 : List Int) (v6 : List Int) (v7 : Int) (v8 : List GWorker) (v9 : Int) : TS := .on (kq 320 3 <| kq 384 5 <| kq 704 2 <| kq 832 2 <| kq 896 2 <| kq 1152 2 <| kq 1216 2 <| kq 1280 2 <| kq 1344 2 <| kq 1408 2 <| []) <| b0 320 a1 <| b1 384 a2 <| sq 704 [u0, (uO 45 eGPart r3.1)] <| sq 832 [u0, (uS e6 w4.1)] <| sq 896 [u0, (uO 3 e6 w4.2)] <| sq 1152 [u0, (uO 38 eGWorker v8)] <| sq 1216 [u0, (uS e6 v5)] <| sq 1280 [u0, (uS e6 v6)] <| sq 1344 [u0, (uI v7)] <| sq 1408 [u0, (uI v9)] []
def F8_l2_2_X0 (a1 : GGraph) (a2 : GJob) (r3 : List GPart × Int) (w4 : List Int × List Int) (v5 : List Int) (v6 : List Int) (v7 : Int) (w8 : List GWorker) : TS := .on (kq 320 3 <| kq 384 5 <| kq 704 2 <| kq 832 2 <| kq 896 2 <| kq 1152 2 <| kq 1216 2 <| kq 1280 2 <| kq 1344 2 <| []) <| b0 320 a1 <| b1 384 a2 <| sq 704 [u0, (uO 45 eGPart r3.1)] <| sq 832 [u0, (uS e6 w4.1)] <| sq 896 [u0, (uO 3 e6 w4.2)] <| sq 1152 [u0, (uO 38 eGWorker w8)] <| sq 1216 [u0, (uS e6 v5)] <| sq 1280 [u0, (uS e6 v6)] <| sq 1344 [u0, (uI v7)] []
theorem F8_l2_2_ok (K : Nat) (a1 : GGraph) (a2 : GJob) (r3 : List GPart × Int) (w4 : List Int × List Int) (v5 : List Int) (v6 : List Int) (v7 : Int) : ∀ (k : Nat) (v8 : List GWorker) (v9 : Int) (r : List GWorker), F8_l2_2 K a1 a2 r3 w4 v5 v6 v7 k v8 v9 = some r → LoopEv E H hn8 4 c8_2 (F8_l2_2_S a1 a2 r3 w4 v5 v6 v7 v8 v9) (.exit 4) (F8_l2_2_X0 a1 a2 r3 w4 v5 v6 v7 r) := by
 intro k
 induction k with
 | zero => intro v8 v9 r F; cases F
 | succ k ih =>
  intro v8 v9 r F
  rw [F8_l2_2] at F
  apply jc F <;> intro h10 F
  ·
   apply jn F; intro h11 F
   apply jb F; intro x12 h13 F
   apply jn F; intro h14 F
   apply jb F; intro x15 h16 F
   apply jb F; intro r17 h18 F
   exact lN1 (zi (nl r3.1) <| zT h10 <| zT h11 <| zS eGWorker_len h13 11 <| zT h14 <| zS eGPart_len h16 5 <| zc (F18_ok K a1 a2 x12 (GMail.mk 1 5 0 0 0 0 0 0 w4.1 v5 v6 x15 []) _ h18) <| zT h11 <| zX (tt (lfits (nidx v7 11) 11 (flat eGWorker v8))) (lfits_flat0 eGWorker_len h13 _ (by decide)) <| zX (.sl (len v8) (lset (flat eGWorker v8) (nidx v7 11) [(i6 r17.Id), (i6 r17.Goal), (i6 r17.Until), (i6 r17.T.Epoch), (sE e6 r17.T.Owners), (sE e6 r17.T.Ids), (sE e6 r17.T.Incs), (sE eGHeld r17.Held), (sE eGData r17.Buf), (sE eGComing r17.Coming), (sE eGPost r17.Out)]) (len (α := GWorker) (putAt v8 v7 r17)) (flat eGWorker (putAt v8 v7 r17))) (set_ok0 eGWorker_len h13 _ (by simp) rfl) <| zi (wadd .i64 v9 1) <| z0) (ih _ _ _ F)
  apply jr F
  exact lE <| zi (nl r3.1) <| zF h10 <| z0
def F8_l3_3 (K : Nat) (a1 : GGraph) (a2 : GJob) (r3 : List GPart × Int) (w4 : List Int × List Int) (v5 : List Int) (v6 : List Int) (v7 : Int) : Nat → List GWorker → Int → Option (List GWorker)
 | 0, _, _ => none
 | k + 1, v8, v9 =>
  bif (ilt v9 (nlen (len r3.1))) then
   (bif (inr v9 (len w4.1)) then
   (elAt w4.1 v9).bind fun x10 =>
   bif (inr v9 (len w4.2)) then
   (elAt w4.2 v9).bind fun x11 =>
   bif (ieq x10 x11) then
    (F8_l3_3 K a1 a2 r3 w4 v5 v6 v7 k v8 (wadd .i64 v9 1))
   else
   bif (inr v7 (len v8)) then
   (elAt v8 v7).bind fun x12 =>
   (F18 K a1 a2 x12 (GMail.mk 6 5 0 0 v9 0 x11 0 [] v5 v6 (GPart.mk 0 0 [] [] []) [])).bind fun r13 =>
   F8_l3_3 K a1 a2 r3 w4 v5 v6 v7 k (putAt v8 v7 r13) (wadd .i64 v9 1)
   else none
   else none
   else none)
  else
  some v8
def F8_l3_3_S (a1 : GGraph) (a2 : GJob) (r3 : List GPart × Int) (w4 : List Int × List Int) (v5 : List Int) (v6 : List Int) (v7 : Int) (v8 : List GWorker) (v9 : Int) : TS := .on (kq 320 3 <| kq 384 5 <| kq 704 2 <| kq 832 2 <| kq 896 2 <| kq 1152 2 <| kq 1216 2 <| kq 1280 2 <| kq 1344 2 <| kq 1472 2 <| []) <| b0 320 a1 <| b1 384 a2 <| sq 704 [u0, (uO 45 eGPart r3.1)] <| sq 832 [u0, (uS e6 w4.1)] <| sq 896 [u0, (uO 3 e6 w4.2)] <| sq 1152 [u0, (uO 38 eGWorker v8)] <| sq 1216 [u0, (uS e6 v5)] <| sq 1280 [u0, (uS e6 v6)] <| sq 1344 [u0, (uI v7)] <| sq 1472 [u0, (uI v9)] []
def F8_l3_3_X0 (a1 : GGraph) (a2 : GJob) (r3 : List GPart × Int) (w4 : List Int × List Int) (v5 : List Int) (v6 : List Int) (v7 : Int) (w8 : List GWorker) : TS := .on (kq 320 3 <| kq 384 5 <| kq 704 2 <| kq 832 2 <| kq 896 2 <| kq 1152 2 <| kq 1216 2 <| kq 1280 2 <| kq 1344 2 <| []) <| b0 320 a1 <| b1 384 a2 <| sq 704 [u0, (uO 45 eGPart r3.1)] <| sq 832 [u0, (uS e6 w4.1)] <| sq 896 [u0, (uO 3 e6 w4.2)] <| sq 1152 [u0, (uO 38 eGWorker w8)] <| sq 1216 [u0, (uS e6 v5)] <| sq 1280 [u0, (uS e6 v6)] <| sq 1344 [u0, (uI v7)] []
theorem F8_l3_3_ok (K : Nat) (a1 : GGraph) (a2 : GJob) (r3 : List GPart × Int) (w4 : List Int × List Int) (v5 : List Int) (v6 : List Int) (v7 : Int) : ∀ (k : Nat) (v8 : List GWorker) (v9 : Int) (r : List GWorker), F8_l3_3 K a1 a2 r3 w4 v5 v6 v7 k v8 v9 = some r → LoopEv E H hn8 6 c8_3 (F8_l3_3_S a1 a2 r3 w4 v5 v6 v7 v8 v9) (.exit 6) (F8_l3_3_X0 a1 a2 r3 w4 v5 v6 v7 r) := by
 intro k
 induction k with
 | zero => intro v8 v9 r F; cases F
 | succ k ih =>
  intro v8 v9 r F
  rw [F8_l3_3] at F
  apply jc F <;> intro h10 F
  ·
   apply jn F; intro h11 F
   apply jb F; intro x12 h13 F
   apply jn F; intro h14 F
   apply jb F; intro x15 h16 F
   have q23 {l} (z : HA hn8 l) := zi (nl r3.1) <| zT h10 <| zT h11 <| zX (.sub (flat e6 w4.1) (nidx v9 1) 1 [(i6 x12)]) ⟨rfl, sub_flat0 (eInt_len _) h13 1 (by decide)⟩ <| zT h14 <| zX (.sub (flat e6 w4.2) (nidx v9 1) 1 [(i6 x15)]) ⟨rfl, sub_flat0 (eInt_len _) h16 1 (by decide)⟩ <| z
   apply jc F <;> intro h17 F
   ·
    exact lN1 (q23 <| zF (ine_t h17) <| zi (wadd .i64 v9 1) <| z0) (ih _ _ _ F)
   apply jn F; intro h18 F
   apply jb F; intro x19 h20 F
   apply jb F; intro r21 h22 F
   exact lN1 (q23 <| zT (ine_f h17) <| zT h18 <| zS eGWorker_len h20 11 <| zT h14 <| zX (.sub (flat e6 w4.2) (nidx v9 1) 1 [(i6 x15)]) ⟨rfl, sub_flat0 (eInt_len _) h16 1 (by decide)⟩ <| zc (F18_ok K a1 a2 x19 (GMail.mk 6 5 0 0 v9 0 x15 0 [] v5 v6 (GPart.mk 0 0 [] [] []) []) _ h22) <| zT h18 <| zX (tt (lfits (nidx v7 11) 11 (flat eGWorker v8))) (lfits_flat0 eGWorker_len h20 _ (by decide)) <| zX (.sl (len v8) (lset (flat eGWorker v8) (nidx v7 11) [(i6 r21.Id), (i6 r21.Goal), (i6 r21.Until), (i6 r21.T.Epoch), (sE e6 r21.T.Owners), (sE e6 r21.T.Ids), (sE e6 r21.T.Incs), (sE eGHeld r21.Held), (sE eGData r21.Buf), (sE eGComing r21.Coming), (sE eGPost r21.Out)]) (len (α := GWorker) (putAt v8 v7 r21)) (flat eGWorker (putAt v8 v7 r21))) (set_ok0 eGWorker_len h20 _ (by simp) rfl) <| zi (wadd .i64 v9 1) <| z0) (ih _ _ _ F)
  apply jr F
  exact lE <| zi (nl r3.1) <| zF h10 <| z0
def F8_l1_1 (K : Nat) (a1 : GGraph) (a2 : GJob) (r3 : List GPart × Int) (w4 : List Int × List Int) : Nat → List GWorker → List Int → List Int → Int → Option (List GWorker × List Int × List Int)
 | 0, _, _, _, _ => none
 | k + 1, v5, v6, v7, v8 =>
  bif (ilt v8 2) then
   ((F8_l2_2 K a1 a2 r3 w4 v6 v7 v8 K v5 0).bind fun w9 =>
   (F8_l3_3 K a1 a2 r3 w4 v6 v7 v8 K w9 0).bind fun w10 =>
   F8_l1_1 K a1 a2 r3 w4 k w10 v6 v7 (wadd .i64 v8 1))
  else
  some (v5, (v6, v7))
def F8_l1_1_S (a1 : GGraph) (a2 : GJob) (r3 : List GPart × Int) (w4 : List Int × List Int) (v5 : List GWorker) (v6 : List Int) (v7 : List Int) (v8 : Int) : TS := .on (kq 320 3 <| kq 384 5 <| kq 704 2 <| kq 832 2 <| kq 896 2 <| kq 1152 2 <| kq 1216 2 <| kq 1280 2 <| kq 1344 2 <| []) <| b0 320 a1 <| b1 384 a2 <| sq 704 [u0, (uO 45 eGPart r3.1)] <| sq 832 [u0, (uS e6 w4.1)] <| sq 896 [u0, (uO 3 e6 w4.2)] <| sq 1152 [u0, (uO 38 eGWorker v5)] <| sq 1216 [u0, (uS e6 v6)] <| sq 1280 [u0, (uS e6 v7)] <| sq 1344 [u0, (uI v8)] []
def F8_l1_1_X0 (a1 : GGraph) (a2 : GJob) (r3 : List GPart × Int) (w4 : List Int × List Int) (w5 : List GWorker × List Int × List Int) : TS := .on (kq 320 3 <| kq 384 5 <| kq 704 2 <| kq 896 2 <| kq 1152 2 <| kq 1216 2 <| kq 1280 2 <| []) <| b0 320 a1 <| b1 384 a2 <| sq 704 [u0, (uO 45 eGPart r3.1)] <| sq 896 [u0, (uO 3 e6 w4.2)] <| sq 1152 [u0, (uO 38 eGWorker w5.1)] <| sq 1216 [u0, (uS e6 w5.2.1)] <| sq 1280 [u0, (uS e6 w5.2.2)] []
theorem F8_l1_1_ok (K : Nat) (a1 : GGraph) (a2 : GJob) (r3 : List GPart × Int) (w4 : List Int × List Int) : ∀ (k : Nat) (v5 : List GWorker) (v6 : List Int) (v7 : List Int) (v8 : Int) (r : List GWorker × List Int × List Int), F8_l1_1 K a1 a2 r3 w4 k v5 v6 v7 v8 = some r → LoopEv E H hn8 2 c8_1 (F8_l1_1_S a1 a2 r3 w4 v5 v6 v7 v8) (.exit 2) (F8_l1_1_X0 a1 a2 r3 w4 r) := by
 intro k
 induction k with
 | zero => intro v5 v6 v7 v8 r F; cases F
 | succ k ih =>
  intro v5 v6 v7 v8 r F
  rw [F8_l1_1] at F
  apply jc F <;> intro h9 F
  ·
   apply jb F; intro w11 h10 F
   apply jb F; intro w13 h12 F
   exact lN1 (zT h9 <| zo (F8_l2_2_ok K a1 a2 r3 w4 v6 v7 v8 K v5 0 _ h10) <| zo (F8_l3_3_ok K a1 a2 r3 w4 v6 v7 v8 K w11 0 _ h12) <| zi (wadd .i64 v8 1) <| z0) (ih _ _ _ _ _ F)
  apply jr F
  exact lE <| zF h9 <| z0
def F8_l5_5 (K : Nat) (a1 : GGraph) (a2 : GJob) (r3 : List GPart × Int) (w4 : List Int × List Int) (w5 : List GWorker × List Int × List Int) (v6 : Int) (r7 : GWorker × List GPost × List GDid) : Nat → List GWorker → Int → Option (List GWorker)
 | 0, _, _ => none
 | k + 1, v8, v9 =>
  bif (ilt v9 (nlen (len r7.2.1))) then
   (bif (inr v9 (len r7.2.1)) then
   (elAt r7.2.1 v9).bind fun x10 =>
   bif (ieq x10.To (wsub .i64 2 v6)) then
    (bif (inr (wsub .i64 1 v6) (len w5.2.2)) then
    (elAt w5.2.2 (wsub .i64 1 v6)).bind fun x11 =>
    bif (ieq x10.Inc x11) then
     (bif (inr (wsub .i64 1 v6) (len v8)) then
     (elAt v8 (wsub .i64 1 v6)).bind fun x12 =>
     (F18 K a1 a2 x12 x10.M).bind fun r13 =>
     F8_l5_5 K a1 a2 r3 w4 w5 v6 r7 k (putAt v8 (wsub .i64 1 v6) r13) (wadd .i64 v9 1)
     else none)
    else
    F8_l5_5 K a1 a2 r3 w4 w5 v6 r7 k v8 (wadd .i64 v9 1)
    else none)
   else
   F8_l5_5 K a1 a2 r3 w4 w5 v6 r7 k v8 (wadd .i64 v9 1)
   else none)
  else
  some v8
def F8_l5_5_S (a1 : GGraph) (a2 : GJob) (r3 : List GPart × Int) (w4 : List Int × List Int) (w5 : List GWorker × List Int × List Int) (v6 : Int) (r7 : GWorker × List GPost × List GDid) (v8 : List GWorker) (v9 : Int) : TS := .on (kq 320 3 <| kq 384 5 <| kq 704 2 <| kq 896 2 <| kq 1152 2 <| kq 1216 2 <| kq 1280 2 <| kq 1536 2 <| kq 1664 2 <| kq 1792 2 <| []) <| b0 320 a1 <| b1 384 a2 <| sq 704 [u0, (uO 45 eGPart r3.1)] <| sq 896 [u0, (uO 3 e6 w4.2)] <| sq 1152 [u0, (uO 38 eGWorker v8)] <| sq 1216 [u0, (uS e6 w5.2.1)] <| sq 1280 [u0, (uS e6 w5.2.2)] <| sq 1536 [u0, (uI v6)] <| sq 1664 [u0, (uO 86 eGPost r7.2.1)] <| sq 1792 [u0, (uI v9)] []
def F8_l5_5_X0 (a1 : GGraph) (a2 : GJob) (r3 : List GPart × Int) (w4 : List Int × List Int) (w5 : List GWorker × List Int × List Int) (v6 : Int) (r7 : GWorker × List GPost × List GDid) (w8 : List GWorker) : TS := .on (kq 320 3 <| kq 384 5 <| kq 704 2 <| kq 896 2 <| kq 1152 2 <| kq 1216 2 <| kq 1280 2 <| kq 1536 2 <| []) <| b0 320 a1 <| b1 384 a2 <| sq 704 [u0, (uO 45 eGPart r3.1)] <| sq 896 [u0, (uO 3 e6 w4.2)] <| sq 1152 [u0, (uO 38 eGWorker w8)] <| sq 1216 [u0, (uS e6 w5.2.1)] <| sq 1280 [u0, (uS e6 w5.2.2)] <| sq 1536 [u0, (uI v6)] []
theorem F8_l5_5_ok (K : Nat) (a1 : GGraph) (a2 : GJob) (r3 : List GPart × Int) (w4 : List Int × List Int) (w5 : List GWorker × List Int × List Int) (v6 : Int) (r7 : GWorker × List GPost × List GDid) : ∀ (k : Nat) (v8 : List GWorker) (v9 : Int) (r : List GWorker), F8_l5_5 K a1 a2 r3 w4 w5 v6 r7 k v8 v9 = some r → LoopEv E H hn8 10 c8_5 (F8_l5_5_S a1 a2 r3 w4 w5 v6 r7 v8 v9) (.exit 10) (F8_l5_5_X0 a1 a2 r3 w4 w5 v6 r7 r) := by
 intro k
 induction k with
 | zero => intro v8 v9 r F; cases F
 | succ k ih =>
  intro v8 v9 r F
  rw [F8_l5_5] at F
  apply jc F <;> intro h10 F
  ·
   apply jn F; intro h11 F
   apply jb F; intro x12 h13 F
   have q24 {l} (z : HA hn8 l) := zi (nl r7.2.1) <| zT h10 <| zT h11 <| zU eGPost_len h13 0 1 <| zi (wsub .i64 2 v6) <| z
   apply jc F <;> intro h14 F
   ·
    apply jn F; intro h15 F
    apply jb F; intro x16 h17 F
    have q25 {l} (z : HA hn8 l) := zC3 h14 <| zT h11 <| zC2 h14 <| zU eGPost_len h13 1 1 <| zC3 h14 <| zi (wsub .i64 1 v6) <| zC1 h14 <| zT h15 <| zC1 h14 <| zX (.sub (flat e6 w5.2.2) (nidx (wsub .i64 1 v6) 1) 1 [(i6 x16)]) ⟨rfl, sub_flat0 (eInt_len _) h17 1 (by decide)⟩ <| zC1x h14 <| z
    apply jc F <;> intro h18 F
    ·
     apply jn F; intro h19 F
     apply jb F; intro x20 h21 F
     apply jb F; intro r22 h23 F
     exact lN1 (q24 <| q25 <| zT h18 <| zi (wsub .i64 1 v6) <| zi (wsub .i64 1 v6) <| zT h19 <| zS eGWorker_len h21 11 <| zT h11 <| zU eGPost_len h13 2 17 <| zc (F18_ok K a1 a2 x20 x12.M _ h23) <| zT h19 <| zX (tt (lfits (nidx (wsub .i64 1 v6) 11) 11 (flat eGWorker v8))) (lfits_flat0 eGWorker_len h21 _ (by decide)) <| zX (.sl (len v8) (lset (flat eGWorker v8) (nidx (wsub .i64 1 v6) 11) [(i6 r22.Id), (i6 r22.Goal), (i6 r22.Until), (i6 r22.T.Epoch), (sE e6 r22.T.Owners), (sE e6 r22.T.Ids), (sE e6 r22.T.Incs), (sE eGHeld r22.Held), (sE eGData r22.Buf), (sE eGComing r22.Coming), (sE eGPost r22.Out)]) (len (α := GWorker) (putAt v8 (wsub .i64 1 v6) r22)) (flat eGWorker (putAt v8 (wsub .i64 1 v6) r22))) (set_ok0 eGWorker_len h21 _ (by simp) rfl) <| zi (wadd .i64 v9 1) <| z0) (ih _ _ _ F)
    exact lN1 (q24 <| q25 <| zF h18 <| zi (wadd .i64 v9 1) <| z0) (ih _ _ _ F)
   exact lN1 (q24 <| zD6 h14 <| zD5x h14 <| zf1 <| zi (wadd .i64 v9 1) <| z0) (ih _ _ _ F)
  apply jr F
  exact lE <| zi (nl r7.2.1) <| zF h10 <| z0
def F8_l4_4 (K : Nat) (a1 : GGraph) (a2 : GJob) (r3 : List GPart × Int) (w4 : List Int × List Int) (w5 : List GWorker × List Int × List Int) : Nat → List GWorker → Int → Option (List GWorker)
 | 0, _, _ => none
 | k + 1, v6, v7 =>
  bif (ilt v7 2) then
   (bif (inr v7 (len v6)) then
   (elAt v6 v7).bind fun x8 =>
   (F14 K a1 a2 x8 1).bind fun r9 =>
   (F8_l5_5 K a1 a2 r3 w4 w5 v7 r9 K (putAt v6 v7 r9.1) 0).bind fun w10 =>
   F8_l4_4 K a1 a2 r3 w4 w5 k w10 (wadd .i64 v7 1)
   else none)
  else
  some v6
def F8_l4_4_S (a1 : GGraph) (a2 : GJob) (r3 : List GPart × Int) (w4 : List Int × List Int) (w5 : List GWorker × List Int × List Int) (v6 : List GWorker) (v7 : Int) : TS := .on (kq 320 3 <| kq 384 5 <| kq 704 2 <| kq 896 2 <| kq 1152 2 <| kq 1216 2 <| kq 1280 2 <| kq 1536 2 <| []) <| b0 320 a1 <| b1 384 a2 <| sq 704 [u0, (uO 45 eGPart r3.1)] <| sq 896 [u0, (uO 3 e6 w4.2)] <| sq 1152 [u0, (uO 38 eGWorker v6)] <| sq 1216 [u0, (uS e6 w5.2.1)] <| sq 1280 [u0, (uS e6 w5.2.2)] <| sq 1536 [u0, (uI v7)] []
def F8_l4_4_X0 (a1 : GGraph) (a2 : GJob) (r3 : List GPart × Int) (w4 : List Int × List Int) (w5 : List GWorker × List Int × List Int) (w6 : List GWorker) : TS := .on (kq 320 3 <| kq 384 5 <| kq 704 2 <| kq 896 2 <| kq 1152 2 <| kq 1216 2 <| kq 1280 2 <| []) <| b0 320 a1 <| b1 384 a2 <| sq 704 [u0, (uO 45 eGPart r3.1)] <| sq 896 [u0, (uO 3 e6 w4.2)] <| sq 1152 [u0, (uO 38 eGWorker w6)] <| sq 1216 [u0, (uS e6 w5.2.1)] <| sq 1280 [u0, (uS e6 w5.2.2)] []
theorem F8_l4_4_ok (K : Nat) (a1 : GGraph) (a2 : GJob) (r3 : List GPart × Int) (w4 : List Int × List Int) (w5 : List GWorker × List Int × List Int) : ∀ (k : Nat) (v6 : List GWorker) (v7 : Int) (r : List GWorker), F8_l4_4 K a1 a2 r3 w4 w5 k v6 v7 = some r → LoopEv E H hn8 8 c8_4 (F8_l4_4_S a1 a2 r3 w4 w5 v6 v7) (.exit 8) (F8_l4_4_X0 a1 a2 r3 w4 w5 r) := by
 intro k
 induction k with
 | zero => intro v6 v7 r F; cases F
 | succ k ih =>
  intro v6 v7 r F
  rw [F8_l4_4] at F
  apply jc F <;> intro h8 F
  ·
   apply jn F; intro h9 F
   apply jb F; intro x10 h11 F
   apply jb F; intro r12 h13 F
   apply jb F; intro w15 h14 F
   exact lN1 (zT h8 <| zT h9 <| zS eGWorker_len h11 11 <| zc (F14_ok K a1 a2 x10 1 _ h13) <| zT h9 <| zX (tt (lfits (nidx v7 11) 11 (flat eGWorker v6))) (lfits_flat0 eGWorker_len h11 _ (by decide)) <| zX (.sl (len v6) (lset (flat eGWorker v6) (nidx v7 11) [(i6 r12.1.Id), (i6 r12.1.Goal), (i6 r12.1.Until), (i6 r12.1.T.Epoch), (sE e6 r12.1.T.Owners), (sE e6 r12.1.T.Ids), (sE e6 r12.1.T.Incs), (sE eGHeld r12.1.Held), (sE eGData r12.1.Buf), (sE eGComing r12.1.Coming), (sE eGPost r12.1.Out)]) (len (α := GWorker) (putAt v6 v7 r12.1)) (flat eGWorker (putAt v6 v7 r12.1))) (set_ok0 eGWorker_len h11 _ (by simp) rfl) <| zo (F8_l5_5_ok K a1 a2 r3 w4 w5 v7 r12 K (putAt v6 v7 r12.1) 0 _ h14) <| zi (wadd .i64 v7 1) <| z0) (ih _ _ _ F)
  apply jr F
  exact lE <| zF h8 <| z0
def F8_l7_7 (K : Nat) (a1 : GGraph) (a2 : GJob) (r3 : List GPart × Int) (w4 : List Int × List Int) (w5 : List GWorker × List Int × List Int) (v6 : List GWorker) (v7 : Int) (r8 : GWorker) : Nat → Int → Int → Option ((Unit) ⊕ (Int))
 | 0, _, _ => none
 | k + 1, v9, v10 =>
  bif (inr v7 (len (α := GWorker) (putAt v6 v7 r8))) then
  (elAt (putAt v6 v7 r8) v7).bind fun x11 =>
  bif (ilt v10 (nlen (len x11.Held))) then
   (bif (inr v10 (len x11.Held)) then
   (elAt x11.Held v10).bind fun x12 =>
   bif (ilt x12.X.P 0) then
    (some (.inl ()))
   else
   bif (ile (nlen (len r3.1)) x12.X.P) then
    (some (.inl ()))
   else
   bif (inr x12.X.P (len w4.2)) then
   (elAt w4.2 x12.X.P).bind fun x13 =>
   bif (ieq x13 (wadd .i64 v7 1)) then
    (bif (inr x12.X.P (len r3.1)) then
    (elAt r3.1 x12.X.P).bind fun x14 =>
    (F28 K x12.X x14).bind fun r15 =>
    bif r15 then
     (F8_l7_7 K a1 a2 r3 w4 w5 v6 v7 r8 k (wadd .i64 v9 1) (wadd .i64 v10 1))
    else
    some (.inl ())
    else none)
   else
   some (.inl ())
   else none
   else none)
  else
  some (.inr v9)
  else none
def F8_l7_7_S (a1 : GGraph) (a2 : GJob) (r3 : List GPart × Int) (w4 : List Int × List Int) (w5 : List GWorker × List Int × List Int) (v6 : List GWorker) (v7 : Int) (r8 : GWorker) (v9 : Int) (v10 : Int) : TS := .on (kq 320 3 <| kq 384 5 <| kq 704 2 <| kq 896 2 <| kq 1152 2 <| kq 1216 2 <| kq 1280 2 <| kq 1856 2 <| kq 1920 2 <| kq 1984 2 <| []) <| b0 320 a1 <| b1 384 a2 <| sq 704 [u0, (uO 45 eGPart r3.1)] <| sq 896 [u0, (uS e6 w4.2)] <| sq 1152 [u0, (uO 38 eGWorker (putAt v6 v7 r8))] <| sq 1216 [u0, (uS e6 w5.2.1)] <| sq 1280 [u0, (uS e6 w5.2.2)] <| sq 1856 [u0, (uI v9)] <| sq 1920 [u0, (uI v7)] <| sq 1984 [u0, (uI v10)] []
def F8_l7_7_X0 (a1 : GGraph) (a2 : GJob) (r3 : List GPart × Int) (w4 : List Int × List Int) (w5 : List GWorker × List Int × List Int) (v6 : List GWorker) (v7 : Int) (r8 : GWorker) (w9 : Unit) : TS := .on (kq 640 2 <| []) <| sq 640 [u0, (uB false)] []
def F8_l7_7_X1 (a1 : GGraph) (a2 : GJob) (r3 : List GPart × Int) (w4 : List Int × List Int) (w5 : List GWorker × List Int × List Int) (v6 : List GWorker) (v7 : Int) (r8 : GWorker) (w9 : Int) : TS := .on (kq 320 3 <| kq 384 5 <| kq 704 2 <| kq 896 2 <| kq 1152 2 <| kq 1216 2 <| kq 1280 2 <| kq 1856 2 <| kq 1920 2 <| []) <| b0 320 a1 <| b1 384 a2 <| sq 704 [u0, (uO 45 eGPart r3.1)] <| sq 896 [u0, (uS e6 w4.2)] <| sq 1152 [u0, (uO 38 eGWorker (putAt v6 v7 r8))] <| sq 1216 [u0, (uS e6 w5.2.1)] <| sq 1280 [u0, (uS e6 w5.2.2)] <| sq 1856 [u0, (uI w9)] <| sq 1920 [u0, (uI v7)] []
theorem F8_l7_7_ok (K : Nat) (a1 : GGraph) (a2 : GJob) (r3 : List GPart × Int) (w4 : List Int × List Int) (w5 : List GWorker × List Int × List Int) (v6 : List GWorker) (v7 : Int) (r8 : GWorker) : ∀ (k : Nat) (v9 : Int) (v10 : Int) (r : (Unit) ⊕ (Int)), F8_l7_7 K a1 a2 r3 w4 w5 v6 v7 r8 k v9 v10 = some r → (Sum.elim (fun w => LoopEv E H hn8 14 c8_7 (F8_l7_7_S a1 a2 r3 w4 w5 v6 v7 r8 v9 v10) .ret (F8_l7_7_X0 a1 a2 r3 w4 w5 v6 v7 r8 w)) (fun w => LoopEv E H hn8 14 c8_7 (F8_l7_7_S a1 a2 r3 w4 w5 v6 v7 r8 v9 v10) (.exit 14) (F8_l7_7_X1 a1 a2 r3 w4 w5 v6 v7 r8 w))) r := by
 intro k
 induction k with
 | zero => intro v9 v10 r F; cases F
 | succ k ih =>
  intro v9 v10 r F
  rw [F8_l7_7] at F
  apply jn F; intro h11 F
  apply jb F; intro x12 h13 F
  have q30 {l} (z : HA hn8 l) := zT h11 <| zU eGWorker_len h13 7 1 <| zi (nl x12.Held) <| z
  apply jc F <;> intro h14 F
  ·
   apply jn F; intro h15 F
   apply jb F; intro x16 h17 F
   have q31 {l} (z : HA hn8 l) := zT h14 <| zT h11 <| zU eGWorker_len h13 7 1 <| zT h15 <| zU eGHeld_len h17 0 5 <| z
   apply jc F <;> intro h18 F
   ·
    apply jr F
    exact lE <| q30 <| q31 <| zA5x h18 <| zt6 <| zt2 <| zr1 <| zt6 <| zt2 <| zr2 <| z0
   have q32 {l} (z : HA hn8 l) := zB4 h18 <| zi (nl r3.1) <| zB1x h18 <| z
   apply jc F <;> intro h19 F
   ·
    apply jr F
    exact lE <| q30 <| q31 <| q32 <| zA6 (ige_eq h19) <| zA2x (ige_eq h19) <| zt6 <| zt2 <| zr2 <| z0
   apply jn F; intro h20 F
   apply jb F; intro x21 h22 F
   have q33 {l} (z : HA hn8 l) := zB4 (ige_eq h19) <| zT h20 <| zB1 (ige_eq h19) <| zX (.sub (flat e6 w4.2) (nidx x16.X.P 1) 1 [(i6 x21)]) ⟨rfl, sub_flat0 (eInt_len _) h22 1 (by decide)⟩ <| zB2 (ige_eq h19) <| zi (wadd .i64 v7 1) <| zB1x (ige_eq h19) <| z
   apply jc F <;> intro h23 F
   ·
    apply jn F; intro h24 F
    apply jb F; intro x25 h26 F
    apply jb F; intro r27 h28 F
    have q34 {l} (z : HA hn8 l) := zB5 (ine_t h23) <| zT h24 <| zB1 (ine_t h23) <| zS eGPart_len h26 5 <| zB1 (ine_t h23) <| zl (F28_ok K x16.X x25 _ h28) <| zB1x (ine_t h23) <| z
    apply jc F <;> intro h29 F
    ·
     exact lN2 (q30 <| q31 <| q32 <| q33 <| q34 <| zF (bnot_t h29) <| zi (wadd .i64 v9 1) <| zi (wadd .i64 v10 1) <| z0) (ih _ _ _ F)
    apply jr F
    exact lE <| q30 <| q31 <| q32 <| q33 <| q34 <| zT (bnot_f h29) <| z0
   apply jr F
   exact lE <| q30 <| q31 <| q32 <| q33 <| zA6 (ine_f h23) <| zA2x (ine_f h23) <| zr1 <| z0
  apply jr F
  exact lE <| q30 <| zF h14 <| z0
def F8_l6_6 (K : Nat) (a1 : GGraph) (a2 : GJob) (r3 : List GPart × Int) (w4 : List Int × List Int) (w5 : List GWorker × List Int × List Int) : Nat → List GWorker → Int → Int → Option ((Unit) ⊕ (List GWorker × Int))
 | 0, _, _, _ => none
 | k + 1, v6, v7, v8 =>
  bif (ilt v8 2) then
   (bif (inr v8 (len v6)) then
   (elAt v6 v8).bind fun x9 =>
   (F18 K a1 a2 x9 (GMail.mk 9 5 6 0 0 0 0 0 w4.2 w5.2.1 w5.2.2 (GPart.mk 0 0 [] [] []) [])).bind fun r10 =>
   (F8_l7_7 K a1 a2 r3 w4 w5 v6 v8 r10 K v7 0).bind fun y11 =>
   Sum.elim (fun w12 =>
    some (.inl ()))
    (fun w13 =>
    F8_l6_6 K a1 a2 r3 w4 w5 k (putAt v6 v8 r10) w13 (wadd .i64 v8 1)) y11
   else none)
  else
  some (.inr (v6, v7))
def F8_l6_6_S (a1 : GGraph) (a2 : GJob) (r3 : List GPart × Int) (w4 : List Int × List Int) (w5 : List GWorker × List Int × List Int) (v6 : List GWorker) (v7 : Int) (v8 : Int) : TS := .on (kq 320 3 <| kq 384 5 <| kq 704 2 <| kq 896 2 <| kq 1152 2 <| kq 1216 2 <| kq 1280 2 <| kq 1856 2 <| kq 1920 2 <| []) <| b0 320 a1 <| b1 384 a2 <| sq 704 [u0, (uO 45 eGPart r3.1)] <| sq 896 [u0, (uS e6 w4.2)] <| sq 1152 [u0, (uO 38 eGWorker v6)] <| sq 1216 [u0, (uS e6 w5.2.1)] <| sq 1280 [u0, (uS e6 w5.2.2)] <| sq 1856 [u0, (uI v7)] <| sq 1920 [u0, (uI v8)] []
def F8_l6_6_X0 (a1 : GGraph) (a2 : GJob) (r3 : List GPart × Int) (w4 : List Int × List Int) (w5 : List GWorker × List Int × List Int) (w6 : Unit) : TS := .on (kq 640 2 <| []) <| sq 640 [u0, (uB false)] []
def F8_l6_6_X1 (a1 : GGraph) (a2 : GJob) (r3 : List GPart × Int) (w4 : List Int × List Int) (w5 : List GWorker × List Int × List Int) (w6 : List GWorker × Int) : TS := .on (kq 704 2 <| kq 1152 2 <| kq 1856 2 <| []) <| sq 704 [u0, (uO 45 eGPart r3.1)] <| sq 1152 [u0, (uO 38 eGWorker w6.1)] <| sq 1856 [u0, (uI w6.2)] []
theorem F8_l6_6_ok (K : Nat) (a1 : GGraph) (a2 : GJob) (r3 : List GPart × Int) (w4 : List Int × List Int) (w5 : List GWorker × List Int × List Int) : ∀ (k : Nat) (v6 : List GWorker) (v7 : Int) (v8 : Int) (r : (Unit) ⊕ (List GWorker × Int)), F8_l6_6 K a1 a2 r3 w4 w5 k v6 v7 v8 = some r → (Sum.elim (fun w => LoopEv E H hn8 12 c8_6 (F8_l6_6_S a1 a2 r3 w4 w5 v6 v7 v8) .ret (F8_l6_6_X0 a1 a2 r3 w4 w5 w)) (fun w => LoopEv E H hn8 12 c8_6 (F8_l6_6_S a1 a2 r3 w4 w5 v6 v7 v8) (.exit 12) (F8_l6_6_X1 a1 a2 r3 w4 w5 w))) r := by
 intro k
 induction k with
 | zero => intro v6 v7 v8 r F; cases F
 | succ k ih =>
  intro v6 v7 v8 r F
  rw [F8_l6_6] at F
  apply jc F <;> intro h9 F
  ·
   apply jn F; intro h10 F
   apply jb F; intro x11 h12 F
   apply jb F; intro r13 h14 F
   have q19 {l} (z : HA hn8 l) := zT h9 <| zT h10 <| zS eGWorker_len h12 11 <| zc (F18_ok K a1 a2 x11 (GMail.mk 9 5 6 0 0 0 0 0 w4.2 w5.2.1 w5.2.2 (GPart.mk 0 0 [] [] []) []) _ h14) <| zT h10 <| zX (tt (lfits (nidx v8 11) 11 (flat eGWorker v6))) (lfits_flat0 eGWorker_len h12 _ (by decide)) <| zX (.sl (len v6) (lset (flat eGWorker v6) (nidx v8 11) [(i6 r13.Id), (i6 r13.Goal), (i6 r13.Until), (i6 r13.T.Epoch), (sE e6 r13.T.Owners), (sE e6 r13.T.Ids), (sE e6 r13.T.Incs), (sE eGHeld r13.Held), (sE eGData r13.Buf), (sE eGComing r13.Coming), (sE eGPost r13.Out)]) (len (α := GWorker) (putAt v6 v8 r13)) (flat eGWorker (putAt v6 v8 r13))) (set_ok0 eGWorker_len h12 _ (by simp) rfl) <| z
   apply jb F; intro y16 h15 F
   refine js F (fun w17 hx F => ?_) fun w18 hx F => ?_
   ·
    subst hx
    apply jr F
    exact lE <| q19 <| zo (F8_l7_7_ok K a1 a2 r3 w4 w5 v6 v8 r13 K v7 0 _ h15) <| z0
   subst hx
   exact lN2 (q19 <| zo (F8_l7_7_ok K a1 a2 r3 w4 w5 v6 v8 r13 K v7 0 _ h15) <| zi (wadd .i64 v8 1) <| z0) (ih _ _ _ _ F)
  apply jr F
  exact lE <| zF h9 <| z0
def F8 (K : Nat) (a1 : GGraph) (a2 : GJob) (a3 : GState) (a4 : List Bool) (a5 : List Bool) : Option (Bool) :=
 (F9 K a1).bind fun r6 =>
 bif r6 then
  (some true)
 else
 bif (ilt 100 (nlen (len a3.Vals))) then
  (some true)
 else
 bif (ilt 100 (nlen (len a3.In))) then
  (some true)
 else
 (F19 K a1 a2).bind fun r7 =>
 bif (ieq r7 0) then
  ((F20 K a1 a2 a3).bind fun r8 =>
  bif r8 then
   ((F21 K a1 a2 a3).bind fun r9 =>
   (F8_l0_0 K a1 a2 a4 a5 r9 K [] [] 0).bind fun w10 =>
   (F11 K 1).bind fun r11 =>
   (F22 K r11 9).bind fun r12 =>
   (F11 K 2).bind fun r13 =>
   (F22 K r13 9).bind fun r14 =>
   (F8_l1_1 K a1 a2 r9 w10 K [r12, r14] [1, 2] [3, 4] 0).bind fun w15 =>
   (F8_l4_4 K a1 a2 r9 w10 w15 K w15.1 0).bind fun w16 =>
   (F8_l6_6 K a1 a2 r9 w10 w15 K w16 0 0).bind fun y17 =>
   Sum.elim (fun w18 =>
    some false)
    (fun w19 =>
    bif (ieq w19.2 (nlen (len r9.1))) then
     (bif (inr 0 (len w19.1)) then
     (elAt w19.1 0).bind fun x20 =>
     bif (ieq x20.T.Epoch 6) then
      (bif (inr 1 (len w19.1)) then
      (elAt w19.1 1).bind fun x21 =>
      bif (ieq x21.T.Epoch 6) then
       (some true)
      else
      some false
      else none)
     else
     some false
     else none)
    else
    some false) y17)
  else
  some true)
 else
 some true
theorem F8_ok (K : Nat) (a1 : GGraph) (a2 : GJob) (a3 : GState) (a4 : List Bool) (a5 : List Bool) (r : Bool) (F : F8 K a1 a2 a3 a4 a5 = some r) : Evt E H 8 [.agg (eGGraph a1), .agg (eGJob a2), .agg (eGState a3), .one (sE eBool a4), .one (sE eBool a5)] (F8_res r) := by
 rw [F8] at F
 apply jb F; intro r6 h7 F
 apply jc F <;> intro h8 F
 ·
  apply jr F
  exact fpC hn8 <| zl (F9_ok K a1 _ h7) <| zA4x h8 <| zt4 <| zr1 <| zt4 <| zr1 <| zt5 <| zr2 <| zX (.call 10 [] (Res.mk [(.one (mB true))] [])) knows10 <| zX (ff (leadsAny (Res.mk [(.one (mB true))] []))) lk <| z0
 have q46 {l} (z : HA hn8 l) := zl (F9_ok K a1 _ h7) <| zB3 h8 <| zi (nl a3.Vals) <| zB1x h8 <| z
 apply jc F <;> intro h9 F
 ·
  apply jr F
  exact fpC hn8 <| q46 <| zA4x (igt_eq h9) <| zt4 <| zr1 <| zt5 <| zr2 <| zX (.call 10 [] (Res.mk [(.one (mB true))] [])) knows10 <| zX (ff (leadsAny (Res.mk [(.one (mB true))] []))) lk <| z0
 have q47 {l} (z : HA hn8 l) := zB3 (igt_eq h9) <| zi (nl a3.In) <| zB1x (igt_eq h9) <| z
 apply jc F <;> intro h10 F
 ·
  apply jr F
  exact fpC hn8 <| q46 <| q47 <| zA4x (igt_eq h10) <| zt5 <| zr2 <| zX (.call 10 [] (Res.mk [(.one (mB true))] [])) knows10 <| zX (ff (leadsAny (Res.mk [(.one (mB true))] []))) lk <| z0
 apply jb F; intro r11 h12 F
 have q48 {l} (z : HA hn8 l) := zB3 (igt_eq h10) <| zl (F19_ok K a1 a2 _ h12) <| zB1x (igt_eq h10) <| z
 apply jc F <;> intro h13 F
 ·
  apply jb F; intro r14 h15 F
  have q49 {l} (z : HA hn8 l) := zB4 (ine_t h13) <| zl (F20_ok K a1 a2 a3 _ h15) <| zB1x (ine_t h13) <| z
  apply jc F <;> intro h16 F
  ·
   apply jb F; intro r17 h18 F
   apply jb F; intro w20 h19 F
   apply jb F; intro r21 h22 F
   apply jb F; intro r23 h24 F
   apply jb F; intro r25 h26 F
   apply jb F; intro r27 h28 F
   apply jb F; intro w30 h29 F
   apply jb F; intro w32 h31 F
   have q50 {l} (z : HA hn8 l) := zF (bnot_t h16) <| zc (F21_ok K a1 a2 a3 _ h18) <| zo (F8_l0_0_ok K a1 a2 a4 a5 r17 K [] [] 0 _ h19) <| zc (F11_ok K 1 _ h22) <| zc (F22_ok K r21 9 _ h24) <| zc (F11_ok K 2 _ h26) <| zc (F22_ok K r25 9 _ h28) <| zo (F8_l1_1_ok K a1 a2 r17 w20 K [r23, r27] [1, 2] [3, 4] 0 _ h29) <| zo (F8_l4_4_ok K a1 a2 r17 w20 w30 K w30.1 0 _ h31) <| z
   apply jb F; intro y34 h33 F
   refine js F (fun w35 hx F => ?_) fun w36 hx F => ?_
   ·
    subst hx
    apply jr F
    exact fpC hn8 <| q46 <| q47 <| q48 <| q49 <| q50 <| zo (F8_l6_6_ok K a1 a2 r17 w20 w30 K w32 0 0 _ h33) <| z0
   subst hx
   apply jc F <;> intro h37 F
   ·
    apply jn F; intro h38 F
    apply jb F; intro x39 h40 F
    have q51 {l} (z : HA hn8 l) := zo (F8_l6_6_ok K a1 a2 r17 w20 w30 K w32 0 0 _ h33) <| zi (nl r17.1) <| zC2 h37 <| zT h38 <| zC3 h37 <| zU eGWorker_len h40 3 1 <| zC1x h37 <| z
    apply jc F <;> intro h41 F
    ·
     apply jn F; intro h42 F
     apply jb F; intro x43 h44 F
     have q52 {l} (z : HA hn8 l) := zC2 h41 <| zT h42 <| zC3 h41 <| zU eGWorker_len h44 3 1 <| zC1x h41 <| z
     apply jc F <;> intro h45 F
     ·
      apply jr F
      exact fpC hn8 <| q46 <| q47 <| q48 <| q49 <| q50 <| q51 <| q52 <| zC1 h45 <| zX (.call 10 [] (Res.mk [(.one (mB true))] [])) knows10 <| zX (ff (leadsAny (Res.mk [(.one (mB true))] []))) lk <| zT h45 <| z0
     apply jr F
     exact fpC hn8 <| q46 <| q47 <| q48 <| q49 <| q50 <| q51 <| q52 <| zD1x h45 <| z0
    apply jr F
    exact fpC hn8 <| q46 <| q47 <| q48 <| q49 <| q50 <| q51 <| zD6x h41 <| zk1 <| zf1 <| z0
   apply jr F
   exact fpC hn8 <| q46 <| q47 <| q48 <| q49 <| q50 <| zo (F8_l6_6_ok K a1 a2 r17 w20 w30 K w32 0 0 _ h33) <| zi (nl r17.1) <| zD6x h37 <| zk6 <| zf1 <| zk1 <| zf1 <| z0
  apply jr F
  exact fpC hn8 <| q46 <| q47 <| q48 <| q49 <| zT (bnot_f h16) <| zX (.call 10 [] (Res.mk [(.one (mB true))] [])) knows10 <| zX (ff (leadsAny (Res.mk [(.one (mB true))] []))) lk <| z0
 apply jr F
 exact fpC hn8 <| q46 <| q47 <| q48 <| zA5x (ine_f h13) <| zr1 <| zX (.call 10 [] (Res.mk [(.one (mB true))] [])) knows10 <| zX (ff (leadsAny (Res.mk [(.one (mB true))] []))) lk <| z0
section
variable {g : GGraph} {j : GJob} {s : GState} {me : Int} {a b : List Bool}
theorem pick {β : Type} (l : List Bool) (p : Nat) (T F : Option β) : (bif ilt (p : Int) (nlen (len l)) then (bif inr (p : Int) (len l) then (elAt l (p : Int)).bind fun x => bif x then T else F else none) else F) = bif l.getD p false then T else F := by
 by_cases h : p < l.length
 · obtain ⟨h1, h2⟩ := getD_at (l := l) false h
   rw [ilt_iff.2 (by rw [nlen_len]; omega), h1, h2]; rfl
 · rw [ilt_f.2 (by rw [nlen_len]; omega), List.getD_eq_getElem?_getD, List.getElem?_eq_none om]; rfl
theorem own8 {K : Nat} (hK : 1000000 ≤ K) (g : GGraph) (j : GJob) (a b : List Bool) (r : List GPart × Int) (hl : r.1.length ≤ 100) : F8_l0_0 K g j a b r K [] [] 0 = some ((List.range r.1.length).map (owF a), (List.range r.1.length).map (owF b)) := by
 have hw : ∀ (k n i : Nat), n < k → i + n = r.1.length → F8_l0_0 K g j a b r k ((List.range i).map (owF a)) ((List.range i).map (owF b)) (i : Int) = some ((List.range r.1.length).map (owF a), (List.range r.1.length).map (owF b)) := by
  intro k
  induction k with
  | zero => intro n i h; omega
  | succ k ih =>
   intro n i h1 h2
   rw [F8_l0_0]
   cases n with
   | zero =>
    have : ilt (i : Int) (nlen (len r.1)) = false := ilt_f.2 (by rw [nlen_len]; omega)
    rw [this, show i = r.1.length by omega]; rfl
   | succ n =>
    have : ilt (i : Int) (nlen (len r.1)) = true := ilt_iff.2 (by rw [nlen_len]; omega)
    have ap : ∀ f : Nat → Int, apok (len ((List.range i).map f)) 1 8 = true := fun f => apok_small (by show ((List.range i).map f).length + 1 ≤ 1000000; rw [List.length_map, List.length_range]; omega) om
    have hx : ∀ x y : Int, x = owF a i → y = owF b i → F8_l0_0 K g j a b r k (appL ((List.range i).map (owF a)) [x]) (appL ((List.range i).map (owF b)) [y]) (wadd .i64 (i : Int) 1) = some ((List.range r.1.length).map (owF a), (List.range r.1.length).map (owF b)) := fun x y ex ey => by
     have h := ih n (i + 1) om om
     rw [List.range_succ, List.map_append, List.map_append] at h
     rw [wadd_nat om, ex, ey]; exact h
    rw [this, cT]
    simp only [pick, ap, cT]
    cases ha : a.getD i false <;> cases hb : b.getD i false <;> exact hx _ _ (by rw [owF, ha]; rfl) (by rw [owF, hb]; rfl)
 exact hw K r.1.length 0 om om
structure At2 (idx : Int) (φ : GWorker → List GWorker) : Prop where
 i : ∀ y, inr idx (len (φ y)) = true
 e : ∀ y, elAt (φ y) idx = some y
 p : ∀ y y', putAt (φ y) idx y' = φ y'
theorem at_fst (z : GWorker) : At2 0 (fun y => [y, z]) := ⟨fun _ => rfl, fun _ => rfl, fun _ _ => rfl⟩
theorem at_snd (z : GWorker) : At2 1 (fun y => [z, y]) := ⟨fun _ => rfl, fun _ => rfl, fun _ _ => rfl⟩
theorem give_wi (hr : stRight g j s = true) (hn : niceS s) (me : Int) (a b : List Bool) : ∀ k, k ≤ j.Parts.toNat → WI g j me (j.Parts.toNat + k) (giveW g j s a b me k)
 | 0, _ => by
  obtain ⟨hc, _⟩ := stRight_ok hr
  rw [← give_zero (by have := jcheck_ok hc; omega)]
  exact load_wi (tabF_ok hc om a) hr hn _ (Nat.le_refl _)
 | k + 1, hk => by
  cases hm : movP a b k
  · rw [give_stay (by rw [hm, Bool.and_false])]
    exact (give_wi hr hn me a b k om).up om
  · rw [← give_step hr om hm]
    exact wi_take (give_wi hr hn me a b k om) (give_mi b k)
theorem f18 {K : Nat} (hK : 1000000 ≤ K) {id : Int} {n : Nat} {w : GWorker} (h : WI g j id n w) (hn : n ≤ 200000) {m : GMail} (hm : MI m) : F18 K g j w m = some (takeW g j w m) :=
 F18_spec hK g j _ _ (h.sml om) h.hx h.cd (hm.f.up om) hm.p
theorem parts_at (g : GGraph) (j : GJob) (s : GState) {k : Nat} (hk : k < j.Parts.toNat) : inr (k : Int) (len (splitS g j s)) = true ∧ elAt (splitS g j s) (k : Int) = some (cutS g j s (k : Int)) := by
 have hl : (splitS g j s).length = j.Parts.toNat := by simp [splitS]
 refine ⟨inr_iff.2 ⟨by omega, ?_⟩, ?_⟩
 · show (k : Int) < ((splitS g j s).length : Int); omega
 · rw [elAt_nat, splitS, List.getElem?_map, List.getElem?_range hk]; rfl
theorem map_at {f : Nat → Int} {n k : Nat} (hk : k < n) : inr (k : Int) (len ((List.range n).map f)) = true ∧ elAt ((List.range n).map f) (k : Int) = some (f k) := by
 refine ⟨inr_iff.2 ⟨by omega, ?_⟩, ?_⟩
 · show (k : Int) < (((List.range n).map f).length : Int); rw [List.length_map, List.length_range]; omega
 · rw [elAt_nat, List.getElem?_map, List.getElem?_range hk]; rfl
abbrev w2 (j : GJob) (a b : List Bool) : List Int × List Int := ((List.range j.Parts.toNat).map (owF a), (List.range j.Parts.toNat).map (owF b))
theorem loads8 {K : Nat} (hK : 1000000 ≤ K) (hr : stRight g j s = true) (hn : niceS s) {idx : Int} {φ : GWorker → List GWorker} (hφ : At2 idx φ) :
 F8_l2_2 K g j (splitS g j s, 0) (w2 j a b) [1, 2] [3, 4] idx K (φ (loadK g j s (tabF j 5 a) me 9 0)) 0 = some (φ (loadK g j s (tabF j 5 a) me 9 j.Parts.toNat)) := by
 obtain ⟨hc, _⟩ := stRight_ok hr
 have ht := tabF_ok hc (e := 5) om a
 have hl : (splitS g j s).length = j.Parts.toNat := by simp [splitS]
 have h6 := jcheck_ok hc
 have hw : ∀ (k n i : Nat), n < k → i + n = j.Parts.toNat → F8_l2_2 K g j (splitS g j s, 0) (w2 j a b) [1, 2] [3, 4] idx k (φ (loadK g j s (tabF j 5 a) me 9 i)) (i : Int) = some (φ (loadK g j s (tabF j 5 a) me 9 j.Parts.toNat)) := by
  intro k
  induction k with
  | zero => intro n i h; omega
  | succ k ih =>
   intro n i h1 h2
   rw [F8_l2_2]
   cases n with
   | zero =>
    have : ilt (i : Int) (nlen (len (splitS g j s))) = false := ilt_f.2 (by rw [nlen_len]; omega)
    rw [this, show i = j.Parts.toNat by omega]; rfl
   | succ n =>
    have e1 : ilt (i : Int) (nlen (len (splitS g j s))) = true := ilt_iff.2 (by rw [nlen_len]; omega)
    obtain ⟨e2, e3⟩ := parts_at g j s (k := i) om
    have e4 := load_take hK ht hr hn (me := me) (u := 9) (k := i) om
    have e4' : F18 K g j (loadK g j s (tabF j 5 a) me 9 i) (GMail.mk 1 5 0 0 0 0 0 0 (w2 j a b).1 [1, 2] [3, 4] (cutS g j s (i : Int)) []) = _ := e4
    simp only [e1, hφ.i, hφ.e, hφ.p, e2, e3, e4', cT, bS]
    rw [wadd_nat om]
    exact ih n (i + 1) om om
 exact hw K j.Parts.toNat 0 om om
theorem gives8 {K : Nat} (hK : 1000000 ≤ K) (hr : stRight g j s = true) (hn : niceS s) {idx : Int} {φ : GWorker → List GWorker} (hφ : At2 idx φ) :
 F8_l3_3 K g j (splitS g j s, 0) (w2 j a b) [1, 2] [3, 4] idx K (φ (giveW g j s a b me 0)) 0 = some (φ (giveW g j s a b me j.Parts.toNat)) := by
 obtain ⟨hc, _⟩ := stRight_ok hr
 have hl : (splitS g j s).length = j.Parts.toNat := by simp [splitS]
 have h6 := jcheck_ok hc
 have hw : ∀ (k n i : Nat), n < k → i + n = j.Parts.toNat → F8_l3_3 K g j (splitS g j s, 0) (w2 j a b) [1, 2] [3, 4] idx k (φ (giveW g j s a b me i)) (i : Int) = some (φ (giveW g j s a b me j.Parts.toNat)) := by
  intro k
  induction k with
  | zero => intro n i h; omega
  | succ k ih =>
   intro n i h1 h2
   rw [F8_l3_3]
   cases n with
   | zero =>
    have : ilt (i : Int) (nlen (len (splitS g j s))) = false := ilt_f.2 (by rw [nlen_len]; omega)
    rw [this, show i = j.Parts.toNat by omega]; rfl
   | succ n =>
    have e1 : ilt (i : Int) (nlen (len (splitS g j s))) = true := ilt_iff.2 (by rw [nlen_len]; omega)
    obtain ⟨e2, e3⟩ := map_at (f := owF a) (n := j.Parts.toNat) (k := i) om
    obtain ⟨e4, e5⟩ := map_at (f := owF b) (n := j.Parts.toNat) (k := i) om
    have e6 := f18 hK (give_wi hr hn me a b i om) om (give_mi b i)
    have e6' : F18 K g j (giveW g j s a b me i) (GMail.mk 6 5 0 0 (i : Int) 0 (owF b i) 0 [] [1, 2] [3, 4] (GPart.mk 0 0 [] [] []) []) = _ := e6
    simp only [e1, hφ.i, hφ.e, hφ.p, e2, e3, e4, e5, e6', cT, bS]
    rw [wadd_nat om]
    cases hm : movP a b i
    · have : ieq (owF a i) (owF b i) = true := by rw [movP] at hm; cases h : ieq (owF a i) (owF b i); rw [h] at hm; cases hm; rfl
      rw [this, cT, ← give_stay (j := j) (a := a) (b := b) (me := me) (k := i) (by rw [hm, Bool.and_false])]
      exact ih n (i + 1) om om
    · have : ieq (owF a i) (owF b i) = false := by rw [movP] at hm; cases h : ieq (owF a i) (owF b i); rfl; rw [h] at hm; cases hm
      rw [this, cF, give_step hr om hm]
      exact ih n (i + 1) om om
 exact hw K j.Parts.toNat 0 om om
theorem both8 {K : Nat} (hK : 1000000 ≤ K) (hr : stRight g j s = true) (hn : niceS s) :
 F8_l1_1 K g j (splitS g j s, 0) (w2 j a b) K [loadK g j s (tabF j 5 a) 1 9 0, loadK g j s (tabF j 5 a) 2 9 0] [1, 2] [3, 4] 0 = some ([giveW g j s a b 1 j.Parts.toNat, giveW g j s a b 2 j.Parts.toNat], ([1, 2], [3, 4])) := by
 obtain ⟨hc, _⟩ := stRight_ok hr
 have h0 : 0 < j.Parts.toNat := by have := jcheck_ok hc; omega
 have a1 := loads8 (a := a) (b := b) (me := 1) hK hr hn (at_fst (loadK g j s (tabF j 5 a) 2 9 0))
 have a2 := gives8 (a := a) (b := b) (me := 1) hK hr hn (at_fst (loadK g j s (tabF j 5 a) 2 9 0))
 have b1 := loads8 (a := a) (b := b) (me := 2) hK hr hn (at_snd (giveW g j s a b 1 j.Parts.toNat))
 have b2 := gives8 (a := a) (b := b) (me := 2) hK hr hn (at_snd (giveW g j s a b 1 j.Parts.toNat))
 rw [give_zero h0] at a1 b1
 have u : ∀ k, F8_l1_1 K g j (splitS g j s, 0) (w2 j a b) (k + 3) [loadK g j s (tabF j 5 a) 1 9 0, loadK g j s (tabF j 5 a) 2 9 0] [1, 2] [3, 4] 0 = some ([giveW g j s a b 1 j.Parts.toNat, giveW g j s a b 2 j.Parts.toNat], ([1, 2], [3, 4])) := fun k => by
  have i0 : ilt 0 2 = true := rfl
  have i1 : ilt (wadd .i64 0 1) 2 = true := rfl
  have i2 : ilt (wadd .i64 (wadd .i64 0 1) 1) 2 = false := rfl
  have j1 : wadd .i64 0 1 = 1 := rfl
  rw [F8_l1_1, i0, cT, a1, bS, a2, bS, F8_l1_1, i1, cT, j1, b1, bS, b2, bS, F8_l1_1]
  rfl
 obtain ⟨k, hk⟩ : ∃ k, K = k + 3 := ⟨K - 3, by omega⟩
 have := u k
 rw [← hk] at this
 exact this
theorem go5 {K : Nat} (hK : 1000000 ≤ K) {id me : Int} {β : Type} {φ : GWorker → List GWorker} {step : GPost → List GWorker → (List GWorker → Option β) → Option β} {fin : List GWorker → Option β}
 (hs : ∀ p y c, step p (φ y) c = bif relP me p then (F18 K g j y p.M).bind (fun r => c (φ r)) else c (φ y)) : ∀ (l : List GPost) (n : Nat) (y : GWorker), WI g j id n y → n + l.length ≤ 100000 → (∀ p ∈ l, relP me p = true → MI p.M) →
 goL step fin l (φ y) = fin (φ ((l.filter (relP me)).foldl (fun w p => takeW g j w p.M) y)) ∧ WI g j id (n + l.length) ((l.filter (relP me)).foldl (fun w p => takeW g j w p.M) y)
 | [], n, y, h, _, _ => ⟨rfl, h⟩
 | p :: l, n, y, h, hn, hm => by
  rw [List.length_cons] at hn ⊢
  rw [goL, hs, List.filter_cons]
  cases hp : relP me p
  · obtain ⟨i1, i2⟩ := go5 hK (fin := fin) hs l n y h om fun q hq => hm q (List.mem_cons_of_mem _ hq)
    simp only [cF, Bool.false_eq_true, if_false]
    exact ⟨i1, i2.up om⟩
  · have hp' := hm p List.mem_cons_self hp
    obtain ⟨i1, i2⟩ := go5 hK (fin := fin) hs l (n + 1) _ (wi_take h hp') om fun q hq => hm q (List.mem_cons_of_mem _ hq)
    simp only [cT, if_true, List.foldl_cons]
    rw [f18 hK h om hp', bS]
    exact ⟨i1, i2.up om⟩
theorem outs_mi (hr : stRight g j s = true) (hn : niceS s) (hm : me = 1 ∨ me = 2) (ps : List Nat) : ∀ p ∈ outG g j s a b me j.Parts.toNat ++ ps.map gotP, relP me p = true → MI p.M := fun p hp hq => by
 have : p ∈ (gvL j a b me).map (postG g j s b) := by rw [← rel_out hm ps]; exact List.mem_filter.2 ⟨hp, hq⟩
 obtain ⟨q, hq', rfl⟩ := List.mem_map.1 this
 exact take_mi hr hn (gv_lt hq')
theorem outs_go (hr : stRight g j s = true) (hm : me = 1 ∨ me = 2) (ps : List Nat) (out : List GPost) :
 ((outG g j s a b me j.Parts.toNat ++ ps.map gotP).filter (relP me)).foldl (fun w p => takeW g j w p.M) (finW g j s a b (3 - me) [] out) = finW g j s a b (3 - me) (gvL j a b me) (out ++ (gvL j a b me).map gotP) := by
 rw [rel_out hm, List.foldl_map]
 exact take_list hr (gvL j a b me) [] out (fun p hp => gv_lt hp) (gv_ne j a b me)
theorem outG_len (g : GGraph) (j : GJob) (s : GState) (a b : List Bool) (me : Int) (ps : List Nat) (hp : ps.length ≤ j.Parts.toNat) : (outG g j s a b me j.Parts.toNat ++ ps.map gotP).length ≤ 3 * j.Parts.toNat := by
 have h1 := List.length_filter_le (isO (tabF j 5 a) me) (List.range j.Parts.toNat)
 have h2 := List.length_filter_le (fun p => isO (tabF j 5 a) me p && movP a b p) (List.range j.Parts.toNat)
 rw [List.length_range] at h1 h2
 rw [outG, outK, List.length_append, List.length_append, List.length_map, List.length_map, List.length_map]
 omega
theorem gv_len (j : GJob) (a b : List Bool) (me : Int) : (gvL j a b me).length ≤ j.Parts.toNat := by
 have := List.length_filter_le (fun p => isO (tabF j 5 a) me p && movP a b p) (List.range j.Parts.toNat)
 rwa [List.length_range] at this
theorem ticks8 {K : Nat} (hK : 1000000 ≤ K) (hr : stRight g j s = true) (hn : niceS s) :
 (∃ o1 o2, F8_l4_4 K g j (splitS g j s, 0) (w2 j a b) ([giveW g j s a b 1 j.Parts.toNat, giveW g j s a b 2 j.Parts.toNat], ([1, 2], [3, 4])) K [giveW g j s a b 1 j.Parts.toNat, giveW g j s a b 2 j.Parts.toNat] 0 = some [finW g j s a b 1 (gvL j a b 2) o1, finW g j s a b 2 (gvL j a b 1) o2] ∧
  WI g j 1 300 (finW g j s a b 1 (gvL j a b 2) o1) ∧ WI g j 2 300 (finW g j s a b 2 (gvL j a b 1) o2)) := by
 obtain ⟨hc, _⟩ := stRight_ok hr
 obtain ⟨_, _, _, _, _, _, _, p7, p8⟩ := jcheck_ok hc
 have hL := fun me ps hp => outG_len g j s a b me ps hp
 have hG := gv_len j a b
 have W1 := give_wi hr hn 1 a b j.Parts.toNat (Nat.le_refl _)
 have W2 := give_wi hr hn 2 a b j.Parts.toNat (Nat.le_refl _)
 rw [give_fin] at W1 W2
 -- the first one's tick
 have T1 := fin_tick hr (a := a) (b := b) (me := 1) [] (outG g j s a b 1 j.Parts.toNat)
 have t1 := F14_spec hK W1 om 1
 rw [T1] at t1
 have V1 := (wi_tick W1 om 1).1
 rw [T1] at V1
 -- what the second one takes
 have hs1 := scanL (l := outG g j s a b 1 j.Parts.toNat ++ ([] : List Nat).map gotP) (L := fun k st i => F8_l5_5 K g j (splitS g j s, 0) (w2 j a b) ([giveW g j s a b 1 j.Parts.toNat, giveW g j s a b 2 j.Parts.toNat], ([1, 2], [3, 4])) 0 (finW g j s a b 1 [] [], outG g j s a b 1 j.Parts.toNat ++ ([] : List Nat).map gotP, []) k st i)
  (fun x st c => bif ieq x.To (wsub .i64 2 0) then (bif inr (wsub .i64 1 0) (len ([3, 4] : List Int)) then (elAt ([3, 4] : List Int) (wsub .i64 1 0)).bind fun y => bif ieq x.Inc y then (bif inr (wsub .i64 1 0) (len st) then (elAt st (wsub .i64 1 0)).bind fun z => (F18 K g j z x.M).bind fun r => c (putAt st (wsub .i64 1 0) r) else none) else c st else none) else c st)
  (fun st => some st) (fun k st i hi => rfl) (by have := hL 1 [] (Nat.zero_le _); omega) (K := K) (by have := hL 1 [] (Nat.zero_le _); omega) [finW g j s a b 1 [] [], finW g j s a b 2 [] (outG g j s a b 2 j.Parts.toNat)]
 obtain ⟨g1, U2⟩ := go5 (g := g) (j := j) (me := 1) (φ := fun y => [finW g j s a b 1 [] [], y]) (fin := fun st => some st) (step := fun x st c => bif ieq x.To (wsub .i64 2 0) then (bif inr (wsub .i64 1 0) (len ([3, 4] : List Int)) then (elAt ([3, 4] : List Int) (wsub .i64 1 0)).bind fun y => bif ieq x.Inc y then (bif inr (wsub .i64 1 0) (len st) then (elAt st (wsub .i64 1 0)).bind fun z => (F18 K g j z x.M).bind fun r => c (putAt st (wsub .i64 1 0) r) else none) else c st else none) else c st) hK
  (fun p y c => by
   show (bif ieq p.To 2 then (bif ieq p.Inc 4 then ((F18 K g j y p.M).bind fun r => c [finW g j s a b 1 [] [], r]) else c [finW g j s a b 1 [] [], y]) else c [finW g j s a b 1 [] [], y]) = bif (ieq p.To 2 && ieq p.Inc 4) then _ else _
   cases ieq p.To 2 <;> cases ieq p.Inc 4 <;> rfl) (outG g j s a b 1 j.Parts.toNat ++ ([] : List Nat).map gotP) _ _ W2 (by have := hL 1 [] (Nat.zero_le _); omega) (outs_mi hr hn (.inl rfl) [])
 have og1 := outs_go (a := a) (b := b) hr (me := 1) (.inl rfl) [] (outG g j s a b 2 j.Parts.toNat)
 have e31 : (3 : Int) - 1 = 2 := rfl
 rw [e31] at og1
 rw [og1] at g1 U2
 have g1' := hs1.trans g1
 rw [List.map_nil, List.append_nil] at g1'
 have U2' : WI g j 2 50 (finW g j s a b 2 (gvL j a b 1) (outG g j s a b 2 j.Parts.toNat ++ (gvL j a b 1).map gotP)) := U2.up (by have := hL 1 [] (Nat.zero_le _); omega)
 -- the second one's tick
 have T2 := fin_tick hr (a := a) (b := b) (me := 2) (gvL j a b 1) (outG g j s a b 2 j.Parts.toNat ++ (gvL j a b 1).map gotP)
 have t2 := F14_spec hK U2' om 1
 rw [T2] at t2
 have V2 := (wi_tick U2' om 1).1
 rw [T2] at V2
 have hs2 := scanL (l := outG g j s a b 2 j.Parts.toNat ++ (gvL j a b 1).map gotP) (L := fun k st i => F8_l5_5 K g j (splitS g j s, 0) (w2 j a b) ([giveW g j s a b 1 j.Parts.toNat, giveW g j s a b 2 j.Parts.toNat], ([1, 2], [3, 4])) 1 (finW g j s a b 2 (gvL j a b 1) [], outG g j s a b 2 j.Parts.toNat ++ (gvL j a b 1).map gotP, []) k st i)
  (fun x st c => bif ieq x.To (wsub .i64 2 1) then (bif inr (wsub .i64 1 1) (len ([3, 4] : List Int)) then (elAt ([3, 4] : List Int) (wsub .i64 1 1)).bind fun y => bif ieq x.Inc y then (bif inr (wsub .i64 1 1) (len st) then (elAt st (wsub .i64 1 1)).bind fun z => (F18 K g j z x.M).bind fun r => c (putAt st (wsub .i64 1 1) r) else none) else c st else none) else c st)
  (fun st => some st) (fun k st i hi => rfl) (by have := hL 2 (gvL j a b 1) (hG 1); omega) (K := K) (by have := hL 2 (gvL j a b 1) (hG 1); omega) [finW g j s a b 1 [] [], finW g j s a b 2 (gvL j a b 1) []]
 obtain ⟨g2, U1⟩ := go5 (g := g) (j := j) (me := 2) (φ := fun y => [y, finW g j s a b 2 (gvL j a b 1) []]) (fin := fun st => some st) (step := fun x st c => bif ieq x.To (wsub .i64 2 1) then (bif inr (wsub .i64 1 1) (len ([3, 4] : List Int)) then (elAt ([3, 4] : List Int) (wsub .i64 1 1)).bind fun y => bif ieq x.Inc y then (bif inr (wsub .i64 1 1) (len st) then (elAt st (wsub .i64 1 1)).bind fun z => (F18 K g j z x.M).bind fun r => c (putAt st (wsub .i64 1 1) r) else none) else c st else none) else c st) hK
  (fun p y c => by
   show (bif ieq p.To 1 then (bif ieq p.Inc 3 then ((F18 K g j y p.M).bind fun r => c [r, finW g j s a b 2 (gvL j a b 1) []]) else c [y, finW g j s a b 2 (gvL j a b 1) []]) else c [y, finW g j s a b 2 (gvL j a b 1) []]) = bif (ieq p.To 1 && ieq p.Inc 3) then _ else _
   cases ieq p.To 1 <;> cases ieq p.Inc 3 <;> rfl) (outG g j s a b 2 j.Parts.toNat ++ (gvL j a b 1).map gotP) _ _ V1 (by have := hL 2 (gvL j a b 1) (hG 1); omega) (outs_mi hr hn (.inr rfl) (gvL j a b 1))
 have og := outs_go (a := a) (b := b) hr (me := 2) (.inr rfl) (gvL j a b 1) []
 have e32 : (3 : Int) - 2 = 1 := rfl
 rw [e32] at og
 rw [og] at g2 U1
 have g2' := hs2.trans g2
 refine ⟨_, _, ?_, U1.up (by have := hL 2 (gvL j a b 1) (hG 1); omega), V2.up om⟩
 have u : ∀ k, F8_l4_4 K g j (splitS g j s, 0) (w2 j a b) ([giveW g j s a b 1 j.Parts.toNat, giveW g j s a b 2 j.Parts.toNat], ([1, 2], [3, 4])) (k + 3) [giveW g j s a b 1 j.Parts.toNat, giveW g j s a b 2 j.Parts.toNat] 0 = some [finW g j s a b 1 (gvL j a b 2) ([] ++ (gvL j a b 2).map gotP), finW g j s a b 2 (gvL j a b 1) []] := fun k => by
  have i0 : ilt 0 2 = true := rfl
  have i1 : ilt (wadd .i64 0 1) 2 = true := rfl
  have j1 : wadd .i64 0 1 = 1 := rfl
  have e0 : elAt [giveW g j s a b 1 j.Parts.toNat, giveW g j s a b 2 j.Parts.toNat] 0 = some (finW g j s a b 1 [] (outG g j s a b 1 j.Parts.toNat)) := rfl
  have n0 : inr 0 (len [giveW g j s a b 1 j.Parts.toNat, giveW g j s a b 2 j.Parts.toNat]) = true := rfl
  have q0 : putAt [giveW g j s a b 1 j.Parts.toNat, giveW g j s a b 2 j.Parts.toNat] 0 (finW g j s a b 1 [] []) = [finW g j s a b 1 [] [], finW g j s a b 2 [] (outG g j s a b 2 j.Parts.toNat)] := rfl
  have n1 : ∀ x y : GWorker, inr 1 (len [x, y]) = true := fun _ _ => rfl
  have x1 : ∀ x y : GWorker, elAt [x, y] 1 = some y := fun _ _ => rfl
  have q1 : ∀ x y z : GWorker, putAt [x, y] 1 z = [x, z] := fun _ _ _ => rfl
  rw [F8_l4_4, i0, cT, n0, cT, e0, bS, t1, bS, q0, g1', bS, F8_l4_4, i1, cT, j1, n1, cT, x1, bS]
  have t2' : F14 K g j (finW g j s a b 2 (gvL j a b 1) (outG g j s a b 2 j.Parts.toNat ++ (gvL j a b 1).map gotP)) 1 = _ := t2
  rw [t2', bS, q1, g2', bS, F8_l4_4]
  rfl
 obtain ⟨k, hk⟩ : ∃ k, K = k + 3 := ⟨K - 3, by omega⟩
 have := u k
 rw [← hk] at this
 exact this
theorem cut_fit (hr : stRight g j s = true) {p : Nat} (hp : p < j.Parts.toNat) {K : Nat} (hK : 1000000 ≤ K) : fitP K (cutS g j s (p : Int)) := by
 have hx := cut_right hr (p := p) om
 obtain ⟨h1, h2, h3, _⟩ := mail_right hx
 exact fit_P hK ⟨by omega, by omega, by omega⟩
theorem count8 {K : Nat} (hK : 1000000 ≤ K) (hr : stRight g j s = true) {idx : Int} {φ : GWorker → List GWorker} (hφ : At2 idx φ) (hi : wadd .i64 idx 1 = me) (w : List GWorker × List Int × List Int) (y r : GWorker)
 (hl : r.Held.length ≤ 1000) (hh : ∀ h ∈ r.Held, ∃ p : Nat, p < j.Parts.toNat ∧ owF b p = me ∧ h.X = cutS g j s (p : Int)) (c : Nat) (hc : c ≤ 1000) :
 F8_l7_7 K g j (splitS g j s, 0) (w2 j a b) w (φ y) idx r K (c : Int) 0 = some (.inr ((c + r.Held.length : Nat) : Int)) := by
 have hsl : (splitS g j s).length = j.Parts.toNat := by simp [splitS]
 have hw : ∀ (k n i : Nat), n < k → i + n = r.Held.length → F8_l7_7 K g j (splitS g j s, 0) (w2 j a b) w (φ y) idx r k ((c + i : Nat) : Int) (i : Int) = some (.inr ((c + r.Held.length : Nat) : Int)) := by
  intro k
  induction k with
  | zero => intro n i h; omega
  | succ k ih =>
   intro n i h1 h2
   rw [F8_l7_7, hφ.p, hφ.i, hφ.e, cT, bS]
   cases n with
   | zero =>
    have : ilt (i : Int) (nlen (len r.Held)) = false := ilt_f.2 (by rw [nlen_len]; omega)
    rw [this, show i = r.Held.length by omega]; rfl
   | succ n =>
    have e1 : ilt (i : Int) (nlen (len r.Held)) = true := ilt_iff.2 (by rw [nlen_len]; omega)
    obtain ⟨e2, e3⟩ := getD_at (l := r.Held) (GHeld.mk (GPart.mk 0 0 [] [] []) false false) (v := i) om
    have hmem : r.Held.getD i (GHeld.mk (GPart.mk 0 0 [] [] []) false false) ∈ r.Held := by
     rw [getD_lt om]; exact List.getElem_mem _
    obtain ⟨p, p1, p2, p3⟩ := hh _ hmem
    have pX : (r.Held.getD i (GHeld.mk (GPart.mk 0 0 [] [] []) false false)).X.P = (p : Int) := by rw [p3]; rfl
    have e4 : ilt (p : Int) 0 = false := ilt_f.2 om
    have e5 : ile (nlen (len (splitS g j s))) (p : Int) = false := ile_f.2 (by rw [nlen_len]; omega)
    obtain ⟨e6, e7⟩ := map_at (f := owF b) (n := j.Parts.toNat) p1
    obtain ⟨e8, e9⟩ := parts_at g j s p1
    rw [e1, cT, e2, cT, e3, bS, pX, e4, cF, e5, cF, e6, cT, e7, bS, p2, hi, ieq_iff.2 rfl, cT, e8, cT, e9, bS, p3, same118 _ (cut_fit hr p1 hK), bS, cT, wadd_nat om, wadd_nat om]
    exact ih n (i + 1) om om
 exact hw K r.Held.length 0 om om
theorem switch8 {K : Nat} (hK : 1000000 ≤ K) (hr : stRight g j s = true) {o1 o2 : List GPost} (W1 : WI g j 1 300 (finW g j s a b 1 (gvL j a b 2) o1)) (W2 : WI g j 2 300 (finW g j s a b 2 (gvL j a b 1) o2)) (v : List GWorker) :
 ∃ x y : GWorker, x.T.Epoch = 6 ∧ y.T.Epoch = 6 ∧ F8_l6_6 K g j (splitS g j s, 0) (w2 j a b) (v, ([1, 2], [3, 4])) K [finW g j s a b 1 (gvL j a b 2) o1, finW g j s a b 2 (gvL j a b 1) o2] 0 0 = some (.inr ([x, y], (j.Parts.toNat : Int))) := by
 obtain ⟨hc, _⟩ := stRight_ok hr
 obtain ⟨_, _, _, _, _, _, _, p7, p8⟩ := jcheck_ok hc
 have hG := gv_len j a b
 have hS : ∀ me, (stayL j a b me).length ≤ j.Parts.toNat := fun me => by
  have := List.length_filter_le (fun p => isO (tabF j 5 a) me p && !(movP a b p)) (List.range j.Parts.toNat)
  rwa [List.length_range] at this
 obtain ⟨a1, a2, a3⟩ := fin_change hr (a := a) (b := b) (me := 1) (.inl rfl) o1
 obtain ⟨b1, b2, b3⟩ := fin_change hr (a := a) (b := b) (me := 2) (.inr rfl) o2
 have e31 : (3 : Int) - 1 = 2 := rfl
 have e32 : (3 : Int) - 2 = 1 := rfl
 rw [e31] at a1 a2 a3
 rw [e32] at b1 b2 b3
 have f1 := f18 hK W1 om (chg_mi (b := b) hc)
 have f2 := f18 hK W2 om (chg_mi (b := b) hc)
 have hall := all_held j a b
 generalize hx : takeW g j (finW g j s a b 1 (gvL j a b 2) o1) (chgMl j b) = x at *
 generalize hy : takeW g j (finW g j s a b 2 (gvL j a b 1) o2) (chgMl j b) = y at *
 have g1 := hG 1; have g2 := hG 2; have s1 := hS 1; have s2 := hS 2
 have c1 := count8 (a := a) hK hr (at_fst (finW g j s a b 2 (gvL j a b 1) o2)) (me := 1) rfl (v, ([1, 2], [3, 4])) (finW g j s a b 1 (gvL j a b 2) o1) x om a3 0 om
 have c2 := count8 (a := a) hK hr (at_snd x) (me := 2) rfl (v, ([1, 2], [3, 4])) (finW g j s a b 2 (gvL j a b 1) o2) y om b3 (0 + x.Held.length) om
 refine ⟨x, y, a2, b2, ?_⟩
 have f1' : F18 K g j (finW g j s a b 1 (gvL j a b 2) o1) (GMail.mk 9 5 6 0 0 0 0 0 (w2 j a b).2 [1, 2] [3, 4] (GPart.mk 0 0 [] [] []) []) = some x := f1
 have f2' : F18 K g j (finW g j s a b 2 (gvL j a b 1) o2) (GMail.mk 9 5 6 0 0 0 0 0 (w2 j a b).2 [1, 2] [3, 4] (GPart.mk 0 0 [] [] []) []) = some y := f2
 have u : ∀ k, F8_l6_6 K g j (splitS g j s, 0) (w2 j a b) (v, ([1, 2], [3, 4])) (k + 3) [finW g j s a b 1 (gvL j a b 2) o1, finW g j s a b 2 (gvL j a b 1) o2] 0 0 = some (.inr ([x, y], (j.Parts.toNat : Int))) := fun k => by
  have i0 : ilt 0 2 = true := rfl
  have i1 : ilt (wadd .i64 0 1) 2 = true := rfl
  have i2 : ilt (wadd .i64 1 1) 2 = false := rfl
  have j1 : wadd .i64 0 1 = 1 := rfl
  have n0 : ∀ x y : GWorker, inr 0 (len [x, y]) = true := fun _ _ => rfl
  have x0 : ∀ x y : GWorker, elAt [x, y] 0 = some x := fun _ _ => rfl
  have q0 : ∀ x y z : GWorker, putAt [x, y] 0 z = [z, y] := fun _ _ _ => rfl
  have n1 : ∀ x y : GWorker, inr 1 (len [x, y]) = true := fun _ _ => rfl
  have x1 : ∀ x y : GWorker, elAt [x, y] 1 = some y := fun _ _ => rfl
  have q1 : ∀ x y z : GWorker, putAt [x, y] 1 z = [x, z] := fun _ _ _ => rfl
  have c1' : F8_l7_7 K g j (splitS g j s, 0) (w2 j a b) (v, ([1, 2], [3, 4])) [finW g j s a b 1 (gvL j a b 2) o1, finW g j s a b 2 (gvL j a b 1) o2] 0 x K 0 0 = _ := c1
  rw [F8_l6_6, i0, cT, n0, cT, x0, bS, f1', bS, c1', bS, Sum.elim_inr, q0, F8_l6_6, i1, cT, j1, n1, cT, x1, bS, f2', bS, c2, bS, Sum.elim_inr, q1, F8_l6_6, i2, cF,
   show 0 + x.Held.length + y.Held.length = j.Parts.toNat by omega]
 obtain ⟨k, hk⟩ : ∃ k, K = k + 3 := ⟨K - 3, by omega⟩
 have := u k
 rw [← hk] at this
 exact this
theorem law8K {K : Nat} (hK : 1000000 ≤ K) (g : GGraph) (j : GJob) (s : GState) (a b : List Bool) (hn : niceS s) : F8 K g j s a b = some true := by
 rw [F8, great_spec, bS]
 cases ilt 200 (g.Edges.length : Int)
 · rw [cF]
   cases hv : ilt 100 (nlen (len s.Vals))
   · rw [cF]
     cases hi : ilt 100 (nlen (len s.In))
     · rw [ilt_f, nlen_len] at hv hi
       rw [cF, F19_spec om, bS]
       cases hc : ieq (jcheck g j) 0
       · rfl
       · rw [cT, F20_spec om g j s om om, bS]
         cases hr : stRight g j s
         · rfl
         · obtain ⟨hg, _, _, _, _, _, _, p7, p8⟩ := jcheck_ok hc
           have hsp : splitR g j s = (splitS g j s, 0) := by rw [splitR, hc, hr]; rfl
           have hlen : (splitS g j s).length = j.Parts.toNat := by simp [splitS]
           have hW0 : ∀ id : Int, Sml (GWorker.mk id (-1) 0 (GTable.mk 0 [] [] []) [] [] [] []) := fun id => ⟨Nat.zero_le _, Nat.zero_le _, Nat.zero_le _, Nat.zero_le _⟩
           have hL : ∀ id : Int, leaseS (GWorker.mk id (-1) 0 (GTable.mk 0 [] [] []) [] [] [] []) 9 = loadK g j s (tabF j 5 a) id 9 0 := fun id => rfl
           have ho := own8 hK g j a b (splitS g j s, 0) (by show (splitS g j s).length ≤ 100; omega)
           have ho' : F8_l0_0 K g j a b (splitS g j s, 0) K [] [] 0 = some (w2 j a b) := by rw [ho]; show some ((List.range (splitS g j s).length).map (owF a), (List.range (splitS g j s).length).map (owF b)) = _; rw [hlen]
           obtain ⟨o1, o2, t1, t2, t3⟩ := ticks8 (a := a) (b := b) hK hr hn
           obtain ⟨x, y, x1, x2, x3⟩ := switch8 hK hr t2 t3 [giveW g j s a b 1 j.Parts.toNat, giveW g j s a b 2 j.Parts.toNat]
           have hP : ieq (j.Parts.toNat : Int) (nlen (len (splitS g j s))) = true := ieq_iff.2 (by rw [nlen_len]; omega)
           rw [cT, F21_spec om g j s om, hsp, bS, ho', bS, F11, bS, F22_spec K _ 9 (hW0 1), hL, bS, F11, bS, F22_spec K _ 9 (hW0 2), hL, bS, both8 hK hr hn, bS, t1, bS, x3, bS, Sum.elim_inr]
           have n0 : inr 0 (len [x, y]) = true := rfl
           have n1 : inr 1 (len [x, y]) = true := rfl
           have y0 : elAt [x, y] 0 = some x := rfl
           have y1 : elAt [x, y] 1 = some y := rfl
           dsimp only
           rw [hP, cT, n0, cT, y0, bS, x1, n1, y1]
           show (bif (true : Bool) then (some y).bind fun z => bif ieq z.T.Epoch 6 then some true else some false else none) = some true
           rw [cT, bS, x2]; rfl
     · rfl
   · rfl
 · rfl
theorem law8 (g : GGraph) (j : GJob) (s : GState) (a b : List Bool) (_ : WGGraph g) (_ : WGJob j) (hs : WGState s) (_ : a.length * 1 ≤ reachBytes ∧ ∀ y : Bool, y ∈ a → (fun _ => True) y) (_ : b.length * 1 ≤ reachBytes ∧ ∀ y : Bool, y ∈ b → (fun _ => True) y) : F8 1000000 g j s a b = some true := law8K (Nat.le_refl _) g j s a b (wf_nice hs)
end
end
end Go.Proofs.Ytbaihlhoedbpkaa.Tm

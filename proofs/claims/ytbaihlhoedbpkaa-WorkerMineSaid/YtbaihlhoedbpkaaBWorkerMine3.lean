/- What the row of WorkerMine leans on: printed functions and plain laws. Conditions: none. -/
import Derived.Test.YtbaihlhoedbpkaaTy
import Derived.Test.YtbaihlhoedbpkaaTab
import Derived.Test.YtbaihlhoedbpkaaKn
import Derived.Test.YtbaihlhoedbpkaaWf
import Derived.IntWalk
import Derived.KernelRfl
import Derived.OpenShut
import Derived.Test.YtbaihlhoedbpkaaBWorkerMine2
set_option linter.unusedVariables false
set_option linter.unusedSimpArgs false
namespace Go.Proofs.Ytbaihlhoedbpkaa.Tm
open Go
theorem F45_spec {K : Nat} (w : GWorker) (g : GGraph) (j : GJob) (m : GMail) (hw : Sml w) (hK : 1000000 ≤ K) : F45_iiiiiiioooo K w g j m = some (takeQ w m) := by
 let step : GComing → Unit → (Unit → Option (Unit ⊕ Unit)) → Option (Unit ⊕ Unit) := fun x _ c => bif ieq x.Epoch m.Epoch then (bif ieq x.X.P m.X.P then some (.inl ()) else c ()) else c ()
 have h := scanL (l := w.Coming) (L := fun k (_ : Unit) i => F45_iiiiiiioooo_l0_0 K w m k i) step (fun _ => some (.inr ())) (fun k s i _ => rfl) (by have := hw.c; omega) (K := K) (by have := hw.c; omega) ()
 have e := all_go (step := step) (fun c => !(isC m.Epoch m.X.P c)) w.Coming (fun x _ c => by
  show (bif ieq x.Epoch m.Epoch then (bif ieq x.X.P m.X.P then _ else _) else _) = _
  rw [isC]
  cases ieq x.Epoch m.Epoch <;> cases ieq x.X.P m.X.P <;> rfl)
 have e1 : F45_iiiiiiioooo_l0_0 K w m K 0 = _ := h.trans e
 have e2 : (w.Coming.all fun c => !(isC m.Epoch m.X.P c)) = !(w.Coming.any (isC m.Epoch m.X.P)) := by rw [List.not_any_eq_all_not]
 rw [F45_iiiiiiioooo, e1, e2, takeQ]
 cases ilt m.Epoch w.T.Epoch
 · cases w.Coming.any (isC m.Epoch m.X.P)
   · simp only [cond_false, Bool.not_false, sumU, cond_true, Option.bind_some, Sum.elim_inr, Bool.or_false]
     rw [apok_small (by have := hw.c; show w.Coming.length + 1 ≤ _; omega) (by omega), cond_true, F63_spec K _ _ (by have := hw.o; show w.Out.length ≤ _; omega)]; rfl
   · rfl
 · rfl
def restH (w : GWorker) (m : GMail) : List GPart := (w.Held.filter fun h => ieq m.Epoch w.T.Epoch && (!(h.Wait) && !(h.Given))).map (·.X)
def restC (w : GWorker) (m : GMail) : List GPart := (w.Coming.filter fun c => ieq c.Epoch m.Epoch).map (·.X)
def holdX (g : GGraph) (j : GJob) (w : GWorker) (x : GPart) : GWorker := bif mineS g j w x then { w with Held := insH w.Held x } else w
def changeS (g : GGraph) (j : GJob) (w : GWorker) (m : GMail) : GWorker :=
 bif (tableS j m.Fresh m).2 then (bif ile m.Fresh w.T.Epoch then w else sinceS ((restH w m ++ restC w m).foldl (holdX g j) { w with T := (tableS j m.Fresh m).1, Goal := -1, Held := [] }) m.Fresh) else w
theorem goL_fold {α σ β : Type} {step : α → σ → (σ → Option β) → Option β} {fin : σ → Option β} (P : σ → Prop) (f : σ → α → σ) : ∀ (l : List α) (s : σ), P s → (∀ x ∈ l, ∀ s, P s → P (f s x) ∧ ∀ c, step x s c = c (f s x)) →
 goL step fin l s = fin (l.foldl f s) ∧ P (l.foldl f s)
 | [], s, hs, _ => ⟨rfl, hs⟩
 | x :: l, s, hs, h => by
  obtain ⟨h1, h2⟩ := h x List.mem_cons_self s hs
  rw [goL, h2, List.foldl_cons]
  exact goL_fold P f l (f s x) h1 fun y hy => h y (List.mem_cons_of_mem _ hy)
abbrev WT : Type := Int × Int × Int × Int × List Int × List Int × List Int × List GHeld × List GData × List GComing × List GPost
abbrev wt (w : GWorker) : WT :=
 (w.Id, (w.Goal, (w.Until, (w.T.Epoch, (w.T.Owners, (w.T.Ids, (w.T.Incs, (w.Held, (w.Buf, (w.Coming, w.Out))))))))))
structure SmlP (x : GPart) : Prop where
 v : x.Vals.length ≤ 100
 r : x.Rest.length ≤ 100
 i : x.In.length ≤ 300
 p : i64 x.P
 n : niceP x
theorem F46_hold {K : Nat} (hK : 1000000 ≤ K) (g : GGraph) (j : GJob) (m : GMail) (l : List GPart) (hl : l.length ≤ 600000) (hp : ∀ x ∈ l, SmlP x) (w : GWorker) (hw : HOk w.Held) :
 F46_iiiiiiioooo_l2_2 K g j m l K w.Id w.Goal w.Until w.T.Epoch w.T.Owners w.T.Ids w.T.Incs w.Held w.Buf w.Coming w.Out 0 = some (wt (l.foldl (holdX g j) w)) := by
 let step : GPart → GWorker → (GWorker → Option WT) → Option WT := fun x w c => (F70_iiiiiiioooo K w g j x).bind fun r => bif r.1 then (F71_iiiiiiioooo K r.2 x).bind fun r => c r else c r.2
 have h := scanL (l := l) (L := fun k (w : GWorker) i => F46_iiiiiiioooo_l2_2 K g j m l k w.Id w.Goal w.Until w.T.Epoch w.T.Owners w.T.Ids w.T.Incs w.Held w.Buf w.Coming w.Out i) step (fun w => some (wt w)) (fun k s i _ => rfl) (by omega) (K := K) (by omega) w
 have e := goL_fold (step := step) (fin := fun w => some (wt w)) (fun w => HOk w.Held) (holdX g j) l w hw (fun x hx w hw => by
  have hs := hp x hx
  have hlen := hw.len
  have e1 := F70_spec (K := K) (by omega) w g j x (by omega) (by have := hs.i; omega) hs.p
  constructor
  · show HOk (holdX g j w x).Held
    rw [holdX]
    cases hm : mineS g j w x
    · exact hw
    · exact hw.ins hm
  · intro c
    show (F70_iiiiiiioooo K w g j x).bind _ = _
    rw [e1, Option.bind_some, holdX]
    cases mineS g j w x
    · rfl
    · rw [cond_true, cond_true, F71_spec K w x (by omega) (by omega), Option.bind_some])
 exact h.trans e.1
theorem F46_spec {K : Nat} (hK : 1000000 ≤ K) (w : GWorker) (g : GGraph) (j : GJob) (m : GMail) (hw : Sml w) (h1 : ∀ h ∈ w.Held, SmlP h.X) (h2 : ∀ c ∈ w.Coming, SmlP c.X) : F46_iiiiiiioooo K w g j m = some (changeS g j w m) := by
 have a1 := hw.h
 have a2 := hw.c
 have a3 := hw.b
 rw [F46_iiiiiiioooo, F68_spec (by omega), Option.bind_some, changeS]
 cases (tableS j m.Fresh m).2
 · rfl
 · cases ile m.Fresh w.T.Epoch
   · rw [cond_true, cond_true, cond_false, cond_false]
     generalize hr : tableS j m.Fresh m = r
     let st1 : GHeld → List GPart → (List GPart → Option (List GPart)) → Option (List GPart) := fun x a c => bif ieq m.Epoch w.T.Epoch then (bif x.Wait then c a else bif x.Given then c a else bif apok (len a) 1 88 then c (appL a [x.X]) else none) else c a
     have e1 := scanL (l := w.Held) (L := fun k a i => F46_iiiiiiioooo_l0_0 K w g j m r k a i) st1 (fun a => some a) (fun k s i _ => rfl) (by omega) (K := K) (by omega) []
     have g1 := filt_go (step := st1) (fun h : GHeld => ieq m.Epoch w.T.Epoch && (!(h.Wait) && !(h.Given))) (fun h => h.X) 88 (by omega) 1000000 (by omega) w.Held [] (by simp; omega) (fun x _ a c => by
      show (bif ieq m.Epoch w.T.Epoch then (bif x.Wait then c a else bif x.Given then c a else _) else c a) = _
      cases ieq m.Epoch w.T.Epoch <;> cases x.Wait <;> cases x.Given <;> rfl)
     have f1 : F46_iiiiiiioooo_l0_0 K w g j m r K [] 0 = some (restH w m) := (e1.trans g1).trans (by simp [restH])
     rw [f1, Option.bind_some]
     have hrl : (restH w m).length ≤ 50 := by rw [restH, List.length_map]; exact Nat.le_trans (filt_le _ _) a1
     let st2 : GComing → List GPart → (List GPart → Option (List GPart)) → Option (List GPart) := fun x a c => bif ieq x.Epoch m.Epoch then (bif apok (len a) 1 88 then c (appL a [x.X]) else none) else c a
     have e2 := scanL (l := w.Coming) (L := fun k a i => F46_iiiiiiioooo_l1_1 K w g j m r k a i) st2 (fun a => some a) (fun k s i _ => rfl) (by omega) (K := K) (by omega) (restH w m)
     have g2 := filt_go (step := st2) (fun c : GComing => ieq c.Epoch m.Epoch) (fun c => c.X) 88 (by omega) 1000000 (by omega) w.Coming (restH w m) (by omega) (fun x _ a c => rfl)
     have f2 : F46_iiiiiiioooo_l1_1 K w g j m r K (restH w m) 0 = some (restH w m ++ restC w m) := e2.trans g2
     rw [f2, Option.bind_some]
     have hcl : (restC w m).length ≤ 500000 := by rw [restC, List.length_map]; exact Nat.le_trans (filt_le _ _) a2
     have f3 := F46_hold hK g j m (restH w m ++ restC w m) (by rw [List.length_append]; omega) (fun x hx => by
      rcases List.mem_append.1 hx with hx | hx
      · obtain ⟨h, hh, rfl⟩ := List.mem_map.1 hx
        exact h1 h (List.mem_filter.1 hh).1
      · obtain ⟨c, hc, rfl⟩ := List.mem_map.1 hx
        exact h2 c (List.mem_filter.1 hc).1) { w with T := r.1, Goal := -1, Held := [] } HOk.nil
     have f3' : F46_iiiiiiioooo_l2_2 K g j m (restH w m ++ restC w m) K w.Id (-1) w.Until r.1.Epoch r.1.Owners r.1.Ids r.1.Incs [] w.Buf w.Coming w.Out 0 = _ := f3
     rw [f3', Option.bind_some]
     generalize hv : (restH w m ++ restC w m).foldl (holdX g j) { w with T := r.1, Goal := -1, Held := [] } = v
     have hbc : v.Buf = w.Buf ∧ v.Coming = w.Coming := by
      have key : ∀ (l : List GPart) (u : GWorker), (l.foldl (holdX g j) u).Buf = u.Buf ∧ (l.foldl (holdX g j) u).Coming = u.Coming := by
       intro l
       induction l with
       | nil => intro u; exact ⟨rfl, rfl⟩
       | cons x l ih =>
        intro u
        rw [List.foldl_cons]
        have := ih (holdX g j u x)
        have e : (holdX g j u x).Buf = u.Buf ∧ (holdX g j u x).Coming = u.Coming := by rw [holdX]; cases mineS g j u x <;> exact ⟨rfl, rfl⟩
        exact ⟨this.1.trans e.1, this.2.trans e.2⟩
      rw [← hv]; exact key _ _
     show (F69_iiiiiiioooo K v m.Fresh).bind _ = _
     rw [F69_spec v m.Fresh (by rw [hbc.1]; omega) (by rw [hbc.2]; omega) (by rw [hbc.1]; omega) (by rw [hbc.2]; omega)]; rfl
   · rfl
theorem F30_spec (K : Nat) (w : GWorker) (h : Sml w) : F30 K w = some w := by
 obtain ⟨h1, h2, h3, h4⟩ := h
 rw [F30, apok_small (by show 0 + w.Held.length ≤ _; omega) (by omega), apok_small (by show 0 + w.Buf.length ≤ _; omega) (by omega), apok_small (by show 0 + w.Coming.length ≤ _; omega) (by omega), apok_small (by show 0 + w.Out.length ≤ _; omega) (by omega)]
 simp only [cond_true, app_nil]
def byKind (g : GGraph) (j : GJob) (w : GWorker) (m : GMail) : GWorker :=
 bif ieq m.Kind 1 then loadS g j w m else bif ieq m.Kind 3 then beginW w m else bif ieq m.Kind 4 then dataS w m else bif ieq m.Kind 6 then giveS w m else bif ieq m.Kind 7 then takeQ w m else bif ieq m.Kind 9 then changeS g j w m else w
def takeW (g : GGraph) (j : GJob) (w : GWorker) (m : GMail) : GWorker := bif ieq (jcheck g j) 0 && mailR m then byKind g j w m else w
theorem F18_spec {K : Nat} (hK : 1000000 ≤ K) (g : GGraph) (j : GJob) (w : GWorker) (m : GMail) (hw : Sml w) (h1 : ∀ h ∈ w.Held, SmlP h.X) (h2 : ∀ c ∈ w.Coming, SmlP c.X) (hm : FitM 2000 m) (hp : i64 m.X.P) : F18 K g j w m = some (takeW g j w m) := by
 rw [F18, F30_spec K w hw, Option.bind_some, F31_spec (by omega), Option.bind_some, F40_spec (by omega) m hm, takeW]
 cases ieq (jcheck g j) 0
 · rfl
 · cases hr : mailR m
   · rfl
   · have hi : m.Incs.length = m.Ids.length := by
      simp only [mailR, Bool.and_eq_true, ieq_iff] at hr
      have := hr.2.2.2.2.2.2.1
      omega
     simp only [cond_true, Option.bind_some, Bool.true_and, byKind, F41_spec hK w g j m hw hm hp, F42_spec, F43_spec w g j m (by have := hw.b; omega) hK, F44_spec (K := K) (by omega) w g j m hw hm hi (by have := hm.i; omega), F45_spec w g j m hw hK, F46_spec hK w g j m hw h1 h2]
     cases ieq m.Kind 1 <;> cases ieq m.Kind 3 <;> cases ieq m.Kind 4 <;> cases ieq m.Kind 6 <;> cases ieq m.Kind 7 <;> cases ieq m.Kind 9 <;> rfl
def leaseS (w : GWorker) (n : Int) : GWorker := bif ilt w.Until n then { w with Until := n } else w
theorem F22_spec (K : Nat) (w : GWorker) (n : Int) (h : Sml w) : F22 K w n = some (leaseS w n) := by
 rw [F22, F30_spec K w h, Option.bind_some, leaseS]
 cases ilt w.Until n <;> rfl
theorem foldC_ok (p : Int) : ∀ (r : List GMsg) (c : GMsg) (d w : List GMsg), foldC p r c d = .inr w → i64 c.V → (∀ x ∈ r, i64 x.V) → (∀ x ∈ d, i64 x.V) → w.length ≤ d.length + r.length + 1 ∧ ∀ x ∈ w, i64 x.V
 | [], c, d, w, h, hc, _, hd => by
  injection h with h
  subst h
  refine ⟨by simp, fun x hx => ?_⟩
  rcases List.mem_append.1 hx with hx | hx
  · exact hd x hx
  · rw [List.mem_singleton.1 hx]; exact hc
 | x :: r, c, d, w, h, hc, hr, hd => by
  rw [foldC] at h
  have hx := hr x List.mem_cons_self
  have hr' := fun y hy => hr y (List.mem_cons_of_mem _ hy)
  cases h1 : ieq c.To x.To
  · rw [h1, cond_false] at h
    have := foldC_ok p r x (d ++ [c]) w h hx hr' (fun y hy => by
     rcases List.mem_append.1 hy with hy | hy
     · exact hd y hy
     · rw [List.mem_singleton.1 hy]; exact hc)
    rw [List.length_append] at this
    simp only [List.length_singleton] at this
    exact ⟨by simp only [List.length_cons]; omega, this.2⟩
  · rw [h1, cond_true] at h
    cases h2 : ieq (foldS p c.V x.V).2 0
    · rw [h2] at h; cases h
    · rw [h2, cond_true] at h
      have := foldC_ok p r _ d w h (foldS_i64 hc hx) hr' hd
      exact ⟨by simp only [List.length_cons]; omega, this.2⟩
theorem boxS_ok {p : Int} {l : List GMsg} (hl : ∀ x ∈ l, i64 x.V) : (boxS p l).1.length ≤ l.length ∧ ∀ x ∈ (boxS p l).1, i64 x.V := by
 have hn : ∀ x ∈ ([] : List GMsg), i64 x.V := fun x hx => absurd hx List.not_mem_nil
 have hs : ∀ x ∈ sortM l, i64 x.V := fun x hx => hl x ((sortM_perm l).mem_iff.1 hx)
 have hsl := sortM_len l
 rw [boxS]
 cases pbad p
 · rw [cond_false]
   generalize sortM l = m at *
   cases m with
   | nil => exact ⟨Nat.zero_le _, hn⟩
   | cons x r =>
    rw [foldO]
    cases hq : foldC p r x [] with
    | inl e => exact ⟨Nat.zero_le _, hn⟩
    | inr w =>
     have := foldC_ok p r x [] w hq (hs x List.mem_cons_self) (fun y hy => hs y (List.mem_cons_of_mem _ hy)) hn
     simp only [List.length_cons, List.length_nil] at hsl this
     exact ⟨by show w.length ≤ _; omega, this.2⟩
 · exact ⟨Nat.zero_le _, hn⟩
theorem take_right {g : GGraph} {j : GJob} {x : GPart} {l : List GMsg} (h : ieq (takeS g j x l).2 0 = true) : partRight g j (takeS g j x l).1 = true ∧ ieq (jcheck g j) 0 = true := by
 rw [takeS] at h ⊢
 cases hc : ieq (jcheck g j) 0
 · rw [hc, cond_false] at h
   have h' : ieq (jcheck g j) 0 = true := h
   rw [hc] at h'; cases h'
 · rw [hc] at h
   cases hR : partRight g j x
   · rw [hR] at h; cases h
   · rw [hR] at h
     cases hI : ieq (nlen (len x.In)) 0
     · rw [hI] at h; cases h
     · rw [hI] at h
       cases hO : takeOk g.N j.Parts x.P l
       · rw [hO] at h; cases h
       · rw [hO] at h
         simp only [cond_true, takeB] at h ⊢
         cases hB : ieq (boxS j.Prog l).2 0
         · rw [hB, cond_false] at h
           have h' : ieq (boxS j.Prog l).2 0 = true := h
           rw [hB] at h'; cases h'
         · obtain ⟨_, p1, p2, p3, p4, p5, p6, _⟩ := partRight_ok hR
           obtain ⟨r1, r2⟩ := boxS_rise (p := j.Prog) (l := l)
           have hin : inOkS g.N j.Parts x.P (-1) (boxS j.Prog l).1 = true := inOkS_mk r1 fun m hm => by
            obtain ⟨s, hs, e⟩ := r2 m hm
            have := List.all_eq_true.1 hO s hs
            simp only [Bool.and_eq_true, ile_iff, ilt_iff, ieq_iff] at this
            rw [← e]
            exact ⟨by omega, this.2.1, this.2.2⟩
           refine ⟨?_, trivial⟩
           rw [cond_true, partRight]
           simp only [hc, ile_iff.2 p1, ilt_iff.2 p2, ile_iff.2 p3, ile_iff.2 p4, ieq_iff.2 p5, ieq_iff.2 p6, hin, Bool.and_true]
theorem doA_bad {g : GGraph} {j : GJob} {x : GPart} : ∀ (l : List Nat) (i : Nat) (a : List Int) (b : List Bool) (c : List GMsg) (e : Int), doA g j x l i a b c = .inl e → ieq e 0 = false := by
 intro l
 induction l with
 | nil => intro i a b c e h; cases h
 | cons v l ih =>
  intro i a b c e h
  rw [doA] at h
  cases hq : ieq (oneP g j x i v).2.2.2 0
  · rw [hq] at h
    injection h with h
    rw [← h]; exact hq
  · rw [hq] at h; exact ih _ _ _ _ _ h
theorem tell_cases {j : GJob} {c : List GMsg} : ∀ (l : List Nat) (d : List (List GMsg)), (∃ e, ieq e 0 = false ∧ tellS j c l d = .inl e) ∨ (tellS j c l d = .inr (d ++ l.map fun (q : Nat) => (boxS j.Prog (toS j c (q : Int))).1) ∧ ∀ q ∈ l, ieq (boxS j.Prog (toS j c (q : Int))).2 0 = true) := by
 intro l
 induction l with
 | nil => intro d; exact .inr ⟨by rw [tellS, List.map_nil, List.append_nil], fun q hq => absurd hq List.not_mem_nil⟩
 | cons q l ih =>
  intro d
  rw [tellS]
  cases hq : ieq (boxS j.Prog (toS j c (q : Int))).2 0
  · exact .inl ⟨_, hq, rfl⟩
  · rcases ih (d ++ [(boxS j.Prog (toS j c (q : Int))).1]) with h | ⟨h, h'⟩
    · exact .inl h
    · refine .inr ⟨by rw [cond_true, h]; simp, fun y hy => ?_⟩
      rcases List.mem_cons.1 hy with rfl | hy
      · exact hq
      · exact h' y hy
theorem do_cases (g : GGraph) (j : GJob) {x : GPart} (hn : niceP x) : (∃ e, ieq e 0 = false ∧ doS g j x = (zeroP, [], e)) ∨
 (ieq (jcheck g j) 0 = true ∧ partRight g j x = true ∧ ieq x.Step 40 = false ∧ ∃ w, doA g j x (vertsS g j x.P) 0 [] [] [] = .inr w ∧ keepP g (vertsS g j x.P).length w.1 w.2.1 w.2.2 ∧
  (∀ q < j.Parts.toNat, ieq (boxS j.Prog (toS j w.2.2 (q : Int))).2 0 = true) ∧
  doS g j x = (GPart.mk x.P (x.Step + 1) w.1 w.2.1 [], (List.range j.Parts.toNat).map (fun (q : Nat) => (boxS j.Prog (toS j w.2.2 (q : Int))).1), 0)) := by
 rw [doS]
 cases hc : ieq (jcheck g j) 0
 · exact .inl ⟨_, hc, rfl⟩
 · cases hR : partRight g j x
   · exact .inl ⟨_, rfl, rfl⟩
   · cases h40 : ieq x.Step 40
     · cases hA : doA g j x (vertsS g j x.P) 0 [] [] [] with
       | inl e => exact .inl ⟨e, doA_bad _ _ _ _ _ _ hA, rfl⟩
       | inr w =>
        have kw := doA_keep hn _ 0 [] [] [] (keepP0 g) w hA
        rw [Nat.zero_add] at kw
        rcases tell_cases (j := j) (c := w.2.2) (List.range j.Parts.toNat) [] with ⟨e, h1, h2⟩ | ⟨h, h'⟩
        · refine .inl ⟨e, h1, ?_⟩
          simp only [cond_true, cond_false, doB, h2, doC]
        · refine .inr ⟨rfl, rfl, rfl, w, rfl, kw, fun q hq => h' q (List.mem_range.2 hq), ?_⟩
          simp only [cond_true, cond_false, doB, h, doC, List.nil_append]
     · exact .inl ⟨_, rfl, rfl⟩
theorem do_fit {K : Nat} (hK : 3000 ≤ K) (g : GGraph) (j : GJob) {x : GPart} (hn : niceP x) : fitP K (doS g j x).1 ∧ (doS g j x).2.1.length ≤ 6 ∧ ∀ l ∈ (doS g j x).2.1, l.length ≤ 2000 := by
 have hz : fitP K zeroP := by refine ⟨⟨?_, ?_⟩, ⟨?_, ?_⟩, ?_, ?_⟩ <;> simp [zeroP] <;> omega
 rcases do_cases g j hn with ⟨e, _, h⟩ | ⟨hc, hR, _, w, _, kw, _, h⟩
 · rw [h]; exact ⟨hz, Nat.zero_le _, fun l hl => absurd hl List.not_mem_nil⟩
 · obtain ⟨hg, _, _, _, _, _, _, p7, p8⟩ := jcheck_ok hc
   obtain ⟨g1, g2, g3, _⟩ := gcheck_ok hg
   have hvl := verts_len g j g2 x.P
   have h1 := kw.la
   have h2 := kw.lb
   have h3 := kw.lc
   rw [h]
   refine ⟨⟨⟨by show w.1.length < _; omega, by show w.1.length < _; omega⟩, ⟨by show w.2.1.length < _; omega, by show w.2.1.length < _; omega⟩, by show 0 < 1000000; omega, by show 0 < K; omega⟩, ?_, fun l hl => ?_⟩
   · show ((List.range j.Parts.toNat).map _).length ≤ 6
     rw [List.length_map, List.length_range]; omega
   · obtain ⟨q, hq, rfl⟩ := List.mem_map.1 hl
     have := (boxS_ok (p := j.Prog) (l := toS j w.2.2 (q : Int)) fun m hm => kw.vc m (toS_mem hm).1).1
     have := toS_len j w.2.2 (q : Int)
     omega
def outM (w : GWorker) (p : Int) (q : Nat) (l : List GMsg) : GMail := GMail.mk 4 w.T.Epoch 0 w.Goal (q : Int) p 0 0 [] [] [] noP' l
def outStep (p : Int) (w : GWorker) (q : Nat) (l : List GMsg) : GWorker :=
 bif ieq (toT w.T (q : Int)).1 w.Id then dataS w (outM w p q l) else { w with Out := w.Out ++ [GPost.mk (toT w.T (q : Int)).1 (toT w.T (q : Int)).2.1 (outM w p q l)] }
def outsW (p : Int) : Nat → List (List GMsg) → GWorker → GWorker
 | _, [], w => w
 | q, l :: r, w => outsW p (q + 1) r (outStep p w q l)
theorem dataS_len (w : GWorker) (m : GMail) : (dataS w m).Buf.length ≤ w.Buf.length + 1 ∧ (dataS w m).Out = w.Out := by
 rw [dataS]
 cases ile w.T.Epoch m.Epoch && ilt (gotS w.Buf m.Epoch m.Step m.Q m.P) 0
 · exact ⟨by show w.Buf.length ≤ _; omega, rfl⟩
 · exact ⟨by show (w.Buf ++ _).length ≤ _; simp, rfl⟩
theorem outStep_len (p : Int) (w : GWorker) (q : Nat) (l : List GMsg) : (outStep p w q l).Buf.length ≤ w.Buf.length + 1 ∧ (outStep p w q l).Out.length ≤ w.Out.length + 1 := by
 rw [outStep]
 cases ieq (toT w.T (q : Int)).1 w.Id
 · exact ⟨by show w.Buf.length ≤ _; omega, by show (w.Out ++ _).length ≤ _; simp⟩
 · have := dataS_len w (outM w p q l)
   exact ⟨this.1, by show (dataS w (outM w p q l)).Out.length ≤ _; rw [this.2]; omega⟩
theorem F33_loop {K : Nat} (hK : 1000000 ≤ K) (g : GGraph) (j : GJob) (h : GHeld) (r : GPart × List (List GMsg) × Int) (hr : r.2.1.length ≤ 100) (w : GWorker) (hb : w.Buf.length ≤ 800000) (ho : w.Out.length ≤ 800000) :
 F33_iiiiiiioooo_l0_0 K g j h r K w.Id w.Goal w.Until w.T.Epoch w.T.Owners w.T.Ids w.T.Incs w.Held w.Buf w.Coming w.Out 0 = some (wt (outsW h.X.P 0 r.2.1 w)) := by
 let step : Nat → List GMsg → GWorker → (GWorker → Option WT) → Option WT := fun i l w c =>
  (F60 K w.T (i : Int)).bind fun t => bif ieq t.1 w.Id then (F43_iiiiiiioooo K w g j (outM w h.X.P i l)).bind fun r => c r
   else bif apok (len w.Out) 1 264 then c { w with Out := appL w.Out [GPost.mk t.1 t.2.1 (outM w h.X.P i l)] } else none
 have hs := scanI (l := r.2.1) (L := fun k (w : GWorker) i => F33_iiiiiiioooo_l0_0 K g j h r k w.Id w.Goal w.Until w.T.Epoch w.T.Owners w.T.Ids w.T.Incs w.Held w.Buf w.Coming w.Out i) step (fun w => some (wt w)) (fun k s i _ => rfl) (by omega) K w 0 (by omega) (by omega)
 have go : ∀ (l : List (List GMsg)) (i : Nat) (w : GWorker), w.Buf.length + l.length ≤ 900000 → w.Out.length + l.length ≤ 900000 → goI step (fun w => some (wt w)) i l w = some (wt (outsW h.X.P i l w)) := by
  intro l
  induction l with
  | nil => intro i w _ _; rfl
  | cons x l ih =>
   intro i w h1 h2
   rw [List.length_cons] at h1 h2
   have hl := outStep_len h.X.P w i x
   rw [goI, outsW, ← ih (i + 1) (outStep h.X.P w i x) (by omega) (by omega)]
   show (F60 K w.T (i : Int)).bind _ = _
   rw [F60_spec (by omega), Option.bind_some, outStep]
   cases ieq (toT w.T (i : Int)).1 w.Id
   · rw [cond_false, cond_false, apok_small (by show w.Out.length + 1 ≤ _; omega) (by omega)]; rfl
   · rw [cond_true, cond_true, F43_spec w g j _ (by omega) hK, Option.bind_some]
 rw [List.drop_zero] at hs
 exact hs.trans (go r.2.1 0 w (by omega) (by omega))
def doAt (g : GGraph) (j : GJob) (w : GWorker) (i : Nat) (h : GHeld) : List GDid × GWorker :=
 bif ieq (doS g j h.X).2.2 6 || ieq (doS g j h.X).2.2 1 then ([], w) else
 bif ieq (doS g j h.X).2.2 0 then
  ([GDid.mk (outsW h.X.P 0 (doS g j h.X).2.1 { w with Held := w.Held.set i (GHeld.mk (doS g j h.X).1 true h.Given) }).T.Epoch (outsW h.X.P 0 (doS g j h.X).2.1 { w with Held := w.Held.set i (GHeld.mk (doS g j h.X).1 true h.Given) }).Goal h.X.P],
   outsW h.X.P 0 (doS g j h.X).2.1 { w with Held := w.Held.set i (GHeld.mk (doS g j h.X).1 true h.Given) })
 else ([], failS { w with Held := w.Held.set i (GHeld.mk h.X true h.Given) } h.X.P)
theorem F33_spec {K : Nat} (hK : 1000000 ≤ K) (g : GGraph) (j : GJob) (w : GWorker) (i : Nat) (h : GHeld) (hi : w.Held[i]? = some h) (hx : SmlP h.X) (hb : w.Buf.length ≤ 800000) (ho : w.Out.length ≤ 800000) : F33_iiiiiiioooo K w g j (i : Int) = some (doAt g j w i h) := by
 have hlt : i < w.Held.length := (List.getElem?_eq_some_iff.1 hi).1
 have e1 : inr (i : Int) (len w.Held) = true := decide_eq_true ⟨by omega, by show (i : Int) < (w.Held.length : Int); omega⟩
 have e2 : elAt w.Held (i : Int) = some h := by rw [elAt_nat]; exact hi
 have p1 : ∀ (y : GHeld), putAt w.Held (i : Int) y = w.Held.set i y := fun y => by show w.Held.set (Int.toNat _) _ = _; rw [Int.toNat_natCast]
 have f1 := (do_fit (K := 3000) (by omega) g j hx.n).2.1
 rw [F33_iiiiiiioooo, e1, e2, cond_true, Option.bind_some, F58_spec (by omega) g j h.X hx.n hx.i hx.p, Option.bind_some, doAt]
 cases ieq (doS g j h.X).2.2 6
 · cases ieq (doS g j h.X).2.2 1
   · cases ieq (doS g j h.X).2.2 0
     · simp only [cond_false, Bool.or_false, p1]
       rw [F59_spec K _ _ (by show w.Out.length ≤ _; omega)]; rfl
     · simp only [cond_false, cond_true, Bool.or_false, p1]
       have e3 : inr (i : Int) (len (w.Held.set i (GHeld.mk h.X true h.Given))) = true := decide_eq_true ⟨by omega, by show (i : Int) < ((w.Held.set i _).length : Int); rw [List.length_set]; omega⟩
       have e4 : elAt (w.Held.set i (GHeld.mk h.X true h.Given)) (i : Int) = some (GHeld.mk h.X true h.Given) := by rw [elAt_nat, List.getElem?_set_self hlt]
       have e5 : putAt (w.Held.set i (GHeld.mk h.X true h.Given)) (i : Int) (GHeld.mk (doS g j h.X).1 true h.Given) = w.Held.set i (GHeld.mk (doS g j h.X).1 true h.Given) := by
        show (w.Held.set i _).set (Int.toNat _) _ = _; rw [Int.toNat_natCast, List.set_set]
       rw [e3, e4, cond_true, Option.bind_some, e5]
       have hl := F33_loop hK g j h (doS g j h.X) (by omega) { w with Held := w.Held.set i (GHeld.mk (doS g j h.X).1 true h.Given) } (by show w.Buf.length ≤ _; omega) (by show w.Out.length ≤ _; omega)
       have hl' : F33_iiiiiiioooo_l0_0 K g j h (doS g j h.X) K w.Id w.Goal w.Until w.T.Epoch w.T.Owners w.T.Ids w.T.Incs (w.Held.set i (GHeld.mk (doS g j h.X).1 true h.Given)) w.Buf w.Coming w.Out 0 = _ := hl
       rw [hl']; rfl
   · rfl
 · rfl
def noDa : GData := GData.mk 0 0 0 0 []
def insW (b : List GData) (e s p : Int) : List Nat → Option (List (List GMsg))
 | [] => some []
 | q :: r => bif ilt (gotS b e s (q : Int) p) 0 then none else (insW b e s p r).map fun l => (b.getD (gotS b e s (q : Int) p).toNat noDa).Msgs :: l
def keepD (w : GWorker) (parts p : Int) (d : GData) : Bool := !(ieq d.Epoch w.T.Epoch && (ieq d.Step w.Goal && (ieq d.P p && (!(ilt d.Q 0) && !(ile parts d.Q)))))
def readyM (w : GWorker) (p : Int) (x : GPart) : GMail := GMail.mk 5 w.T.Epoch 0 w.Goal p 0 0 0 [] [] [] x []
def collectB (g : GGraph) (j : GJob) (w : GWorker) (i : Nat) (h : GHeld) (ins : List (List GMsg)) : GWorker :=
 bif ieq (takeS g j h.X ins.flatten).2 0 then postS { w with Held := w.Held.set i (GHeld.mk (takeS g j h.X ins.flatten).1 false false), Buf := w.Buf.filter (keepD w j.Parts h.X.P) } (readyM w h.X.P (takeS g j h.X ins.flatten).1)
 else failS { w with Buf := w.Buf.filter (keepD w j.Parts h.X.P) } h.X.P
def collectAt (g : GGraph) (j : GJob) (w : GWorker) (i : Nat) (h : GHeld) : GWorker :=
 match insW w.Buf w.T.Epoch w.Goal h.X.P (List.range j.Parts.toNat) with | none => w | some ins => collectB g j w i h ins
abbrev WT2 : Type := Int × Int × Int × Int × List Int × List Int × List Int × List GHeld × List GData × List GComing × List GPost × List (List GMsg)
abbrev wt2 (w : GWorker) (a : List (List GMsg)) : WT2 := (w.Id, (w.Goal, (w.Until, (w.T.Epoch, (w.T.Owners, (w.T.Ids, (w.T.Incs, (w.Held, (w.Buf, (w.Coming, (w.Out, a)))))))))))
theorem F34_ins {K : Nat} (hK : 1000000 ≤ K) (g : GGraph) (j : GJob) (w : GWorker) (i p : Int) (hb : w.Buf.length ≤ 900000) (hp : j.Parts ≤ 6) : ∃ r, F34_iiiiiiioooo_l0_0 K i g.N g.Edges j.Prog j.Source j.Limit j.Parts p K w.Id w.Goal w.Until w.T.Epoch w.T.Owners w.T.Ids w.T.Incs w.Held w.Buf w.Coming w.Out [] 0 = some r ∧
 (match insW w.Buf w.T.Epoch w.Goal p (List.range j.Parts.toNat) with | none => ∃ a, r = .inl (wt2 w a) | some ins => r = .inr (wt2 w ins)) := by
 let step : Nat → GWorker × List (List GMsg) → (GWorker × List (List GMsg) → Option (WT2 ⊕ WT2)) → Option (WT2 ⊕ WT2) := fun q s c =>
  (F61_iiiiiiioooo K s.1 s.1.T.Epoch s.1.Goal (q : Int) p).bind fun r => bif ilt r.1 0 then some (.inl (wt2 r.2 s.2)) else bif inr r.1 (len r.2.Buf) then (elAt r.2.Buf r.1).bind fun d => bif apok (len s.2) 1 24 then c (r.2, appL s.2 [d.Msgs]) else none else none
 have hs := scanN (N := j.Parts) (L := fun k (s : GWorker × List (List GMsg)) i' => F34_iiiiiiioooo_l0_0 K i g.N g.Edges j.Prog j.Source j.Limit j.Parts p k s.1.Id s.1.Goal s.1.Until s.1.T.Epoch s.1.T.Owners s.1.T.Ids s.1.T.Incs s.1.Held s.1.Buf s.1.Coming s.1.Out s.2 i') step (fun s => some (.inr (wt2 s.1 s.2))) (fun k s i' _ => rfl) (by omega) (K := K) (by omega) (w, [])
 have go : ∀ (l : List Nat) (a : List (List GMsg)), a.length + l.length ≤ 100 → ∃ r, goL step (fun s => some (.inr (wt2 s.1 s.2))) l (w, a) = some r ∧ (match insW w.Buf w.T.Epoch w.Goal p l with | none => ∃ a, r = .inl (wt2 w a) | some ins => r = .inr (wt2 w (a ++ ins))) := by
  intro l
  induction l with
  | nil => intro a _; exact ⟨_, rfl, by rw [insW]; simp⟩
  | cons q l ih =>
   intro a ha
   rw [List.length_cons] at ha
   rw [goL, insW]
   have e0 : step q (w, a) (goL step (fun s => some (.inr (wt2 s.1 s.2))) l) = bif ilt (gotS w.Buf w.T.Epoch w.Goal (q : Int) p) 0 then some (.inl (wt2 w a)) else bif inr (gotS w.Buf w.T.Epoch w.Goal (q : Int) p) (len w.Buf) then (elAt w.Buf (gotS w.Buf w.T.Epoch w.Goal (q : Int) p)).bind fun d => bif apok (len a) 1 24 then goL step (fun s => some (.inr (wt2 s.1 s.2))) l (w, appL a [d.Msgs]) else none else none := by
    show (F61_iiiiiiioooo K w w.T.Epoch w.Goal (q : Int) p).bind _ = _
    rw [F61_spec K w _ _ _ _ (by omega) (by omega)]; rfl
   rw [e0]
   cases hn : ilt (gotS w.Buf w.T.Epoch w.Goal (q : Int) p) 0
   · rw [cond_false, cond_false]
     rw [ilt_f] at hn
     obtain ⟨z, d, z1, z2, _⟩ := posS_at (p := isDa w.T.Epoch w.Goal (q : Int) p) (l := w.Buf) (by show ¬ gotS w.Buf w.T.Epoch w.Goal (q : Int) p < 0; omega)
     have z1' : gotS w.Buf w.T.Epoch w.Goal (q : Int) p = (z : Int) := z1
     have hz : z < w.Buf.length := (List.getElem?_eq_some_iff.1 z2).1
     have c1 : inr (z : Int) (len w.Buf) = true := decide_eq_true ⟨by omega, by show (z : Int) < (w.Buf.length : Int); omega⟩
     have c2 : elAt w.Buf (z : Int) = some d := by rw [elAt_nat]; exact z2
     have c3 : w.Buf.getD z noDa = d := by rw [List.getD_eq_getElem?_getD, z2]; rfl
     rw [z1', c1, c2, cond_true, Option.bind_some, apok_small (by show a.length + 1 ≤ _; omega) (by omega), cond_true, appL, Int.toNat_natCast, c3]
     obtain ⟨r, r1, r2⟩ := ih (a ++ [d.Msgs]) (by simp; omega)
     refine ⟨r, r1, ?_⟩
     cases hi : insW w.Buf w.T.Epoch w.Goal p l with
     | none => rw [hi] at r2; exact r2
     | some ins =>
      rw [hi] at r2
      show r = .inr (wt2 w (a ++ d.Msgs :: ins))
      rw [r2]; simp
   · exact ⟨_, rfl, a, rfl⟩
 obtain ⟨r, r1, r2⟩ := go (List.range j.Parts.toNat) [] (by simp; omega)
 exact ⟨r, hs.trans r1, by
  cases hi : insW w.Buf w.T.Epoch w.Goal p (List.range j.Parts.toNat) with
  | none => rw [hi] at r2; exact r2
  | some ins => rw [hi] at r2; exact r2⟩
theorem insW_len {b : List GData} {e s p : Int} : ∀ {l : List Nat} {ins : List (List GMsg)}, insW b e s p l = some ins → ins.length = l.length ∧ ∀ x ∈ ins, ∃ d ∈ b, d.Msgs = x
 | [], ins, h => by rw [insW] at h; cases h; exact ⟨rfl, fun x hx => absurd hx List.not_mem_nil⟩
 | q :: l, ins, h => by
  rw [insW] at h
  cases hn : ilt (gotS b e s (q : Int) p) 0
  · rw [hn, cond_false] at h
    cases hi : insW b e s p l with
    | none => rw [hi] at h; cases h
    | some i2 =>
     rw [hi] at h
     cases h
     obtain ⟨a1, a2⟩ := insW_len hi
     rw [ilt_f] at hn
     obtain ⟨z, d, z1, z2, _⟩ := posS_at (p := isDa e s (q : Int) p) (l := b) (by show ¬ gotS b e s (q : Int) p < 0; omega)
     have z1' : gotS b e s (q : Int) p = (z : Int) := z1
     have c3 : b.getD z noDa = d := by rw [List.getD_eq_getElem?_getD, z2]; rfl
     refine ⟨by simp [a1], fun x hx => ?_⟩
     rw [z1', Int.toNat_natCast, c3] at hx
     rcases List.mem_cons.1 hx with rfl | hx
     · exact ⟨d, List.mem_of_getElem? z2, rfl⟩
     · exact a2 x hx
  · rw [hn] at h; cases h
theorem flat_le {α : Type} (c : Nat) : ∀ (l : List (List α)), (∀ x ∈ l, x.length ≤ c) → l.flatten.length ≤ c * l.length
 | [], _ => by simp
 | x :: l, h => by
  have h1 := h x List.mem_cons_self
  have h2 := flat_le c l fun y hy => h y (List.mem_cons_of_mem _ hy)
  rw [List.flatten_cons, List.length_append, List.length_cons, Nat.mul_succ]; omega
structure SmlD (d : GData) : Prop where
 l : d.Msgs.length ≤ 100
 n : ∀ m ∈ d.Msgs, i64 m.V
theorem F34_spec {K : Nat} (hK : 1000000 ≤ K) (g : GGraph) (j : GJob) (w : GWorker) (i : Nat) (h : GHeld) (hi : w.Held[i]? = some h) (hx : SmlP h.X) (hb : w.Buf.length ≤ 800000) (hd : ∀ d ∈ w.Buf, SmlD d) (ho : w.Out.length ≤ 800000) (hp : j.Parts ≤ 6) : F34_iiiiiiioooo K w g j (i : Int) = some (collectAt g j w i h) := by
 have hlt : i < w.Held.length := (List.getElem?_eq_some_iff.1 hi).1
 have e1 : inr (i : Int) (len w.Held) = true := decide_eq_true ⟨by omega, by show (i : Int) < (w.Held.length : Int); omega⟩
 have e2 : elAt w.Held (i : Int) = some h := by rw [elAt_nat]; exact hi
 have p1 : ∀ (y : GHeld), putAt w.Held (i : Int) y = w.Held.set i y := fun y => by show w.Held.set (Int.toNat _) _ = _; rw [Int.toNat_natCast]
 obtain ⟨r, r1, r2⟩ := F34_ins hK g j w (i : Int) h.X.P (by omega) hp
 rw [F34_iiiiiiioooo, e1, e2, cond_true, Option.bind_some, r1, Option.bind_some, collectAt]
 cases hn : insW w.Buf w.T.Epoch w.Goal h.X.P (List.range j.Parts.toNat) with
 | none => rw [hn] at r2; obtain ⟨a, rfl⟩ := r2; rfl
 | some ins =>
  rw [hn] at r2
  subst r2
  obtain ⟨n1, n2⟩ := insW_len hn
  rw [List.length_range] at n1
  have nf : ins.flatten.length ≤ 100 * ins.length := flat_le 100 ins fun x hx' => by obtain ⟨d, d1, rfl⟩ := n2 x hx'; exact (hd d d1).l
  let st : GData → List GData → (List GData → Option (List GData)) → Option (List GData) := fun x a c =>
   bif ieq x.Epoch w.T.Epoch then (bif ieq x.Step w.Goal then (bif ieq x.P h.X.P then (bif ilt x.Q 0 then (bif apok (len a) 1 56 then c (appL a [x]) else none) else bif ile j.Parts x.Q then (bif apok (len a) 1 56 then c (appL a [x]) else none) else c a)
    else bif apok (len a) 1 56 then c (appL a [x]) else none) else bif apok (len a) 1 56 then c (appL a [x]) else none) else bif apok (len a) 1 56 then c (appL a [x]) else none
  have s1 := scanL (l := w.Buf) (L := fun k a q => F34_iiiiiiioooo_l1_1 K w.Id w.Goal w.Until w.T.Epoch w.T.Owners w.T.Ids w.T.Incs w.Held w.Buf w.Coming w.Out (i : Int) g.N g.Edges j.Prog j.Source j.Limit j.Parts h.X.P ins k a q) st (fun a => some a) (fun k s i _ => rfl) (by omega) (K := K) (by omega) []
  have s2 := filt_go (step := st) (keepD w j.Parts h.X.P) (fun d => d) 56 (by omega) 1000000 (by omega) w.Buf [] (by simp; omega) (fun x _ a c => by
   show (bif ieq x.Epoch w.T.Epoch then (bif ieq x.Step w.Goal then (bif ieq x.P h.X.P then (bif ilt x.Q 0 then _ else _) else _) else _) else _) = _
   rw [keepD]
   cases ieq x.Epoch w.T.Epoch <;> cases ieq x.Step w.Goal <;> cases ieq x.P h.X.P <;> cases ilt x.Q 0 <;> cases ile j.Parts x.Q <;> rfl)
  have s3 : F34_iiiiiiioooo_l1_1 K w.Id w.Goal w.Until w.T.Epoch w.T.Owners w.T.Ids w.T.Incs w.Held w.Buf w.Coming w.Out (i : Int) g.N g.Edges j.Prog j.Source j.Limit j.Parts h.X.P ins K [] 0 = some (w.Buf.filter (keepD w j.Parts h.X.P)) := (s1.trans s2).trans (by simp)
  dsimp only [Sum.elim_inr, wt2]
  rw [s3, Option.bind_some, e1, e2, cond_true, Option.bind_some, F62_spec (by omega) g j h.X ins hx.p hx.i hx.v hx.r (by omega) (by omega) (by omega) (fun m hm => by
   obtain ⟨x, x1, x2⟩ := List.mem_flatten.1 hm
   obtain ⟨d, d1, rfl⟩ := n2 x x1
   exact (hd d d1).n m x2), Option.bind_some, collectB]
  cases ieq (takeS g j h.X ins.flatten).2 0
  · rw [cond_false, cond_false, F59_spec K _ _ (by show w.Out.length ≤ _; omega)]; rfl
  · rw [cond_true, cond_true, F63_spec K _ _ (by show w.Out.length ≤ _; omega), Option.bind_some, p1]; rfl
theorem right_sml {g : GGraph} {j : GJob} {x : GPart} (h : partRight g j x = true) (hn : niceP x) : SmlP x := by
 obtain ⟨hc, p0, pj, _, _, hv, hr, hin⟩ := partRight_ok h
 obtain ⟨hg, _, _, _, _, _, _, _, j6⟩ := jcheck_ok hc
 obtain ⟨g1, g2, _, _⟩ := gcheck_ok hg
 have hl := verts_len g j g2 x.P
 obtain ⟨i1, i2⟩ := inOkS_ok hin
 have h3 := rising_len (fun m : GMsg => m.To) g.N x.In (-1) i1 fun m hm => by have := i2 m hm; omega
 have hcv : countS g j x.P = ((vertsS g j x.P).length : Int) := rfl
 exact ⟨by omega, by omega, by omega, by unfold i64; omega, hn⟩
structure WI (g : GGraph) (j : GJob) (id : Int) (n : Nat) (w : GWorker) : Prop where
 id : w.Id = id
 goal : -1 ≤ w.Goal ∧ w.Goal ≤ 1099511627776
 tab : tabR w.T = true
 ok : HOk w.Held
 mine : ∀ h ∈ w.Held, h.X.P < (w.T.Owners.length : Int) ∧ w.T.Owners.getD h.X.P.toNat 0 = w.Id ∧ partRight g j h.X = true ∧ niceP h.X
 bl : w.Buf.length ≤ n
 bd : ∀ d ∈ w.Buf, SmlD d
 cl : w.Coming.length ≤ n
 cd : ∀ c ∈ w.Coming, SmlP c.X
 ol : w.Out.length ≤ n
 od : ∀ p ∈ w.Out, FitM 100 p.M
section
variable {g : GGraph} {j : GJob} {id : Int} {n : Nat} {w : GWorker}
theorem WI.sml (h : WI g j id n w) (hn : n ≤ 400000) : Sml w := ⟨by have := h.ok.len; omega, by have := h.bl; omega, by have := h.cl; omega, by have := h.ol; omega⟩
theorem WI.hx (h : WI g j id n w) : ∀ y ∈ w.Held, SmlP y.X := fun y hy => right_sml (h.mine y hy).2.2.1 (h.mine y hy).2.2.2
theorem WI.up (h : WI g j id n w) {m : Nat} (hm : n ≤ m) : WI g j id m w := { h with bl := Nat.le_trans h.bl hm, cl := Nat.le_trans h.cl hm, ol := Nat.le_trans h.ol hm }
theorem WI.own (h : WI g j id n w) : ownT w.T = w.T := by rw [ownT, h.tab]; rfl
theorem wi_new (g : GGraph) (j : GJob) (id : Int) : WI g j id 0 (GWorker.mk id (-1) 0 noT [] [] [] []) :=
 ⟨rfl, ⟨by show (-1 : Int) ≤ -1; omega, by show (-1 : Int) ≤ _; omega⟩, noT_right, HOk.nil, fun h hh => absurd hh List.not_mem_nil, Nat.le_refl _, fun h hh => absurd hh List.not_mem_nil, Nat.le_refl _, fun h hh => absurd hh List.not_mem_nil, Nat.le_refl _, fun h hh => absurd hh List.not_mem_nil⟩
theorem WI.post (h : WI g j id n w) {m : GMail} (hm : FitM 100 m) : WI g j id (n + 1) (postS w m) :=
 { id := h.id, goal := h.goal, tab := h.tab, ok := h.ok, mine := h.mine, bl := Nat.le_succ_of_le h.bl, bd := h.bd, cl := Nat.le_succ_of_le h.cl, cd := h.cd
   ol := by show (w.Out ++ _).length ≤ _; rw [List.length_append, List.length_singleton]; have := h.ol; omega
   od := fun p hp => by
    rcases List.mem_append.1 hp with hp | hp
    · exact h.od p hp
    · rw [List.mem_singleton.1 hp]; exact hm }
theorem WI.hold (h : WI g j id n w) {x : GPart} (hm : mineS g j w x = true) (hn : niceP x) : WI g j id n { w with Held := insH w.Held x } := by
 obtain ⟨m1, m2, m3, m4, m5⟩ := mineS_ok hm
 rw [h.own] at m2 m3
 exact { h with
  ok := h.ok.ins hm
  mine := fun y hy => by
   rcases mem_insH.1 hy with hy | rfl
   · exact h.mine y hy
   · exact ⟨m2, m3, m4, hn⟩ }
theorem WI.since (h : WI g j id n w) (e : Int) : WI g j id n (sinceS w e) :=
 { id := h.id, goal := h.goal, tab := h.tab, ok := h.ok, mine := h.mine, bl := Nat.le_trans (filt_le _ _) h.bl, bd := fun d hd => h.bd d (List.mem_filter.1 hd).1
   cl := Nat.le_trans (filt_le _ _) h.cl, cd := fun d hd => h.cd d (List.mem_filter.1 hd).1, ol := h.ol, od := h.od }
theorem WI.turn (h : WI g j id n w) {t : GTable} (ht : tabR t = true) (out : List GPost) (ho : out = [] ∨ out = w.Out) : WI g j id n { w with T := t, Goal := -1, Held := [], Out := out } :=
 { id := h.id, goal := ⟨by show (-1 : Int) ≤ -1; omega, by show (-1 : Int) ≤ _; omega⟩, tab := ht, ok := HOk.nil, mine := fun y hy => absurd hy List.not_mem_nil, bl := h.bl, bd := h.bd, cl := h.cl, cd := h.cd
   ol := by rcases ho with rfl | rfl; exact Nat.zero_le _; exact h.ol
   od := by rcases ho with rfl | rfl; exact fun p hp => absurd hp List.not_mem_nil; exact h.od }
theorem HOk.set {l : List GHeld} (h : HOk l) {i : Nat} {y y' : GHeld} (hi : l[i]? = some y) (hp : y'.X.P = y.X.P) : HOk (l.set i y') := by
 have hlt := (List.getElem?_eq_some_iff.1 hi).1
 have he : l[i] = y := (List.getElem?_eq_some_iff.1 hi).2
 constructor
 · rw [List.pairwise_iff_getElem]
   intro a b ha hb hab
   rw [List.length_set] at ha hb
   have := (List.pairwise_iff_getElem.1 h.s) a b ha hb hab
   rw [List.getElem_set, List.getElem_set]
   split
   · subst_vars
     rw [if_neg (by omega), hp]; exact this
   · split
     · subst_vars
       rw [hp]; exact this
     · exact this
 · intro z hz
   rcases List.mem_or_eq_of_mem_set hz with hz | rfl
   · exact h.r z hz
   · rw [hp]; exact h.r y (List.mem_of_getElem? hi)
theorem WI.set (h : WI g j id n w) {i : Nat} {y y' : GHeld} (hi : w.Held[i]? = some y) (hp : y'.X.P = y.X.P) (hr : partRight g j y'.X = true) (hn : niceP y'.X) : WI g j id n { w with Held := w.Held.set i y' } := by
 have hy := h.mine y (List.mem_of_getElem? hi)
 exact { h with
  ok := h.ok.set hi hp
  mine := fun z hz => by
   rcases List.mem_or_eq_of_mem_set hz with hz | rfl
   · exact h.mine z hz
   · exact ⟨by rw [hp]; exact hy.1, by rw [hp]; exact hy.2.1, hr, hn⟩ }
theorem WI.data (h : WI g j id n w) {m : GMail} (hm : m.Msgs.length ≤ 100) (hv : ∀ y ∈ m.Msgs, i64 y.V) : WI g j id (n + 1) (dataS w m) := by
 rw [dataS]
 cases ile w.T.Epoch m.Epoch && ilt (gotS w.Buf m.Epoch m.Step m.Q m.P) 0
 · exact h.up (Nat.le_succ n)
 · exact { id := h.id, goal := h.goal, tab := h.tab, ok := h.ok, mine := h.mine
           bl := by show (w.Buf ++ _).length ≤ _; rw [List.length_append, List.length_singleton]; have := h.bl; omega
           bd := fun d hd => by
            rcases List.mem_append.1 hd with hd | hd
            · exact h.bd d hd
            · rw [List.mem_singleton.1 hd]; exact ⟨hm, hv⟩
           cl := Nat.le_succ_of_le h.cl, cd := h.cd, ol := Nat.le_succ_of_le h.ol, od := h.od }
structure MI (m : GMail) : Prop where
 f : FitM 100 m
 p : i64 m.X.P
 x : niceP m.X
 s : ∀ y ∈ m.Msgs, i64 y.V
theorem MI.sml {m : GMail} (h : MI m) (hr : mailR m = true) : SmlP m.X := by
 have := h.f
 exact ⟨this.v, this.r, by have := this.x; omega, h.p, h.x⟩
theorem FitM.up {c d : Nat} {m : GMail} (h : FitM c m) (hc : c ≤ d) : FitM d m := ⟨Nat.le_trans h.o hc, Nat.le_trans h.i hc, Nat.le_trans h.n hc, Nat.le_trans h.v hc, Nat.le_trans h.r hc, Nat.le_trans h.x hc, Nat.le_trans h.s hc⟩
theorem tableS_ok {j : GJob} {e : Int} {m : GMail} (h : (tableS j e m).2 = true) : tabR (tableS j e m).1 = true ∧ (tableS j e m).1.Epoch = e := by
 rw [tableS, Bool.and_eq_true] at h
 exact ⟨h.1, rfl⟩
theorem wi_putX (h : WI g j id n w) {m : GMail} (hm : MI m) : WI g j id (n + 1) (putX g j w m) := by
 rw [putX]
 cases hq : mineS g j w m.X
 · exact h.up (Nat.le_succ n)
 · exact (h.hold hq hm.x).post ⟨by simp [loadedM], by simp [loadedM], by simp [loadedM], by simp [loadedM, noP'], by simp [loadedM, noP'], by simp [loadedM, noP'], by simp [loadedM]⟩
theorem wi_load (h : WI g j id n w) {m : GMail} (hm : MI m) : WI g j id (n + 1) (loadS g j w m) := by
 rw [loadS]
 cases ht : (tableS j m.Epoch m).2
 · exact h.up (Nat.le_succ n)
 · cases ilt m.Epoch w.T.Epoch
   · cases ilt w.T.Epoch m.Epoch
     · exact wi_putX h hm
     · exact wi_putX ((h.turn (tableS_ok ht).1 [] (.inl rfl)).since m.Epoch) hm
   · exact h.up (Nat.le_succ n)
theorem mailR_step {m : GMail} (hr : mailR m = true) : 0 ≤ m.Step ∧ m.Step ≤ 1099511627776 := by
 simp only [mailR, Bool.and_eq_true] at hr
 exact (fairS_mem hr.2.2.1).1 m.Step (by simp)
theorem wi_begin (h : WI g j id n w) {m : GMail} (hr : mailR m = true) : WI g j id n (beginW w m) := by
 have := mailR_step hr
 rw [beginW]
 cases ieq m.Epoch w.T.Epoch
 · exact h
 · exact { h with goal := ⟨by show -1 ≤ m.Step; omega, this.2⟩ }
theorem wi_give (h : WI g j id n w) {m : GMail} (hm : MI m) : WI g j id (n + 1) (giveS w m) := by
 rw [giveS]
 cases ieq m.Epoch w.T.Epoch && !(ilt (atHd w.Held m.P) 0)
 · exact h.up (Nat.le_succ n)
 · rw [cond_true]
   cases hq : w.Held[(atHd w.Held m.P).toNat]? with
   | none => exact h.up (Nat.le_succ n)
   | some y =>
    dsimp only
    rw [giveAt]
    cases y.Wait || (y.Given || ilt (findS m.Ids m.To) 0)
    · have hy := h.mine y (List.mem_of_getElem? hq)
      have hs := h.hx y (List.mem_of_getElem? hq)
      have h1 := h.set (y' := GHeld.mk y.X y.Wait true) hq rfl hy.2.2.1 hy.2.2.2
      have hin : y.X.In.length ≤ 100 := by
       obtain ⟨hc, _, _, _, _, _, _, hin⟩ := partRight_ok hy.2.2.1
       obtain ⟨hg, _⟩ := jcheck_ok hc
       obtain ⟨_, g2, _, _⟩ := gcheck_ok hg
       obtain ⟨i1, i2⟩ := inOkS_ok hin
       have h3 := rising_len (fun m : GMsg => m.To) g.N y.X.In (-1) i1 fun m hm => by have := i2 m hm; omega
       omega
      exact { id := h1.id, goal := h1.goal, tab := h1.tab, ok := h1.ok, mine := h1.mine, bl := Nat.le_succ_of_le h1.bl, bd := h1.bd, cl := Nat.le_succ_of_le h1.cl, cd := h1.cd
              ol := by show (w.Out ++ _).length ≤ _; rw [List.length_append, List.length_singleton]; have := h.ol; omega
              od := fun p hp => by
               rcases List.mem_append.1 hp with hp | hp
               · exact h.od p hp
               · rw [List.mem_singleton.1 hp]; exact ⟨by simp [giveM], by simp [giveM], by simp [giveM], hs.v, hs.r, hin, by simp [giveM]⟩ }
    · exact h.up (Nat.le_succ n)
theorem wi_takeQ (h : WI g j id n w) {m : GMail} (hm : MI m) (hr : mailR m = true) : WI g j id (n + 1) (takeQ w m) := by
 rw [takeQ]
 cases ilt m.Epoch w.T.Epoch || w.Coming.any (isC m.Epoch m.X.P)
 · exact { id := h.id, goal := h.goal, tab := h.tab, ok := h.ok, mine := h.mine, bl := Nat.le_succ_of_le h.bl, bd := h.bd
           cl := by show (w.Coming ++ _).length ≤ _; rw [List.length_append, List.length_singleton]; have := h.cl; omega
           cd := fun c hc => by
            rcases List.mem_append.1 hc with hc | hc
            · exact h.cd c hc
            · rw [List.mem_singleton.1 hc]; exact hm.sml hr
           ol := by show (w.Out ++ _).length ≤ _; rw [List.length_append, List.length_singleton]; have := h.ol; omega
           od := fun p hp => by
            rcases List.mem_append.1 hp with hp | hp
            · exact h.od p hp
            · rw [List.mem_singleton.1 hp]; exact ⟨by simp [gotM], by simp [gotM], by simp [gotM], by simp [gotM, noP'], by simp [gotM, noP'], by simp [gotM, noP'], by simp [gotM]⟩ }
 · exact h.up (Nat.le_succ n)
theorem wi_holdX (h : WI g j id n w) {x : GPart} (hx : niceP x) : WI g j id n (holdX g j w x) := by
 rw [holdX]
 cases hq : mineS g j w x
 · exact h
 · exact h.hold hq hx
theorem wi_holds : ∀ (l : List GPart) {w : GWorker}, WI g j id n w → (∀ x ∈ l, niceP x) → WI g j id n (l.foldl (holdX g j) w)
 | [], w, h, _ => h
 | x :: l, w, h, hx => by
  rw [List.foldl_cons]
  exact wi_holds l (wi_holdX h (hx x List.mem_cons_self)) fun y hy => hx y (List.mem_cons_of_mem _ hy)
theorem rest_nice (h : WI g j id n w) (m : GMail) : ∀ x ∈ restH w m ++ restC w m, niceP x := fun x hx => by
 rcases List.mem_append.1 hx with hx | hx
 · obtain ⟨y, hy, rfl⟩ := List.mem_map.1 hx
   exact (h.mine y (List.mem_filter.1 hy).1).2.2.2
 · obtain ⟨c, hc, rfl⟩ := List.mem_map.1 hx
   exact (h.cd c (List.mem_filter.1 hc).1).n
theorem wi_change (h : WI g j id n w) (m : GMail) : WI g j id n (changeS g j w m) := by
 rw [changeS]
 cases ht : (tableS j m.Fresh m).2
 · exact h
 · cases ile m.Fresh w.T.Epoch
   · exact (wi_holds _ (h.turn (tableS_ok ht).1 w.Out (.inr rfl)) (rest_nice h m)).since m.Fresh
   · exact h
theorem wi_take (h : WI g j id n w) {m : GMail} (hm : MI m) : WI g j id (n + 1) (takeW g j w m) := by
 rw [takeW]
 cases ieq (jcheck g j) 0
 · exact h.up (Nat.le_succ n)
 · cases hr : mailR m
   · exact h.up (Nat.le_succ n)
   · simp only [Bool.and_true, cond_true]
     rw [byKind]
     cases ieq m.Kind 1
     · cases ieq m.Kind 3
       · cases ieq m.Kind 4
         · cases ieq m.Kind 6
           · cases ieq m.Kind 7
             · cases ieq m.Kind 9
               · exact h.up (Nat.le_succ n)
               · exact (wi_change h m).up (Nat.le_succ n)
             · exact wi_takeQ h hm hr
           · exact wi_give h hm
         · exact h.data hm.f.s hm.s
       · exact (wi_begin h hr).up (Nat.le_succ n)
     · exact wi_load h hm
theorem wi_lease (h : WI g j id n w) (k : Int) : WI g j id n (leaseS w k) := by
 rw [leaseS]
 cases ilt w.Until k
 · exact h
 · exact { h with }
theorem do_right (g : GGraph) (j : GJob) {x : GPart} (hn : niceP x) (h : ieq (doS g j x).2.2 0 = true) : partRight g j (doS g j x).1 = true ∧ niceP (doS g j x).1 ∧ (doS g j x).1.P = x.P ∧ (doS g j x).2.1.length ≤ 6 ∧ ∀ l ∈ (doS g j x).2.1, l.length ≤ 100 ∧ ∀ m ∈ l, i64 m.V := by
 rcases do_cases g j hn with ⟨e, he, hq⟩ | ⟨hc, hR, h40, w, _, kw, _, hq⟩
 · rw [hq] at h; rw [h] at he; cases he
 · obtain ⟨_, p0, pj, s0, s40, hv, hr, _⟩ := partRight_ok hR
   obtain ⟨hg, _, _, _, _, _, _, _, j6⟩ := jcheck_ok hc
   obtain ⟨g1, g2, _, _⟩ := gcheck_ok hg
   have hcv : countS g j x.P = ((vertsS g j x.P).length : Int) := rfl
   rw [ieq_f] at h40
   rw [hq]
   refine ⟨?_, ⟨kw.va, fun m hm => absurd hm List.not_mem_nil⟩, rfl, ?_, fun l hl => ?_⟩
   · simp only [partRight, Bool.and_eq_true, ile_iff, ilt_iff, ieq_iff]
     have := kw.la
     have := kw.lb
     exact ⟨ieq_iff.1 hc, p0, pj, by omega, by omega, by omega, by omega, rfl⟩
   · show ((List.range j.Parts.toNat).map _).length ≤ 6
     rw [List.length_map, List.length_range]; omega
   · obtain ⟨q, hq, rfl⟩ := List.mem_map.1 hl
     obtain ⟨r1, r2⟩ := boxS_rise (p := j.Prog) (l := toS j w.2.2 (q : Int))
     have h3 := rising_len (fun m : GMsg => m.To) g.N _ 0 r1 fun m hm => by
      obtain ⟨s, hs, he⟩ := r2 m hm
      have := kw.vt s (toS_mem hs).1
      omega
     exact ⟨by omega, (boxS_ok fun m hm => kw.vc m (toS_mem hm).1).2⟩
theorem wi_outs (p : Int) : ∀ (l : List (List GMsg)) (q n : Nat) {w : GWorker}, WI g j id n w → (∀ x ∈ l, x.length ≤ 100 ∧ ∀ m ∈ x, i64 m.V) → WI g j id (n + l.length) (outsW p q l w)
 | [], q, n, w, h, _ => h
 | x :: l, q, n, w, h, hx => by
  rw [outsW, List.length_cons, show n + (l.length + 1) = (n + 1) + l.length by omega]
  obtain ⟨x1, x2⟩ := hx x List.mem_cons_self
  refine wi_outs p l (q + 1) (n + 1) ?_ fun y hy => hx y (List.mem_cons_of_mem _ hy)
  rw [outStep]
  cases ieq (toT w.T (q : Int)).1 w.Id
  · exact { id := h.id, goal := h.goal, tab := h.tab, ok := h.ok, mine := h.mine, bl := Nat.le_succ_of_le h.bl, bd := h.bd, cl := Nat.le_succ_of_le h.cl, cd := h.cd
            ol := by show (w.Out ++ _).length ≤ _; rw [List.length_append, List.length_singleton]; have := h.ol; omega
            od := fun p hp => by
             rcases List.mem_append.1 hp with hp | hp
             · exact h.od p hp
             · rw [List.mem_singleton.1 hp]; exact ⟨by simp [outM], by simp [outM], by simp [outM], by simp [outM, noP'], by simp [outM, noP'], by simp [outM, noP'], x1⟩ }
  · exact h.data x1 x2
theorem fail_fit (w : GWorker) (p : Int) : FitM 100 (failM w p) := ⟨by simp [failM], by simp [failM], by simp [failM], by simp [failM, noP'], by simp [failM, noP'], by simp [failM, noP'], by simp [failM]⟩
theorem wi_do (h : WI g j id n w) {i : Nat} {y : GHeld} (hi : w.Held[i]? = some y) : WI g j id (n + 6) (doAt g j w i y).2 := by
 have hy := h.mine y (List.mem_of_getElem? hi)
 rw [doAt]
 cases ieq (doS g j y.X).2.2 6 || ieq (doS g j y.X).2.2 1
 · cases h0 : ieq (doS g j y.X).2.2 0
   · exact ((h.set (y' := GHeld.mk y.X true y.Given) hi rfl hy.2.2.1 hy.2.2.2).post (fail_fit _ _)).up (by omega)
   · obtain ⟨d1, d2, d3, d4, d5⟩ := do_right g j hy.2.2.2 h0
     exact (wi_outs y.X.P _ 0 n (h.set (y' := GHeld.mk (doS g j y.X).1 true y.Given) hi d3 d1 d2) d5).up (by omega)
 · exact h.up (by omega)
theorem take_nice {x : GPart} (hx : niceP x) {l : List GMsg} (hl : ∀ m ∈ l, i64 m.V) : niceP (takeS g j x l).1 := by
 have hz : niceP zeroP := ⟨fun v hv => absurd hv List.not_mem_nil, fun m hm => absurd hm List.not_mem_nil⟩
 rw [takeS]
 cases ieq (jcheck g j) 0
 · exact hz
 · cases partRight g j x
   · exact hz
   · cases ieq (nlen (len x.In)) 0
     · exact hz
     · cases takeOk g.N j.Parts x.P l
       · exact hz
       · simp only [cond_true]
         rw [takeB]
         cases ieq (boxS j.Prog l).2 0
         · exact hz
         · exact ⟨hx.1, (boxS_ok hl).2⟩
theorem take_P {x : GPart} {l : List GMsg} (h : ieq (takeS g j x l).2 0 = true) : (takeS g j x l).1.P = x.P := by
 have key : ∀ (a : GPart) (e : Int), ieq e 0 = true → ieq e 0 = true := fun _ _ h => h
 rw [takeS] at h ⊢
 cases hc : ieq (jcheck g j) 0
 · rw [hc] at h
   simp only [cond_false] at h
   rw [hc] at h; cases h
 · rw [hc] at h
   cases hp : partRight g j x
   · rw [hp] at h; cases h
   · rw [hp] at h
     cases hi : ieq (nlen (len x.In)) 0
     · rw [hi] at h; cases h
     · rw [hi] at h
       cases ht : takeOk g.N j.Parts x.P l
       · rw [ht] at h; cases h
       · rw [ht] at h
         simp only [cond_true] at h ⊢
         rw [takeB] at h ⊢
         cases hb : ieq (boxS j.Prog l).2 0
         · rw [hb] at h
           simp only [cond_false] at h
           rw [hb] at h; cases h
         · rfl
theorem wi_collect (h : WI g j id n w) {i : Nat} {y : GHeld} (hi : w.Held[i]? = some y) : WI g j id (n + 1) (collectAt g j w i y) := by
 have hy := h.mine y (List.mem_of_getElem? hi)
 rw [collectAt]
 cases hq : insW w.Buf w.T.Epoch w.Goal y.X.P (List.range j.Parts.toNat) with
 | none => exact h.up (Nat.le_succ n)
 | some ins =>
  dsimp only
  have hins : ∀ m ∈ ins.flatten, i64 m.V := fun m hm => by
   obtain ⟨x, x1, x2⟩ := List.mem_flatten.1 hm
   obtain ⟨d, d1, rfl⟩ := (insW_len hq).2 x x1
   exact (h.bd d d1).n m x2
  have hb : ∀ {w' : GWorker}, WI g j id n w' → w'.Buf = w.Buf → WI g j id n { w' with Buf := w.Buf.filter (keepD w j.Parts y.X.P) } := fun h' e =>
   { h' with bl := Nat.le_trans (filt_le _ _) h.bl, bd := fun d hd => h.bd d (List.mem_filter.1 hd).1 }
  rw [collectB]
  cases h0 : ieq (takeS g j y.X ins.flatten).2 0
  · exact (hb h rfl).post (fail_fit _ _)
  · have r1 := (take_right h0).1
    have r2 := take_nice (g := g) (j := j) hy.2.2.2 hins
    have r3 := right_sml r1 r2
    have hin : (takeS g j y.X ins.flatten).1.In.length ≤ 100 := by
     obtain ⟨hc, _, _, _, _, _, _, hin⟩ := partRight_ok r1
     obtain ⟨hg, _⟩ := jcheck_ok hc
     obtain ⟨_, g2, _, _⟩ := gcheck_ok hg
     obtain ⟨i1, i2⟩ := inOkS_ok hin
     have h3 := rising_len (fun m : GMsg => m.To) g.N _ (-1) i1 fun m hm => by have := i2 m hm; omega
     omega
    exact (hb (h.set (y' := GHeld.mk (takeS g j y.X ins.flatten).1 false false) hi (take_P h0) r1 r2) rfl).post ⟨by simp [readyM], by simp [readyM], by simp [readyM], r3.v, r3.r, hin, by simp [readyM]⟩
end
theorem goL_inv {α σ β : Type} {step : α → σ → (σ → Option β) → Option β} {fin : σ → Option β} (P : Nat → σ → Prop) (f : σ → α → σ) : ∀ (l : List α) (s : σ), P l.length s → (∀ x ∈ l, ∀ n s, P (n + 1) s → P n (f s x) ∧ ∀ c, step x s c = c (f s x)) →
 goL step fin l s = fin (l.foldl f s) ∧ P 0 (l.foldl f s)
 | [], s, hs, _ => ⟨rfl, hs⟩
 | x :: l, s, hs, h => by
  obtain ⟨h1, h2⟩ := h x List.mem_cons_self l.length s hs
  rw [goL, h2, List.foldl_cons]
  exact goL_inv P f l (f s x) h1 fun y hy => h y (List.mem_cons_of_mem _ hy)
def doOne (g : GGraph) (j : GJob) (s : GWorker × List GDid) (i : Nat) : GWorker × List GDid := match s.1.Held[i]? with
 | some h => bif h.Wait || (h.Given || !(ieq h.X.Step s.1.Goal)) then s else ((doAt g j s.1 i h).2, s.2 ++ (doAt g j s.1 i h).1)
 | none => s
def doAll (g : GGraph) (j : GJob) (w : GWorker) : GWorker × List GDid := (List.range w.Held.length).foldl (doOne g j) (w, [])
def colOne (g : GGraph) (j : GJob) (w : GWorker) (i : Nat) : GWorker := match w.Held[i]? with
 | some h => bif h.Wait && ieq h.X.Step (w.Goal + 1) then collectAt g j w i h else w
 | none => w
def colAll (g : GGraph) (j : GJob) (w : GWorker) : GWorker := (List.range w.Held.length).foldl (colOne g j) w
section
variable {g : GGraph} {j : GJob} {id : Int} {n : Nat} {w : GWorker}
theorem outs_held (p : Int) : ∀ (l : List (List GMsg)) (q : Nat) (w : GWorker), (outsW p q l w).Held = w.Held ∧ (outsW p q l w).T = w.T ∧ (outsW p q l w).Goal = w.Goal ∧ (outsW p q l w).Id = w.Id ∧ (outsW p q l w).Until = w.Until ∧ (outsW p q l w).Coming = w.Coming
 | [], _, _ => ⟨rfl, rfl, rfl, rfl, rfl, rfl⟩
 | x :: l, q, w => by
  obtain ⟨a, b, c, d, e, f⟩ := outs_held p l (q + 1) (outStep p w q x)
  have h : (outStep p w q x).Held = w.Held ∧ (outStep p w q x).T = w.T ∧ (outStep p w q x).Goal = w.Goal ∧ (outStep p w q x).Id = w.Id ∧ (outStep p w q x).Until = w.Until ∧ (outStep p w q x).Coming = w.Coming := by
   rw [outStep]
   cases ieq (toT w.T (q : Int)).1 w.Id
   · exact ⟨rfl, rfl, rfl, rfl, rfl, rfl⟩
   · rw [cond_true, dataS]
     cases ile w.T.Epoch (outM w p q x).Epoch && ilt (gotS w.Buf (outM w p q x).Epoch (outM w p q x).Step (outM w p q x).Q (outM w p q x).P) 0 <;> exact ⟨rfl, rfl, rfl, rfl, rfl, rfl⟩
  rw [outsW]
  exact ⟨a.trans h.1, b.trans h.2.1, c.trans h.2.2.1, d.trans h.2.2.2.1, e.trans h.2.2.2.2.1, f.trans h.2.2.2.2.2⟩
theorem do_keeps (g : GGraph) (j : GJob) (w : GWorker) (i : Nat) (h : GHeld) : (doAt g j w i h).2.Held.length = w.Held.length ∧ (doAt g j w i h).2.T = w.T ∧ (doAt g j w i h).2.Goal = w.Goal ∧ (doAt g j w i h).1.length ≤ 1 := by
 rw [doAt]
 cases ieq (doS g j h.X).2.2 6 || ieq (doS g j h.X).2.2 1
 · cases ieq (doS g j h.X).2.2 0
   · exact ⟨List.length_set, rfl, rfl, Nat.zero_le _⟩
   · obtain ⟨a, b, c, _⟩ := outs_held h.X.P (doS g j h.X).2.1 0 { w with Held := w.Held.set i (GHeld.mk (doS g j h.X).1 true h.Given) }
     exact ⟨(congrArg List.length a).trans List.length_set, b, c, Nat.le_refl _⟩
 · exact ⟨rfl, rfl, rfl, Nat.zero_le _⟩
theorem collect_keeps (g : GGraph) (j : GJob) (w : GWorker) (i : Nat) (h : GHeld) : (collectAt g j w i h).Held.length = w.Held.length ∧ (collectAt g j w i h).T = w.T ∧ (collectAt g j w i h).Goal = w.Goal := by
 rw [collectAt]
 cases insW w.Buf w.T.Epoch w.Goal h.X.P (List.range j.Parts.toNat) with
 | none => exact ⟨rfl, rfl, rfl⟩
 | some ins =>
  dsimp only
  rw [collectB]
  cases ieq (takeS g j h.X ins.flatten).2 0
  · exact ⟨rfl, rfl, rfl⟩
  · exact ⟨List.length_set, rfl, rfl⟩
abbrev WT3 : Type := Int × Int × Int × Int × List Int × List Int × List Int × List GHeld × List GData × List GComing × List GPost × List GDid
abbrev wt3 (w : GWorker) (a : List GDid) : WT3 := (w.Id, (w.Goal, (w.Until, (w.T.Epoch, (w.T.Owners, (w.T.Ids, (w.T.Incs, (w.Held, (w.Buf, (w.Coming, (w.Out, a)))))))))))
theorem tick_do {K : Nat} (hK : 1000000 ≤ K) (h : WI g j id n w) (hn : n ≤ 300000) :
 F14_l0_0 K g j w K w.Id w.Goal w.Until w.T.Epoch w.T.Owners w.T.Ids w.T.Incs w.Held w.Buf w.Coming w.Out [] 0 = some (wt3 (doAll g j w).1 (doAll g j w).2) ∧ WI g j id (n + 36) (doAll g j w).1 ∧ (doAll g j w).1.Held.length = w.Held.length ∧ (doAll g j w).1.T = w.T ∧ (doAll g j w).1.Goal = w.Goal := by
 have hl := h.ok.len
 let step : Nat → GWorker × List GDid → (GWorker × List GDid → Option WT3) → Option WT3 := fun i s c =>
  bif inr (i : Int) (len s.1.Held) then (elAt s.1.Held (i : Int)).bind fun x => bif x.Wait then c s else bif x.Given then c s else bif ieq x.X.Step s.1.Goal then (F33_iiiiiiioooo K s.1 g j (i : Int)).bind fun r => bif apok (len s.2) (len r.1) 24 then c (r.2, appL s.2 r.1) else none else c s else none
 have hs := scanN (N := nlen (len w.Held)) (L := fun k (s : GWorker × List GDid) i => F14_l0_0 K g j w k s.1.Id s.1.Goal s.1.Until s.1.T.Epoch s.1.T.Owners s.1.T.Ids s.1.T.Incs s.1.Held s.1.Buf s.1.Coming s.1.Out s.2 i) step (fun s => some (wt3 s.1 s.2)) (fun k s i _ => rfl) (by rw [nlen_len]; omega) (K := K) (by rw [nlen_len]; omega) (w, [])
 have hN : (nlen (len w.Held)).toNat = w.Held.length := by rw [nlen_len]; exact Int.toNat_natCast _
 rw [hN] at hs
 have e := goL_inv (step := step) (fin := fun s => some (wt3 s.1 s.2)) (fun m s => m ≤ 6 ∧ WI g j id (n + 36 - 6 * m) s.1 ∧ s.2.length + m ≤ 6 ∧ s.1.Held.length = w.Held.length ∧ s.1.T = w.T ∧ s.1.Goal = w.Goal) (doOne g j) (List.range w.Held.length) (w, []) ⟨by simp; omega, h.up (by simp; omega), by simp; omega, rfl, rfl, rfl⟩ (fun i hi m s ⟨p1, p2, p3, p4, p5, p6⟩ => by
  have hi' : i < s.1.Held.length := by rw [p4]; exact List.mem_range.1 hi
  have hy : s.1.Held[i]? = some s.1.Held[i] := List.getElem?_eq_getElem hi'
  have c1 : inr (i : Int) (len s.1.Held) = true := decide_eq_true ⟨by omega, by show (i : Int) < (s.1.Held.length : Int); omega⟩
  have c2 : elAt s.1.Held (i : Int) = some s.1.Held[i] := by rw [elAt_nat]; exact hy
  have e0 : ∀ c, step i s c = bif s.1.Held[i].Wait then c s else bif s.1.Held[i].Given then c s else bif ieq s.1.Held[i].X.Step s.1.Goal then (F33_iiiiiiioooo K s.1 g j (i : Int)).bind fun r => bif apok (len s.2) (len r.1) 24 then c (r.2, appL s.2 r.1) else none else c s := fun c => by
   show (bif inr (i : Int) (len s.1.Held) then _ else _) = _
   rw [c1, c2, cond_true, Option.bind_some]
  have stay : (m ≤ 6 ∧ WI g j id (n + 36 - 6 * m) s.1 ∧ s.2.length + m ≤ 6 ∧ s.1.Held.length = w.Held.length ∧ s.1.T = w.T ∧ s.1.Goal = w.Goal) := ⟨by omega, p2.up (by omega), by omega, p4, p5, p6⟩
  rw [doOne, hy]
  dsimp only
  simp only [e0]
  cases s.1.Held[i].Wait
  · cases s.1.Held[i].Given
    · cases ieq s.1.Held[i].X.Step s.1.Goal
      · exact ⟨stay, fun c => rfl⟩
      · have hsml := p2.sml (by omega)
        have hf := F33_spec hK g j s.1 i s.1.Held[i] hy (p2.hx _ (List.getElem_mem hi')) (by have := hsml.b; omega) (by have := hsml.o; omega)
        obtain ⟨k1, k2, k3, k4⟩ := do_keeps g j s.1 i s.1.Held[i]
        refine ⟨⟨by omega, (wi_do p2 hy).up (by omega), ?_, k1.trans p4, k2.trans p5, k3.trans p6⟩, fun c => ?_⟩
        · show (s.2 ++ (doAt g j s.1 i s.1.Held[i]).1).length + m ≤ 6
          rw [List.length_append]; omega
        · simp only [cond_false, cond_true, Bool.or_false, Bool.not_true, hf, Option.bind_some]
          rw [apok_small (by show s.2.length + (doAt g j s.1 i s.1.Held[i]).1.length ≤ _; omega) (by omega)]; rfl
    · exact ⟨stay, fun c => rfl⟩
  · exact ⟨stay, fun c => rfl⟩)
 obtain ⟨e1, _, e2, _, e3, e4, e5⟩ := e
 exact ⟨hs.trans e1, e2, e3, e4, e5⟩
theorem tick_col {K : Nat} (hK : 1000000 ≤ K) (hc : ieq (jcheck g j) 0 = true) (h : WI g j id n w) (hn : n ≤ 300000) (hg : i64 (w.Goal + 1)) (a : List GDid) (b : Nat) (hb : b = w.Held.length) {r : WT3} (hr : len r.2.2.2.2.2.2.2.1 = b) :
 F14_l1_1 K g j r K w.Id w.Goal w.Until w.T.Epoch w.T.Owners w.T.Ids w.T.Incs w.Held w.Buf w.Coming w.Out 0 = some (wt (colAll g j w)) ∧ WI g j id (n + 6) (colAll g j w) ∧ (colAll g j w).T = w.T := by
 have hl := h.ok.len
 obtain ⟨_, _, _, _, _, _, _, _, j6⟩ := jcheck_ok hc
 let step : Nat → GWorker → (GWorker → Option WT) → Option WT := fun i s c =>
  bif inr (i : Int) (len s.Held) then (elAt s.Held (i : Int)).bind fun x => bif x.Wait then (bif ieq x.X.Step (wadd .i64 s.Goal 1) then (F34_iiiiiiioooo K s g j (i : Int)).bind fun r => c r else c s) else c s else none
 have hs := scanN (N := nlen (len r.2.2.2.2.2.2.2.1)) (L := fun k (s : GWorker) i => F14_l1_1 K g j r k s.Id s.Goal s.Until s.T.Epoch s.T.Owners s.T.Ids s.T.Incs s.Held s.Buf s.Coming s.Out i) step (fun s => some (wt s)) (fun k s i _ => rfl) (by rw [hr]; show (b : Int) ≤ _; omega) (K := K) (by rw [hr]; show (b : Int).toNat < _; omega) w
 have hN : (nlen (len r.2.2.2.2.2.2.2.1)).toNat = w.Held.length := by rw [hr, hb]; exact Int.toNat_natCast _
 rw [hN] at hs
 have e := goL_inv (step := step) (fin := fun s => some (wt s)) (fun m s => m ≤ 6 ∧ WI g j id (n + 6 - m) s ∧ s.Held.length = w.Held.length ∧ s.T = w.T ∧ s.Goal = w.Goal) (colOne g j) (List.range w.Held.length) w ⟨by simp; omega, h.up (by simp; omega), rfl, rfl, rfl⟩ (fun i hi m s ⟨p1, p2, p4, p5, p6⟩ => by
  have hi' : i < s.Held.length := by rw [p4]; exact List.mem_range.1 hi
  have hy : s.Held[i]? = some s.Held[i] := List.getElem?_eq_getElem hi'
  have c1 : inr (i : Int) (len s.Held) = true := decide_eq_true ⟨by omega, by show (i : Int) < (s.Held.length : Int); omega⟩
  have c2 : elAt s.Held (i : Int) = some s.Held[i] := by rw [elAt_nat]; exact hy
  have c3 : wadd .i64 s.Goal 1 = s.Goal + 1 := by rw [p6]; exact wadd_ok (by have := hg.1; omega) (by have := hg.2; omega)
  have e0 : ∀ c, step i s c = bif s.Held[i].Wait then (bif ieq s.Held[i].X.Step (s.Goal + 1) then (F34_iiiiiiioooo K s g j (i : Int)).bind fun r => c r else c s) else c s := fun c => by
   show (bif inr (i : Int) (len s.Held) then _ else _) = _
   rw [c1, c2, cond_true, Option.bind_some, c3]
  have stay : (m ≤ 6 ∧ WI g j id (n + 6 - m) s ∧ s.Held.length = w.Held.length ∧ s.T = w.T ∧ s.Goal = w.Goal) := ⟨by omega, p2.up (by omega), p4, p5, p6⟩
  rw [colOne, hy]
  dsimp only
  simp only [e0]
  cases s.Held[i].Wait
  · exact ⟨stay, fun c => rfl⟩
  · cases ieq s.Held[i].X.Step (s.Goal + 1)
    · exact ⟨stay, fun c => rfl⟩
    · have hsml := p2.sml (by omega)
      have hf := F34_spec hK g j s i s.Held[i] hy (p2.hx _ (List.getElem_mem hi')) (by have := hsml.b; omega) p2.bd (by have := hsml.o; omega) j6
      obtain ⟨k1, k2, k3⟩ := collect_keeps g j s i s.Held[i]
      refine ⟨⟨by omega, (wi_collect p2 hy).up (by omega), k1.trans p4, k2.trans p5, k3.trans p6⟩, fun c => ?_⟩
      simp only [cond_true, Bool.and_self, hf, Option.bind_some])
 obtain ⟨e1, _, e2, e3, e4, e5⟩ := e
 exact ⟨hs.trans e1, e2, e4⟩
def tickW (g : GGraph) (j : GJob) (w : GWorker) (now : Int) : GWorker × List GPost × List GDid :=
 bif ieq (jcheck g j) 0 && ilt now w.Until then ({ colAll g j (doAll g j w).1 with Out := [] }, (colAll g j (doAll g j w).1).Out, (doAll g j w).2) else (w, [], [])
theorem F14_spec {K : Nat} (hK : 1000000 ≤ K) (h : WI g j id n w) (hn : n ≤ 200000) (now : Int) : F14 K g j w now = some (tickW g j w now) := by
 have hg : i64 (w.Goal + 1) := by have := h.goal; unfold i64; omega
 rw [F14, F30_spec K w (h.sml (by omega)), Option.bind_some, F31_spec (by omega), Option.bind_some, tickW]
 cases hc : ieq (jcheck g j) 0
 · rfl
 · rw [cond_true, Bool.true_and]
   show (some (ilt now w.Until)).bind _ = _
   rw [Option.bind_some]
   cases ilt now w.Until
   · rfl
   · obtain ⟨d1, d2, d3, d4, d5⟩ := tick_do hK h (by omega)
     rw [cond_true, cond_true, d1, Option.bind_some]
     obtain ⟨c1, _, _⟩ := tick_col hK hc d2 (by omega) (by rw [d5]; exact hg) [] _ rfl (r := wt3 (doAll g j w).1 (doAll g j w).2) rfl
     have c1' : F14_l1_1 K g j (wt3 (doAll g j w).1 (doAll g j w).2) K (doAll g j w).1.Id (doAll g j w).1.Goal (doAll g j w).1.Until (doAll g j w).1.T.Epoch (doAll g j w).1.T.Owners (doAll g j w).1.T.Ids (doAll g j w).1.T.Incs (doAll g j w).1.Held (doAll g j w).1.Buf (doAll g j w).1.Coming (doAll g j w).1.Out 0 = _ := c1
     dsimp only [wt3] at c1' ⊢
     rw [c1']; rfl
theorem wi_tick (h : WI g j id n w) (hK : n ≤ 200000) (now : Int) : WI g j id (n + 42) (tickW g j w now).1 ∧ (tickW g j w now).1.T = w.T ∧ (∀ p ∈ (tickW g j w now).2.1, FitM 100 p.M) := by
 have hg : i64 (w.Goal + 1) := by have := h.goal; unfold i64; omega
 rw [tickW]
 cases hc : ieq (jcheck g j) 0
 · exact ⟨h.up (by omega), rfl, fun p hp => absurd hp List.not_mem_nil⟩
 · rw [Bool.true_and]
   cases ilt now w.Until
   · exact ⟨h.up (by omega), rfl, fun p hp => absurd hp List.not_mem_nil⟩
   · obtain ⟨_, d2, d3, d4, d5⟩ := tick_do (Nat.le_refl 1000000) h (by omega)
     obtain ⟨_, c2, c3⟩ := tick_col (Nat.le_refl 1000000) hc d2 (by omega) (by rw [d5]; exact hg) [] _ rfl (r := wt3 (doAll g j w).1 (doAll g j w).2) rfl
     exact ⟨{ c2 with ol := Nat.zero_le _, od := fun p hp => absurd hp List.not_mem_nil }, c3.trans d4, c2.od⟩
end
def actW (g : GGraph) (j : GJob) (w : GWorker) (a : GAct) : GWorker × List GPost × List GDid :=
 bif ieq a.Kind 0 then (takeW g j w a.M, [], []) else bif ieq a.Kind 1 then tickW g j w a.N else (leaseS w a.N, [], [])
section
variable {g : GGraph} {j : GJob} {id : Int} {n : Nat} {w : GWorker}
theorem F13_spec {K : Nat} (hK : 1000000 ≤ K) (h : WI g j id n w) (hn : n ≤ 200000) {a : GAct} (ha : MI a.M) : F13 K g j w a = some (actW g j w a) := by
 rw [F13, actW]
 cases ieq a.Kind 0
 · cases ieq a.Kind 1
   · rw [cond_false, cond_false, cond_false, cond_false, F22_spec K w _ (h.sml (by omega))]; rfl
   · rw [cond_false, cond_false, cond_true, cond_true, F14_spec hK h hn]; rfl
 · rw [cond_true, cond_true, F18_spec hK g j w a.M (h.sml (by omega)) h.hx h.cd (ha.f.up (by omega)) ha.p]; rfl
theorem wi_act (h : WI g j id n w) (hn : n ≤ 200000) {a : GAct} (ha : MI a.M) : WI g j id (n + 42) (actW g j w a).1 := by
 rw [actW]
 cases ieq a.Kind 0
 · cases ieq a.Kind 1
   · exact (wi_lease h a.N).up (by omega)
   · exact (wi_tick h hn a.N).1
 · exact (wi_take h ha).up (by omega)
def wideM (m : GMail) : Int := [(m.Ids.length : Int), (m.Incs.length : Int), (m.X.Vals.length : Int), (m.X.Rest.length : Int), (m.X.In.length : Int), (m.Msgs.length : Int)].foldl (fun s x => bif ilt s x then x else s) (m.Owners.length : Int)
theorem F12_spec {K : Nat} (hK : 100 ≤ K) (m : GMail) : F12 K m = some (wideM m) := by
 let step : Int → Int → (Int → Option Int) → Option Int := fun x s c => bif ilt s x then c x else c s
 have hs := scanL (l := [(m.Ids.length : Int), (m.Incs.length : Int), (m.X.Vals.length : Int), (m.X.Rest.length : Int), (m.X.In.length : Int), (m.Msgs.length : Int)]) (L := fun k s i => F12_l0_0 K k s [(m.Ids.length : Int), (m.Incs.length : Int), (m.X.Vals.length : Int), (m.X.Rest.length : Int), (m.X.In.length : Int), (m.Msgs.length : Int)] i) step (fun s => some s) (fun k s i _ => rfl) (by simp) (K := K) (by simp; omega) (m.Owners.length : Int)
 have e := goL_fold (step := step) (fin := fun s => some s) (fun _ => True) (fun s x => bif ilt s x then x else s) [(m.Ids.length : Int), (m.Incs.length : Int), (m.X.Vals.length : Int), (m.X.Rest.length : Int), (m.X.In.length : Int), (m.Msgs.length : Int)] (m.Owners.length : Int) trivial (fun x _ s _ => ⟨trivial, fun c => by show (bif ilt s x then c x else c s) = _; cases ilt s x <;> rfl⟩)
 have e' : F12_l0_0 K K (nlen (len m.Owners)) [(nlen (len m.Ids)), (nlen (len m.Incs)), (nlen (len m.X.Vals)), (nlen (len m.X.Rest)), (nlen (len m.X.In)), (nlen (len m.Msgs))] 0 = some (wideM m) := hs.trans e.1
 rw [F12, e']; rfl
theorem fold_ge : ∀ (l : List Int) (s : Int), s ≤ l.foldl (fun s x => bif ilt s x then x else s) s ∧ ∀ x ∈ l, x ≤ l.foldl (fun s x => bif ilt s x then x else s) s
 | [], s => ⟨Int.le_refl _, fun x hx => absurd hx List.not_mem_nil⟩
 | y :: l, s => by
  obtain ⟨h1, h2⟩ := fold_ge l (bif ilt s y then y else s)
  have h3 : s ≤ (bif ilt s y then y else s) ∧ y ≤ (bif ilt s y then y else s) := by
   cases hq : ilt s y
   · rw [ilt_f] at hq; exact ⟨Int.le_refl _, hq⟩
   · rw [ilt_iff] at hq; exact ⟨by rw [cond_true]; omega, Int.le_refl _⟩
  rw [List.foldl_cons]
  refine ⟨Int.le_trans h3.1 h1, fun x hx => ?_⟩
  rcases List.mem_cons.1 hx with rfl | hx
  · exact Int.le_trans h3.2 h1
  · exact h2 x hx
theorem wide_fit {m : GMail} (h : ilt 100 (wideM m) = false) : FitM 100 m := by
 rw [ilt_f] at h
 obtain ⟨h1, h2⟩ := fold_ge [(m.Ids.length : Int), (m.Incs.length : Int), (m.X.Vals.length : Int), (m.X.Rest.length : Int), (m.X.In.length : Int), (m.Msgs.length : Int)] (m.Owners.length : Int)
 have k : ∀ x ∈ [(m.Ids.length : Int), (m.Incs.length : Int), (m.X.Vals.length : Int), (m.X.Rest.length : Int), (m.X.In.length : Int), (m.Msgs.length : Int)], x ≤ 100 := fun x hx => Int.le_trans (h2 x hx) h
 have h0 : (m.Owners.length : Int) ≤ 100 := Int.le_trans h1 h
 have a1 := k (m.Ids.length : Int) (by simp)
 have a2 := k (m.Incs.length : Int) (by simp)
 have a3 := k (m.X.Vals.length : Int) (by simp)
 have a4 := k (m.X.Rest.length : Int) (by simp)
 have a5 := k (m.X.In.length : Int) (by simp)
 have a6 := k (m.Msgs.length : Int) (by simp)
 exact ⟨by omega, by omega, by omega, by omega, by omega, by omega, by omega⟩
theorem wf_mi {m : GMail} (h : WGMail m) (hf : FitM 100 m) : MI m := by
 obtain ⟨_, _, _, _, _, _, _, _, _, _, _, hx, hm, _⟩ := h
 exact ⟨hf, i64_wf hx.1, wf_niceP hx, fun y hy => i64_wf (hm.2 y hy).2.1⟩
end
noncomputable def hn5 : Hint := { H 5 with nt := 110, prot := 0, kp := 0 }
noncomputable def c5_0 : Code := loopOf E 5 0
noncomputable def c5_1 : Code := loopOf E 5 1
def F5_res (r1 : Bool) : Res := ⟨[(.one (.im (.lit (.bool r1))))], []⟩
def F5_l1_1 (K : Nat) (a1 : GGraph) (a2 : GJob) (a3 : Int) (a4 : List GAct) (v5 : Int) (r6 : GWorker × List GPost × List GDid) : Nat → Int → Option ((Unit) ⊕ (Unit))
 | 0, _ => none
 | k + 1, v7 =>
  bif (ilt v7 (nlen (len r6.1.Held))) then
   (bif (inr v7 (len r6.1.Held)) then
   (elAt r6.1.Held v7).bind fun x8 =>
   bif (ilt x8.X.P 0) then
    (some (.inl ()))
   else
   bif (ile (nlen (len r6.1.T.Owners)) x8.X.P) then
    (some (.inl ()))
   else
   bif (inr x8.X.P (len r6.1.T.Owners)) then
   (elAt r6.1.T.Owners x8.X.P).bind fun x9 =>
   bif (ieq x9 a3) then
    (bif (ilt 0 v7) then
     (bif (inr (wsub .i64 v7 1) (len r6.1.Held)) then
     (elAt r6.1.Held (wsub .i64 v7 1)).bind fun x10 =>
     bif (ile x8.X.P x10.X.P) then
      (some (.inl ()))
     else
     (F17 K a1 a2 x8.X).bind fun r11 =>
     bif r11 then
      (F5_l1_1 K a1 a2 a3 a4 v5 r6 k (wadd .i64 v7 1))
     else
     some (.inl ())
     else none)
    else
    (F17 K a1 a2 x8.X).bind fun r12 =>
    bif r12 then
     (F5_l1_1 K a1 a2 a3 a4 v5 r6 k (wadd .i64 v7 1))
    else
    some (.inl ()))
   else
   some (.inl ())
   else none
   else none)
  else
  some (.inr ())
def F5_l1_1_S (a1 : GGraph) (a2 : GJob) (a3 : Int) (a4 : List GAct) (v5 : Int) (r6 : GWorker × List GPost × List GDid) (v7 : Int) : TS := .on [128, 129, 192, 193, 256, 257, 258, 320, 321, 322, 323, 324, 576, 577, 578, 579, 580, 581, 582, 583, 584, 585, 586, 587, 640, 641, 704, 705] [(128, ⟨.one, 0, nob⟩), (129, ⟨.im, 0, (.lit (.int .i64 a3))⟩), (192, ⟨.one, 0, nob⟩), (193, ⟨.im, 0, (.sl (len a4) (flat eGAct a4))⟩), (256, ⟨(.box 24 2), 0, nob⟩), (257, ⟨.im, 0, (.lit (.int .i64 a1.N))⟩), (258, ⟨.im, 0, (.sl (len a1.Edges) (flat eGEdge a1.Edges))⟩), (320, ⟨(.box 26 4), 0, nob⟩), (321, ⟨.im, 0, (.lit (.int .i64 a2.Prog))⟩), (322, ⟨.im, 0, (.lit (.int .i64 a2.Source))⟩), (323, ⟨.im, 0, (.lit (.int .i64 a2.Limit))⟩), (324, ⟨.im, 0, (.lit (.int .i64 a2.Parts))⟩), (576, ⟨(.box 38 11), 0, nob⟩), (577, ⟨.im, 0, (.lit (.int .i64 r6.1.Id))⟩), (578, ⟨.im, 0, (.lit (.int .i64 r6.1.Goal))⟩), (579, ⟨.im, 0, (.lit (.int .i64 r6.1.Until))⟩), (580, ⟨.im, 0, (.lit (.int .i64 r6.1.T.Epoch))⟩), (581, ⟨.im, 0, (.sl (len r6.1.T.Owners) (flat (eInt .i64) r6.1.T.Owners))⟩), (582, ⟨.im, 0, (.sl (len r6.1.T.Ids) (flat (eInt .i64) r6.1.T.Ids))⟩), (583, ⟨.im, 0, (.sl (len r6.1.T.Incs) (flat (eInt .i64) r6.1.T.Incs))⟩), (584, ⟨(.own 69), 0, (.sl (len r6.1.Held) (flat eGHeld r6.1.Held))⟩), (585, ⟨(.own 112), 0, (.sl (len r6.1.Buf) (flat eGData r6.1.Buf))⟩), (586, ⟨(.own 113), 0, (.sl (len r6.1.Coming) (flat eGComing r6.1.Coming))⟩), (587, ⟨(.own 86), 0, (.sl (len r6.1.Out) (flat eGPost r6.1.Out))⟩), (640, ⟨.one, 0, nob⟩), (641, ⟨.im, 0, (.lit (.int .i64 v5))⟩), (704, ⟨.one, 0, nob⟩), (705, ⟨.im, 0, (.lit (.int .i64 v7))⟩)]
def F5_l1_1_X0 (a1 : GGraph) (a2 : GJob) (a3 : Int) (a4 : List GAct) (v5 : Int) (r6 : GWorker × List GPost × List GDid) (w7 : Unit) : TS := .on [512, 513] [(512, ⟨.one, 0, nob⟩), (513, ⟨.im, 0, (.lit (.bool false))⟩)]
def F5_l1_1_X1 (a1 : GGraph) (a2 : GJob) (a3 : Int) (a4 : List GAct) (v5 : Int) (r6 : GWorker × List GPost × List GDid) (w7 : Unit) : TS := .on [128, 129, 192, 193, 256, 257, 258, 320, 321, 322, 323, 324, 576, 577, 578, 579, 580, 581, 582, 583, 584, 585, 586, 587, 640, 641] [(128, ⟨.one, 0, nob⟩), (129, ⟨.im, 0, (.lit (.int .i64 a3))⟩), (192, ⟨.one, 0, nob⟩), (193, ⟨.im, 0, (.sl (len a4) (flat eGAct a4))⟩), (256, ⟨(.box 24 2), 0, nob⟩), (257, ⟨.im, 0, (.lit (.int .i64 a1.N))⟩), (258, ⟨.im, 0, (.sl (len a1.Edges) (flat eGEdge a1.Edges))⟩), (320, ⟨(.box 26 4), 0, nob⟩), (321, ⟨.im, 0, (.lit (.int .i64 a2.Prog))⟩), (322, ⟨.im, 0, (.lit (.int .i64 a2.Source))⟩), (323, ⟨.im, 0, (.lit (.int .i64 a2.Limit))⟩), (324, ⟨.im, 0, (.lit (.int .i64 a2.Parts))⟩), (576, ⟨(.box 38 11), 0, nob⟩), (577, ⟨.im, 0, (.lit (.int .i64 r6.1.Id))⟩), (578, ⟨.im, 0, (.lit (.int .i64 r6.1.Goal))⟩), (579, ⟨.im, 0, (.lit (.int .i64 r6.1.Until))⟩), (580, ⟨.im, 0, (.lit (.int .i64 r6.1.T.Epoch))⟩), (581, ⟨.im, 0, (.sl (len r6.1.T.Owners) (flat (eInt .i64) r6.1.T.Owners))⟩), (582, ⟨.im, 0, (.sl (len r6.1.T.Ids) (flat (eInt .i64) r6.1.T.Ids))⟩), (583, ⟨.im, 0, (.sl (len r6.1.T.Incs) (flat (eInt .i64) r6.1.T.Incs))⟩), (584, ⟨(.own 69), 0, (.sl (len r6.1.Held) (flat eGHeld r6.1.Held))⟩), (585, ⟨(.own 112), 0, (.sl (len r6.1.Buf) (flat eGData r6.1.Buf))⟩), (586, ⟨(.own 113), 0, (.sl (len r6.1.Coming) (flat eGComing r6.1.Coming))⟩), (587, ⟨(.own 86), 0, (.sl (len r6.1.Out) (flat eGPost r6.1.Out))⟩), (640, ⟨.one, 0, nob⟩), (641, ⟨.im, 0, (.lit (.int .i64 v5))⟩)]
theorem F5_l1_1_ok (K : Nat) (a1 : GGraph) (a2 : GJob) (a3 : Int) (a4 : List GAct) (v5 : Int) (r6 : GWorker × List GPost × List GDid) : ∀ (k : Nat) (v7 : Int) (r : (Unit) ⊕ (Unit)), F5_l1_1 K a1 a2 a3 a4 v5 r6 k v7 = some r → (Sum.elim (fun w => LoopEv E H hn5 2 c5_1 (F5_l1_1_S a1 a2 a3 a4 v5 r6 v7) .ret (F5_l1_1_X0 a1 a2 a3 a4 v5 r6 w)) (fun w => LoopEv E H hn5 2 c5_1 (F5_l1_1_S a1 a2 a3 a4 v5 r6 v7) (.exit 2) (F5_l1_1_X1 a1 a2 a3 a4 v5 r6 w))) r := by
 intro k
 induction k with
 | zero => intro v7 r hF; cases hF
 | succ k ih =>
  intro v7 r hF
  rw [F5_l1_1] at hF
  cs h8
  ·
   cn h9
   bs x10 h11
   have q29 {l} (z : HA hn5 l) := zi (nl r6.1.Held) <| zT h8 <| zT h9 <| zU eGHeld_len h11 0 1 <| z
   cs h12
   ·
    ob
    exact lE <| q29 <| zA6x h12 <| zt6 <| zt2 <| zr1 <| zt4 <| zr1 <| zt6 <| zt4 <| zr2 <| z0
   have q30 {l} (z : HA hn5 l) := zB5 h12 <| zi (nl r6.1.T.Owners) <| zB1x h12 <| z
   cs h13
   ·
    ob
    exact lE <| q29 <| q30 <| zA6 (ige_eq h13) <| zA2x (ige_eq h13) <| zt4 <| zr1 <| zt6 <| zt4 <| zr2 <| z0
   cn h14
   bs x15 h16
   have q31 {l} (z : HA hn5 l) := zB5 (ige_eq h13) <| zT h14 <| zB1 (ige_eq h13) <| zX (.sub (flat (eInt .i64) r6.1.T.Owners) (nidx x10.X.P 1) 1 [(i6 x15)]) ⟨rfl, sub_flat0 (eInt_len _) h16 1 (by decide)⟩ <| zB2x (ige_eq h13) <| z
   cs h17
   ·
    have q32 {l} (z : HA hn5 l) := zB3 (ine_t h17) <| z
    cs h18
    ·
     cn h19
     bs x20 h21
     have q33 {l} (z : HA hn5 l) := zC4 (igt_eq h18) <| zi (wsub .i64 v7 1) <| zC1 (igt_eq h18) <| zT h19 <| zC3 (igt_eq h18) <| zU eGHeld_len h21 0 1 <| zC2 (igt_eq h18) <| zB1 (ine_t h17) <| zT (igt_eq h18) <| zF (ine_t h17) <| z
     cs h22
     ·
      ob
      exact lE <| q29 <| q30 <| q31 <| q32 <| q33 <| zA6 (ige_eq h22) <| zA4x (ige_eq h22) <| zr1 <| z0
     bs r23 h24
     have q34 {l} (z : HA hn5 l) := zB6 (ige_eq h22) <| zT h9 <| zB2 (ige_eq h22) <| zU eGHeld_len h11 0 5 <| zB1 (ige_eq h22) <| zl (F17_ok K a1 a2 x10.X _ h24) <| zB1x (ige_eq h22) <| z
     cs h25
     ·
      exact lN2 (q29 <| q30 <| q31 <| q32 <| q33 <| q34 <| zF (bnot_t h25) <| zi (wadd .i64 v7 1) <| z0) (ih _ _ hF)
     ob
     exact lE <| q29 <| q30 <| q31 <| q32 <| q33 <| q34 <| zT (bnot_f h25) <| z0
    bs r26 h27
    have q35 {l} (z : HA hn5 l) := zD6 (igt_eq h18) <| zD4 (igt_eq h18) <| zB1 (ine_t h17) <| zF (igt_eq h18) <| zF (ine_t h17) <| zX (bg false) (bB rfl) <| zX (bg false) (bB rfl) <| zX (bg false) (bB rfl) <| zX (bg false) (bB rfl) <| zX (bg false) (bB rfl) <| zX (bg false) (bB rfl) <| zT h9 <| zX (bg false) (bB rfl) <| zX (bg false) (bB rfl) <| zU eGHeld_len h11 0 5 <| zX (bg false) (bB rfl) <| zl (F17_ok K a1 a2 x10.X _ h27) <| zX (bg false) (bB rfl) <| zf1 <| z
    cs h28
    ·
     exact lN2 (q29 <| q30 <| q31 <| q32 <| q35 <| zF (bnot_t h28) <| zi (wadd .i64 v7 1) <| z0) (ih _ _ hF)
    ob
    exact lE <| q29 <| q30 <| q31 <| q32 <| q35 <| zT (bnot_f h28) <| z0
   ob
   exact lE <| q29 <| q30 <| q31 <| zA4x (ine_f h17) <| zt6 <| zt4 <| zr2 <| z0
  ob
  exact lE <| zi (nl r6.1.Held) <| zF h8 <| z0
def F5_l0_0 (K : Nat) (a1 : GGraph) (a2 : GJob) (a3 : Int) (a4 : List GAct) : Nat → Int → Int → Int → Int → List Int → List Int → List Int → List GHeld → List GData → List GComing → List GPost → Int → Option ((Unit) ⊕ (Unit))
 | 0, _, _, _, _, _, _, _, _, _, _, _, _ => none
 | k + 1, v5, v6, v7, v8, v9, v10, v11, v12, v13, v14, v15, v16 =>
  bif (ilt v16 (nlen (len a4))) then
   (bif (ilt v16 40) then
    (bif (inr v16 (len a4)) then
    (elAt a4 v16).bind fun x17 =>
    (F12 K x17.M).bind fun r18 =>
    bif (ilt 100 r18) then
     (F5_l0_0 K a1 a2 a3 a4 k v5 v6 v7 v8 v9 v10 v11 v12 v13 v14 v15 (wadd .i64 v16 1))
    else
    (F13 K a1 a2 (GWorker.mk v5 v6 v7 (GTable.mk v8 v9 v10 v11) v12 v13 v14 v15) x17).bind fun r19 =>
    (F5_l1_1 K a1 a2 a3 a4 v16 r19 K 0).bind fun y20 =>
    Sum.elim (fun w21 =>
     some (.inl ()))
     (fun w22 =>
     F5_l0_0 K a1 a2 a3 a4 k r19.1.Id r19.1.Goal r19.1.Until r19.1.T.Epoch r19.1.T.Owners r19.1.T.Ids r19.1.T.Incs r19.1.Held r19.1.Buf r19.1.Coming r19.1.Out (wadd .i64 v16 1)) y20
    else none)
   else
   some (.inr ()))
  else
  some (.inr ())
def F5_l0_0_S (a1 : GGraph) (a2 : GJob) (a3 : Int) (a4 : List GAct) (v5 : Int) (v6 : Int) (v7 : Int) (v8 : Int) (v9 : List Int) (v10 : List Int) (v11 : List Int) (v12 : List GHeld) (v13 : List GData) (v14 : List GComing) (v15 : List GPost) (v16 : Int) : TS := .on [128, 129, 192, 193, 256, 257, 258, 320, 321, 322, 323, 324, 576, 577, 578, 579, 580, 581, 582, 583, 584, 585, 586, 587, 640, 641] [(128, ⟨.one, 0, nob⟩), (129, ⟨.im, 0, (.lit (.int .i64 a3))⟩), (192, ⟨.one, 0, nob⟩), (193, ⟨.im, 0, (.sl (len a4) (flat eGAct a4))⟩), (256, ⟨(.box 24 2), 0, nob⟩), (257, ⟨.im, 0, (.lit (.int .i64 a1.N))⟩), (258, ⟨.im, 0, (.sl (len a1.Edges) (flat eGEdge a1.Edges))⟩), (320, ⟨(.box 26 4), 0, nob⟩), (321, ⟨.im, 0, (.lit (.int .i64 a2.Prog))⟩), (322, ⟨.im, 0, (.lit (.int .i64 a2.Source))⟩), (323, ⟨.im, 0, (.lit (.int .i64 a2.Limit))⟩), (324, ⟨.im, 0, (.lit (.int .i64 a2.Parts))⟩), (576, ⟨(.box 38 11), 0, nob⟩), (577, ⟨.im, 0, (.lit (.int .i64 v5))⟩), (578, ⟨.im, 0, (.lit (.int .i64 v6))⟩), (579, ⟨.im, 0, (.lit (.int .i64 v7))⟩), (580, ⟨.im, 0, (.lit (.int .i64 v8))⟩), (581, ⟨.im, 0, (.sl (len v9) (flat (eInt .i64) v9))⟩), (582, ⟨.im, 0, (.sl (len v10) (flat (eInt .i64) v10))⟩), (583, ⟨.im, 0, (.sl (len v11) (flat (eInt .i64) v11))⟩), (584, ⟨(.own 69), 0, (.sl (len v12) (flat eGHeld v12))⟩), (585, ⟨(.own 112), 0, (.sl (len v13) (flat eGData v13))⟩), (586, ⟨(.own 113), 0, (.sl (len v14) (flat eGComing v14))⟩), (587, ⟨(.own 86), 0, (.sl (len v15) (flat eGPost v15))⟩), (640, ⟨.one, 0, nob⟩), (641, ⟨.im, 0, (.lit (.int .i64 v16))⟩)]
def F5_l0_0_X0 (a1 : GGraph) (a2 : GJob) (a3 : Int) (a4 : List GAct) (w5 : Unit) : TS := .on [512, 513] [(512, ⟨.one, 0, nob⟩), (513, ⟨.im, 0, (.lit (.bool false))⟩)]
def F5_l0_0_X1 (a1 : GGraph) (a2 : GJob) (a3 : Int) (a4 : List GAct) (w5 : Unit) : TS := .on [] []
theorem F5_l0_0_ok (K : Nat) (a1 : GGraph) (a2 : GJob) (a3 : Int) (a4 : List GAct) : ∀ (k : Nat) (v5 : Int) (v6 : Int) (v7 : Int) (v8 : Int) (v9 : List Int) (v10 : List Int) (v11 : List Int) (v12 : List GHeld) (v13 : List GData) (v14 : List GComing) (v15 : List GPost) (v16 : Int) (r : (Unit) ⊕ (Unit)), F5_l0_0 K a1 a2 a3 a4 k v5 v6 v7 v8 v9 v10 v11 v12 v13 v14 v15 v16 = some r → (Sum.elim (fun w => LoopEv E H hn5 0 c5_0 (F5_l0_0_S a1 a2 a3 a4 v5 v6 v7 v8 v9 v10 v11 v12 v13 v14 v15 v16) .ret (F5_l0_0_X0 a1 a2 a3 a4 w)) (fun w => LoopEv E H hn5 0 c5_0 (F5_l0_0_S a1 a2 a3 a4 v5 v6 v7 v8 v9 v10 v11 v12 v13 v14 v15 v16) (.exit 0) (F5_l0_0_X1 a1 a2 a3 a4 w))) r := by
 intro k
 induction k with
 | zero => intro v5 v6 v7 v8 v9 v10 v11 v12 v13 v14 v15 v16 r hF; cases hF
 | succ k ih =>
  intro v5 v6 v7 v8 v9 v10 v11 v12 v13 v14 v15 v16 r hF
  rw [F5_l0_0] at hF
  cs h17
  ·
   have q31 {l} (z : HA hn5 l) := zi (nl a4) <| zC2x h17 <| z
   cs h18
   ·
    cn h19
    bs x20 h21
    bs r22 h23
    have q32 {l} (z : HA hn5 l) := zT h18 <| zT h19 <| zU eGAct_len h21 2 17 <| zl (F12_ok K x20.M _ h23) <| z
    cs h24
    ·
     exact lN2 (q31 <| q32 <| zT (igt_eq h24) <| zi (wadd .i64 v16 1) <| z0) (ih _ _ _ _ _ _ _ _ _ _ _ _ _ hF)
    bs r25 h26
    have q33 {l} (z : HA hn5 l) := zF (igt_eq h24) <| zT h19 <| zS eGAct_len h21 19 <| zc (F13_ok K a1 a2 (GWorker.mk v5 v6 v7 (GTable.mk v8 v9 v10 v11) v12 v13 v14 v15) x20 _ h26) <| z
    bs y28 h27
    ss w29 w30
    ·
     subst hx
     ob
     exact lE <| q31 <| q32 <| q33 <| zo (F5_l1_1_ok K a1 a2 a3 a4 v16 r25 K 0 _ h27) <| z0
    subst hx
    exact lN2 (q31 <| q32 <| q33 <| zo (F5_l1_1_ok K a1 a2 a3 a4 v16 r25 K 0 _ h27) <| zi (wadd .i64 v16 1) <| z0) (ih _ _ _ _ _ _ _ _ _ _ _ _ _ hF)
   ob
   exact lE <| q31 <| zF h18 <| z0
  ob
  exact lE <| zi (nl a4) <| zD2x h17 <| zf1 <| z0
def F5 (K : Nat) (a1 : GGraph) (a2 : GJob) (a3 : Int) (a4 : List GAct) : Option (Bool) :=
 (F9 K a1).bind fun r5 =>
 bif r5 then
  (some true)
 else
 (F11 K a3).bind fun r6 =>
 (F5_l0_0 K a1 a2 a3 a4 K r6.Id r6.Goal r6.Until r6.T.Epoch r6.T.Owners r6.T.Ids r6.T.Incs r6.Held r6.Buf r6.Coming r6.Out 0).bind fun y7 =>
 Sum.elim (fun w8 =>
  some false)
  (fun w9 =>
  some true) y7
theorem F5_ok (K : Nat) (a1 : GGraph) (a2 : GJob) (a3 : Int) (a4 : List GAct) (r : Bool) (hF : F5 K a1 a2 a3 a4 = some r) : Evt E H 5 [.agg (eGGraph a1), .agg (eGJob a2), .one (.lit (.int .i64 a3)), .one (.sl (len a4) (flat eGAct a4))] (F5_res r) := by
 rw [F5] at hF
 bs r5 h6
 cs h7
 ·
  ob
  exact fpC hn5 <| zl (F9_ok K a1 _ h6) <| zT h7 <| zX (.call 10 [] (Res.mk [(.one (.im (.lit (.bool true))))] [])) knows10 <| zX (ff (leadsAny (Res.mk [(.one (.im (.lit (.bool true))))] []))) lk <| z0
 bs r8 h9
 have q14 {l} (z : HA hn5 l) := zl (F9_ok K a1 _ h6) <| zF h7 <| zc (F11_ok K a3 _ h9) <| z
 bs y11 h10
 ss w12 w13
 ·
  subst hx
  ob
  exact fpC hn5 <| q14 <| zo (F5_l0_0_ok K a1 a2 a3 a4 K r8.Id r8.Goal r8.Until r8.T.Epoch r8.T.Owners r8.T.Ids r8.T.Incs r8.Held r8.Buf r8.Coming r8.Out 0 _ h10) <| z0
 subst hx
 ob
 exact fpC hn5 <| q14 <| zo (F5_l0_0_ok K a1 a2 a3 a4 K r8.Id r8.Goal r8.Until r8.T.Epoch r8.T.Owners r8.T.Ids r8.T.Incs r8.Held r8.Buf r8.Coming r8.Out 0 _ h10) <| zX (.call 10 [] (Res.mk [(.one (.im (.lit (.bool true))))] [])) knows10 <| zX (ff (leadsAny (Res.mk [(.one (.im (.lit (.bool true))))] []))) lk <| z0
theorem scanB {α σ β : Type} {l : List α} {B : Int} (b : Nat) (hB : B = (b : Int)) {L : Nat → σ → Int → Option β} (step : Nat → α → σ → (σ → Option β) → Option β) (fin : σ → Option β)
 (h : ∀ k s (i : Nat), i ≤ l.length → L (k + 1) s i = bif ilt i (nlen (len l)) then (bif ilt i B then (bif inr i (len l) then (elAt l i).bind fun x => step i x s (fun s' => L k s' (wadd .i64 i 1)) else none) else fin s) else fin s)
 (hl : l.length < 4611686018427387904) : ∀ (k : Nat) (s : σ) (i : Nat), b - i < k → i ≤ l.length → L k s i = goI (fun i x s c => bif ilt (i : Int) B then step i x s c else fin s) fin i (l.drop i) s := by
 intro k
 induction k with
 | zero => intro s i h; omega
 | succ k ih =>
  intro s i hk hi
  rw [h k s i hi]
  rcases at_idx l i with ⟨x, e1, e2, e3, e4⟩ | ⟨e1, e2⟩
  · have hlt := lt_of_drop' e1
    rw [e1, e2, e3, e4]
    simp only [cond_true, Option.bind_some, goI]
    cases hb : ilt (i : Int) B
    · rfl
    · rw [hB, ilt_iff] at hb
      simp only [cond_true]
      congr 1
      funext s'
      rw [wadd_nat (by omega)]
      exact ih s' (i + 1) (by omega) (by omega)
  · rw [e1, e2]; rfl
section
variable {g : GGraph} {j : GJob} {id : Int}
theorem acts_go {β : Type} {step : Nat → GAct → GWorker → (GWorker → Option β) → Option β} {fin : GWorker → Option β} : ∀ (l : List GAct) (i n : Nat) (w : GWorker), (∀ x ∈ l, ∀ (i n : Nat) (w : GWorker), WI g j id n w → n ≤ 100000 → ∃ w', WI g j id (n + 42) w' ∧ ∀ c, step i x w c = c w') →
 WI g j id n w → n + 42 * (40 - i) ≤ 100000 → ∃ w', WI g j id 100000 w' ∧ goI (fun i x s c => bif ilt (i : Int) 40 then step i x s c else fin s) fin i l w = fin w'
 | [], i, n, w, _, h, hn => ⟨w, h.up (by omega), rfl⟩
 | x :: l, i, n, w, hs, h, hn => by
  rw [goI]
  cases hi : ilt (i : Int) 40
  · exact ⟨w, h.up (by omega), rfl⟩
  · rw [ilt_iff] at hi
    obtain ⟨w1, h1, e1⟩ := hs x List.mem_cons_self i n w h (by omega)
    obtain ⟨w2, h2, e2⟩ := acts_go l (i + 1) (n + 42) w1 (fun y hy => hs y (List.mem_cons_of_mem _ hy)) h1 (by omega)
    exact ⟨w2, h2, by rw [cond_true, e1, e2]⟩
theorem great_spec (K : Nat) (g : GGraph) : F9 K g = some (ilt 200 (g.Edges.length : Int)) := by rw [F9]; rfl
theorem mine_loop {K : Nat} (hK : 1000000 ≤ K) (l : List GAct) (v : Int) (r : GWorker × List GPost × List GDid) {n : Nat} (h : WI g j id n r.1) : F5_l1_1 K g j id l v r K 0 = some (.inr ()) := by
 have hlen := h.ok.len
 let step : Nat → GHeld → Unit → (Unit → Option (Unit ⊕ Unit)) → Option (Unit ⊕ Unit) := fun i x _ c =>
  bif (ilt x.X.P 0) then (some (.inl ())) else bif (ile (nlen (len r.1.T.Owners)) x.X.P) then (some (.inl ())) else
  bif (inr x.X.P (len r.1.T.Owners)) then (elAt r.1.T.Owners x.X.P).bind fun o =>
   bif (ieq o id) then (bif (ilt 0 (i : Int)) then (bif (inr (wsub .i64 (i : Int) 1) (len r.1.Held)) then (elAt r.1.Held (wsub .i64 (i : Int) 1)).bind fun d =>
    bif (ile x.X.P d.X.P) then (some (.inl ())) else (F17 K g j x.X).bind fun b => bif b then c () else some (.inl ()) else none)
    else (F17 K g j x.X).bind fun b => bif b then c () else some (.inl ()))
   else some (.inl ()) else none
 have hs := scanI (l := r.1.Held) (L := fun k (_ : Unit) i => F5_l1_1 K g j id l v r k i) step (fun _ => some (.inr ())) (fun k s i _ => rfl) (by omega) K () 0 (by omega) (by omega)
 have go : ∀ (t : List GHeld) (i : Nat), r.1.Held.drop i = t → goI step (fun _ => some (.inr ())) i t () = some (.inr ()) := by
  intro t
  induction t with
  | nil => intro i _; rfl
  | cons x t ih =>
   intro i hd
   have hlt := lt_of_drop' hd
   have he := List.drop_eq_getElem_cons hlt
   rw [hd] at he
   injection he with hx ht
   have hmem : x ∈ r.1.Held := by rw [hx]; exact List.getElem_mem hlt
   obtain ⟨m1, m2, m3, m4⟩ := h.mine x hmem
   have m0 := (h.ok.r x hmem).1
   have hsm := h.hx x hmem
   rw [goI]
   show (bif (ilt x.X.P 0) then _ else _) = _
   have c1 : inr x.X.P (len r.1.T.Owners) = true := decide_eq_true ⟨m0, m1⟩
   have c2 : elAt r.1.T.Owners x.X.P = some id := by
    have : r.1.T.Owners.getD x.X.P.toNat 0 = id := m2.trans h.id
    rw [getD_lt (by omega)] at this
    show r.1.T.Owners[x.X.P.toNat]? = _
    rw [List.getElem?_eq_getElem (by omega), this]
   have c3 : F17 K g j x.X = some true := by rw [F17_spec (by omega) g j x.X (by have := hsm.i; omega) (by have := hsm.i; omega), m3]
   rw [ilt_f.2 m0, cond_false, nlen_len, ile_f.2 m1, cond_false, c1, c2, cond_true, Option.bind_some, ieq_refl, cond_true, c3]
   have hi := ih (i + 1) ht.symm
   cases h0 : ilt 0 (i : Int)
   · rw [cond_false, Option.bind_some, cond_true]; exact hi
   · rw [ilt_iff] at h0
     have w1 : wsub .i64 (i : Int) 1 = ((i - 1 : Nat) : Int) := wsub_one (by omega) (by omega)
     have c4 : inr ((i - 1 : Nat) : Int) (len r.1.Held) = true := decide_eq_true ⟨by omega, by show ((i - 1 : Nat) : Int) < (r.1.Held.length : Int); omega⟩
     have c5 : elAt r.1.Held ((i - 1 : Nat) : Int) = some r.1.Held[i - 1] := by rw [elAt_nat]; exact List.getElem?_eq_getElem (by omega)
     have hsort := (List.pairwise_iff_getElem.1 h.ok.s) (i - 1) i (by omega) hlt (by omega)
     rw [← hx] at hsort
     rw [w1, c4, c5, cond_true, cond_true, Option.bind_some, ile_f.2 hsort, cond_false, Option.bind_some, cond_true]; exact hi
 rw [List.drop_zero] at hs
 exact hs.trans (go r.1.Held 0 rfl)
theorem law5K {K : Nat} (hK : 1000000 ≤ K) (g : GGraph) (j : GJob) (id : Int) (l : List GAct) (hl : l.length < 4611686018427387904) (hw : ∀ a ∈ l, WGAct a) : F5 K g j id l = some true := by
 rw [F5, great_spec, Option.bind_some]
 cases ilt 200 (g.Edges.length : Int)
 · rw [cond_false]
   let step : Int → GAct → GWorker → (GWorker → Option (Unit ⊕ Unit)) → Option (Unit ⊕ Unit) := fun i x w c => (F12 K x.M).bind fun r => bif ilt 100 r then c w else (F13 K g j w x).bind fun r => (F5_l1_1 K g j id l i r K 0).bind fun y => Sum.elim (fun _ => some (.inl ())) (fun _ => c r.1) y
   have hs := scanB 40 rfl (l := l) (L := fun k (w : GWorker) i => F5_l0_0 K g j id l k w.Id w.Goal w.Until w.T.Epoch w.T.Owners w.T.Ids w.T.Incs w.Held w.Buf w.Coming w.Out i) (fun (i : Nat) => step (i : Int)) (fun w => some (.inr ())) (fun k s i _ => rfl) (by omega) K (GWorker.mk id (-1) 0 noT [] [] [] []) 0 (by omega) (by omega)
   obtain ⟨w, hW, hg⟩ := acts_go (step := fun (i : Nat) => step (i : Int)) (fin := fun w => some (.inr ())) l 0 0 (GWorker.mk id (-1) 0 noT [] [] [] []) (fun x hx i n w h hn => by
    have e0 : ∀ c, step (i : Int) x w c = bif ilt 100 (wideM x.M) then c w else (F13 K g j w x).bind fun r => (F5_l1_1 K g j id l (i : Int) r K 0).bind fun y => Sum.elim (fun _ => some (.inl ())) (fun _ => c r.1) y := fun c => by
     show (F12 K x.M).bind _ = _
     rw [F12_spec (by omega)]; rfl
    simp only [e0]
    cases hq : ilt 100 (wideM x.M)
    · have hm := wf_mi (hw x hx).2.2.1 (wide_fit hq)
      refine ⟨_, wi_act h (by omega) hm, fun c => ?_⟩
      rw [cond_false, F13_spec hK h (by omega) hm, Option.bind_some, mine_loop hK l (i : Int) (actW g j w x) (wi_act h (by omega) hm)]; rfl
    · exact ⟨w, h.up (by omega), fun c => rfl⟩) (wi_new g j id) (by omega)
   rw [List.drop_zero] at hs
   have e : F5_l0_0 K g j id l K id (-1) 0 0 [] [] [] [] [] [] [] 0 = some (.inr ()) := hs.trans hg
   show ((F5_l0_0 K g j id l K id (-1) 0 0 [] [] [] [] [] [] [] 0).bind _) = _
   rw [e]; rfl
 · rfl
theorem len_reach {α : Type} {l : List α} {n : Nat} (hn : 0 < n) (h : l.length * n ≤ reachBytes) : l.length < 4611686018427387904 := by
 have : l.length ≤ l.length * n := Nat.le_mul_of_pos_right _ hn
 have : reachBytes ≤ 140737488355328 := by unfold reachBytes; omega
 omega
theorem law5 (g : GGraph) (j : GJob) (id : Int) (l : List GAct) (_ : WGGraph g) (_ : WGJob j) (_ : (Lit.int .i64 id).wf = true) (hl : l.length * 264 ≤ reachBytes ∧ ∀ y ∈ l, WGAct y) : F5 1000000 g j id l = some true :=
 law5K (Nat.le_refl _) g j id l (len_reach (by omega) hl.1) hl.2
end
end Go.Proofs.Ytbaihlhoedbpkaa.Tm

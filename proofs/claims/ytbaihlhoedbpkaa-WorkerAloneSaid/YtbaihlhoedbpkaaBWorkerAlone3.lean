/- What the row of WorkerAlone leans on: printed functions and plain laws. Conditions: none. -/
import Derived.Test.YtbaihlhoedbpkaaTy
import Derived.Test.YtbaihlhoedbpkaaTab
import Derived.Test.YtbaihlhoedbpkaaKn
import Derived.Test.YtbaihlhoedbpkaaWf
import Derived.IntWalk
import Derived.KernelRfl
import Derived.OpenShut
import Derived.Test.YtbaihlhoedbpkaaBWorkerAlone2
set_option linter.unusedVariables false
set_option linter.unusedSimpArgs false
namespace Go.Proofs.Ytbaihlhoedbpkaa.Tm
open Go
noncomputable section
theorem Kt {g : GGraph} {j : GJob} {step v val got : Int} {sm : Bool} (hv : i64 val) (hg : i64 got) : i64 (AC g j step v val got sm).1 ∧ ∀ m ∈ (AC g j step v val got sm).2.1, i64 m.V := by
 have h0 : i64 0 := by unfold i64; omega
 have hn : ∀ m ∈ ([] : List GMsg), i64 m.V := fun m hm => absurd hm (List.not_mem_nil)
 rw [AC]
 cases ieq (An g j) 0
 · exact ⟨h0, hn⟩
 · cases ilt v 0
   · cases ile g.N v
     · cases ilt step 0
       · cases ilt 40 step
         · simp only [cT, cF]
           cases ieq j.Prog 5
           · have hw : i64 (CQ j.Prog val got sm) := by
              rw [CQ]
              cases sm
              · exact hv
              · exact G1 hv hg
             rw [cF, Dw]
             cases DT j.Prog j.Source step v val (CQ j.Prog val got sm)
             · exact ⟨hw, hn⟩
             · exact J7 hw
           · have hw : i64 (CN step val got sm).1 := by
              rw [CN]
              cases ilt 0 step
              · exact hv
              · exact MA
             rw [cT, DN]
             cases (CN step val got sm).2
             · exact ⟨h0, hn⟩
             · cases ile 10 step
               · exact J7 hw
               · exact ⟨hw, hn⟩
         · exact ⟨h0, hn⟩
       · exact ⟨h0, hn⟩
     · exact ⟨h0, hn⟩
   · exact ⟨h0, hn⟩
theorem QS {g : GGraph} {j : GJob} {step v val got : Int} {sm : Bool} : (AC g j step v val got sm).2.1.length ≤ (g.Edges.filter fun e => ieq e.From v).length := by
 have ho : (Aj g v).length ≤ (g.Edges.filter fun e => ieq e.From v).length := by
  rw [Aj]
  cases ieq (Br g) 0
  · exact Nat.zero_le _
  · exact Nat.le_refl _
 cases h : ieq (AC g j step v val got sm).2.2.2 0
 · rw [(IG h).2]; exact Nat.zero_le _
 · rcases Je h with hz | hz
   · rw [hz]; exact Nat.zero_le _
   · have := congrArg List.length hz
     simp only [List.length_map] at this
     omega
theorem TP (E : List GEdge) (v : Int) : (E.filter fun e => ilt e.From v).length + (E.filter fun e => ieq e.From v).length = (E.filter fun e => ilt e.From (v + 1)).length := by
 induction E with
 | nil => rfl
 | cons e E ih =>
  simp only [List.filter_cons]
  cases h1 : ilt e.From v
  · have h1' := Ab.1 h1
    cases h2 : ieq e.From v
    · have h2' := As.1 h2
      rw [Ab.2 (by omega : v + 1 ≤ e.From)]
      simpa using ih
    · have h2' := Af.1 h2
      rw [Ad.2 (by omega : e.From < v + 1)]
      simp; omega
  · have h1' := Ad.1 h1
    rw [As.2 (by omega : e.From ≠ v), Ad.2 (by omega : e.From < v + 1)]
    simp; omega
theorem QB {g : GGraph} {j : GJob} {s : GState} (hn : CL s) {v : Nat} : i64 (Ag g j s v).1 ∧ ∀ m ∈ (Ag g j s v).2.1, i64 m.V := by
 have h0 : i64 0 := by unfold i64; omega
 have hx : i64 (s.Vals.getD v 0) := by
  rw [List.getD_eq_getElem?_getD]
  cases hq : s.Vals[v]? with
  | none => exact h0
  | some x => exact hn.1 x (List.mem_of_getElem? hq)
 rw [Ag]
 cases s.Rest.getD v false && !(atS s.In (v : Int)).2
 · exact Kt hx (HN hn.2)
 · exact ⟨hx, fun m hm => absurd hm (List.not_mem_nil)⟩
theorem Nw {g : GGraph} {j : GJob} {s : GState} {v : Nat} : (Ag g j s v).2.1.length ≤ (g.Edges.filter fun e => ieq e.From (v : Int)).length := by
 rw [Ag]
 cases s.Rest.getD v false && !(atS s.In (v : Int)).2
 · exact QS
 · exact Nat.zero_le _
structure keepS (g : GGraph) (i : Nat) (a : List Int) (b : List Bool) (c : List GMsg) : Prop where
 la : a.length = i
 lb : b.length = i
 lc : c.length ≤ (g.Edges.filter fun e => ilt e.From (i : Int)).length
 va : ∀ v ∈ a, i64 v
 vc : ∀ m ∈ c, i64 m.V
theorem Kj {g : GGraph} {j : GJob} {s : GState} (hn : CL s) {i : Nat} {a : List Int} {b : List Bool} {c : List GMsg} (h : keepS g i a b c) :
 keepS g (i + 1) (a ++ [(Ag g j s i).1]) (b ++ [(Ag g j s i).2.2.1]) (c ++ (Ag g j s i).2.1) := by
 obtain ⟨o1, o2⟩ := QB (g := g) (j := j) hn (v := i)
 refine ⟨by simp [h.la], by simp [h.lb], ?_, fun v hv => ?_, fun m hm => ?_⟩
 · have h1 := Nw (g := g) (j := j) (s := s) (v := i)
   have h2 := TP g.Edges (i : Int)
   have h3 := h.lc
   rw [List.length_append]
   show _ ≤ (g.Edges.filter fun e => ilt e.From ((i + 1 : Nat) : Int)).length
   have : ((i + 1 : Nat) : Int) = (i : Int) + 1 := by omega
   rw [this]; omega
 · rcases List.mem_append.1 hv with hv | hv
   · exact h.va v hv
   · rw [List.mem_singleton.1 hv]; exact o1
 · rcases List.mem_append.1 hm with hm | hm
   · exact h.vc m hm
   · exact o2 m hm
theorem H9 {g : GGraph} {i : Nat} {a : List Int} {b : List Bool} {c : List GMsg} (h : keepS g i a b c) (he : g.Edges.length ≤ 80) : c.length ≤ 80 :=
 Nat.le_trans h.lc (Nat.le_trans (List.length_filter_le _ _) he)
theorem Ia {g : GGraph} {j : GJob} {s : GState} (hn : CL s) : ∀ (n i : Nat) (a : List Int) (b : List Bool) (c : List GMsg), keepS g i a b c → ∀ w, Bh g j s (List.range' i n) a b c = .inr w → keepS g (i + n) w.1 w.2.1 w.2.2 := by
 intro n
 induction n with
 | zero => intro i a b c h w hw; injection hw with hw; subst hw; exact h
 | succ n ih =>
  intro i a b c h w hw
  rw [List.range'_succ, Bh] at hw
  cases hq : ieq (Ag g j s i).2.2.2 0
  · rw [hq] at hw; cases hw
  · rw [hq] at hw
    have := ih (i + 1) _ _ _ (Kj hn h) w hw
    rwa [show i + 1 + n = i + (n + 1) by omega] at this
def Jj (K : Nat) (g : GGraph) (j : GJob) (s : GState) (i : Nat) (w : Tri) (c : Tri → Option (Int ⊕ Tri)) : Option (Int ⊕ Tri) :=
 (F49 K s.In (i : Int)).bind fun r1873 =>
 bif (inr (i : Int) (len s.Vals)) then
 (elAt s.Vals (i : Int)).bind fun x1876 =>
 bif r1873.2 then
  ((F50 K g j s.Step (i : Int) x1876 r1873.1 r1873.2).bind fun r1879 =>
  bif (ieq r1879.E 0) then
   (bif (apok (len w.1) 1 8) then
   bif (apok (len w.2.1) 1 1) then
   bif (apok (len w.2.2) (len r1879.Out) 16) then
   c (appL w.1 [r1879.Val], appL w.2.1 [r1879.Rest], appL w.2.2 r1879.Out)
   else none
   else none
   else none)
  else
  some (.inl r1879.E))
 else
 bif (inr (i : Int) (len s.Rest)) then
 (elAt s.Rest (i : Int)).bind fun x1886 =>
 bif x1886 then
  (bif (apok (len w.1) 1 8) then
  bif (apok (len w.2.1) 1 1) then
  bif (apok (len w.2.2) 0 16) then
  c (appL w.1 [x1876], appL w.2.1 [true], appL w.2.2 [])
  else none
  else none
  else none)
 else
 (F50 K g j s.Step (i : Int) x1876 r1873.1 r1873.2).bind fun r1892 =>
 bif (ieq r1892.E 0) then
  (bif (apok (len w.1) 1 8) then
  bif (apok (len w.2.1) 1 1) then
  bif (apok (len w.2.2) (len r1892.Out) 16) then
  c (appL w.1 [r1892.Val], appL w.2.1 [r1892.Rest], appL w.2.2 r1892.Out)
  else none
  else none
  else none)
 else
 some (.inl r1892.E)
 else none
 else none
theorem IF {α : Type} {l : List α} {i : Nat} (h : i < l.length) (d : α) : inr (i : Int) (len l) = true ∧ elAt l (i : Int) = some (l.getD i d) := by
 refine ⟨decide_eq_true ⟨by omega, by show (i : Int) < (l.length : Int); omega⟩, ?_⟩
 rw [Bg, List.getElem?_eq_getElem h, List.getD_eq_getElem?_getD, List.getElem?_eq_getElem h]; rfl
theorem Wb {K : Nat} (hK : 1000 ≤ K) (g : GGraph) (j : GJob) (s : GState) (hr : Aq g j s = true) (hn : CL s) : ∀ (n i : Nat) (a : List Int) (b : List Bool) (c : List GMsg), i + n = g.N.toNat → keepS g i a b c →
 goL (Jj K g j s) (fun w => some (.inr w)) (List.range' i n) (a, b, c) = some (Bh g j s (List.range' i n) a b c) := by
 obtain ⟨hc, s1, s2, s3, s4, s5⟩ := AZ hr
 obtain ⟨hg, _⟩ := Au hc
 obtain ⟨g1, g2, g3, _⟩ := AQ hg
 have hil := GJ s5 om
 intro n
 induction n with
 | zero => intro i a b c _ _; rfl
 | succ n ih =>
  intro i a b c hin h
  have hlc := H9 h g3
  have hnx := Kj (j := j) hn h
  have hlc2 := H9 hnx g3
  rw [List.length_append] at hlc2
  obtain ⟨la, lb, _, _, _⟩ := h
  obtain ⟨v1, v2⟩ := IF (l := s.Vals) (i := i) om 0
  obtain ⟨r1, r2⟩ := IF (l := s.Rest) (i := i) om false
  have a1 : apok (len a) 1 8 = true := decide_eq_true ⟨by show a.length + 1 ≤ _; omega, by show (a.length + 1) * 8 ≤ _; omega⟩
  have a2 : apok (len b) 1 1 = true := decide_eq_true ⟨by show b.length + 1 ≤ _; omega, by show (b.length + 1) * 1 ≤ _; omega⟩
  have a3 : apok (len c) 0 16 = true := decide_eq_true ⟨by show c.length + 0 ≤ _; omega, by show (c.length + 0) * 16 ≤ _; omega⟩
  have a4 : apok (len c) (len (Ag g j s i).2.1) 16 = true := decide_eq_true ⟨by show c.length + (Ag g j s i).2.1.length ≤ _; omega, by show (c.length + (Ag g j s i).2.1.length) * 16 ≤ _; omega⟩
  have hx : i64 (s.Vals.getD i 0) := by
   rw [List.getD_eq_getElem?_getD]
   cases hq : s.Vals[i]? with
   | none => show i64 0; unfold i64; omega
   | some x => exact hn.1 x (List.mem_of_getElem? hq)
  have hat := HN (l := s.In) (v := (i : Int)) hn.2
  have nx := ih (i + 1) _ _ _ om hnx
  rw [List.range'_succ, goL, Jj, Bh, Tl s.In (i : Int) om om, v1, v2, r1, r2]
  have f100 := T5 (K := K) om g j s.Step (i : Int) (atS s.In (i : Int)).2 hx hat
  simp only [cT, bS, f100, Ik, a1, a2, a3]
  cases hs : (atS s.In (i : Int)).2
  · cases hy : s.Rest.getD i false
    · have hT : Ag g j s i = AC g j s.Step (i : Int) (s.Vals.getD i 0) (atS s.In (i : Int)).1 false := by rw [Ag, hy, hs]; rfl
      rw [hT] at a4 nx ⊢
      simp only [cF, a4, cT]
      cases ieq (AC g j s.Step (i : Int) (s.Vals.getD i 0) (atS s.In (i : Int)).1 false).2.2.2 0
      · rfl
      · exact nx
    · have hT : Ag g j s i = (s.Vals.getD i 0, [], true, 0) := by rw [Ag, hy, hs]; rfl
      rw [hT] at nx ⊢
      exact nx
  · have hT : Ag g j s i = AC g j s.Step (i : Int) (s.Vals.getD i 0) (atS s.In (i : Int)).1 true := by rw [Ag, hs, Bool.not_true, Bool.and_false]; rfl
    rw [hT] at a4 nx ⊢
    simp only [cF, a4, cT]
    cases ieq (AC g j s.Step (i : Int) (s.Vals.getD i 0) (atS s.In (i : Int)).1 true).2.2.2 0
    · rfl
    · exact nx
theorem Hk (g : GGraph) : keepS g 0 [] [] [] := ⟨rfl, rfl, Nat.zero_le _, fun v hv => absurd hv (List.not_mem_nil), fun m hm => absurd hm (List.not_mem_nil)⟩
theorem T6 {K : Nat} (hK : 1000 ≤ K) (g : GGraph) (j : GJob) (s : GState) (hn : CL s) (hl : s.In.length < 1000000) (hk : s.In.length < K) : F23 K g j s = some (AH g j s) := by
 rw [F23, E6 om, Ih hK g j s hl hk, bS, bS, AH]
 cases hc : ieq (An g j) 0
 · rfl
 · cases hr : Aq g j s
   · rfl
   · cases h40 : ieq s.Step 40
     · obtain ⟨_, s1, s2, s3, s4, s5⟩ := AZ hr
       obtain ⟨hg, _⟩ := Au hc
       obtain ⟨g1, g2, g3, _⟩ := AQ hg
       have h := EM (N := g.N) (L := fun k (w : Tri) i => D2 K g j s k w.1 w.2.1 w.2.2 i) (Jj K g j s) (fun w => some (.inr w)) (fun k w i _ => rfl) om (K := K) om ([], [], [])
       have h' : D2 K g j s K [] [] [] 0 = some (Bh g j s (List.range g.N.toNat) [] [] []) := by
        rw [show D2 K g j s K [] [] [] 0 = _ from h, List.range_eq_range']
        exact Wb hK g j s hr hn g.N.toNat 0 [] [] [] om (Hk g)
       simp only [cT, cF, h', bS]
       cases hA : Bh g j s (List.range g.N.toNat) [] [] [] with
       | inl e => rfl
       | inr w =>
        rw [List.range_eq_range'] at hA
        have kw := Ia hn g.N.toNat 0 [] [] [] (Hk g) w hA
        have hwl := H9 kw g3
        have hw : wadd .i64 s.Step 1 = s.Step + 1 := Fs (by unfold i64; omega)
        simp only [Sum.elim_inr, SO j.Prog w.2.2 kw.vc (show w.2.2.length < K by omega) om, bS, GI, hw]
        cases ieq (Am j.Prog w.2.2).2 0 <;> rfl
     · rfl
theorem Ig (p : Int) : ∀ (r : List GMsg) (c : GMsg) (d w : List GMsg), Bz p r c d = .inr w → (∀ x ∈ r, c.To ≤ x.To) → r.Pairwise (fun a b => a.To ≤ b.To) → (d ++ [c]).Pairwise (fun a b => a.To < b.To) →
 w.Pairwise (fun a b => a.To < b.To) ∧ ∀ t ∈ w, ∃ s ∈ d ++ c :: r, s.To = t.To
 | [], c, d, w, h, _, _, hd => by
  injection h with h
  subst h
  exact ⟨hd, fun t ht => ⟨t, ht, rfl⟩⟩
 | x :: r, c, d, w, h, hc, hr, hd => by
  rw [Bz] at h
  obtain ⟨hx, hr'⟩ := List.pairwise_cons.1 hr
  cases h1 : ieq c.To x.To
  · rw [h1, cF] at h
    have hne := As.1 h1
    have hlt := hc x List.mem_cons_self
    obtain ⟨q1, q2⟩ := Ig p r x (d ++ [c]) w h hx hr' (by
     refine List.pairwise_append.2 ⟨hd, List.pairwise_singleton _ _, fun u hu v hv => ?_⟩
     rw [List.mem_singleton.1 hv]
     rcases List.mem_append.1 hu with hu | hu
     · have := (List.pairwise_append.1 hd).2.2 u hu c (List.mem_singleton.2 rfl); omega
     · rw [List.mem_singleton.1 hu]; omega)
    exact ⟨q1, fun t ht => by
     obtain ⟨s, hs, e⟩ := q2 t ht
     exact ⟨s, by simpa using hs, e⟩⟩
  · rw [h1, cT] at h
    cases h2 : ieq (Al p c.V x.V).2 0
    · rw [h2] at h; cases h
    · rw [h2, cT] at h
      obtain ⟨q1, q2⟩ := Ig p r (GMsg.mk c.To (Al p c.V x.V).1) d w h (fun y hy => hc y (List.mem_cons_of_mem _ hy)) hr' (by
       obtain ⟨a, b, e⟩ := List.pairwise_append.1 hd
       exact List.pairwise_append.2 ⟨a, List.pairwise_singleton _ _, fun u hu v hv => by rw [List.mem_singleton.1 hv]; exact e u hu c (List.mem_singleton.2 rfl)⟩)
      refine ⟨q1, fun t ht => ?_⟩
      obtain ⟨s, hs, e⟩ := q2 t ht
      rcases List.mem_append.1 hs with hs | hs
      · exact ⟨s, List.mem_append_left _ hs, e⟩
      · rcases List.mem_cons.1 hs with rfl | hs
        · exact ⟨c, List.mem_append_right _ List.mem_cons_self, e⟩
        · exact ⟨s, List.mem_append_right _ (List.mem_cons_of_mem _ (List.mem_cons_of_mem _ hs)), e⟩
theorem H3 {p : Int} {l : List GMsg} : (Am p l).1.Pairwise (fun a b => a.To < b.To) ∧ ∀ t ∈ (Am p l).1, ∃ s ∈ l, s.To = t.To := by
 have hn : (([] : List GMsg).Pairwise (fun a b => a.To < b.To)) ∧ ∀ t ∈ ([] : List GMsg), ∃ s ∈ l, s.To = t.To := ⟨List.Pairwise.nil, fun t ht => absurd ht List.not_mem_nil⟩
 have hp := C4 l
 have hs : (Ay l).Pairwise (fun a b => a.To ≤ b.To) := (FF l).imp fun {a b} h => by have := Gr.1 h; omega
 rw [Am]
 cases Ao p
 · rw [cF]
   generalize Ay l = m at *
   cases m with
   | nil => exact hn
   | cons x r =>
    rw [Dx]
    cases hq : Bz p r x [] with
    | inl e => exact hn
    | inr w =>
     obtain ⟨h1, h2⟩ := List.pairwise_cons.1 hs
     obtain ⟨q1, q2⟩ := Ig p r x [] w hq h1 h2 (List.pairwise_singleton _ _)
     exact ⟨q1, fun t ht => by
      obtain ⟨s, hs, e⟩ := q2 t ht
      exact ⟨s, hp.mem_iff.1 hs, e⟩⟩
 · exact hn
theorem QD {g : GGraph} {v : Int} {e : GEdge} (h : e ∈ Aj g v) : 0 ≤ e.To ∧ e.To < g.N := by
 rw [Aj] at h
 cases hc : ieq (Br g) 0
 · rw [hc] at h; cases h
 · obtain ⟨h1, h2, h3, h4⟩ := AQ hc
   rw [hc] at h
   have := FU (Hy h4 e (List.mem_filter.1 h).1)
   omega
theorem Jd {g : GGraph} {j : GJob} {step v val got : Int} {sm : Bool} : ∀ m ∈ (AC g j step v val got sm).2.1, 0 ≤ m.To ∧ m.To < g.N := by
 intro m hm
 cases h : ieq (AC g j step v val got sm).2.2.2 0
 · rw [(IG h).2] at hm; exact absurd hm List.not_mem_nil
 · rcases Je h with hz | hz
   · rw [hz] at hm; exact absurd hm List.not_mem_nil
   · have : m.To ∈ (AC g j step v val got sm).2.1.map (·.To) := List.mem_map.2 ⟨m, hm, rfl⟩
     rw [hz] at this
     obtain ⟨e, he, q⟩ := List.mem_map.1 this
     rw [← q]; exact QD he
def AN (g : GGraph) (j : GJob) (x : GPart) (i v : Nat) : Int × List GMsg × Bool × Int :=
 bif x.Rest.getD i false && !(atS x.In (v : Int)).2 then (x.Vals.getD i 0, [], true, 0)
 else AC g j x.Step (v : Int) (x.Vals.getD i 0) (atS x.In (v : Int)).1 (atS x.In (v : Int)).2
def doA (g : GGraph) (j : GJob) (x : GPart) : List Nat → Nat → List Int → List Bool → List GMsg → Int ⊕ Tri
 | [], _, a, b, c => .inr (a, b, c)
 | v :: l, i, a, b, c => bif ieq (AN g j x i v).2.2.2 0 then doA g j x l (i + 1) (a ++ [(AN g j x i v).1]) (b ++ [(AN g j x i v).2.2.1]) (c ++ (AN g j x i v).2.1) else .inl (AN g j x i v).2.2.2
def toS (j : GJob) (c : List GMsg) (q : Int) : List GMsg := c.filter fun m => ieq (AU j m.To) q
def CO (j : GJob) (c : List GMsg) : List Nat → List (List GMsg) → Int ⊕ List (List GMsg)
 | [], d => .inr d
 | q :: l, d => bif ieq (Am j.Prog (toS j c (q : Int))).2 0 then CO j c l (d ++ [(Am j.Prog (toS j c (q : Int))).1]) else .inl (Am j.Prog (toS j c (q : Int))).2
abbrev Did := GPart × List (List GMsg) × Int
def doC (x : GPart) (w : Tri) : Int ⊕ List (List GMsg) → Did
 | .inl e => (Cq, [], e)
 | .inr t => (GPart.mk x.P (x.Step + 1) w.1 w.2.1 [], t, 0)
def doB (j : GJob) (x : GPart) : Int ⊕ Tri → Did
 | .inl e => (Cq, [], e)
 | .inr w => doC x w (CO j w.2.2 (List.range j.Parts.toNat) [])
def doS (g : GGraph) (j : GJob) (x : GPart) : Did :=
 bif ieq (An g j) 0 then (bif Av g j x then (bif ieq x.Step 40 then (Cq, [], 6) else doB j x (doA g j x (Ak g j x.P) 0 [] [] [])) else (Cq, [], 1)) else (Cq, [], An g j)
def A3 (x : GPart) : Prop := (∀ v ∈ x.Vals, i64 v) ∧ (∀ m ∈ x.In, i64 m.V)
theorem Sf {g : GGraph} {j : GJob} {x : GPart} (hn : A3 x) {i v : Nat} : i64 (AN g j x i v).1 ∧ ∀ m ∈ (AN g j x i v).2.1, i64 m.V := by
 have h0 : i64 0 := by unfold i64; omega
 have hx : i64 (x.Vals.getD i 0) := by
  rw [List.getD_eq_getElem?_getD]
  cases hq : x.Vals[i]? with
  | none => exact h0
  | some y => exact hn.1 y (List.mem_of_getElem? hq)
 rw [AN]
 cases x.Rest.getD i false && !(atS x.In (v : Int)).2
 · exact Kt hx (HN hn.2)
 · exact ⟨hx, fun m hm => absurd hm (List.not_mem_nil)⟩
theorem Kn {g : GGraph} {j : GJob} {x : GPart} {i v : Nat} : (AN g j x i v).2.1.length ≤ 80 ∧ ∀ m ∈ (AN g j x i v).2.1, 0 ≤ m.To ∧ m.To < g.N := by
 rw [AN]
 cases x.Rest.getD i false && !(atS x.In (v : Int)).2
 · exact ⟨QY, Jd⟩
 · exact ⟨Nat.zero_le _, fun m hm => absurd hm (List.not_mem_nil)⟩
structure keepP (g : GGraph) (i : Nat) (a : List Int) (b : List Bool) (c : List GMsg) : Prop where
 la : a.length = i
 lb : b.length = i
 lc : c.length ≤ 80 * i
 va : ∀ v ∈ a, i64 v
 vc : ∀ m ∈ c, i64 m.V
 vt : ∀ m ∈ c, 0 ≤ m.To ∧ m.To < g.N
theorem Jl (g : GGraph) : keepP g 0 [] [] [] := ⟨rfl, rfl, Nat.zero_le _, fun v hv => absurd hv (List.not_mem_nil), fun m hm => absurd hm (List.not_mem_nil), fun m hm => absurd hm (List.not_mem_nil)⟩
theorem KW {g : GGraph} {j : GJob} {x : GPart} (hn : A3 x) {i : Nat} (v : Nat) {a : List Int} {b : List Bool} {c : List GMsg} (h : keepP g i a b c) :
 keepP g (i + 1) (a ++ [(AN g j x i v).1]) (b ++ [(AN g j x i v).2.2.1]) (c ++ (AN g j x i v).2.1) := by
 obtain ⟨o1, o2⟩ := Sf (g := g) (j := j) hn (i := i) (v := v)
 obtain ⟨o3, o4⟩ := Kn (g := g) (j := j) (x := x) (i := i) (v := v)
 refine ⟨by simp [h.la], by simp [h.lb], ?_, fun v hv => ?_, fun m hm => ?_, fun m hm => ?_⟩
 · have h3 := h.lc
   rw [List.length_append]; omega
 · rcases List.mem_append.1 hv with hv | hv
   · exact h.va v hv
   · rw [List.mem_singleton.1 hv]; exact o1
 · rcases List.mem_append.1 hm with hm | hm
   · exact h.vc m hm
   · exact o2 m hm
 · rcases List.mem_append.1 hm with hm | hm
   · exact h.vt m hm
   · exact o4 m hm
theorem Lo {g : GGraph} {j : GJob} {x : GPart} (hn : A3 x) : ∀ (l : List Nat) (i : Nat) (a : List Int) (b : List Bool) (c : List GMsg), keepP g i a b c → ∀ w, doA g j x l i a b c = .inr w → keepP g (i + l.length) w.1 w.2.1 w.2.2 := by
 intro l
 induction l with
 | nil => intro i a b c h w hw; injection hw with hw; subst hw; exact h
 | cons v l ih =>
  intro i a b c h w hw
  rw [doA] at hw
  cases hq : ieq (AN g j x i v).2.2.2 0
  · rw [hq] at hw; cases hw
  · rw [hq] at hw
    have := ih (i + 1) _ _ _ (KW hn v h) w hw
    rwa [show i + 1 + l.length = i + (l.length + 1) by omega] at this
theorem Rf (j : GJob) (c d : List GMsg) (q : Int) : toS j (c ++ d) q = toS j c q ++ toS j d q := List.filter_append _ _
theorem Iz (j : GJob) (c : List GMsg) (q : Int) : (toS j c q).length ≤ c.length := List.length_filter_le _ _
theorem Es {j : GJob} {c : List GMsg} {q : Int} {m : GMsg} (h : m ∈ toS j c q) : m ∈ c ∧ AU j m.To = q := by
 obtain ⟨a, b⟩ := List.mem_filter.1 h
 exact ⟨a, Af.1 b⟩
theorem E9 {α : Type} (p : α → Bool) {step : α → Unit → (Unit → Option (Unit ⊕ Unit)) → Option (Unit ⊕ Unit)} : ∀ (l : List α), (∀ x ∈ l, ∀ c, step x () c = bif p x then c () else some (.inl ())) →
 goL step (fun _ => some (.inr ())) l () = some (Bf (l.all p))
 | [], _ => rfl
 | x :: l, h => by
  rw [goL, h x List.mem_cons_self, E9 p l fun y hy => h y (List.mem_cons_of_mem _ hy), List.all_cons]
  cases p x <;> rfl
theorem I8 {α : Type} {l : List α} {i : Nat} (h : i < l.length) (d : α) : l.getD i d = l[i] := by rw [List.getD_eq_getElem?_getD, List.getElem?_eq_getElem h]; rfl
def Co {α : Type} (p : α → Bool) (l : List α) : Int := match l.findIdx? p with | some q => (q : Int) | none => -1
theorem Hz {α : Type} (p : α → Bool) {step : Nat → α → Unit → (Unit → Option (Int ⊕ Unit)) → Option (Int ⊕ Unit)} : ∀ (l : List α) (i : Nat), (∀ x ∈ l, ∀ i c, step i x () c = bif p x then some (.inl (i : Int)) else c ()) →
 goI step (fun _ => some (.inr ())) i l () = some (match l.findIdx? p with | some q => .inl ((i + q : Nat) : Int) | none => .inr ())
 | [], _, _ => rfl
 | x :: l, i, h => by
  rw [goI, h x List.mem_cons_self, Hz p l (i + 1) fun y hy => h y (List.mem_cons_of_mem _ hy), List.findIdx?_cons]
  cases hp : p x
  · cases hq : l.findIdx? p with
    | none => simp
    | some q => simp; omega
  · simp
theorem Jc {α : Type} {γ : Type} (p : α → Bool) (l : List α) (f : Int → Option γ) : (some (match l.findIdx? p with | some q => Sum.inl ((0 + q : Nat) : Int) | none => Sum.inr ())).bind (fun y => Sum.elim (fun w => f w) (fun (_ : Unit) => f (-1)) y) = f (Co p l) := by
 unfold Co
 cases l.findIdx? p with
 | none => rfl
 | some q => simp
theorem TL {α : Type} (p : α → Bool) (l : List α) : Co p l < 0 ↔ ∀ x ∈ l, p x = false := by
 unfold Co
 cases h : l.findIdx? p with
 | none => simp only [List.findIdx?_eq_none_iff] at h; simpa using h
 | some q =>
  obtain ⟨hq, hp, _⟩ := List.findIdx?_eq_some_iff_getElem.1 h
  constructor
  · intro h'; dsimp only at h'; omega
  · intro h'; have := h' _ (List.getElem_mem hq); rw [this] at hp; cases hp
theorem Gs {α : Type} {p : α → Bool} {l : List α} (h : ¬ Co p l < 0) : ∃ (q : Nat) (x : α), Co p l = (q : Int) ∧ l[q]? = some x ∧ p x = true := by
 unfold Co at h ⊢
 cases hf : l.findIdx? p with
 | none => rw [hf] at h; exact absurd (by decide) h
 | some q =>
  obtain ⟨hq, hp, _⟩ := List.findIdx?_eq_some_iff_getElem.1 hf
  exact ⟨q, l[q], rfl, List.getElem?_eq_getElem hq, hp⟩
theorem Fb {α β : Type} (p : α → Bool) (f : α → β) (b : Nat) {step : α → List β → (List β → Option (List β)) → Option (List β)} (hb : b ≤ 1000) (N : Nat) (hN : N ≤ 1000000) : ∀ (l : List α) (a : List β), a.length + l.length ≤ N →
 (∀ x ∈ l, ∀ a c, step x a c = bif p x then (bif apok (len a) 1 b then c (appL a [f x]) else none) else c a) → goL step (fun a => some a) l a = some (a ++ (l.filter p).map f)
 | [], a, _, _ => by rw [goL]; simp
 | x :: l, a, hl, h => by
  rw [List.length_cons] at hl
  rw [goL, h x List.mem_cons_self]
  have hap : apok (len a) 1 b = true := decide_eq_true ⟨by show a.length + 1 ≤ _; omega, by
   show (a.length + 1) * b ≤ _
   have := Nat.mul_le_mul (show a.length + 1 ≤ 1000001 by omega) hb
   omega⟩
  cases hp : p x
  · rw [cF, Fb p f b hb N hN l a om fun y hy => h y (List.mem_cons_of_mem _ hy), List.filter_cons, hp]; simp
  · rw [cT, hap, cT, appL, Fb p f b hb N hN l (a ++ [f x]) (by simp; omega) fun y hy => h y (List.mem_cons_of_mem _ hy), List.filter_cons, hp]; simp
theorem Bp {n m b : Nat} (h : n + m ≤ 1000000) (hb : b ≤ 1000) : apok n m b = true := decide_eq_true ⟨by omega, by have := Nat.mul_le_mul h hb; omega⟩
def Bd (n : Int) (l : List Int) : Bool := l.all (fun x => !(ilt x 0) && !(ilt 1099511627776 x)) && ile (l.length : Int) n
theorem GB (K : Nat) (n : Int) (l : List Int) (hl : l.length < 1000000) (hK : l.length < K) : F66 K n l = some (Bd n l) := by
 let step : Int → Unit → (Unit → Option (Unit ⊕ Unit)) → Option (Unit ⊕ Unit) := fun x _ c => bif (ilt x 0) then some (.inl ()) else bif (ilt 1099511627776 x) then some (.inl ()) else c ()
 have h := AE (l := l) (L := fun k (_ : Unit) i => FY K n l k i) step (fun _ => some (.inr ())) (fun k s i _ => rfl) om hK ()
 have g := E9 (step := step) (fun x => !(ilt x 0) && !(ilt 1099511627776 x)) l (fun x _ c => by show (bif (ilt x 0) then _ else _) = _; cases ilt x 0 <;> cases ilt 1099511627776 x <;> rfl)
 have e : FY K n l K 0 = _ := h.trans g
 rw [F66, e, Bd]
 cases l.all _ <;> rfl
def FA (l : List GMsg) : Bool := l.all (fun m => Bd 1 [m.To]) && ile (l.length : Int) 24
theorem Lv (K : Nat) (l : List GMsg) (hl : l.length < 1000000) (hK : l.length < K) (h1 : 1 < K) : F67 K l = some (FA l) := by
 let step : GMsg → Unit → (Unit → Option (Unit ⊕ Unit)) → Option (Unit ⊕ Unit) := fun x _ c => (F66 K 1 [x.To]).bind fun r => bif r then c () else some (.inl ())
 have h := AE (l := l) (L := fun k (_ : Unit) i => F1 K l k i) step (fun _ => some (.inr ())) (fun k s i _ => rfl) om hK ()
 have g := E9 (step := step) (fun m => Bd 1 [m.To]) l (fun x _ c => by show (F66 K 1 [x.To]).bind _ = _; rw [GB K 1 [x.To] (by simp) (by simpa using h1)]; rfl)
 have e : F1 K l K 0 = _ := h.trans g
 rw [F67, e, FA]
 cases l.all _ <;> rfl
def Cu (m : GMail) : Bool :=
 ile 1 m.Kind && (ile m.Kind 11 && (Bd 9 [m.Epoch, m.Fresh, m.Step, m.P, m.Q, m.To, m.E, m.X.P, m.X.Step] && (Bd 6 m.Owners && (Bd 5 m.Ids && (Bd (m.Ids.length : Int) m.Incs && (ieq (m.Incs.length : Int) (m.Ids.length : Int) &&
  (ile (m.X.Vals.length : Int) 24 && (ieq (m.X.Rest.length : Int) (m.X.Vals.length : Int) && (FA m.X.In && FA m.Msgs)))))))))
structure FitM (c : Nat) (m : GMail) : Prop where
 o : m.Owners.length ≤ c
 i : m.Ids.length ≤ c
 n : m.Incs.length ≤ c
 v : m.X.Vals.length ≤ c
 r : m.X.Rest.length ≤ c
 x : m.X.In.length ≤ c
 s : m.Msgs.length ≤ c
theorem Vs {K : Nat} (hK : 3000 ≤ K) (m : GMail) (h : FitM 2000 m) : F40 K m = some (Cu m) := by
 obtain ⟨h1, h2, h3, h4, h5, h6, h7⟩ := h
 rw [F40, GB K 9 _ (by simp) (by simp; omega), GB K 6 _ om om, GB K 5 _ om om, GB K _ m.Incs om om, Lv K m.X.In om om om, Lv K m.Msgs om om om]
 simp only [bS, Cu, Cz]
 cases ile 1 m.Kind <;> cases ile m.Kind 11 <;> cases Bd 9 [m.Epoch, m.Fresh, m.Step, m.P, m.Q, m.To, m.E, m.X.P, m.X.Step] <;> try rfl
 cases Bd 6 m.Owners <;> cases Bd 5 m.Ids <;> cases Bd (m.Ids.length : Int) m.Incs <;> cases ieq (m.Incs.length : Int) (m.Ids.length : Int) <;> try rfl
 cases ile (m.X.Vals.length : Int) 24 <;> cases ieq (m.X.Rest.length : Int) (m.X.Vals.length : Int) <;> cases FA m.X.In <;> rfl
theorem P9 {n : Int} {l : List Int} (h : Bd n l = true) : (∀ x ∈ l, 0 ≤ x ∧ x ≤ 1099511627776) ∧ (l.length : Int) ≤ n := by
 simp only [Bd, Bool.and_eq_true, List.all_eq_true, Bool.not_eq_true', Ab, AK] at h
 exact h
def noT : GTable := GTable.mk 0 [] [] []
def Ek : Int → List Int → List Int → Bool
 | _, [], _ => true
 | p, a :: l, n :: r => !(ile a p) && (!(ilt 99 a) && (!(ilt n 1) && (!(ilt 1099511627776 n) && Ek a l r)))
 | _, _ :: _, [] => false
def CA (l : List Int) (a : Int) : Int := Co (fun x => ieq x a) l
theorem Mn (K : Nat) (l : List Int) (a : Int) (hl : l.length < 1000000) (hK : l.length < K) : Eo K l a = some (CA l a) := by
 let step : Nat → Int → Unit → (Unit → Option (Int ⊕ Unit)) → Option (Int ⊕ Unit) := fun i x _ c => bif ieq x a then some (.inl (i : Int)) else c ()
 have h := Bw (l := l) (L := fun k (_ : Unit) i => F8 K l a k i) step (fun _ => some (.inr ())) (fun k s i _ => rfl) om K () 0 om om
 have g := Hz (step := step) (fun x => ieq x a) l 0 (fun x _ i c => rfl)
 rw [List.drop_zero] at h
 have e : F8 K l a K 0 = _ := h.trans g
 rw [Eo, e]
 exact Jc _ _ fun w => some w
def Ci (t : GTable) : Bool :=
 !(ilt t.Epoch 0) && (!(ilt 1099511627776 t.Epoch) && (!(ilt 5 (t.Ids.length : Int)) && (ieq (t.Incs.length : Int) (t.Ids.length : Int) && (!(ilt 6 (t.Owners.length : Int)) && (Ek 0 t.Ids t.Incs && t.Owners.all fun o => !(ilt (CA t.Ids o) 0))))))
theorem Pj {K : Nat} (t : GTable) (hl : t.Ids.length ≤ 5) (he : t.Incs.length = t.Ids.length) (hK : 100 ≤ K) : ET K t.Epoch t.Owners t.Ids t.Incs K 0 0 = some (Bf (Ek 0 t.Ids t.Incs)) := by
 let step : Nat → Int → Int → (Int → Option (Unit ⊕ Unit)) → Option (Unit ⊕ Unit) := fun i x p c =>
  bif (ile x p) then some (.inl ()) else bif (ilt 99 x) then some (.inl ()) else bif (inr (i : Int) (len t.Incs)) then (elAt t.Incs (i : Int)).bind fun n => bif (ilt n 1) then some (.inl ()) else bif (ilt 1099511627776 n) then some (.inl ()) else c x else none
 have h := Bw (l := t.Ids) (L := fun k p i => ET K t.Epoch t.Owners t.Ids t.Incs k p i) step (fun _ => some (.inr ())) (fun k s i _ => rfl) om K 0 0 om om
 have g : ∀ (l : List Int) (i : Nat) (p : Int), t.Ids.drop i = l → goI step (fun _ => some (.inr ())) i l p = some (Bf (Ek p l (t.Incs.drop i))) := by
  intro l
  induction l with
  | nil => intro i p _; rw [goI, Ek]; rfl
  | cons x l ih =>
   intro i p hd
   have hlt := EG hd
   have hn : t.Incs.drop i = t.Incs[i] :: t.Incs.drop (i + 1) := List.drop_eq_getElem_cons om
   have hd2 : t.Ids.drop (i + 1) = l := by
    have := List.drop_eq_getElem_cons hlt
    rw [hd] at this
    injection this with _ h2; exact h2.symm
   have e1 : inr (i : Int) (len t.Incs) = true := decide_eq_true ⟨by omega, by show (i : Int) < (t.Incs.length : Int); omega⟩
   have e2 : elAt t.Incs (i : Int) = some t.Incs[i] := by rw [Bg]; exact List.getElem?_eq_getElem om
   rw [goI]
   show (bif (ile x p) then _ else _) = _
   rw [e1, e2, cT, bS, ih (i + 1) x hd2, hn, Ek]
   cases ile x p <;> cases ilt 99 x <;> cases ilt t.Incs[i] 1 <;> cases ilt 1099511627776 t.Incs[i] <;> rfl
 rw [List.drop_zero] at h
 have e : ET K t.Epoch t.Owners t.Ids t.Incs K 0 0 = _ := h.trans (g t.Ids 0 0 rfl)
 rw [List.drop_zero] at e
 exact e
theorem LR {K : Nat} (hK : 100 ≤ K) (t : GTable) : FK K t = some (Ci t) := by
 rw [FK, Ci, Cz, Cz, Cz]
 cases h1 : ilt t.Epoch 0
 · cases h2 : ilt 1099511627776 t.Epoch
   · cases h3 : ilt 5 (t.Ids.length : Int)
     · cases h4 : ieq (t.Incs.length : Int) (t.Ids.length : Int)
       · rfl
       · cases h5 : ilt 6 (t.Owners.length : Int)
         · rw [Ab] at h3 h5
           rw [Af] at h4
           rw [Pj t om om hK]
           cases Ek 0 t.Ids t.Incs
           · rfl
           · let step : Int → Unit → (Unit → Option (Unit ⊕ Unit)) → Option (Unit ⊕ Unit) := fun x _ c => (Eo K t.Ids x).bind fun r => bif ilt r 0 then some (.inl ()) else c ()
             have h := AE (l := t.Owners) (L := fun k (_ : Unit) i => Gu K t.Epoch t.Owners t.Ids t.Incs k i) step (fun _ => some (.inr ())) (fun k s i _ => rfl) om (K := K) om ()
             have g := E9 (step := step) (fun o => !(ilt (CA t.Ids o) 0)) t.Owners (fun x _ c => by show (Eo K t.Ids x).bind _ = _; rw [Mn K t.Ids x om om, bS]; cases ilt (CA t.Ids x) 0 <;> rfl)
             have e : Gu K t.Epoch t.Owners t.Ids t.Incs K 0 = _ := h.trans g
             simp only [cT, cF, Bf, bS, Sum.elim_inr, e]
             cases t.Owners.all _ <;> rfl
         · rfl
     · rfl
   · rfl
 · rfl
theorem GR {t : GTable} (h : Ci t = true) : 0 ≤ t.Epoch ∧ t.Epoch ≤ 1099511627776 ∧ t.Ids.length ≤ 5 ∧ t.Incs.length = t.Ids.length ∧ t.Owners.length ≤ 6 ∧ Ek 0 t.Ids t.Incs = true ∧ ∀ o ∈ t.Owners, 0 ≤ CA t.Ids o := by
 simp only [Ci, Bool.and_eq_true, Bool.not_eq_true', Ab, Af, List.all_eq_true] at h
 obtain ⟨h1, h2, h3, h4, h5, h6, h7⟩ := h
 exact ⟨h1, h2, by omega, by omega, by omega, h6, h7⟩
def Aw (t : GTable) : GTable := bif Ci t then t else noT
theorem Jn {α : Type} (l : List α) : appL [] l = l := List.nil_append l
theorem L7 : Ci noT = true := by decide
theorem IZ (t : GTable) : Ci (Aw t) = true := by
 rw [Aw]
 cases h : Ci t
 · exact L7
 · exact h
theorem Tr (t : GTable) : Aw (Aw t) = Aw t := by
 have := IZ t
 generalize Aw t = u at this ⊢
 rw [Aw, this]; rfl
theorem MO {K : Nat} (hK : 100 ≤ K) (t : GTable) : F96 K t = some (Aw t) := by
 rw [F96, LR hK, bS, Aw]
 cases h : Ci t
 · rfl
 · obtain ⟨_, _, h3, h4, h5, _⟩ := GR h
   have e1 : apok 0 (len t.Owners) 8 = true := Bp (by show 0 + t.Owners.length ≤ _; omega) om
   have e2 : apok 0 (len t.Ids) 8 = true := Bp (by show 0 + t.Ids.length ≤ _; omega) om
   have e3 : apok 0 (len t.Incs) 8 = true := Bp (by show 0 + t.Incs.length ≤ _; omega) om
   simp only [cT, e1, e2, e3, Jn]
def EQ (t : GTable) (id : Int) : Int := bif ilt (CA (Aw t).Ids id) 0 then 0 else (Aw t).Incs.getD (CA (Aw t).Ids id).toNat 0
theorem UO {K : Nat} (hK : 100 ≤ K) (t : GTable) (id : Int) : F97 K t id = some (EQ t id) := by
 obtain ⟨_, _, h3, h4, _⟩ := GR (IZ t)
 rw [F97, MO hK, bS, Mn K _ id om om, bS, EQ]
 cases h : ilt (CA (Aw t).Ids id) 0
 · have hn : ¬ Co (fun x => ieq x id) (Aw t).Ids < 0 := by rw [Ab] at h; exact Int.not_lt.2 h
   obtain ⟨q, x, hq, hx, _⟩ := Gs hn
   have hlt : q < (Aw t).Incs.length := by rw [h4]; exact (List.getElem?_eq_some_iff.1 hx).1
   have hf : CA (Aw t).Ids id = (q : Int) := hq
   have e1 : inr (q : Int) (len (Aw t).Incs) = true := decide_eq_true ⟨by omega, by show (q : Int) < ((Aw t).Incs.length : Int); omega⟩
   have e2 : elAt (Aw t).Incs (q : Int) = some (Aw t).Incs[q] := by rw [Bg]; exact List.getElem?_eq_getElem hlt
   rw [hf, cF, cF, e1, e2, cT, bS, Int.toNat_natCast, I8 hlt]
 · rfl
def toT (t : GTable) (p : Int) : Int × Int × Int :=
 bif ilt p 0 || ile ((Aw t).Owners.length : Int) p then (0, 0, 4) else ((Aw t).Owners.getD p.toNat 0, EQ t ((Aw t).Owners.getD p.toNat 0), 0)
theorem O3 (t : GTable) (id : Int) : EQ (Aw t) id = EQ t id := by rw [EQ, EQ, Tr]
theorem KD {K : Nat} (hK : 100 ≤ K) (t : GTable) (p : Int) : F60 K t p = some (toT t p) := by
 rw [F60, MO hK, bS, toT, Cz]
 cases h1 : ilt p 0
 · cases h2 : ile ((Aw t).Owners.length : Int) p
   · rw [Ab] at h1
     rw [Di] at h2
     have e1 : inr p (len (Aw t).Owners) = true := decide_eq_true ⟨h1, h2⟩
     have e2 : elAt (Aw t).Owners p = some ((Aw t).Owners.getD p.toNat 0) := by
      show (Aw t).Owners[p.toNat]? = _
      rw [I8 om]; exact List.getElem?_eq_getElem om
     simp only [cF, e1, e2, cT, bS, UO hK, O3, Bool.or_false]
   · rfl
 · rfl
theorem Vc {t : GTable} {p : Int} (h : ieq (toT t p).2.2 0 = true) : 0 ≤ p ∧ p < ((Aw t).Owners.length : Int) ∧ (toT t p).1 = (Aw t).Owners.getD p.toNat 0 := by
 rw [toT] at h ⊢
 cases hq : ilt p 0 || ile ((Aw t).Owners.length : Int) p
 · rw [Bool.or_eq_false_iff, Ab, Di] at hq
   exact ⟨hq.1, hq.2, rfl⟩
 · rw [hq] at h; cases h
abbrev B6 := List GMsg × List GMsg × List GMsg × List GMsg × List GMsg × List GMsg
abbrev S8 := List Int × List Bool × B6
def Ba (j : GJob) (c : List GMsg) : B6 := (toS j c 0, toS j c 1, toS j c 2, toS j c 3, toS j c 4, toS j c 5)
theorem Ta (j : GJob) (m : GMsg) (q : Int) : toS j [m] q = bif ieq (AU j m.To) q then [m] else [] := by
 rw [toS, List.filter_cons]
 cases ieq (AU j m.To) q <;> rfl
def stA (K : Nat) (j : GJob) (m : GMsg) (s : B6) (c : B6 → Option B6) : Option B6 :=
 (F94 K j m.To).bind fun r =>
 bif (ieq r 0) then (bif (apok (len s.1) 1 16) then c (appL s.1 [m], s.2.1, s.2.2.1, s.2.2.2.1, s.2.2.2.2.1, s.2.2.2.2.2) else none) else
 bif (ieq r 1) then (bif (apok (len s.2.1) 1 16) then c (s.1, appL s.2.1 [m], s.2.2.1, s.2.2.2.1, s.2.2.2.2.1, s.2.2.2.2.2) else none) else
 bif (ieq r 2) then (bif (apok (len s.2.2.1) 1 16) then c (s.1, s.2.1, appL s.2.2.1 [m], s.2.2.2.1, s.2.2.2.2.1, s.2.2.2.2.2) else none) else
 bif (ieq r 3) then (bif (apok (len s.2.2.2.1) 1 16) then c (s.1, s.2.1, s.2.2.1, appL s.2.2.2.1 [m], s.2.2.2.2.1, s.2.2.2.2.2) else none) else
 bif (ieq r 4) then (bif (apok (len s.2.2.2.2.1) 1 16) then c (s.1, s.2.1, s.2.2.1, s.2.2.2.1, appL s.2.2.2.2.1 [m], s.2.2.2.2.2) else none) else
 bif (ieq r 5) then bif (apok (len s.2.2.2.2.2) 1 16) then c (s.1, s.2.1, s.2.2.1, s.2.2.2.1, s.2.2.2.2.1, appL s.2.2.2.2.2 [m]) else none else none
theorem Qz {K : Nat} (j : GJob) (m : GMsg) (c : List GMsg) (hl : c.length ≤ 3000) (h0 : 0 ≤ AU j m.To) (h5 : AU j m.To ≤ 5) (k : B6 → Option B6) : stA K j m (Ba j c) k = k (Ba j (c ++ [m])) := by
 have ap : ∀ q : Int, apok (len (toS j c q)) 1 16 = true := fun q => by
  have := Iz j c q
  exact decide_eq_true ⟨by show (toS j c q).length + 1 ≤ _; omega, by show ((toS j c q).length + 1) * 16 ≤ _; omega⟩
 rw [stA, LC, bS, Ba, Ba]
 simp only [Rf, Ta, ap, cT]
 generalize AU j m.To = q at *
 rcases (by omega : q = 0 ∨ q = 1 ∨ q = 2 ∨ q = 3 ∨ q = 4 ∨ q = 5) with rfl | rfl | rfl | rfl | rfl | rfl <;> simp [ieq, appL]
theorem Pn {K : Nat} (j : GJob) : ∀ (l : List GMsg) (c : List GMsg), c.length + l.length ≤ 3000 → (∀ m ∈ l, 0 ≤ AU j m.To ∧ AU j m.To ≤ 5) → goL (stA K j) (fun s => some s) l (Ba j c) = some (Ba j (c ++ l)) := by
 intro l
 induction l with
 | nil => intro c _ _; rw [goL, List.append_nil]
 | cons m l ih =>
  intro c hl hh
  simp only [List.length_cons] at hl
  obtain ⟨h0, h5⟩ := hh m List.mem_cons_self
  rw [goL, Qz j m c om h0 h5, ih (c ++ [m]) (by simp only [List.length_append, List.length_singleton]; omega) (fun y hy => hh y (List.mem_cons_of_mem _ hy)), List.append_assoc]; rfl
theorem Pg {K : Nat} (g : GGraph) (j : GJob) (x : GPart) (a : List Int) (b : List Bool) (v : Int) (r : Bool) (l : List GMsg) (i : Int) (c : List GMsg) (hl : c.length + l.length ≤ 3000) (hK : l.length < K) (hh : ∀ m ∈ l, 0 ≤ AU j m.To ∧ AU j m.To ≤ 5) :
 CJ K g.N g.Edges j.Prog j.Source j.Limit j.Parts x.P x.Step x.Vals x.Rest x.In a b v r l i K (toS j c 0) (toS j c 1) (toS j c 2) (toS j c 3) (toS j c 4) (toS j c 5) 0 = some (Ba j (c ++ l)) := by
 have h := AE (l := l) (L := fun k (s : B6) p => CJ K g.N g.Edges j.Prog j.Source j.Limit j.Parts x.P x.Step x.Vals x.Rest x.In a b v r l i k s.1 s.2.1 s.2.2.1 s.2.2.2.1 s.2.2.2.2.1 s.2.2.2.2.2 p) (stA K j) (fun s => some s) (fun k s p _ => rfl) om (K := K) hK (Ba j c)
 rw [Pn j l c hl hh] at h
 exact h
def Jh (K : Nat) (g : GGraph) (j : GJob) (x : GPart) (i : Nat) (y : Int) (s : S8) (c : S8 → Option (Int ⊕ S8)) : Option (Int ⊕ S8) :=
 (F92 K x.In (wadd .i64 x.P (wmul .i64 (i : Int) j.Parts))).bind fun r6057 =>
 bif (inr (i : Int) (len x.Rest)) then
 (elAt x.Rest (i : Int)).bind fun x6060 =>
 bif x6060 then
  (bif r6057.2 then
   ((F93 K g j x.Step (wadd .i64 x.P (wmul .i64 (i : Int) j.Parts)) y r6057.1 r6057.2).bind fun r6064 =>
   bif (ieq r6064.2.2.2 0) then
    ((CJ K g.N g.Edges j.Prog j.Source j.Limit j.Parts x.P x.Step x.Vals x.Rest x.In s.1 s.2.1 r6064.1 r6064.2.2.1 r6064.2.1 (i : Int) K s.2.2.1 s.2.2.2.1 s.2.2.2.2.1 s.2.2.2.2.2.1 s.2.2.2.2.2.2.1 s.2.2.2.2.2.2.2 0).bind fun w6149 =>
    bif (apok (len s.1) 1 8) then
    bif (apok (len s.2.1) 1 1) then
    c (appL s.1 [r6064.1], appL s.2.1 [r6064.2.2.1], w6149)
    else none
    else none)
   else
   some (.inl r6064.2.2.2))
  else
  bif (apok (len s.1) 1 8) then
  bif (apok (len s.2.1) 1 1) then
  c (appL s.1 [y], appL s.2.1 [true], s.2.2)
  else none
  else none)
 else
 (F93 K g j x.Step (wadd .i64 x.P (wmul .i64 (i : Int) j.Parts)) y r6057.1 r6057.2).bind fun r6160 =>
 bif (ieq r6160.2.2.2 0) then
  ((CJ K g.N g.Edges j.Prog j.Source j.Limit j.Parts x.P x.Step x.Vals x.Rest x.In s.1 s.2.1 r6160.1 r6160.2.2.1 r6160.2.1 (i : Int) K s.2.2.1 s.2.2.2.1 s.2.2.2.2.1 s.2.2.2.2.2.1 s.2.2.2.2.2.2.1 s.2.2.2.2.2.2.2 0).bind fun w6193 =>
  bif (apok (len s.1) 1 8) then
  bif (apok (len s.2.1) 1 1) then
  c (appL s.1 [r6160.1], appL s.2.1 [r6160.2.2.1], w6193)
  else none
  else none)
 else
 some (.inl r6160.2.2.2)
 else none
theorem T3 (n m : Nat) : ∀ (k v i : Nat) (h : i < (Dc k n m v).length), (Dc k n m v)[i] = v + i * m := by
 intro k
 induction k with
 | zero => intro v i h; exact absurd h (Nat.not_lt_zero _)
 | succ k ih =>
  intro v i h
  by_cases hv : v < n
  · have e : Dc (k + 1) n m v = v :: Dc k n m (v + m) := by rw [Dc, if_pos hv]
    simp only [e] at h ⊢
    cases i with
    | zero => simp
    | succ i =>
     have h' : i < (Dc k n m (v + m)).length := by simpa using h
     rw [List.getElem_cons_succ, ih (v + m) i h', Nat.succ_mul]; omega
  · have e : Dc (k + 1) n m v = [] := by rw [Dc, if_neg hv]
    simp only [e, List.length_nil] at h
    exact absurd h (Nat.not_lt_zero _)
theorem PU {g : GGraph} {j : GJob} (h1 : 1 ≤ j.Parts) (h6 : j.Parts ≤ 6) (hn : g.N ≤ 24) {p : Int} (hp : 0 ≤ p ∧ p < j.Parts) (i : Nat) (h : i < (Ak g j p).length) : (((Ak g j p)[i] : Nat) : Int) = p + (i : Int) * j.Parts := by
 obtain ⟨q, rfl⟩ := Int.eq_ofNat_of_zero_le hp.1
 have e : Ak g j (q : Int) = Dc 30 g.N.toNat j.Parts.toNat q := (Vx om om om om).symm
 simp only [e] at h ⊢
 rw [T3]
 have : ((j.Parts.toNat : Nat) : Int) = j.Parts := by omega
 rw [Int.natCast_add, Int.natCast_mul, this]
def IA (j : GJob) : Int ⊕ Tri → Int ⊕ S8
 | .inl e => .inl e
 | .inr w => .inr (w.1, w.2.1, Ba j w.2.2)
theorem G6 {j : GJob} (h1 : 1 ≤ j.Parts) (h6 : j.Parts ≤ 6) {v : Int} (h0 : 0 ≤ v) : AU j v = v % j.Parts ∧ 0 ≤ AU j v ∧ AU j v ≤ 5 := by
 have hm0 : 0 ≤ v % j.Parts := Int.emod_nonneg _ om
 have hm1 : v % j.Parts < j.Parts := Int.emod_lt_of_pos _ om
 have e : AU j v = v % j.Parts := by rw [AU, Ab.2 h0, Ab.2 h1, Ab.2 h6]; rfl
 rw [e]; exact ⟨rfl, hm0, by omega⟩
theorem Q9 {K : Nat} (hK : 3000 ≤ K) (g : GGraph) (j : GJob) (x : GPart) (hR : Av g j x = true) (hn : A3 x) (hin : x.In.length ≤ 300) : ∀ (n i : Nat) (a : List Int) (b : List Bool) (c : List GMsg), i + n = x.Vals.length → keepP g i a b c →
 goI (Jh K g j x) (fun s => some (.inr s)) i (x.Vals.drop i) (a, b, Ba j c) = some (IA j (doA g j x ((Ak g j x.P).drop i) i a b c)) := by
 obtain ⟨hc, p1, p2, p3, p4, p5, p6, _⟩ := DD hR
 obtain ⟨hg, _, _, _, _, _, _, p7, p8⟩ := Au hc
 obtain ⟨g1, g2, g3, _⟩ := AQ hg
 have hvl := Ft g j g2 x.P
 rw [AL] at p5 p6
 intro n
 induction n with
 | zero =>
  intro i a b c hi _
  have e1 : x.Vals.drop i = [] := List.drop_eq_nil_of_le om
  have e2 : (Ak g j x.P).drop i = [] := List.drop_eq_nil_of_le om
  rw [e1, e2]; rfl
 | succ n ih =>
  intro i a b c hi h
  have hlc := h.lc
  obtain ⟨v, hv⟩ : ∃ v, (Ak g j x.P)[i]'om = v := ⟨_, rfl⟩
  have hat0 := PU p7 p8 g2 ⟨p1, p2⟩ i om
  rw [hv] at hat0
  have hd2 : (Ak g j x.P).drop i = v :: (Ak g j x.P).drop (i + 1) := by rw [List.drop_eq_getElem_cons (by omega : i < (Ak g j x.P).length), hv]
  have hvm : v ∈ Ak g j x.P := hv ▸ List.getElem_mem _
  have hvn := ((DH p7).1 hvm).1
  have hd1 : x.Vals.drop i = x.Vals.getD i 0 :: x.Vals.drop (i + 1) := by
   rw [List.drop_eq_getElem_cons (by omega : i < x.Vals.length), List.getD_eq_getElem?_getD, List.getElem?_eq_getElem (by omega : i < x.Vals.length)]; rfl
  have hv0 : 0 ≤ (i : Int) * j.Parts := Int.mul_nonneg om om
  have e1 : wmul .i64 (i : Int) j.Parts = (i : Int) * j.Parts := Lj (by unfold i64; omega)
  have e2 : wadd .i64 x.P ((i : Int) * j.Parts) = (v : Int) := by rw [Fs (by unfold i64; omega)]; omega
  have hnx := KW (j := j) hn v h
  obtain ⟨la, lb, _, _, _, _⟩ := h
  obtain ⟨o3, o4⟩ := Kn (g := g) (j := j) (x := x) (i := i) (v := v)
  obtain ⟨r1, r2⟩ := IF (l := x.Rest) (i := i) om false
  have a1 : apok (len a) 1 8 = true := decide_eq_true ⟨by show a.length + 1 ≤ _; omega, by show (a.length + 1) * 8 ≤ _; omega⟩
  have a2 : apok (len b) 1 1 = true := decide_eq_true ⟨by show b.length + 1 ≤ _; omega, by show (b.length + 1) * 1 ≤ _; omega⟩
  have hx : i64 (x.Vals.getD i 0) := by
   rw [List.getD_eq_getElem?_getD]
   cases hq : x.Vals[i]? with
   | none => show i64 0; unfold i64; omega
   | some y => exact hn.1 y (List.mem_of_getElem? hq)
  have hat := HN (l := x.In) (v := (v : Int)) hn.2
  have nx := ih (i + 1) _ _ _ om hnx
  have f99 := Rt (K := K) om g j x.Step (v : Int) (atS x.In (v : Int)).2 hx hat
  have hro := fun (aa : List Int) (bb : List Bool) (vv : Int) (rr : Bool) => Pg (K := K) g j x aa bb vv rr (AN g j x i v).2.1 (i : Int) c om om (fun m hm => (G6 p7 p8 (o4 m hm).1).2)
  rw [hd1, hd2, goI, Jh, doA, e1, e2, UT x.In (v : Int) om om, r1, r2]
  simp only [cT, bS, f99, a1, a2]
  have eb : ∀ c, (Ba j c).1 = toS j c 0 ∧ (Ba j c).2.1 = toS j c 1 ∧ (Ba j c).2.2.1 = toS j c 2 ∧ (Ba j c).2.2.2.1 = toS j c 3 ∧ (Ba j c).2.2.2.2.1 = toS j c 4 ∧ (Ba j c).2.2.2.2.2 = toS j c 5 := fun c => ⟨rfl, rfl, rfl, rfl, rfl, rfl⟩
  obtain ⟨q0, q1, q2, q3, q4, q5⟩ := eb c
  rw [q0, q1, q2, q3, q4, q5]
  cases hs : (atS x.In (v : Int)).2
  · cases hy : x.Rest.getD i false
    · have hT : AN g j x i v = AC g j x.Step (v : Int) (x.Vals.getD i 0) (atS x.In (v : Int)).1 false := by rw [AN, hy, hs]; rfl
      rw [hT] at nx hro ⊢
      simp only [cF, cT, hro, bS]
      cases ieq (AC g j x.Step (v : Int) (x.Vals.getD i 0) (atS x.In (v : Int)).1 false).2.2.2 0
      · rfl
      · exact nx
    · have hT : AN g j x i v = (x.Vals.getD i 0, [], true, 0) := by rw [AN, hy, hs]; rfl
      rw [hT] at nx ⊢
      simp only [List.append_nil] at nx ⊢
      exact nx
  · have hT : AN g j x i v = AC g j x.Step (v : Int) (x.Vals.getD i 0) (atS x.In (v : Int)).1 true := by rw [AN, hs, Bool.not_true, Bool.and_false]; rfl
    rw [hT] at nx hro ⊢
    simp only [cF, cT, hro, bS]
    cases x.Rest.getD i false <;> cases ieq (AC g j x.Step (v : Int) (x.Vals.getD i 0) (atS x.In (v : Int)).1 true).2.2.2 0 <;> first | rfl | exact nx
def Hf (K : Nat) (j : GJob) (s : B6) (q : Nat) (d : List (List GMsg)) (c : List (List GMsg) → Option (Int ⊕ List (List GMsg))) : Option (Int ⊕ List (List GMsg)) :=
 bif (ieq (q : Int) 0) then ((F95 K j.Prog s.1).bind fun r => bif (ieq r.2 0) then (bif (apok (len d) 1 24) then c (appL d [r.1]) else none) else some (.inl r.2)) else
 bif (ieq (q : Int) 1) then ((F95 K j.Prog s.2.1).bind fun r => bif (ieq r.2 0) then (bif (apok (len d) 1 24) then c (appL d [r.1]) else none) else some (.inl r.2)) else
 bif (ieq (q : Int) 2) then ((F95 K j.Prog s.2.2.1).bind fun r => bif (ieq r.2 0) then (bif (apok (len d) 1 24) then c (appL d [r.1]) else none) else some (.inl r.2)) else
 bif (ieq (q : Int) 3) then ((F95 K j.Prog s.2.2.2.1).bind fun r => bif (ieq r.2 0) then (bif (apok (len d) 1 24) then c (appL d [r.1]) else none) else some (.inl r.2)) else
 bif (ieq (q : Int) 4) then ((F95 K j.Prog s.2.2.2.2.1).bind fun r => bif (ieq r.2 0) then (bif (apok (len d) 1 24) then c (appL d [r.1]) else none) else some (.inl r.2)) else
 bif (ieq (q : Int) 5) then (F95 K j.Prog s.2.2.2.2.2).bind fun r => bif (ieq r.2 0) then (bif (apok (len d) 1 24) then c (appL d [r.1]) else none) else some (.inl r.2) else none
theorem NN {K : Nat} (hK : 3000 ≤ K) (j : GJob) (c : List GMsg) (hl : c.length ≤ 2000) (hv : ∀ m ∈ c, i64 m.V) (q : Nat) (hq : q < 6) (d : List (List GMsg)) (hd : d.length ≤ 6) (k : List (List GMsg) → Option (Int ⊕ List (List GMsg))) :
 Hf K j (Ba j c) q d k = bif ieq (Am j.Prog (toS j c (q : Int))).2 0 then k (d ++ [(Am j.Prog (toS j c (q : Int))).1]) else some (.inl (Am j.Prog (toS j c (q : Int))).2) := by
 have ap : apok (len d) 1 24 = true := decide_eq_true ⟨by show d.length + 1 ≤ _; omega, by show (d.length + 1) * 24 ≤ _; omega⟩
 have hlen := fun q => Iz j c q
 have f := fun (q : Int) => My (K := K) j.Prog (toS j c q) (fun m hm => hv m (Es hm).1) (by have := hlen q; omega) (by have := hlen q; omega)
 rw [Hf, Ba]
 simp only [f, bS, ap, cT]
 rcases (by omega : q = 0 ∨ q = 1 ∨ q = 2 ∨ q = 3 ∨ q = 4 ∨ q = 5) with rfl | rfl | rfl | rfl | rfl | rfl <;> rfl
theorem SL {K : Nat} (hK : 3000 ≤ K) (j : GJob) (c : List GMsg) (hl : c.length ≤ 2000) (hv : ∀ m ∈ c, i64 m.V) : ∀ (l : List Nat) (d : List (List GMsg)), (∀ q ∈ l, q < 6) → d.length + l.length ≤ 6 →
 goL (Hf K j (Ba j c)) (fun d => some (.inr d)) l d = some (CO j c l d) := by
 intro l
 induction l with
 | nil => intro d _ _; rfl
 | cons q l ih =>
  intro d hq hd
  simp only [List.length_cons] at hd
  rw [goL, NN hK j c hl hv q (hq q List.mem_cons_self) d om, CO, ih _ (fun y hy => hq y (List.mem_cons_of_mem _ hy)) (by simp only [List.length_append, List.length_singleton]; omega)]
  cases ieq (Am j.Prog (toS j c (q : Int))).2 0 <;> rfl
theorem R6 {K : Nat} (hK : 3000 ≤ K) (g : GGraph) (j : GJob) (x : GPart) (hn : A3 x) (hin : x.In.length ≤ 300) (hp : i64 x.P) : F58 K g j x = some (doS g j x) := by
 rw [F58, E1 om, II om g j x om om hp, bS, bS, doS]
 cases hc : ieq (An g j) 0
 · rfl
 · cases hR : Av g j x
   · rfl
   · cases h40 : ieq x.Step 40
     · obtain ⟨_, p1, p2, p3, p4, p5, p6, _⟩ := DD hR
       obtain ⟨hg, _, _, _, _, _, _, p7, p8⟩ := Au hc
       obtain ⟨g1, g2, g3, _⟩ := AQ hg
       have hvl := Ft g j g2 x.P
       rw [AL] at p5 p6
       have h := Bw (l := x.Vals) (L := fun k (s : S8) i => D5 K g.N g.Edges j.Prog j.Source j.Limit j.Parts x.P x.Step x.Vals x.Rest x.In k s.1 s.2.1 s.2.2.1 s.2.2.2.1 s.2.2.2.2.1 s.2.2.2.2.2.1 s.2.2.2.2.2.2.1 s.2.2.2.2.2.2.2 i) (Jh K g j x) (fun s => some (.inr s)) (fun k s i _ => rfl) om K ([], [], Ba j []) 0 om om
       have h' : D5 K g.N g.Edges j.Prog j.Source j.Limit j.Parts x.P x.Step x.Vals x.Rest x.In K [] [] [] [] [] [] [] [] 0 = some (IA j (doA g j x (Ak g j x.P) 0 [] [] [])) := by
        rw [show D5 K g.N g.Edges j.Prog j.Source j.Limit j.Parts x.P x.Step x.Vals x.Rest x.In K [] [] [] [] [] [] [] [] 0 = _ from h]
        have := Q9 hK g j x hR hn hin x.Vals.length 0 [] [] [] om (Jl g)
        rwa [List.drop_zero] at this
       simp only [cT, cF, h', bS]
       cases hA : doA g j x (Ak g j x.P) 0 [] [] [] with
       | inl e => rfl
       | inr w =>
        have kw := Lo hn _ 0 [] [] [] (Jl g) w hA
        have hwl := kw.lc
        have hw : wadd .i64 x.Step 1 = x.Step + 1 := Fs (by unfold i64; omega)
        have t := EM (N := j.Parts) (L := fun k d i => Dl K j.Prog j.Source j.Limit j.Parts x.P (x.Step + 1) w.1 w.2.1 (toS j w.2.2 0) (toS j w.2.2 1) (toS j w.2.2 2) (toS j w.2.2 3) (toS j w.2.2 4) (toS j w.2.2 5) k d i) (fun q d c => Hf K j (Ba j w.2.2) q d c) (fun d => some (.inr d)) (fun k d i _ => rfl) om (K := K) om []
        have t' : Dl K j.Prog j.Source j.Limit j.Parts x.P (x.Step + 1) w.1 w.2.1 (toS j w.2.2 0) (toS j w.2.2 1) (toS j w.2.2 2) (toS j w.2.2 3) (toS j w.2.2 4) (toS j w.2.2 5) K [] 0 = some (CO j w.2.2 (List.range j.Parts.toNat) []) := by
         rw [show Dl K j.Prog j.Source j.Limit j.Parts x.P (x.Step + 1) w.1 w.2.1 (toS j w.2.2 0) (toS j w.2.2 1) (toS j w.2.2 2) (toS j w.2.2 3) (toS j w.2.2 4) (toS j w.2.2 5) K [] 0 = _ from t]
         exact SL hK j w.2.2 om kw.vc _ [] (fun q hq => by have := List.mem_range.1 hq; omega) (by rw [List.length_range]; simp only [List.length_nil]; omega)
        simp only [IA, Sum.elim_inr, Ba, hw, t', bS, doB]
        cases CO j w.2.2 (List.range j.Parts.toNat) [] <;> rfl
     · rfl
def CZ (l : List GHeld) (p : Int) : Int := Co (fun h => ieq h.X.P p) l
theorem Nh (K : Nat) (w : GWorker) (p : Int) (hl : w.Held.length < 1000000) (hK : w.Held.length < K) : Gj K w p = some (CZ w.Held p, w) := by
 let step : Nat → GHeld → Unit → (Unit → Option (Int ⊕ Unit)) → Option (Int ⊕ Unit) := fun i x _ c => bif ieq x.X.P p then some (.inl (i : Int)) else c ()
 have h := Bw (l := w.Held) (L := fun k (_ : Unit) i => Gf K w p k i) step (fun _ => some (.inr ())) (fun k s i _ => rfl) om K () 0 om om
 have g := Hz (step := step) (fun h => ieq h.X.P p) w.Held 0 (fun x _ i c => rfl)
 rw [List.drop_zero] at h
 have e : Gf K w p K 0 = _ := h.trans g
 rw [Gj, e]
 exact Jc _ _ fun q => some (q, w)
def BH (g : GGraph) (j : GJob) (w : GWorker) (x : GPart) : Bool := ieq (toT w.T x.P).2.2 0 && (ieq (toT w.T x.P).1 w.Id && (Av g j x && ilt (CZ w.Held x.P) 0))
theorem Jf {K : Nat} (hK : 1000 ≤ K) (w : GWorker) (g : GGraph) (j : GJob) (x : GPart) (hh : w.Held.length ≤ 100) (hx : x.In.length < 1000000 ∧ x.In.length < K) (hp : i64 x.P) : DU K w g j x = some (BH g j w x, w) := by
 rw [DU, KD om, bS, BH, II hK g j x hx.1 hx.2 hp, Nh K w x.P om om]
 cases ieq (toT w.T x.P).2.2 0
 · rfl
 · cases ieq (toT w.T x.P).1 w.Id
   · rfl
   · cases Av g j x <;> rfl
def Db (l : List GHeld) (x : GPart) : List GHeld := l.takeWhile (fun h => ilt h.X.P x.P) ++ [GHeld.mk x false false] ++ l.dropWhile (fun h => ilt h.X.P x.P)
theorem Ot (K : Nat) (w : GWorker) (x : GPart) (hl : w.Held.length < 1000000) : ∀ (k i : Nat), w.Held.length - i < k → i ≤ w.Held.length → Fr K w x k (i : Int) = some (((i + ((w.Held.drop i).takeWhile fun h => ilt h.X.P x.P).length : Nat)) : Int) := by
 intro k
 induction k with
 | zero => intro i h; omega
 | succ k ih =>
  intro i hk hi
  rw [Fr]
  rcases FW w.Held i with ⟨h, e1, e2, e3, e4⟩ | ⟨e1, e2⟩
  · have hlt := EG e1
    rw [e2, e3, e4, e1, List.takeWhile_cons]
    simp only [cT, bS]
    cases hp : ilt h.X.P x.P
    · simp
    · rw [cT, Ge om, ih (i + 1) om om]
      simp; omega
  · rw [e1, e2]; simp
theorem O7 {α : Type} (p : α → Bool) (l : List α) : l.take (l.takeWhile p).length = l.takeWhile p := by
 conv => lhs; rw [← List.takeWhile_append_dropWhile (p := p) (l := l)]
 rw [List.takeWhile_append_dropWhile]
 induction l with
 | nil => rfl
 | cons x l ih =>
  rw [List.takeWhile_cons]
  cases p x
  · rfl
  · simp [ih]
theorem Mh {α : Type} (p : α → Bool) (l : List α) : l.drop (l.takeWhile p).length = l.dropWhile p := by
 induction l with
 | nil => rfl
 | cons x l ih =>
  rw [List.takeWhile_cons, List.dropWhile_cons]
  cases p x
  · rfl
  · simp [ih]
theorem V7 {α : Type} (p : α → Bool) (l : List α) : (l.takeWhile p).length ≤ l.length := (List.takeWhile_sublist p).length_le
theorem Is (K : Nat) (w : GWorker) (x : GPart) (hl : w.Held.length ≤ 100) (hK : 1000 ≤ K) : DP K w x = some { w with Held := Db w.Held x } := by
 have e : Fr K w x K 0 = some (((w.Held.takeWhile fun h => ilt h.X.P x.P).length : Nat) : Int) := by
  have e := Ot K w x om K 0 om om
  rw [List.drop_zero, Nat.zero_add] at e; exact e
 have hle := V7 (fun h => ilt h.X.P x.P) w.Held
 have hdl : (w.Held.dropWhile fun h => ilt h.X.P x.P).length ≤ w.Held.length := (List.dropWhile_sublist _).length_le
 have s1 : subL w.Held ((w.Held.takeWhile fun h => ilt h.X.P x.P).length : Int) (nlen (len w.Held)) = w.Held.dropWhile fun h => ilt h.X.P x.P := by
  show (w.Held.drop (Int.toNat _)).take _ = _
  simp only [Cz, Int.toNat_natCast]
  rw [Mh, List.take_of_length_le]
  rw [← Mh, List.length_drop]; exact Nat.le_refl _
 have s2 : subL w.Held 0 ((w.Held.takeWhile fun h => ilt h.X.P x.P).length : Int) = w.Held.takeWhile fun h => ilt h.X.P x.P := by
  show (w.Held.drop 0).take ((((w.Held.takeWhile fun h => ilt h.X.P x.P).length : Nat) : Int).toNat - 0) = _
  rw [Int.toNat_natCast, List.drop_zero, Nat.sub_zero]
  exact O7 _ _
 have b1 : bnd ((w.Held.takeWhile fun h => ilt h.X.P x.P).length : Int) (nlen (len w.Held)) (len w.Held) = true := decide_eq_true ⟨by omega, by rw [Cz]; omega, by show nlen (len w.Held) ≤ ((len w.Held : Nat) : Int); exact Int.le_refl _⟩
 have b2 : bnd 0 ((w.Held.takeWhile fun h => ilt h.X.P x.P).length : Int) (len w.Held) = true := decide_eq_true ⟨Int.le_refl _, by omega, by show _ ≤ ((w.Held.length : Nat) : Int); omega⟩
 have a1 : apok 0 (len (w.Held.dropWhile fun h => ilt h.X.P x.P)) 96 = true := Bp (by show 0 + (w.Held.dropWhile fun h => ilt h.X.P x.P).length ≤ _; omega) om
 have a2 : apok (len (w.Held.takeWhile fun h => ilt h.X.P x.P)) 1 96 = true := Bp (by show (w.Held.takeWhile fun h => ilt h.X.P x.P).length + 1 ≤ _; omega) om
 have a3 : apok (len (appL (w.Held.takeWhile fun h => ilt h.X.P x.P) [GHeld.mk x false false])) (len (w.Held.dropWhile fun h => ilt h.X.P x.P)) 96 = true := Bp (by show (appL (w.Held.takeWhile fun h => ilt h.X.P x.P) [GHeld.mk x false false]).length + (w.Held.dropWhile fun h => ilt h.X.P x.P).length ≤ _; rw [appL, List.length_append, List.length_singleton]; omega) om
 rw [DP, e, bS]
 simp only [s1, s2, b1, b2, A6, Jn, a1, a2, a3, cT]
 rfl
def Fp (w : GWorker) (e : Int) : GWorker := { w with Buf := w.Buf.filter (fun d => ile e d.Epoch), Coming := w.Coming.filter (fun c => ile e c.Epoch) }
theorem MS {K : Nat} (w : GWorker) (e : Int) (h1 : w.Buf.length ≤ 1000000) (h2 : w.Coming.length ≤ 1000000) (k1 : w.Buf.length < K) (k2 : w.Coming.length < K) : Fy K w e = some (Fp w e) := by
 let st1 : GData → List GData → (List GData → Option (List GData)) → Option (List GData) := fun x a c => bif ile e x.Epoch then (bif apok (len a) 1 56 then c (appL a [x]) else none) else c a
 have e1 := AE (l := w.Buf) (L := fun k a i => Fx K w e k a i) st1 (fun a => some a) (fun k s i _ => rfl) om k1 []
 have g1 := Fb (step := st1) (fun d => ile e d.Epoch) (fun d => d) 56 om 1000000 om w.Buf [] (by simp; omega) (fun x _ a c => rfl)
 have f1 : Fx K w e K [] 0 = some (w.Buf.filter fun d => ile e d.Epoch) := (e1.trans g1).trans (by simp)
 rw [Fy, f1, bS]
 let st2 : GComing → List GComing → (List GComing → Option (List GComing)) → Option (List GComing) := fun x a c => bif ile e x.Epoch then (bif apok (len a) 1 96 then c (appL a [x]) else none) else c a
 have e2 := AE (l := w.Coming) (L := fun k a i => EX K w e (w.Buf.filter fun d => ile e d.Epoch) k a i) st2 (fun a => some a) (fun k s i _ => rfl) om k2 []
 have g2 := Fb (step := st2) (fun d => ile e d.Epoch) (fun d => d) 96 om 1000000 om w.Coming [] (by simp; omega) (fun x _ a c => rfl)
 have f2 : EX K w e (w.Buf.filter fun d => ile e d.Epoch) K [] 0 = some (w.Coming.filter fun d => ile e d.Epoch) := (e2.trans g2).trans (by simp)
 rw [f2]; rfl
def Er (w : GWorker) (m : GMail) : GWorker := { w with Out := w.Out ++ [GPost.mk 0 0 m] }
theorem GS (K : Nat) (w : GWorker) (m : GMail) (h : w.Out.length ≤ 900000) : Eh K w m = some (Er w m) := by
 rw [Eh, Bp (by show w.Out.length + 1 ≤ _; omega) om]; rfl
def A7 : GPart := GPart.mk 0 0 [] [] []
def Eg (w : GWorker) (p : Int) : GMail := GMail.mk 5 w.T.Epoch 0 w.Goal p 0 0 8 [] [] [] A7 []
def Ha (w : GWorker) (p : Int) : GWorker := Er w (Eg w p)
theorem L5 (K : Nat) (w : GWorker) (p : Int) (h : w.Out.length ≤ 900000) : FP K w p = some (Ha w p) := by
 rw [FP, GS K _ _ h]; rfl
def BD (e s q p : Int) (d : GData) : Bool := ieq d.Epoch e && (ieq d.Step s && (ieq d.Q q && ieq d.P p))
def AP (l : List GData) (e s q p : Int) : Int := Co (BD e s q p) l
theorem JS (K : Nat) (w : GWorker) (e s q p : Int) (hl : w.Buf.length < 1000000) (hK : w.Buf.length < K) : EF K w e s q p = some (AP w.Buf e s q p, w) := by
 let step : Nat → GData → Unit → (Unit → Option (Int ⊕ Unit)) → Option (Int ⊕ Unit) := fun i x _ c =>
  bif ieq x.Epoch e then (bif ieq x.Step s then (bif ieq x.Q q then (bif ieq x.P p then some (.inl (i : Int)) else c ()) else c ()) else c ()) else c ()
 have h := Bw (l := w.Buf) (L := fun k (_ : Unit) i => D3 K w e s q p k i) step (fun _ => some (.inr ())) (fun k s i _ => rfl) om K () 0 om om
 have g := Hz (step := step) (BD e s q p) w.Buf 0 (fun x _ i c => by
  show (bif ieq x.Epoch e then (bif ieq x.Step s then (bif ieq x.Q q then (bif ieq x.P p then _ else _) else _) else _) else _) = _
  rw [BD]
  cases ieq x.Epoch e <;> cases ieq x.Step s <;> cases ieq x.Q q <;> cases ieq x.P p <;> rfl)
 rw [List.drop_zero] at h
 have e : D3 K w e s q p K 0 = _ := h.trans g
 rw [EF, e]
 exact Jc _ _ fun q => some (q, w)
def A9 (j : GJob) (e : Int) (m : GMail) : GTable × Bool := (GTable.mk e m.Owners m.Ids m.Incs, Ci (GTable.mk e m.Owners m.Ids m.Incs) && (ilt 0 e && ieq (m.Owners.length : Int) j.Parts))
theorem KE {K : Nat} (hK : 100 ≤ K) (j : GJob) (e : Int) (m : GMail) : F68 K j e m = some (A9 j e m) := by
 rw [F68, LR hK, bS, A9, Cz]
 cases Ci (GTable.mk e m.Owners m.Ids m.Incs) <;> cases ilt 0 e <;> rfl
def Em (m : GMail) : GMail := GMail.mk 2 m.Epoch 0 0 m.X.P 0 0 0 [] [] [] A7 []
def Eb (g : GGraph) (j : GJob) (w : GWorker) (m : GMail) : GWorker := bif BH g j w m.X then Er { w with Held := Db w.Held m.X } (Em m) else w
def Fd (g : GGraph) (j : GJob) (w : GWorker) (m : GMail) : GWorker :=
 bif (A9 j m.Epoch m).2 then (bif ilt m.Epoch w.T.Epoch then w else bif ilt w.T.Epoch m.Epoch then Eb g j (Fp { w with Goal := -1, T := (A9 j m.Epoch m).1, Held := [], Out := [] } m.Epoch) m else Eb g j w m) else w
structure Sml (w : GWorker) : Prop where
 h : w.Held.length ≤ 50
 b : w.Buf.length ≤ 500000
 c : w.Coming.length ≤ 500000
 o : w.Out.length ≤ 500000
theorem GY {α : Type} (p : α → Bool) (l : List α) : (l.filter p).length ≤ l.length := List.length_filter_le p l
theorem QK {K : Nat} (hK : 1000000 ≤ K) (w : GWorker) (g : GGraph) (j : GJob) (m : GMail) (hw : Sml w) (hx : FitM 2000 m) (hp : i64 m.X.P) : Hd K w g j m = some (Fd g j w m) := by
 have hin : m.X.In.length < 1000000 ∧ m.X.In.length < K := by have := hx.x; omega
 rw [Hd, KE om, bS, Fd]
 cases (A9 j m.Epoch m).2
 · rfl
 · cases ilt m.Epoch w.T.Epoch
   · rw [cT, cT, cF, cF]
     cases ilt w.T.Epoch m.Epoch
     · rw [cF, cF, Jf om w g j m.X (by have := hw.h; omega) hin hp, bS, Eb]
       cases BH g j w m.X
       · rfl
       · show (DP K w m.X).bind _ = _
         rw [Is K w m.X (by have := hw.h; omega) om, bS, GS K _ _ (by have := hw.o; show w.Out.length ≤ _; omega)]; rfl
     · rw [cT, cT, MS (w := GWorker.mk w.Id (-1) w.Until (A9 j m.Epoch m).1 [] w.Buf w.Coming []) m.Epoch (by have := hw.b; show w.Buf.length ≤ _; omega) (by have := hw.c; show w.Coming.length ≤ _; omega) (by have := hw.b; show w.Buf.length < _; omega) (by have := hw.c; show w.Coming.length < _; omega), bS]
       show (DU K (Fp { w with Goal := -1, T := (A9 j m.Epoch m).1, Held := [], Out := [] } m.Epoch) g j m.X).bind _ = _
       generalize hv : Fp { w with Goal := -1, T := (A9 j m.Epoch m).1, Held := [], Out := [] } m.Epoch = v
       have vh : v.Held = [] := by rw [← hv]; rfl
       have vo : v.Out = [] := by rw [← hv]; rfl
       rw [Jf om v g j m.X (by rw [vh]; simp) hin hp, bS, Eb]
       cases BH g j v m.X
       · rfl
       · show (DP K v m.X).bind _ = _
         rw [Is K v m.X (by rw [vh]; simp) om, bS, GS K _ _ (by show v.Out.length ≤ _; rw [vo]; simp)]; rfl
   · rfl
def ER (w : GWorker) (m : GMail) : GWorker := bif ieq m.Epoch w.T.Epoch then { w with Goal := m.Step } else w
theorem Om (K : Nat) (w : GWorker) (g : GGraph) (j : GJob) (m : GMail) : GQ K w g j m = some (ER w m) := by
 rw [GQ, ER]
 cases ieq m.Epoch w.T.Epoch <;> rfl
def Bb (w : GWorker) (m : GMail) : GWorker := bif ile w.T.Epoch m.Epoch && ilt (AP w.Buf m.Epoch m.Step m.Q m.P) 0 then { w with Buf := w.Buf ++ [GData.mk m.Epoch m.Step m.Q m.P m.Msgs] } else w
theorem Mu {K : Nat} (w : GWorker) (g : GGraph) (j : GJob) (m : GMail) (hl : w.Buf.length ≤ 900000) (hK : 1000000 ≤ K) : Fq K w g j m = some (Bb w m) := by
 rw [Fq, JS K w _ _ _ _ om om, bS, Bb]
 cases ile w.T.Epoch m.Epoch
 · rfl
 · cases ilt (AP w.Buf m.Epoch m.Step m.Q m.P) 0
   · rfl
   · simp only [cT, Bool.and_true]
     rw [Bp (by show w.Buf.length + 1 ≤ _; omega) om]; rfl
def Fl (m : GMail) (x : GPart) : GMail := GMail.mk 7 m.Epoch 0 0 0 0 0 0 [] [] [] x []
def I6 (w : GWorker) (m : GMail) (h : GHeld) : GWorker :=
 bif h.Wait || (h.Given || ilt (CA m.Ids m.To) 0) then w else { w with Held := w.Held.set (CZ w.Held m.P).toNat (GHeld.mk h.X h.Wait true), Out := w.Out ++ [GPost.mk m.To (m.Incs.getD (CA m.Ids m.To).toNat 0) (Fl m h.X)] }
def Gz (w : GWorker) (m : GMail) : GWorker :=
 bif ieq m.Epoch w.T.Epoch && !(ilt (CZ w.Held m.P) 0) then (match w.Held[(CZ w.Held m.P).toNat]? with | some h => I6 w m h | none => w) else w
theorem PW {K : Nat} (hK : 1000 ≤ K) (w : GWorker) (g : GGraph) (j : GJob) (m : GMail) (hw : Sml w) (hm : FitM 2000 m) (hi : m.Incs.length = m.Ids.length) (hK2 : m.Ids.length < K) : GV K w g j m = some (Gz w m) := by
 rw [GV, Nh K w m.P (by have := hw.h; omega) (by have := hw.h; omega), bS, Gz]
 cases ieq m.Epoch w.T.Epoch
 · rfl
 · cases hn : ilt (CZ w.Held m.P) 0
   · simp only [cT, cF, Bool.true_and, Bool.not_false]
     rw [Ab] at hn
     obtain ⟨q, h, e1, e2, e3⟩ := Gs (p := fun h : GHeld => ieq h.X.P m.P) (l := w.Held) (by show ¬ CZ w.Held m.P < 0; omega)
     have e1' : CZ w.Held m.P = (q : Int) := e1
     have hql : q < w.Held.length := (List.getElem?_eq_some_iff.1 e2).1
     rw [e1', Int.toNat_natCast, e2]
     have b1 : inr (q : Int) (len w.Held) = true := decide_eq_true ⟨by omega, by show (q : Int) < (w.Held.length : Int); omega⟩
     have b2 : elAt w.Held (q : Int) = some h := by rw [Bg]; exact e2
     rw [b1, b2, cT, bS]
     dsimp only
     rw [I6, e1', Int.toNat_natCast]
     cases hW : h.Wait
     · cases h.Given
       · simp only [cF, Bool.false_or]
         let step : Nat → Int → Unit → (Unit → Option ((List GHeld × List GPost) ⊕ Unit)) → Option ((List GHeld × List GPost) ⊕ Unit) := fun i x _ c =>
          bif ieq x m.To then
           (bif inr (q : Int) (len w.Held) then (elAt w.Held (q : Int)).bind fun h => bif inr (i : Int) (len m.Incs) then (elAt m.Incs (i : Int)).bind fun n =>
            bif inr (q : Int) (len (putAt w.Held (q : Int) (GHeld.mk h.X h.Wait true))) then (elAt (putAt w.Held (q : Int) (GHeld.mk h.X h.Wait true)) (q : Int)).bind fun h' =>
            bif apok (len w.Out) 1 264 then some (.inl (putAt w.Held (q : Int) (GHeld.mk h.X h.Wait true), appL w.Out [GPost.mk m.To n (Fl m h'.X)])) else none else none else none else none)
          else c ()
         have hs := Bw (l := m.Ids) (L := fun k (_ : Unit) i => Gh K m ((q : Int), w) k i) step (fun _ => some (.inr ())) (fun k s i _ => rfl) (by have := hm.i; omega) K () 0 om om
         rw [List.drop_zero] at hs
         have go : ∀ (l : List Int) (i : Nat), m.Ids.drop i = l → goI step (fun _ => some (.inr ())) i l () = some (match l.findIdx? (fun x => ieq x m.To) with
          | some z => .inl (w.Held.set q (GHeld.mk h.X h.Wait true), w.Out ++ [GPost.mk m.To (m.Incs.getD (i + z) 0) (Fl m h.X)]) | none => .inr ()) := by
          intro l
          induction l with
          | nil => intro i _; rfl
          | cons x l ih =>
           intro i hd
           have hlt := EG hd
           have hd2 : m.Ids.drop (i + 1) = l := by
            have := List.drop_eq_getElem_cons hlt
            rw [hd] at this
            injection this with _ h2; exact h2.symm
           rw [goI, List.findIdx?_cons]
           show (bif ieq x m.To then _ else _) = _
           cases ieq x m.To
           · rw [cF, ih (i + 1) hd2]
             cases l.findIdx? (fun x => ieq x m.To) with
             | none => rfl
             | some z => simp [Nat.add_assoc, Nat.add_comm 1 z]
           · have c1 : inr (i : Int) (len m.Incs) = true := decide_eq_true ⟨by omega, by show (i : Int) < (m.Incs.length : Int); omega⟩
             have c2 : elAt m.Incs (i : Int) = some (m.Incs.getD i 0) := by rw [Bg, I8 om]; exact List.getElem?_eq_getElem om
             have c3 : putAt w.Held (q : Int) (GHeld.mk h.X h.Wait true) = w.Held.set q (GHeld.mk h.X h.Wait true) := by show w.Held.set (Int.toNat q) _ = _; rw [Int.toNat_natCast]
             have c4 : inr (q : Int) (len (w.Held.set q (GHeld.mk h.X h.Wait true))) = true := decide_eq_true ⟨by omega, by show (q : Int) < ((w.Held.set q _).length : Int); rw [List.length_set]; omega⟩
             have c5 : elAt (w.Held.set q (GHeld.mk h.X h.Wait true)) (q : Int) = some (GHeld.mk h.X h.Wait true) := by rw [Bg, List.getElem?_set_self hql]
             simp only [cT, b1, b2, bS, c1, c2, c3, c4, c5, Bp (show len w.Out + 1 ≤ 1000000 by have := hw.o; show w.Out.length + 1 ≤ _; omega) (show 264 ≤ 1000 by omega)]
             simp [appL]
         have e : Gh K m ((q : Int), w) K 0 = _ := hs.trans (go m.Ids 0 rfl)
         rw [e]
         have hfe : CA m.Ids m.To = (match m.Ids.findIdx? (fun x => ieq x m.To) with | some z => (z : Int) | none => -1) := rfl
         cases hf : m.Ids.findIdx? (fun x => ieq x m.To) with
         | none =>
          rw [hfe, hf]; rfl
         | some z =>
          rw [hfe, hf]
          have hz : ilt ((z : Nat) : Int) 0 = false := Ab.2 om
          simp only [bS, Sum.elim_inl, hz, cF, Nat.zero_add, Int.toNat_natCast, hW]
       · rfl
     · rfl
   · rfl
theorem Fi {α : Type} (f : α → Int) (hi : Int) : ∀ (l : List α) (lo : Int), l.Pairwise (fun a b => f a < f b) → (∀ x ∈ l, lo ≤ f x ∧ f x < hi) → (l.length : Int) ≤ max 0 (hi - lo)
 | [], lo, _, _ => by simp; omega
 | x :: l, lo, h, g => by
  have hx := g x List.mem_cons_self
  have := Fi f hi l (f x + 1) (List.pairwise_cons.1 h).2 fun y hy => ⟨by have := (List.pairwise_cons.1 h).1 y hy; omega, (g y (List.mem_cons_of_mem _ hy)).2⟩
  rw [List.length_cons]
  omega
structure HOk (l : List GHeld) : Prop where
 s : l.Pairwise (fun a b => a.X.P < b.X.P)
 r : ∀ h ∈ l, 0 ≤ h.X.P ∧ h.X.P < 6
theorem HOk.len {l : List GHeld} (h : HOk l) : l.length ≤ 6 := by
 have := Fi (fun h : GHeld => h.X.P) 6 l 0 h.s h.r
 omega
theorem HOk.nil : HOk [] := ⟨List.Pairwise.nil, fun h hh => absurd hh List.not_mem_nil⟩
theorem L3 {l : List GHeld} {x : GPart} {h : GHeld} : h ∈ Db l x ↔ h ∈ l ∨ h = GHeld.mk x false false := by
 have : h ∈ l ↔ h ∈ l.takeWhile (fun h => ilt h.X.P x.P) ∨ h ∈ l.dropWhile (fun h => ilt h.X.P x.P) := by
  conv => lhs; rw [← List.takeWhile_append_dropWhile (p := fun h => ilt h.X.P x.P) (l := l)]
  rw [List.mem_append]
 rw [Db, List.mem_append, List.mem_append, List.mem_singleton, this]
 constructor
 · rintro ((h | h) | h)
   · exact .inl (.inl h)
   · exact .inr h
   · exact .inl (.inr h)
 · rintro ((h | h) | h)
   · exact .inl (.inl h)
   · exact .inr h
   · exact .inl (.inr h)
theorem LV {α : Type} {p : α → Bool} : ∀ {l : List α} {x : α}, x ∈ l.takeWhile p → p x = true
 | y :: l, x, h => by
  rw [List.takeWhile_cons] at h
  cases hp : p y
  · rw [hp] at h; exact absurd h List.not_mem_nil
  · rw [hp] at h
    rcases List.mem_cons.1 h with rfl | h
    · exact hp
    · exact LV h
theorem OH {l : List GHeld} {x : GPart} (hs : l.Pairwise (fun a b => a.X.P < b.X.P)) (hn : ∀ h ∈ l, h.X.P ≠ x.P) : (Db l x).Pairwise (fun a b => a.X.P < b.X.P) := by
 have e := List.takeWhile_append_dropWhile (p := fun h : GHeld => ilt h.X.P x.P) (l := l)
 have h1 : ∀ h ∈ l.takeWhile (fun h => ilt h.X.P x.P), h.X.P < x.P := fun h hh => by
  have := LV hh
  exact Ad.1 this
 have h2 : ∀ h ∈ l.dropWhile (fun h => ilt h.X.P x.P), x.P < h.X.P := by
  have key : ∀ (l : List GHeld), l.Pairwise (fun a b => a.X.P < b.X.P) → (∀ h ∈ l, h.X.P ≠ x.P) → ∀ h ∈ l.dropWhile (fun h => ilt h.X.P x.P), x.P < h.X.P := by
   intro l
   induction l with
   | nil => intro _ _ h hh; cases hh
   | cons y l ih =>
    intro hs hn h hh
    rw [List.dropWhile_cons] at hh
    cases hp : ilt y.X.P x.P
    · rw [hp] at hh
      rw [Ab] at hp
      have := hn y List.mem_cons_self
      rcases List.mem_cons.1 hh with rfl | hh
      · omega
      · have := (List.pairwise_cons.1 hs).1 h hh; omega
    · rw [hp] at hh
      exact ih (List.pairwise_cons.1 hs).2 (fun h hh => hn h (List.mem_cons_of_mem _ hh)) h hh
  exact key l hs hn
 rw [← e, List.pairwise_append] at hs
 rw [Db, List.append_assoc, List.pairwise_append]
 refine ⟨hs.1, ?_, ?_⟩
 · rw [List.singleton_append, List.pairwise_cons]
   exact ⟨h2, hs.2.1⟩
 · intro a ha b hb
   rw [List.singleton_append, List.mem_cons] at hb
   rcases hb with rfl | hb
   · exact h1 a ha
   · exact hs.2.2 a ha b hb
theorem VP {l : List GHeld} {p : Int} : ilt (CZ l p) 0 = true ↔ ∀ h ∈ l, h.X.P ≠ p := by
 rw [Ad]
 refine (TL _ _).trans ?_
 simp only [As]
theorem J0 {g : GGraph} {j : GJob} {w : GWorker} {x : GPart} (h : BH g j w x = true) : 0 ≤ x.P ∧ x.P < ((Aw w.T).Owners.length : Int) ∧ (Aw w.T).Owners.getD x.P.toNat 0 = w.Id ∧ Av g j x = true ∧ ∀ h ∈ w.Held, h.X.P ≠ x.P := by
 rw [BH, Bool.and_eq_true, Bool.and_eq_true, Bool.and_eq_true] at h
 obtain ⟨h1, h2, h3, h4⟩ := h
 obtain ⟨a, b, c⟩ := Vc h1
 exact ⟨a, b, by rw [← c]; exact Af.1 h2, h3, VP.1 h4⟩
theorem HOk.ins {g : GGraph} {j : GJob} {w : GWorker} {x : GPart} (h : HOk w.Held) (hm : BH g j w x = true) : HOk (Db w.Held x) := by
 obtain ⟨a, b, _, _, d⟩ := J0 hm
 have := (GR (IZ w.T)).2.2.2.2.1
 refine ⟨OH h.s d, fun y hy => ?_⟩
 rcases L3.1 hy with hy | rfl
 · exact h.r y hy
 · exact ⟨a, by show x.P < 6; omega⟩
def EK (m : GMail) : GMail := GMail.mk 8 m.Epoch 0 0 m.X.P 0 0 0 [] [] [] A7 []
def isC (e p : Int) (c : GComing) : Bool := ieq c.Epoch e && ieq c.X.P p
def G9 (w : GWorker) (m : GMail) : GWorker := bif ilt m.Epoch w.T.Epoch || w.Coming.any (isC m.Epoch m.X.P) then w else Er { w with Coming := w.Coming ++ [GComing.mk m.Epoch m.X] } (EK m)
theorem VK {K : Nat} (w : GWorker) (g : GGraph) (j : GJob) (m : GMail) (hw : Sml w) (hK : 1000000 ≤ K) : GF K w g j m = some (G9 w m) := by
 let step : GComing → Unit → (Unit → Option (Unit ⊕ Unit)) → Option (Unit ⊕ Unit) := fun x _ c => bif ieq x.Epoch m.Epoch then (bif ieq x.X.P m.X.P then some (.inl ()) else c ()) else c ()
 have h := AE (l := w.Coming) (L := fun k (_ : Unit) i => E0 K w m k i) step (fun _ => some (.inr ())) (fun k s i _ => rfl) (by have := hw.c; omega) (K := K) (by have := hw.c; omega) ()
 have e := E9 (step := step) (fun c => !(isC m.Epoch m.X.P c)) w.Coming (fun x _ c => by
  show (bif ieq x.Epoch m.Epoch then (bif ieq x.X.P m.X.P then _ else _) else _) = _
  rw [isC]
  cases ieq x.Epoch m.Epoch <;> cases ieq x.X.P m.X.P <;> rfl)
 have e1 : E0 K w m K 0 = _ := h.trans e
 have e2 : (w.Coming.all fun c => !(isC m.Epoch m.X.P c)) = !(w.Coming.any (isC m.Epoch m.X.P)) := by rw [List.not_any_eq_all_not]
 rw [GF, e1, e2, G9]
 cases ilt m.Epoch w.T.Epoch
 · cases w.Coming.any (isC m.Epoch m.X.P)
   · simp only [cF, Bool.not_false, Bf, cT, bS, Sum.elim_inr, Bool.or_false]
     rw [Bp (by have := hw.c; show w.Coming.length + 1 ≤ _; omega) om, cT, GS K _ _ (by have := hw.o; show w.Out.length ≤ _; omega)]; rfl
   · rfl
 · rfl
def C2 (w : GWorker) (m : GMail) : List GPart := (w.Held.filter fun h => ieq m.Epoch w.T.Epoch && (!(h.Wait) && !(h.Given))).map (·.X)
def EI (w : GWorker) (m : GMail) : List GPart := (w.Coming.filter fun c => ieq c.Epoch m.Epoch).map (·.X)
def Cs (g : GGraph) (j : GJob) (w : GWorker) (x : GPart) : GWorker := bif BH g j w x then { w with Held := Db w.Held x } else w
def G3 (g : GGraph) (j : GJob) (w : GWorker) (m : GMail) : GWorker :=
 bif (A9 j m.Fresh m).2 then (bif ile m.Fresh w.T.Epoch then w else Fp ((C2 w m ++ EI w m).foldl (Cs g j) { w with T := (A9 j m.Fresh m).1, Goal := -1, Held := [] }) m.Fresh) else w
theorem MH {α σ β : Type} {step : α → σ → (σ → Option β) → Option β} {fin : σ → Option β} (P : σ → Prop) (f : σ → α → σ) : ∀ (l : List α) (s : σ), P s → (∀ x ∈ l, ∀ s, P s → P (f s x) ∧ ∀ c, step x s c = c (f s x)) →
 goL step fin l s = fin (l.foldl f s) ∧ P (l.foldl f s)
 | [], s, hs, _ => ⟨rfl, hs⟩
 | x :: l, s, hs, h => by
  obtain ⟨h1, h2⟩ := h x List.mem_cons_self s hs
  rw [goL, h2, List.foldl_cons]
  exact MH P f l (f s x) h1 fun y hy => h y (List.mem_cons_of_mem _ hy)
abbrev WT : Type := Int × Int × Int × Int × List Int × List Int × List Int × List GHeld × List GData × List GComing × List GPost
abbrev wt (w : GWorker) : WT :=
 (w.Id, (w.Goal, (w.Until, (w.T.Epoch, (w.T.Owners, (w.T.Ids, (w.T.Incs, (w.Held, (w.Buf, (w.Coming, w.Out))))))))))
structure SmlP (x : GPart) : Prop where
 v : x.Vals.length ≤ 100
 r : x.Rest.length ≤ 100
 i : x.In.length ≤ 300
 p : i64 x.P
 n : A3 x
theorem VW {K : Nat} (hK : 1000000 ≤ K) (g : GGraph) (j : GJob) (m : GMail) (l : List GPart) (hl : l.length ≤ 600000) (hp : ∀ x ∈ l, SmlP x) (w : GWorker) (hw : HOk w.Held) :
 Ez K g j m l K w.Id w.Goal w.Until w.T.Epoch w.T.Owners w.T.Ids w.T.Incs w.Held w.Buf w.Coming w.Out 0 = some (wt (l.foldl (Cs g j) w)) := by
 let step : GPart → GWorker → (GWorker → Option WT) → Option WT := fun x w c => (DU K w g j x).bind fun r => bif r.1 then (DP K r.2 x).bind fun r => c r else c r.2
 have h := AE (l := l) (L := fun k (w : GWorker) i => Ez K g j m l k w.Id w.Goal w.Until w.T.Epoch w.T.Owners w.T.Ids w.T.Incs w.Held w.Buf w.Coming w.Out i) step (fun w => some (wt w)) (fun k s i _ => rfl) om (K := K) om w
 have e := MH (step := step) (fin := fun w => some (wt w)) (fun w => HOk w.Held) (Cs g j) l w hw (fun x hx w hw => by
  have hs := hp x hx
  have hlen := hw.len
  have e1 := Jf (K := K) om w g j x om (by have := hs.i; omega) hs.p
  constructor
  · show HOk (Cs g j w x).Held
    rw [Cs]
    cases hm : BH g j w x
    · exact hw
    · exact hw.ins hm
  · intro c
    show (DU K w g j x).bind _ = _
    rw [e1, bS, Cs]
    cases BH g j w x
    · rfl
    · rw [cT, cT, Is K w x om om, bS])
 exact h.trans e.1
theorem Ug {K : Nat} (hK : 1000000 ≤ K) (w : GWorker) (g : GGraph) (j : GJob) (m : GMail) (hw : Sml w) (h1 : ∀ h ∈ w.Held, SmlP h.X) (h2 : ∀ c ∈ w.Coming, SmlP c.X) : Gx K w g j m = some (G3 g j w m) := by
 have a1 := hw.h
 have a2 := hw.c
 have a3 := hw.b
 rw [Gx, KE om, bS, G3]
 cases (A9 j m.Fresh m).2
 · rfl
 · cases ile m.Fresh w.T.Epoch
   · rw [cT, cT, cF, cF]
     generalize hr : A9 j m.Fresh m = r
     let st1 : GHeld → List GPart → (List GPart → Option (List GPart)) → Option (List GPart) := fun x a c => bif ieq m.Epoch w.T.Epoch then (bif x.Wait then c a else bif x.Given then c a else bif apok (len a) 1 88 then c (appL a [x.X]) else none) else c a
     have e1 := AE (l := w.Held) (L := fun k a i => Ed K w g j m r k a i) st1 (fun a => some a) (fun k s i _ => rfl) om (K := K) om []
     have g1 := Fb (step := st1) (fun h : GHeld => ieq m.Epoch w.T.Epoch && (!(h.Wait) && !(h.Given))) (fun h => h.X) 88 om 1000000 om w.Held [] (by simp; omega) (fun x _ a c => by
      show (bif ieq m.Epoch w.T.Epoch then (bif x.Wait then c a else bif x.Given then c a else _) else c a) = _
      cases ieq m.Epoch w.T.Epoch <;> cases x.Wait <;> cases x.Given <;> rfl)
     have f1 : Ed K w g j m r K [] 0 = some (C2 w m) := (e1.trans g1).trans (by simp [C2])
     rw [f1, bS]
     have hrl : (C2 w m).length ≤ 50 := by rw [C2, List.length_map]; exact Nat.le_trans (GY _ _) a1
     let st2 : GComing → List GPart → (List GPart → Option (List GPart)) → Option (List GPart) := fun x a c => bif ieq x.Epoch m.Epoch then (bif apok (len a) 1 88 then c (appL a [x.X]) else none) else c a
     have e2 := AE (l := w.Coming) (L := fun k a i => E5 K w g j m r k a i) st2 (fun a => some a) (fun k s i _ => rfl) om (K := K) om (C2 w m)
     have g2 := Fb (step := st2) (fun c : GComing => ieq c.Epoch m.Epoch) (fun c => c.X) 88 om 1000000 om w.Coming (C2 w m) om (fun x _ a c => rfl)
     have f2 : E5 K w g j m r K (C2 w m) 0 = some (C2 w m ++ EI w m) := e2.trans g2
     rw [f2, bS]
     have hcl : (EI w m).length ≤ 500000 := by rw [EI, List.length_map]; exact Nat.le_trans (GY _ _) a2
     have f3 := VW hK g j m (C2 w m ++ EI w m) (by rw [List.length_append]; omega) (fun x hx => by
      rcases List.mem_append.1 hx with hx | hx
      · obtain ⟨h, hh, rfl⟩ := List.mem_map.1 hx
        exact h1 h (List.mem_filter.1 hh).1
      · obtain ⟨c, hc, rfl⟩ := List.mem_map.1 hx
        exact h2 c (List.mem_filter.1 hc).1) { w with T := r.1, Goal := -1, Held := [] } HOk.nil
     have f3' : Ez K g j m (C2 w m ++ EI w m) K w.Id (-1) w.Until r.1.Epoch r.1.Owners r.1.Ids r.1.Incs [] w.Buf w.Coming w.Out 0 = _ := f3
     rw [f3', bS]
     generalize hv : (C2 w m ++ EI w m).foldl (Cs g j) { w with T := r.1, Goal := -1, Held := [] } = v
     have hbc : v.Buf = w.Buf ∧ v.Coming = w.Coming := by
      have key : ∀ (l : List GPart) (u : GWorker), (l.foldl (Cs g j) u).Buf = u.Buf ∧ (l.foldl (Cs g j) u).Coming = u.Coming := by
       intro l
       induction l with
       | nil => intro u; exact ⟨rfl, rfl⟩
       | cons x l ih =>
        intro u
        rw [List.foldl_cons]
        have := ih (Cs g j u x)
        have e : (Cs g j u x).Buf = u.Buf ∧ (Cs g j u x).Coming = u.Coming := by rw [Cs]; cases BH g j u x <;> exact ⟨rfl, rfl⟩
        exact ⟨this.1.trans e.1, this.2.trans e.2⟩
      rw [← hv]; exact key _ _
     show (Fy K v m.Fresh).bind _ = _
     rw [MS v m.Fresh (by rw [hbc.1]; omega) (by rw [hbc.2]; omega) (by rw [hbc.1]; omega) (by rw [hbc.2]; omega)]; rfl
   · rfl
theorem Ir (K : Nat) (w : GWorker) (h : Sml w) : F30 K w = some w := by
 obtain ⟨h1, h2, h3, h4⟩ := h
 rw [F30, Bp (by show 0 + w.Held.length ≤ _; omega) om, Bp (by show 0 + w.Buf.length ≤ _; omega) om, Bp (by show 0 + w.Coming.length ≤ _; omega) om, Bp (by show 0 + w.Out.length ≤ _; omega) om]
 simp only [cT, Jn]
def IW (g : GGraph) (j : GJob) (w : GWorker) (m : GMail) : GWorker :=
 bif ieq m.Kind 1 then Fd g j w m else bif ieq m.Kind 3 then ER w m else bif ieq m.Kind 4 then Bb w m else bif ieq m.Kind 6 then Gz w m else bif ieq m.Kind 7 then G9 w m else bif ieq m.Kind 9 then G3 g j w m else w
def EE (g : GGraph) (j : GJob) (w : GWorker) (m : GMail) : GWorker := bif ieq (An g j) 0 && Cu m then IW g j w m else w
theorem Kq {K : Nat} (hK : 1000000 ≤ K) (g : GGraph) (j : GJob) (w : GWorker) (m : GMail) (hw : Sml w) (h1 : ∀ h ∈ w.Held, SmlP h.X) (h2 : ∀ c ∈ w.Coming, SmlP c.X) (hm : FitM 2000 m) (hp : i64 m.X.P) : F18 K g j w m = some (EE g j w m) := by
 rw [F18, Ir K w hw, bS, E1 om, bS, Vs om m hm, EE]
 cases ieq (An g j) 0
 · rfl
 · cases hr : Cu m
   · rfl
   · have hi : m.Incs.length = m.Ids.length := by
      simp only [Cu, Bool.and_eq_true, Af] at hr
      have := hr.2.2.2.2.2.2.1
      omega
     simp only [cT, bS, Bool.true_and, IW, QK hK w g j m hw hm hp, Om, Mu w g j m (by have := hw.b; omega) hK, PW (K := K) om w g j m hw hm hi (by have := hm.i; omega), VK w g j m hw hK, Ug hK w g j m hw h1 h2]
     cases ieq m.Kind 1 <;> cases ieq m.Kind 3 <;> cases ieq m.Kind 4 <;> cases ieq m.Kind 6 <;> cases ieq m.Kind 7 <;> cases ieq m.Kind 9 <;> rfl
def Iv (w : GWorker) (n : Int) : GWorker := bif ilt w.Until n then { w with Until := n } else w
theorem SZ (K : Nat) (w : GWorker) (n : Int) (h : Sml w) : F22 K w n = some (Iv w n) := by
 rw [F22, Ir K w h, bS, Iv]
 cases ilt w.Until n <;> rfl
def Sk (K : Nat) (s : GState) : Prop := (s.Vals.length < 1000000 ∧ s.Vals.length < K) ∧ (s.Rest.length < 1000000 ∧ s.Rest.length < K) ∧ s.In.length < 1000000 ∧ s.In.length < K
theorem Sz {K : Nat} (s : GState) (h : Sk K s) : F25 K s s = some true := by
 rw [F25, A6, S2 s.Vals h.1.1 h.1.2, Qm s.Rest h.2.1.1 h.2.1.2, PG s.In h.2.2.1 h.2.2.2]; rfl
theorem Gi {g : GGraph} {j : GJob} {s : GState} (h : Aq g j s = true) {p : Nat} (hp : (p : Int) < j.Parts) : Av g j (Ap g j s (p : Int)) = true := by
 obtain ⟨hc, s1, s2, s3, s4, s5⟩ := AZ h
 obtain ⟨q1, q2⟩ := HG s5
 unfold Av Ap
 dsimp only
 have e1 : ieq ((((Ak g j (p : Int)).map fun v => s.Vals.getD v 0).length : Nat) : Int) (AL g j (p : Int)) = true := Af.2 (by simp [AL])
 have e2 : ieq ((((Ak g j (p : Int)).map fun v => s.Rest.getD v false).length : Nat) : Int) (AL g j (p : Int)) = true := Af.2 (by simp [AL])
 have e3 : Bj g.N j.Parts (p : Int) (-1) (s.In.filter fun m => ieq (m.To % j.Parts) (p : Int)) = true := IM (q1.filter _) fun m hm => by
  obtain ⟨a, b⟩ := List.mem_filter.1 hm
  exact ⟨(q2 m a).1, (q2 m a).2, Af.1 b⟩
 rw [hc, AK.2 (by omega : (0 : Int) ≤ (p : Int)), Ad.2 hp, AK.2 s1, AK.2 s2, e1, e2, e3]; rfl
theorem LL {g : GGraph} {j : GJob} {s : GState} (h : Aq g j s = true) : ∀ (n i : Nat), ((i + n : Nat) : Int) = j.Parts → C6 g j s.Step i ((List.range' i n).map fun (p : Nat) => Ap g j s (p : Int)) = true
 | 0, i, _ => rfl
 | n + 1, i, hi => by
  rw [List.range'_succ, List.map_cons, C6, Gi h om, LL h n (i + 1) om, Af.2 (show (Ap g j s (i : Int)).P = (i : Int) from rfl), Af.2 (show (Ap g j s (i : Int)).Step = s.Step from rfl)]; rfl
theorem IE {g : GGraph} {j : GJob} {s : GState} {p : Nat} (hp : p < j.Parts.toNat) : (AG g j s).getD p noP = Ap g j s (p : Int) := by
 simp [AG, List.getD, hp]
theorem Qc {n : Int} {l : List GMsg} (hs : l.Pairwise fun a b => a.To < b.To) (hr : ∀ m ∈ l, 0 ≤ m.To ∧ m.To < n) : ((List.range n.toNat).flatMap fun (v : Nat) => l.filter fun m => ieq m.To (v : Int)) = l := by
 refine HZ (lt := fun a b : GMsg => a.To < b.To) (fun a b h => by omega) ?_ hs fun m => ?_
 · refine List.pairwise_flatMap.2 ⟨fun v _ => hs.filter _, ?_⟩
   refine List.pairwise_lt_range.imp fun {a b} hab x hx y hy => ?_
   have h1 := Af.1 (List.mem_filter.1 hx).2
   have h2 := Af.1 (List.mem_filter.1 hy).2
   omega
 · simp only [List.mem_flatMap, List.mem_filter, Af, List.mem_range]
   constructor
   · rintro ⟨v, hv, hm, e⟩; exact hm
   · intro hm
     obtain ⟨h0, h1⟩ := hr m hm
     obtain ⟨v, hv⟩ := Int.eq_ofNat_of_zero_le h0
     exact ⟨v, by omega, hm, hv⟩
theorem Mj {α : Type} (d : α) (l : List α) {n : Nat} (h : l.length = n) : (List.range n).map (fun v => l.getD v d) = l := by
 apply List.ext_getElem?
 intro i
 rw [List.getElem?_map]
 by_cases hi : i < n
 · rw [List.getElem?_range hi]
   simp [List.getD, h, hi]
 · rw [List.getElem?_eq_none (by simp; omega), List.getElem?_eq_none om]; rfl
theorem Qn {g : GGraph} {j : GJob} {s : GState} (h : Aq g j s = true) : Fv g j (AG g j s) = s := by
 obtain ⟨hc, s1, s2, s3, s4, s5⟩ := AZ h
 obtain ⟨hg, p1, p2, p3, p4, p5, p6, p7, p8⟩ := Au hc
 obtain ⟨g1, g2, _, _⟩ := AQ hg
 obtain ⟨q1, q2⟩ := HG s5
 have hpt : ∀ v, AX (AG g j s) j v = Ap g j s ((v % j.Parts.toNat : Nat) : Int) := fun v => by
  unfold AX
  exact IE (Nat.mod_lt _ om)
 have hslot : ∀ v, v < g.N.toNat → (Ak g j ((v % j.Parts.toNat : Nat) : Int))[v / j.Parts.toNat]? = some v := fun v hv =>
  (LW (n := g.N.toNat) (parts := j.Parts.toNat) om om om hv).2
 have e0 : (AG g j s).getD 0 noP = Ap g j s 0 := IE om
 have e1 : ((List.range g.N.toNat).map fun v => (AX (AG g j s) j v).Vals.getD (v / j.Parts.toNat) 0) = s.Vals := by
  rw [← Mj 0 s.Vals (n := g.N.toNat) om]
  refine List.map_congr_left fun v hv => ?_
  rw [hpt, Ap]
  simp only [List.getD, List.getElem?_map, hslot v (List.mem_range.1 hv), Option.map_some, Option.getD_some]
 have e2 : ((List.range g.N.toNat).map fun v => (AX (AG g j s) j v).Rest.getD (v / j.Parts.toNat) false) = s.Rest := by
  rw [← Mj false s.Rest (n := g.N.toNat) om]
  refine List.map_congr_left fun v hv => ?_
  rw [hpt, Ap]
  simp only [List.getD, List.getElem?_map, hslot v (List.mem_range.1 hv), Option.map_some, Option.getD_some]
 have e3 : ((List.range g.N.toNat).flatMap fun (v : Nat) => (AX (AG g j s) j v).In.filter fun m => ieq m.To (v : Int)) = s.In := by
  conv => rhs; rw [← Qc q1 (fun m hm => by have := q2 m hm; omega : ∀ m ∈ s.In, 0 ≤ m.To ∧ m.To < g.N)]
  rw [List.flatMap_def, List.flatMap_def]
  congr 1
  refine List.map_congr_left fun v hv => ?_
  rw [hpt, Ap, List.filter_filter]
  refine List.filter_congr fun m hm => ?_
  rw [Bool.eq_iff_iff, Bool.and_eq_true, Af, Af]
  constructor
  · exact fun q => q.1
  · intro q
    obtain ⟨k, hk⟩ := Int.eq_ofNat_of_zero_le (show 0 ≤ j.Parts by omega)
    refine ⟨q, ?_⟩
    rw [q, hk]; simp
 rw [Fv, e0, e1, e2, e3]; rfl
theorem V2 {g : GGraph} {j : GJob} {s : GState} (h : Aq g j s = true) : HE g j (AG g j s) = (s, 0) := by
 obtain ⟨hc, s1, s2, s3, s4, s5⟩ := AZ h
 obtain ⟨hg, p1, p2, p3, p4, p5, p6, p7, p8⟩ := Au hc
 have e0 : (AG g j s).getD 0 noP = Ap g j s 0 := IE om
 have e1 : ieq (((AG g j s).length : Nat) : Int) j.Parts = true := Af.2 (by simp [AG]; omega)
 have e2 : C6 g j ((AG g j s).getD 0 noP).Step 0 (AG g j s) = true := by
  rw [e0, AG, List.range_eq_range']
  exact LL h j.Parts.toNat 0 om
 rw [HE, hc, cT, e1, cT, e2, cT, Qn h]
structure goodS (s : GState) : Prop where
 nice : CL s
 lin : s.In.length ≤ 80
 lre : s.Rest.length ≤ 24
 lva : s.Vals.length ≤ 24
theorem I5 (p : Int) : ∀ (r : List GMsg) (c : GMsg) (d w : List GMsg), Bz p r c d = .inr w → i64 c.V → (∀ x ∈ r, i64 x.V) → (∀ x ∈ d, i64 x.V) → w.length ≤ d.length + r.length + 1 ∧ ∀ x ∈ w, i64 x.V
 | [], c, d, w, h, hc, _, hd => by
  injection h with h
  subst h
  refine ⟨by simp, fun x hx => ?_⟩
  rcases List.mem_append.1 hx with hx | hx
  · exact hd x hx
  · rw [List.mem_singleton.1 hx]; exact hc
 | x :: r, c, d, w, h, hc, hr, hd => by
  rw [Bz] at h
  have hx := hr x List.mem_cons_self
  have hr' := fun y hy => hr y (List.mem_cons_of_mem _ hy)
  cases h1 : ieq c.To x.To
  · rw [h1, cF] at h
    have := I5 p r x (d ++ [c]) w h hx hr' (fun y hy => by
     rcases List.mem_append.1 hy with hy | hy
     · exact hd y hy
     · rw [List.mem_singleton.1 hy]; exact hc)
    rw [List.length_append] at this
    simp only [List.length_singleton] at this
    exact ⟨by simp only [List.length_cons]; omega, this.2⟩
  · rw [h1, cT] at h
    cases h2 : ieq (Al p c.V x.V).2 0
    · rw [h2] at h; cases h
    · rw [h2, cT] at h
      have := I5 p r _ d w h (G1 hc hx) hr' hd
      exact ⟨by simp only [List.length_cons]; omega, this.2⟩
theorem Hp {p : Int} {l : List GMsg} (hl : ∀ x ∈ l, i64 x.V) : (Am p l).1.length ≤ l.length ∧ ∀ x ∈ (Am p l).1, i64 x.V := by
 have hn : ∀ x ∈ ([] : List GMsg), i64 x.V := fun x hx => absurd hx List.not_mem_nil
 have hs : ∀ x ∈ Ay l, i64 x.V := fun x hx => hl x ((C4 l).mem_iff.1 hx)
 have hsl := Et l
 rw [Am]
 cases Ao p
 · rw [cF]
   generalize Ay l = m at *
   cases m with
   | nil => exact ⟨Nat.zero_le _, hn⟩
   | cons x r =>
    rw [Dx]
    cases hq : Bz p r x [] with
    | inl e => exact ⟨Nat.zero_le _, hn⟩
    | inr w =>
     have := I5 p r x [] w hq (hs x List.mem_cons_self) (fun y hy => hs y (List.mem_cons_of_mem _ hy)) hn
     simp only [List.length_cons, List.length_nil] at hsl this
     exact ⟨by show w.length ≤ _; omega, this.2⟩
 · exact ⟨Nat.zero_le _, hn⟩
theorem L6 {g : GGraph} {j : GJob} {s : GState} (h : ieq (AH g j s).2 0 = true) : ieq (An g j) 0 = true ∧ Aq g j s = true ∧ ieq s.Step 40 = false ∧
 ∃ w, Bh g j s (List.range g.N.toNat) [] [] [] = .inr w ∧ ieq (Am j.Prog w.2.2).2 0 = true ∧ (AH g j s).1 = GState.mk (s.Step + 1) w.1 w.2.1 (Am j.Prog w.2.2).1 := by
 rw [AH] at h ⊢
 cases hc : ieq (An g j) 0
 · rw [hc, cF] at h
   have h' : ieq (An g j) 0 = true := h
   rw [hc] at h'; cases h'
 · rw [hc] at h
   cases hr : Aq g j s
   · rw [hr] at h; cases h
   · rw [hr] at h
     cases h40 : ieq s.Step 40
     · rw [h40] at h
       simp only [cT, cF] at h ⊢
       cases hA : Bh g j s (List.range g.N.toNat) [] [] [] with
       | inl e =>
        rw [hA] at h
        have he : ieq e 0 = true := h
        exfalso
        have hno : ∀ (l : List Nat) a b c e, Bh g j s l a b c = .inl e → ieq e 0 = false := by
         intro l
         induction l with
         | nil => intro a b c e h; cases h
         | cons v l ih =>
          intro a b c e h
          rw [Bh] at h
          cases hq : ieq (Ag g j s v).2.2.2 0
          · rw [hq] at h
            injection h with h
            rw [← h]; exact hq
          · rw [hq] at h; exact ih _ _ _ _ h
        rw [hno _ _ _ _ _ hA] at he; cases he
       | inr w =>
        rw [hA, GI] at h
        rw [GI]
        cases hb : ieq (Am j.Prog w.2.2).2 0
        · rw [hb, cF] at h
          have h' : ieq (Am j.Prog w.2.2).2 0 = true := h
          rw [hb] at h'; cases h'
        · exact ⟨trivial, trivial, trivial, w, rfl, hb, rfl⟩
     · rw [h40] at h; cases h
theorem VV {g : GGraph} {j : GJob} {s : GState} (hg : goodS s) (h : ieq (AH g j s).2 0 = true) : goodS (AH g j s).1 ∧ (AH g j s).1.Step = s.Step + 1 := by
 obtain ⟨hc, hr, h40, w, hA, hb, he⟩ := L6 h
 obtain ⟨hgc, _⟩ := Au hc
 obtain ⟨g1, g2, g3, _⟩ := AQ hgc
 rw [List.range_eq_range'] at hA
 have kw := Ia hg.nice g.N.toNat 0 [] [] [] (Hk g) w hA
 have hwl := H9 kw g3
 obtain ⟨b1, b2⟩ := Hp (p := j.Prog) kw.vc
 rw [he]
 refine ⟨⟨⟨kw.va, b2⟩, ?_, ?_, ?_⟩, rfl⟩
 · show (Am j.Prog w.2.2).1.length ≤ 80; omega
 · show w.2.1.length ≤ 24; rw [kw.lb]; omega
 · show w.1.length ≤ 24; rw [kw.la]; omega
theorem OV {g : GGraph} {j : GJob} {x : GPart} {l : List GMsg} (h : ieq (AO g j x l).2 0 = true) : Av g j (AO g j x l).1 = true ∧ ieq (An g j) 0 = true := by
 rw [AO] at h ⊢
 cases hc : ieq (An g j) 0
 · rw [hc, cF] at h
   have h' : ieq (An g j) 0 = true := h
   rw [hc] at h'; cases h'
 · rw [hc] at h
   cases hR : Av g j x
   · rw [hR] at h; cases h
   · rw [hR] at h
     cases hI : ieq (nlen (len x.In)) 0
     · rw [hI] at h; cases h
     · rw [hI] at h
       cases hO : CK g.N j.Parts x.P l
       · rw [hO] at h; cases h
       · rw [hO] at h
         simp only [cT, Gp] at h ⊢
         cases hB : ieq (Am j.Prog l).2 0
         · rw [hB, cF] at h
           have h' : ieq (Am j.Prog l).2 0 = true := h
           rw [hB] at h'; cases h'
         · obtain ⟨_, p1, p2, p3, p4, p5, p6, _⟩ := DD hR
           obtain ⟨r1, r2⟩ := H3 (p := j.Prog) (l := l)
           have hin : Bj g.N j.Parts x.P (-1) (Am j.Prog l).1 = true := IM r1 fun m hm => by
            obtain ⟨s, hs, e⟩ := r2 m hm
            have := List.all_eq_true.1 hO s hs
            simp only [Bool.and_eq_true, AK, Ad, Af] at this
            rw [← e]
            exact ⟨by omega, this.2.1, this.2.2⟩
           refine ⟨?_, trivial⟩
           rw [cT, Av]
           simp only [hc, AK.2 p1, Ad.2 p2, AK.2 p3, AK.2 p4, Af.2 p5, Af.2 p6, hin, Bool.and_true]
theorem PC {g : GGraph} {j : GJob} {x : GPart} : ∀ (l : List Nat) (i : Nat) (a : List Int) (b : List Bool) (c : List GMsg) (e : Int), doA g j x l i a b c = .inl e → ieq e 0 = false := by
 intro l
 induction l with
 | nil => intro i a b c e h; cases h
 | cons v l ih =>
  intro i a b c e h
  rw [doA] at h
  cases hq : ieq (AN g j x i v).2.2.2 0
  · rw [hq] at h
    injection h with h
    rw [← h]; exact hq
  · rw [hq] at h; exact ih _ _ _ _ _ h
theorem UK {j : GJob} {c : List GMsg} : ∀ (l : List Nat) (d : List (List GMsg)), (∃ e, ieq e 0 = false ∧ CO j c l d = .inl e) ∨ (CO j c l d = .inr (d ++ l.map fun (q : Nat) => (Am j.Prog (toS j c (q : Int))).1) ∧ ∀ q ∈ l, ieq (Am j.Prog (toS j c (q : Int))).2 0 = true) := by
 intro l
 induction l with
 | nil => intro d; exact .inr ⟨by rw [CO, List.map_nil, List.append_nil], fun q hq => absurd hq List.not_mem_nil⟩
 | cons q l ih =>
  intro d
  rw [CO]
  cases hq : ieq (Am j.Prog (toS j c (q : Int))).2 0
  · exact .inl ⟨_, hq, rfl⟩
  · rcases ih (d ++ [(Am j.Prog (toS j c (q : Int))).1]) with h | ⟨h, h'⟩
    · exact .inl h
    · refine .inr ⟨by rw [cT, h]; simp, fun y hy => ?_⟩
      rcases List.mem_cons.1 hy with rfl | hy
      · exact hq
      · exact h' y hy
theorem M2 (g : GGraph) (j : GJob) {x : GPart} (hn : A3 x) : (∃ e, ieq e 0 = false ∧ doS g j x = (Cq, [], e)) ∨
 (ieq (An g j) 0 = true ∧ Av g j x = true ∧ ieq x.Step 40 = false ∧ ∃ w, doA g j x (Ak g j x.P) 0 [] [] [] = .inr w ∧ keepP g (Ak g j x.P).length w.1 w.2.1 w.2.2 ∧
  (∀ q < j.Parts.toNat, ieq (Am j.Prog (toS j w.2.2 (q : Int))).2 0 = true) ∧
  doS g j x = (GPart.mk x.P (x.Step + 1) w.1 w.2.1 [], (List.range j.Parts.toNat).map (fun (q : Nat) => (Am j.Prog (toS j w.2.2 (q : Int))).1), 0)) := by
 rw [doS]
 cases hc : ieq (An g j) 0
 · exact .inl ⟨_, hc, rfl⟩
 · cases hR : Av g j x
   · exact .inl ⟨_, rfl, rfl⟩
   · cases h40 : ieq x.Step 40
     · cases hA : doA g j x (Ak g j x.P) 0 [] [] [] with
       | inl e => exact .inl ⟨e, PC _ _ _ _ _ _ hA, rfl⟩
       | inr w =>
        have kw := Lo hn _ 0 [] [] [] (Jl g) w hA
        rw [Nat.zero_add] at kw
        rcases UK (j := j) (c := w.2.2) (List.range j.Parts.toNat) [] with ⟨e, h1, h2⟩ | ⟨h, h'⟩
        · refine .inl ⟨e, h1, ?_⟩
          simp only [cT, cF, doB, h2, doC]
        · refine .inr ⟨rfl, rfl, rfl, w, rfl, kw, fun q hq => h' q (List.mem_range.2 hq), ?_⟩
          simp only [cT, cF, doB, h, doC, List.nil_append]
     · exact .inl ⟨_, rfl, rfl⟩
theorem PO {K : Nat} (hK : 3000 ≤ K) (g : GGraph) (j : GJob) {x : GPart} (hn : A3 x) : Kk K (doS g j x).1 ∧ (doS g j x).2.1.length ≤ 6 ∧ ∀ l ∈ (doS g j x).2.1, l.length ≤ 2000 := by
 have hz : Kk K Cq := by refine ⟨⟨?_, ?_⟩, ⟨?_, ?_⟩, ?_, ?_⟩ <;> simp [Cq] <;> omega
 rcases M2 g j hn with ⟨e, _, h⟩ | ⟨hc, hR, _, w, _, kw, _, h⟩
 · rw [h]; exact ⟨hz, Nat.zero_le _, fun l hl => absurd hl List.not_mem_nil⟩
 · obtain ⟨hg, _, _, _, _, _, _, p7, p8⟩ := Au hc
   obtain ⟨g1, g2, g3, _⟩ := AQ hg
   have hvl := Ft g j g2 x.P
   have h1 := kw.la
   have h2 := kw.lb
   have h3 := kw.lc
   rw [h]
   refine ⟨⟨⟨by show w.1.length < _; omega, by show w.1.length < _; omega⟩, ⟨by show w.2.1.length < _; omega, by show w.2.1.length < _; omega⟩, by show 0 < 1000000; omega, by show 0 < K; omega⟩, ?_, fun l hl => ?_⟩
   · show ((List.range j.Parts.toNat).map _).length ≤ 6
     rw [List.length_map, List.length_range]; omega
   · obtain ⟨q, hq, rfl⟩ := List.mem_map.1 hl
     have := (Hp (p := j.Prog) (l := toS j w.2.2 (q : Int)) fun m hm => kw.vc m (Es hm).1).1
     have := Iz j w.2.2 (q : Int)
     omega
def AR (w : GWorker) (p : Int) (q : Nat) (l : List GMsg) : GMail := GMail.mk 4 w.T.Epoch 0 w.Goal (q : Int) p 0 0 [] [] [] A7 l
def Ck (p : Int) (w : GWorker) (q : Nat) (l : List GMsg) : GWorker :=
 bif ieq (toT w.T (q : Int)).1 w.Id then Bb w (AR w p q l) else { w with Out := w.Out ++ [GPost.mk (toT w.T (q : Int)).1 (toT w.T (q : Int)).2.1 (AR w p q l)] }
def AY (p : Int) : Nat → List (List GMsg) → GWorker → GWorker
 | _, [], w => w
 | q, l :: r, w => AY p (q + 1) r (Ck p w q l)
theorem PZ (w : GWorker) (m : GMail) : (Bb w m).Buf.length ≤ w.Buf.length + 1 ∧ (Bb w m).Out = w.Out := by
 rw [Bb]
 cases ile w.T.Epoch m.Epoch && ilt (AP w.Buf m.Epoch m.Step m.Q m.P) 0
 · exact ⟨by show w.Buf.length ≤ _; omega, rfl⟩
 · exact ⟨by show (w.Buf ++ _).length ≤ _; simp, rfl⟩
theorem TA (p : Int) (w : GWorker) (q : Nat) (l : List GMsg) : (Ck p w q l).Buf.length ≤ w.Buf.length + 1 ∧ (Ck p w q l).Out.length ≤ w.Out.length + 1 := by
 rw [Ck]
 cases ieq (toT w.T (q : Int)).1 w.Id
 · exact ⟨by show w.Buf.length ≤ _; omega, by show (w.Out ++ _).length ≤ _; simp⟩
 · have := PZ w (AR w p q l)
   exact ⟨this.1, by show (Bb w (AR w p q l)).Out.length ≤ _; rw [this.2]; omega⟩
theorem Qj {K : Nat} (hK : 1000000 ≤ K) (g : GGraph) (j : GJob) (h : GHeld) (r : GPart × List (List GMsg) × Int) (hr : r.2.1.length ≤ 100) (w : GWorker) (hb : w.Buf.length ≤ 800000) (ho : w.Out.length ≤ 800000) :
 ED K g j h r K w.Id w.Goal w.Until w.T.Epoch w.T.Owners w.T.Ids w.T.Incs w.Held w.Buf w.Coming w.Out 0 = some (wt (AY h.X.P 0 r.2.1 w)) := by
 let step : Nat → List GMsg → GWorker → (GWorker → Option WT) → Option WT := fun i l w c =>
  (F60 K w.T (i : Int)).bind fun t => bif ieq t.1 w.Id then (Fq K w g j (AR w h.X.P i l)).bind fun r => c r
   else bif apok (len w.Out) 1 264 then c { w with Out := appL w.Out [GPost.mk t.1 t.2.1 (AR w h.X.P i l)] } else none
 have hs := Bw (l := r.2.1) (L := fun k (w : GWorker) i => ED K g j h r k w.Id w.Goal w.Until w.T.Epoch w.T.Owners w.T.Ids w.T.Incs w.Held w.Buf w.Coming w.Out i) step (fun w => some (wt w)) (fun k s i _ => rfl) om K w 0 om om
 have go : ∀ (l : List (List GMsg)) (i : Nat) (w : GWorker), w.Buf.length + l.length ≤ 900000 → w.Out.length + l.length ≤ 900000 → goI step (fun w => some (wt w)) i l w = some (wt (AY h.X.P i l w)) := by
  intro l
  induction l with
  | nil => intro i w _ _; rfl
  | cons x l ih =>
   intro i w h1 h2
   rw [List.length_cons] at h1 h2
   have hl := TA h.X.P w i x
   rw [goI, AY, ← ih (i + 1) (Ck h.X.P w i x) om om]
   show (F60 K w.T (i : Int)).bind _ = _
   rw [KD om, bS, Ck]
   cases ieq (toT w.T (i : Int)).1 w.Id
   · rw [cF, cF, Bp (by show w.Out.length + 1 ≤ _; omega) om]; rfl
   · rw [cT, cT, Mu w g j _ om hK, bS]
 rw [List.drop_zero] at hs
 exact hs.trans (go r.2.1 0 w om om)
def Bt (g : GGraph) (j : GJob) (w : GWorker) (i : Nat) (h : GHeld) : List GDid × GWorker :=
 bif ieq (doS g j h.X).2.2 6 || ieq (doS g j h.X).2.2 1 then ([], w) else
 bif ieq (doS g j h.X).2.2 0 then
  ([GDid.mk (AY h.X.P 0 (doS g j h.X).2.1 { w with Held := w.Held.set i (GHeld.mk (doS g j h.X).1 true h.Given) }).T.Epoch (AY h.X.P 0 (doS g j h.X).2.1 { w with Held := w.Held.set i (GHeld.mk (doS g j h.X).1 true h.Given) }).Goal h.X.P],
   AY h.X.P 0 (doS g j h.X).2.1 { w with Held := w.Held.set i (GHeld.mk (doS g j h.X).1 true h.Given) })
 else ([], Ha { w with Held := w.Held.set i (GHeld.mk h.X true h.Given) } h.X.P)
theorem Oj {K : Nat} (hK : 1000000 ≤ K) (g : GGraph) (j : GJob) (w : GWorker) (i : Nat) (h : GHeld) (hi : w.Held[i]? = some h) (hx : SmlP h.X) (hb : w.Buf.length ≤ 800000) (ho : w.Out.length ≤ 800000) : Fc K w g j (i : Int) = some (Bt g j w i h) := by
 have hlt : i < w.Held.length := (List.getElem?_eq_some_iff.1 hi).1
 have e1 : inr (i : Int) (len w.Held) = true := decide_eq_true ⟨by omega, by show (i : Int) < (w.Held.length : Int); omega⟩
 have e2 : elAt w.Held (i : Int) = some h := by rw [Bg]; exact hi
 have p1 : ∀ (y : GHeld), putAt w.Held (i : Int) y = w.Held.set i y := fun y => by show w.Held.set (Int.toNat _) _ = _; rw [Int.toNat_natCast]
 have f1 := (PO (K := 3000) om g j hx.n).2.1
 rw [Fc, e1, e2, cT, bS, R6 om g j h.X hx.n hx.i hx.p, bS, Bt]
 cases ieq (doS g j h.X).2.2 6
 · cases ieq (doS g j h.X).2.2 1
   · cases ieq (doS g j h.X).2.2 0
     · simp only [cF, Bool.or_false, p1]
       rw [L5 K _ _ (by show w.Out.length ≤ _; omega)]; rfl
     · simp only [cF, cT, Bool.or_false, p1]
       have e3 : inr (i : Int) (len (w.Held.set i (GHeld.mk h.X true h.Given))) = true := decide_eq_true ⟨by omega, by show (i : Int) < ((w.Held.set i _).length : Int); rw [List.length_set]; omega⟩
       have e4 : elAt (w.Held.set i (GHeld.mk h.X true h.Given)) (i : Int) = some (GHeld.mk h.X true h.Given) := by rw [Bg, List.getElem?_set_self hlt]
       have e5 : putAt (w.Held.set i (GHeld.mk h.X true h.Given)) (i : Int) (GHeld.mk (doS g j h.X).1 true h.Given) = w.Held.set i (GHeld.mk (doS g j h.X).1 true h.Given) := by
        show (w.Held.set i _).set (Int.toNat _) _ = _; rw [Int.toNat_natCast, List.set_set]
       rw [e3, e4, cT, bS, e5]
       have hl := Qj hK g j h (doS g j h.X) om { w with Held := w.Held.set i (GHeld.mk (doS g j h.X).1 true h.Given) } (by show w.Buf.length ≤ _; omega) (by show w.Out.length ≤ _; omega)
       have hl' : ED K g j h (doS g j h.X) K w.Id w.Goal w.Until w.T.Epoch w.T.Owners w.T.Ids w.T.Incs (w.Held.set i (GHeld.mk (doS g j h.X).1 true h.Given)) w.Buf w.Coming w.Out 0 = _ := hl
       rw [hl']; rfl
   · rfl
 · rfl
def Hj : GData := GData.mk 0 0 0 0 []
def Bk (b : List GData) (e s p : Int) : List Nat → Option (List (List GMsg))
 | [] => some []
 | q :: r => bif ilt (AP b e s (q : Int) p) 0 then none else (Bk b e s p r).map fun l => (b.getD (AP b e s (q : Int) p).toNat Hj).Msgs :: l
def DA (w : GWorker) (parts p : Int) (d : GData) : Bool := !(ieq d.Epoch w.T.Epoch && (ieq d.Step w.Goal && (ieq d.P p && (!(ilt d.Q 0) && !(ile parts d.Q)))))
def D7 (w : GWorker) (p : Int) (x : GPart) : GMail := GMail.mk 5 w.T.Epoch 0 w.Goal p 0 0 0 [] [] [] x []
def El (g : GGraph) (j : GJob) (w : GWorker) (i : Nat) (h : GHeld) (ins : List (List GMsg)) : GWorker :=
 bif ieq (AO g j h.X ins.flatten).2 0 then Er { w with Held := w.Held.set i (GHeld.mk (AO g j h.X ins.flatten).1 false false), Buf := w.Buf.filter (DA w j.Parts h.X.P) } (D7 w h.X.P (AO g j h.X ins.flatten).1)
 else Ha { w with Buf := w.Buf.filter (DA w j.Parts h.X.P) } h.X.P
def CF (g : GGraph) (j : GJob) (w : GWorker) (i : Nat) (h : GHeld) : GWorker :=
 match Bk w.Buf w.T.Epoch w.Goal h.X.P (List.range j.Parts.toNat) with | none => w | some ins => El g j w i h ins
abbrev WT2 : Type := Int × Int × Int × Int × List Int × List Int × List Int × List GHeld × List GData × List GComing × List GPost × List (List GMsg)
abbrev wt2 (w : GWorker) (a : List (List GMsg)) : WT2 := (w.Id, (w.Goal, (w.Until, (w.T.Epoch, (w.T.Owners, (w.T.Ids, (w.T.Incs, (w.Held, (w.Buf, (w.Coming, (w.Out, a)))))))))))
theorem Rg {K : Nat} (hK : 1000000 ≤ K) (g : GGraph) (j : GJob) (w : GWorker) (i p : Int) (hb : w.Buf.length ≤ 900000) (hp : j.Parts ≤ 6) : ∃ r, FQ K i g.N g.Edges j.Prog j.Source j.Limit j.Parts p K w.Id w.Goal w.Until w.T.Epoch w.T.Owners w.T.Ids w.T.Incs w.Held w.Buf w.Coming w.Out [] 0 = some r ∧
 (match Bk w.Buf w.T.Epoch w.Goal p (List.range j.Parts.toNat) with | none => ∃ a, r = .inl (wt2 w a) | some ins => r = .inr (wt2 w ins)) := by
 let step : Nat → GWorker × List (List GMsg) → (GWorker × List (List GMsg) → Option (WT2 ⊕ WT2)) → Option (WT2 ⊕ WT2) := fun q s c =>
  (EF K s.1 s.1.T.Epoch s.1.Goal (q : Int) p).bind fun r => bif ilt r.1 0 then some (.inl (wt2 r.2 s.2)) else bif inr r.1 (len r.2.Buf) then (elAt r.2.Buf r.1).bind fun d => bif apok (len s.2) 1 24 then c (r.2, appL s.2 [d.Msgs]) else none else none
 have hs := EM (N := j.Parts) (L := fun k (s : GWorker × List (List GMsg)) i' => FQ K i g.N g.Edges j.Prog j.Source j.Limit j.Parts p k s.1.Id s.1.Goal s.1.Until s.1.T.Epoch s.1.T.Owners s.1.T.Ids s.1.T.Incs s.1.Held s.1.Buf s.1.Coming s.1.Out s.2 i') step (fun s => some (.inr (wt2 s.1 s.2))) (fun k s i' _ => rfl) om (K := K) om (w, [])
 have go : ∀ (l : List Nat) (a : List (List GMsg)), a.length + l.length ≤ 100 → ∃ r, goL step (fun s => some (.inr (wt2 s.1 s.2))) l (w, a) = some r ∧ (match Bk w.Buf w.T.Epoch w.Goal p l with | none => ∃ a, r = .inl (wt2 w a) | some ins => r = .inr (wt2 w (a ++ ins))) := by
  intro l
  induction l with
  | nil => intro a _; exact ⟨_, rfl, by rw [Bk]; simp⟩
  | cons q l ih =>
   intro a ha
   rw [List.length_cons] at ha
   rw [goL, Bk]
   have e0 : step q (w, a) (goL step (fun s => some (.inr (wt2 s.1 s.2))) l) = bif ilt (AP w.Buf w.T.Epoch w.Goal (q : Int) p) 0 then some (.inl (wt2 w a)) else bif inr (AP w.Buf w.T.Epoch w.Goal (q : Int) p) (len w.Buf) then (elAt w.Buf (AP w.Buf w.T.Epoch w.Goal (q : Int) p)).bind fun d => bif apok (len a) 1 24 then goL step (fun s => some (.inr (wt2 s.1 s.2))) l (w, appL a [d.Msgs]) else none else none := by
    show (EF K w w.T.Epoch w.Goal (q : Int) p).bind _ = _
    rw [JS K w _ _ _ _ om om]; rfl
   rw [e0]
   cases hn : ilt (AP w.Buf w.T.Epoch w.Goal (q : Int) p) 0
   · rw [cF, cF]
     rw [Ab] at hn
     obtain ⟨z, d, z1, z2, _⟩ := Gs (p := BD w.T.Epoch w.Goal (q : Int) p) (l := w.Buf) (by show ¬ AP w.Buf w.T.Epoch w.Goal (q : Int) p < 0; omega)
     have z1' : AP w.Buf w.T.Epoch w.Goal (q : Int) p = (z : Int) := z1
     have hz : z < w.Buf.length := (List.getElem?_eq_some_iff.1 z2).1
     have c1 : inr (z : Int) (len w.Buf) = true := decide_eq_true ⟨by omega, by show (z : Int) < (w.Buf.length : Int); omega⟩
     have c2 : elAt w.Buf (z : Int) = some d := by rw [Bg]; exact z2
     have c3 : w.Buf.getD z Hj = d := by rw [List.getD_eq_getElem?_getD, z2]; rfl
     rw [z1', c1, c2, cT, bS, Bp (by show a.length + 1 ≤ _; omega) om, cT, appL, Int.toNat_natCast, c3]
     obtain ⟨r, r1, r2⟩ := ih (a ++ [d.Msgs]) (by simp; omega)
     refine ⟨r, r1, ?_⟩
     cases hi : Bk w.Buf w.T.Epoch w.Goal p l with
     | none => rw [hi] at r2; exact r2
     | some ins =>
      rw [hi] at r2
      show r = .inr (wt2 w (a ++ d.Msgs :: ins))
      rw [r2]; simp
   · exact ⟨_, rfl, a, rfl⟩
 obtain ⟨r, r1, r2⟩ := go (List.range j.Parts.toNat) [] (by simp; omega)
 exact ⟨r, hs.trans r1, by
  cases hi : Bk w.Buf w.T.Epoch w.Goal p (List.range j.Parts.toNat) with
  | none => rw [hi] at r2; exact r2
  | some ins => rw [hi] at r2; exact r2⟩
theorem IY {b : List GData} {e s p : Int} : ∀ {l : List Nat} {ins : List (List GMsg)}, Bk b e s p l = some ins → ins.length = l.length ∧ ∀ x ∈ ins, ∃ d ∈ b, d.Msgs = x
 | [], ins, h => by rw [Bk] at h; cases h; exact ⟨rfl, fun x hx => absurd hx List.not_mem_nil⟩
 | q :: l, ins, h => by
  rw [Bk] at h
  cases hn : ilt (AP b e s (q : Int) p) 0
  · rw [hn, cF] at h
    cases hi : Bk b e s p l with
    | none => rw [hi] at h; cases h
    | some i2 =>
     rw [hi] at h
     cases h
     obtain ⟨a1, a2⟩ := IY hi
     rw [Ab] at hn
     obtain ⟨z, d, z1, z2, _⟩ := Gs (p := BD e s (q : Int) p) (l := b) (by show ¬ AP b e s (q : Int) p < 0; omega)
     have z1' : AP b e s (q : Int) p = (z : Int) := z1
     have c3 : b.getD z Hj = d := by rw [List.getD_eq_getElem?_getD, z2]; rfl
     refine ⟨by simp [a1], fun x hx => ?_⟩
     rw [z1', Int.toNat_natCast, c3] at hx
     rcases List.mem_cons.1 hx with rfl | hx
     · exact ⟨d, List.mem_of_getElem? z2, rfl⟩
     · exact a2 x hx
  · rw [hn] at h; cases h
theorem KT {α : Type} (c : Nat) : ∀ (l : List (List α)), (∀ x ∈ l, x.length ≤ c) → l.flatten.length ≤ c * l.length
 | [], _ => by simp
 | x :: l, h => by
  have h1 := h x List.mem_cons_self
  have h2 := KT c l fun y hy => h y (List.mem_cons_of_mem _ hy)
  rw [List.flatten_cons, List.length_append, List.length_cons, Nat.mul_succ]; omega
structure SmlD (d : GData) : Prop where
 l : d.Msgs.length ≤ 100
 n : ∀ m ∈ d.Msgs, i64 m.V
theorem SU {K : Nat} (hK : 1000000 ≤ K) (g : GGraph) (j : GJob) (w : GWorker) (i : Nat) (h : GHeld) (hi : w.Held[i]? = some h) (hx : SmlP h.X) (hb : w.Buf.length ≤ 800000) (hd : ∀ d ∈ w.Buf, SmlD d) (ho : w.Out.length ≤ 800000) (hp : j.Parts ≤ 6) : Fg K w g j (i : Int) = some (CF g j w i h) := by
 have hlt : i < w.Held.length := (List.getElem?_eq_some_iff.1 hi).1
 have e1 : inr (i : Int) (len w.Held) = true := decide_eq_true ⟨by omega, by show (i : Int) < (w.Held.length : Int); omega⟩
 have e2 : elAt w.Held (i : Int) = some h := by rw [Bg]; exact hi
 have p1 : ∀ (y : GHeld), putAt w.Held (i : Int) y = w.Held.set i y := fun y => by show w.Held.set (Int.toNat _) _ = _; rw [Int.toNat_natCast]
 obtain ⟨r, r1, r2⟩ := Rg hK g j w (i : Int) h.X.P om hp
 rw [Fg, e1, e2, cT, bS, r1, bS, CF]
 cases hn : Bk w.Buf w.T.Epoch w.Goal h.X.P (List.range j.Parts.toNat) with
 | none => rw [hn] at r2; obtain ⟨a, rfl⟩ := r2; rfl
 | some ins =>
  rw [hn] at r2
  subst r2
  obtain ⟨n1, n2⟩ := IY hn
  rw [List.length_range] at n1
  have nf : ins.flatten.length ≤ 100 * ins.length := KT 100 ins fun x hx' => by obtain ⟨d, d1, rfl⟩ := n2 x hx'; exact (hd d d1).l
  let st : GData → List GData → (List GData → Option (List GData)) → Option (List GData) := fun x a c =>
   bif ieq x.Epoch w.T.Epoch then (bif ieq x.Step w.Goal then (bif ieq x.P h.X.P then (bif ilt x.Q 0 then (bif apok (len a) 1 56 then c (appL a [x]) else none) else bif ile j.Parts x.Q then (bif apok (len a) 1 56 then c (appL a [x]) else none) else c a)
    else bif apok (len a) 1 56 then c (appL a [x]) else none) else bif apok (len a) 1 56 then c (appL a [x]) else none) else bif apok (len a) 1 56 then c (appL a [x]) else none
  have s1 := AE (l := w.Buf) (L := fun k a q => DL K w.Id w.Goal w.Until w.T.Epoch w.T.Owners w.T.Ids w.T.Incs w.Held w.Buf w.Coming w.Out (i : Int) g.N g.Edges j.Prog j.Source j.Limit j.Parts h.X.P ins k a q) st (fun a => some a) (fun k s i _ => rfl) om (K := K) om []
  have s2 := Fb (step := st) (DA w j.Parts h.X.P) (fun d => d) 56 om 1000000 om w.Buf [] (by simp; omega) (fun x _ a c => by
   show (bif ieq x.Epoch w.T.Epoch then (bif ieq x.Step w.Goal then (bif ieq x.P h.X.P then (bif ilt x.Q 0 then _ else _) else _) else _) else _) = _
   rw [DA]
   cases ieq x.Epoch w.T.Epoch <;> cases ieq x.Step w.Goal <;> cases ieq x.P h.X.P <;> cases ilt x.Q 0 <;> cases ile j.Parts x.Q <;> rfl)
  have s3 : DL K w.Id w.Goal w.Until w.T.Epoch w.T.Owners w.T.Ids w.T.Incs w.Held w.Buf w.Coming w.Out (i : Int) g.N g.Edges j.Prog j.Source j.Limit j.Parts h.X.P ins K [] 0 = some (w.Buf.filter (DA w j.Parts h.X.P)) := (s1.trans s2).trans (by simp)
  dsimp only [Sum.elim_inr, wt2]
  rw [s3, bS, e1, e2, cT, bS, Sv om g j h.X ins hx.p hx.i hx.v hx.r om om om (fun m hm => by
   obtain ⟨x, x1, x2⟩ := List.mem_flatten.1 hm
   obtain ⟨d, d1, rfl⟩ := n2 x x1
   exact (hd d d1).n m x2), bS, El]
  cases ieq (AO g j h.X ins.flatten).2 0
  · rw [cF, cF, L5 K _ _ (by show w.Out.length ≤ _; omega)]; rfl
  · rw [cT, cT, GS K _ _ (by show w.Out.length ≤ _; omega), bS, p1]; rfl
theorem JM {g : GGraph} {j : GJob} {x : GPart} (h : Av g j x = true) (hn : A3 x) : SmlP x := by
 obtain ⟨hc, p0, pj, _, _, hv, hr, hin⟩ := DD h
 obtain ⟨hg, _, _, _, _, _, _, _, j6⟩ := Au hc
 obtain ⟨g1, g2, _, _⟩ := AQ hg
 have hl := Ft g j g2 x.P
 obtain ⟨i1, i2⟩ := FI hin
 have h3 := Fi (fun m : GMsg => m.To) g.N x.In (-1) i1 fun m hm => by have := i2 m hm; omega
 have hcv : AL g j x.P = ((Ak g j x.P).length : Int) := rfl
 exact ⟨by omega, by omega, by omega, by unfold i64; omega, hn⟩
structure WI (g : GGraph) (j : GJob) (id : Int) (n : Nat) (w : GWorker) : Prop where
 id : w.Id = id
 goal : -1 ≤ w.Goal ∧ w.Goal ≤ 1099511627776
 tab : Ci w.T = true
 ok : HOk w.Held
 mine : ∀ h ∈ w.Held, h.X.P < (w.T.Owners.length : Int) ∧ w.T.Owners.getD h.X.P.toNat 0 = w.Id ∧ Av g j h.X = true ∧ A3 h.X
 bl : w.Buf.length ≤ n
 bd : ∀ d ∈ w.Buf, SmlD d
 cl : w.Coming.length ≤ n
 cd : ∀ c ∈ w.Coming, SmlP c.X
 ol : w.Out.length ≤ n
 od : ∀ p ∈ w.Out, FitM 100 p.M
section
variable {g : GGraph} {j : GJob} {id : Int} {n : Nat} {w : GWorker}
theorem WI.sml (h : WI g j id n w) (hn : n ≤ 400000) : Sml w := ⟨by have := h.ok.len; omega, by have := h.bl; omega, by have := h.cl; omega, by have := h.ol; omega⟩
theorem WI.hx (h : WI g j id n w) : ∀ y ∈ w.Held, SmlP y.X := fun y hy => JM (h.mine y hy).2.2.1 (h.mine y hy).2.2.2
theorem WI.up (h : WI g j id n w) {m : Nat} (hm : n ≤ m) : WI g j id m w := { h with bl := Nat.le_trans h.bl hm, cl := Nat.le_trans h.cl hm, ol := Nat.le_trans h.ol hm }
theorem WI.own (h : WI g j id n w) : Aw w.T = w.T := by rw [Aw, h.tab]; rfl
theorem WI.post (h : WI g j id n w) {m : GMail} (hm : FitM 100 m) : WI g j id (n + 1) (Er w m) :=
 { id := h.id, goal := h.goal, tab := h.tab, ok := h.ok, mine := h.mine, bl := Nat.le_succ_of_le h.bl, bd := h.bd, cl := Nat.le_succ_of_le h.cl, cd := h.cd
   ol := by show (w.Out ++ _).length ≤ _; rw [List.length_append, List.length_singleton]; have := h.ol; omega
   od := fun p hp => by
    rcases List.mem_append.1 hp with hp | hp
    · exact h.od p hp
    · rw [List.mem_singleton.1 hp]; exact hm }
theorem WI.hold (h : WI g j id n w) {x : GPart} (hm : BH g j w x = true) (hn : A3 x) : WI g j id n { w with Held := Db w.Held x } := by
 obtain ⟨m1, m2, m3, m4, m5⟩ := J0 hm
 rw [h.own] at m2 m3
 exact { h with
  ok := h.ok.ins hm
  mine := fun y hy => by
   rcases L3.1 hy with hy | rfl
   · exact h.mine y hy
   · exact ⟨m2, m3, m4, hn⟩ }
theorem WI.since (h : WI g j id n w) (e : Int) : WI g j id n (Fp w e) :=
 { id := h.id, goal := h.goal, tab := h.tab, ok := h.ok, mine := h.mine, bl := Nat.le_trans (GY _ _) h.bl, bd := fun d hd => h.bd d (List.mem_filter.1 hd).1
   cl := Nat.le_trans (GY _ _) h.cl, cd := fun d hd => h.cd d (List.mem_filter.1 hd).1, ol := h.ol, od := h.od }
theorem WI.turn (h : WI g j id n w) {t : GTable} (ht : Ci t = true) (out : List GPost) (ho : out = [] ∨ out = w.Out) : WI g j id n { w with T := t, Goal := -1, Held := [], Out := out } :=
 { id := h.id, goal := ⟨by show (-1 : Int) ≤ -1; omega, by show (-1 : Int) ≤ _; omega⟩, tab := ht, ok := HOk.nil, mine := fun y hy => absurd hy List.not_mem_nil, bl := h.bl, bd := h.bd, cl := h.cl, cd := h.cd
   ol := by rcases ho with rfl | rfl; exact Nat.zero_le _; exact h.ol
   od := by rcases ho with rfl | rfl; exact fun p hp => absurd hp List.not_mem_nil; exact h.od }
theorem HOk.set {l : List GHeld} (h : HOk l) {i : Nat} {y y' : GHeld} (hi : l[i]? = some y) (hp : y'.X.P = y.X.P) : HOk (l.set i y') := by
 have hlt := (List.getElem?_eq_some_iff.1 hi).1
 have he : l[i] = y := (List.getElem?_eq_some_iff.1 hi).2
 constructor
 · rw [List.pairwise_iff_getElem]
   intro a b ha hb hab
   rw [List.length_set] at ha hb
   have := (List.pairwise_iff_getElem.1 h.s) a b ha hb hab
   rw [List.getElem_set, List.getElem_set]
   split
   · subst_vars
     rw [if_neg om, hp]; exact this
   · split
     · subst_vars
       rw [hp]; exact this
     · exact this
 · intro z hz
   rcases List.mem_or_eq_of_mem_set hz with hz | rfl
   · exact h.r z hz
   · rw [hp]; exact h.r y (List.mem_of_getElem? hi)
theorem WI.set (h : WI g j id n w) {i : Nat} {y y' : GHeld} (hi : w.Held[i]? = some y) (hp : y'.X.P = y.X.P) (hr : Av g j y'.X = true) (hn : A3 y'.X) : WI g j id n { w with Held := w.Held.set i y' } := by
 have hy := h.mine y (List.mem_of_getElem? hi)
 exact { h with
  ok := h.ok.set hi hp
  mine := fun z hz => by
   rcases List.mem_or_eq_of_mem_set hz with hz | rfl
   · exact h.mine z hz
   · exact ⟨by rw [hp]; exact hy.1, by rw [hp]; exact hy.2.1, hr, hn⟩ }
theorem WI.data (h : WI g j id n w) {m : GMail} (hm : m.Msgs.length ≤ 100) (hv : ∀ y ∈ m.Msgs, i64 y.V) : WI g j id (n + 1) (Bb w m) := by
 rw [Bb]
 cases ile w.T.Epoch m.Epoch && ilt (AP w.Buf m.Epoch m.Step m.Q m.P) 0
 · exact h.up (Nat.le_succ n)
 · exact { id := h.id, goal := h.goal, tab := h.tab, ok := h.ok, mine := h.mine
           bl := by show (w.Buf ++ _).length ≤ _; rw [List.length_append, List.length_singleton]; have := h.bl; omega
           bd := fun d hd => by
            rcases List.mem_append.1 hd with hd | hd
            · exact h.bd d hd
            · rw [List.mem_singleton.1 hd]; exact ⟨hm, hv⟩
           cl := Nat.le_succ_of_le h.cl, cd := h.cd, ol := Nat.le_succ_of_le h.ol, od := h.od }
structure MI (m : GMail) : Prop where
 f : FitM 100 m
 p : i64 m.X.P
 x : A3 m.X
 s : ∀ y ∈ m.Msgs, i64 y.V
theorem MI.sml {m : GMail} (h : MI m) (hr : Cu m = true) : SmlP m.X := by
 have := h.f
 exact ⟨this.v, this.r, by have := this.x; omega, h.p, h.x⟩
theorem FitM.up {c d : Nat} {m : GMail} (h : FitM c m) (hc : c ≤ d) : FitM d m := ⟨Nat.le_trans h.o hc, Nat.le_trans h.i hc, Nat.le_trans h.n hc, Nat.le_trans h.v hc, Nat.le_trans h.r hc, Nat.le_trans h.x hc, Nat.le_trans h.s hc⟩
theorem JV {j : GJob} {e : Int} {m : GMail} (h : (A9 j e m).2 = true) : Ci (A9 j e m).1 = true ∧ (A9 j e m).1.Epoch = e := by
 rw [A9, Bool.and_eq_true] at h
 exact ⟨h.1, rfl⟩
theorem Ky (h : WI g j id n w) {m : GMail} (hm : MI m) : WI g j id (n + 1) (Eb g j w m) := by
 rw [Eb]
 cases hq : BH g j w m.X
 · exact h.up (Nat.le_succ n)
 · exact (h.hold hq hm.x).post ⟨by simp [Em], by simp [Em], by simp [Em], by simp [Em, A7], by simp [Em, A7], by simp [Em, A7], by simp [Em]⟩
theorem UF (h : WI g j id n w) {m : GMail} (hm : MI m) : WI g j id (n + 1) (Fd g j w m) := by
 rw [Fd]
 cases ht : (A9 j m.Epoch m).2
 · exact h.up (Nat.le_succ n)
 · cases ilt m.Epoch w.T.Epoch
   · cases ilt w.T.Epoch m.Epoch
     · exact Ky h hm
     · exact Ky ((h.turn (JV ht).1 [] (.inl rfl)).since m.Epoch) hm
   · exact h.up (Nat.le_succ n)
theorem PX {m : GMail} (hr : Cu m = true) : 0 ≤ m.Step ∧ m.Step ≤ 1099511627776 := by
 simp only [Cu, Bool.and_eq_true] at hr
 exact (P9 hr.2.2.1).1 m.Step (by simp)
theorem Pl (h : WI g j id n w) {m : GMail} (hr : Cu m = true) : WI g j id n (ER w m) := by
 have := PX hr
 rw [ER]
 cases ieq m.Epoch w.T.Epoch
 · exact h
 · exact { h with goal := ⟨by show -1 ≤ m.Step; omega, this.2⟩ }
theorem VX (h : WI g j id n w) {m : GMail} (hm : MI m) : WI g j id (n + 1) (Gz w m) := by
 rw [Gz]
 cases ieq m.Epoch w.T.Epoch && !(ilt (CZ w.Held m.P) 0)
 · exact h.up (Nat.le_succ n)
 · rw [cT]
   cases hq : w.Held[(CZ w.Held m.P).toNat]? with
   | none => exact h.up (Nat.le_succ n)
   | some y =>
    dsimp only
    rw [I6]
    cases y.Wait || (y.Given || ilt (CA m.Ids m.To) 0)
    · have hy := h.mine y (List.mem_of_getElem? hq)
      have hs := h.hx y (List.mem_of_getElem? hq)
      have h1 := h.set (y' := GHeld.mk y.X y.Wait true) hq rfl hy.2.2.1 hy.2.2.2
      have hin : y.X.In.length ≤ 100 := by
       obtain ⟨hc, _, _, _, _, _, _, hin⟩ := DD hy.2.2.1
       obtain ⟨hg, _⟩ := Au hc
       obtain ⟨_, g2, _, _⟩ := AQ hg
       obtain ⟨i1, i2⟩ := FI hin
       have h3 := Fi (fun m : GMsg => m.To) g.N y.X.In (-1) i1 fun m hm => by have := i2 m hm; omega
       omega
      exact { id := h1.id, goal := h1.goal, tab := h1.tab, ok := h1.ok, mine := h1.mine, bl := Nat.le_succ_of_le h1.bl, bd := h1.bd, cl := Nat.le_succ_of_le h1.cl, cd := h1.cd
              ol := by show (w.Out ++ _).length ≤ _; rw [List.length_append, List.length_singleton]; have := h.ol; omega
              od := fun p hp => by
               rcases List.mem_append.1 hp with hp | hp
               · exact h.od p hp
               · rw [List.mem_singleton.1 hp]; exact ⟨by simp [Fl], by simp [Fl], by simp [Fl], hs.v, hs.r, hin, by simp [Fl]⟩ }
    · exact h.up (Nat.le_succ n)
theorem Q3 (h : WI g j id n w) {m : GMail} (hm : MI m) (hr : Cu m = true) : WI g j id (n + 1) (G9 w m) := by
 rw [G9]
 cases ilt m.Epoch w.T.Epoch || w.Coming.any (isC m.Epoch m.X.P)
 · exact { id := h.id, goal := h.goal, tab := h.tab, ok := h.ok, mine := h.mine, bl := Nat.le_succ_of_le h.bl, bd := h.bd
           cl := by show (w.Coming ++ _).length ≤ _; rw [List.length_append, List.length_singleton]; have := h.cl; omega
           cd := fun c hc => by
            rcases List.mem_append.1 hc with hc | hc
            · exact h.cd c hc
            · rw [List.mem_singleton.1 hc]; exact hm.sml hr
           ol := by show (w.Out ++ _).length ≤ _; rw [List.length_append, List.length_singleton]; have := h.ol; omega
           od := fun p hp => by
            rcases List.mem_append.1 hp with hp | hp
            · exact h.od p hp
            · rw [List.mem_singleton.1 hp]; exact ⟨by simp [EK], by simp [EK], by simp [EK], by simp [EK, A7], by simp [EK, A7], by simp [EK, A7], by simp [EK]⟩ }
 · exact h.up (Nat.le_succ n)
theorem OU (h : WI g j id n w) {x : GPart} (hx : A3 x) : WI g j id n (Cs g j w x) := by
 rw [Cs]
 cases hq : BH g j w x
 · exact h
 · exact h.hold hq hx
theorem JR : ∀ (l : List GPart) {w : GWorker}, WI g j id n w → (∀ x ∈ l, A3 x) → WI g j id n (l.foldl (Cs g j) w)
 | [], w, h, _ => h
 | x :: l, w, h, hx => by
  rw [List.foldl_cons]
  exact JR l (OU h (hx x List.mem_cons_self)) fun y hy => hx y (List.mem_cons_of_mem _ hy)
theorem PE (h : WI g j id n w) (m : GMail) : ∀ x ∈ C2 w m ++ EI w m, A3 x := fun x hx => by
 rcases List.mem_append.1 hx with hx | hx
 · obtain ⟨y, hy, rfl⟩ := List.mem_map.1 hx
   exact (h.mine y (List.mem_filter.1 hy).1).2.2.2
 · obtain ⟨c, hc, rfl⟩ := List.mem_map.1 hx
   exact (h.cd c (List.mem_filter.1 hc).1).n
theorem SC (h : WI g j id n w) (m : GMail) : WI g j id n (G3 g j w m) := by
 rw [G3]
 cases ht : (A9 j m.Fresh m).2
 · exact h
 · cases ile m.Fresh w.T.Epoch
   · exact (JR _ (h.turn (JV ht).1 w.Out (.inr rfl)) (PE h m)).since m.Fresh
   · exact h
theorem L8 (h : WI g j id n w) {m : GMail} (hm : MI m) : WI g j id (n + 1) (EE g j w m) := by
 rw [EE]
 cases ieq (An g j) 0
 · exact h.up (Nat.le_succ n)
 · cases hr : Cu m
   · exact h.up (Nat.le_succ n)
   · simp only [Bool.and_true, cT]
     rw [IW]
     cases ieq m.Kind 1
     · cases ieq m.Kind 3
       · cases ieq m.Kind 4
         · cases ieq m.Kind 6
           · cases ieq m.Kind 7
             · cases ieq m.Kind 9
               · exact h.up (Nat.le_succ n)
               · exact (SC h m).up (Nat.le_succ n)
             · exact Q3 h hm hr
           · exact VX h hm
         · exact h.data hm.f.s hm.s
       · exact (Pl h hr).up (Nat.le_succ n)
     · exact UF h hm
theorem PJ (g : GGraph) (j : GJob) {x : GPart} (hn : A3 x) (h : ieq (doS g j x).2.2 0 = true) : Av g j (doS g j x).1 = true ∧ A3 (doS g j x).1 ∧ (doS g j x).1.P = x.P ∧ (doS g j x).2.1.length ≤ 6 ∧ ∀ l ∈ (doS g j x).2.1, l.length ≤ 100 ∧ ∀ m ∈ l, i64 m.V := by
 rcases M2 g j hn with ⟨e, he, hq⟩ | ⟨hc, hR, h40, w, _, kw, _, hq⟩
 · rw [hq] at h; rw [h] at he; cases he
 · obtain ⟨_, p0, pj, s0, s40, hv, hr, _⟩ := DD hR
   obtain ⟨hg, _, _, _, _, _, _, _, j6⟩ := Au hc
   obtain ⟨g1, g2, _, _⟩ := AQ hg
   have hcv : AL g j x.P = ((Ak g j x.P).length : Int) := rfl
   rw [As] at h40
   rw [hq]
   refine ⟨?_, ⟨kw.va, fun m hm => absurd hm List.not_mem_nil⟩, rfl, ?_, fun l hl => ?_⟩
   · simp only [Av, Bool.and_eq_true, AK, Ad, Af]
     have := kw.la
     have := kw.lb
     exact ⟨Af.1 hc, p0, pj, by omega, by omega, by omega, by omega, rfl⟩
   · show ((List.range j.Parts.toNat).map _).length ≤ 6
     rw [List.length_map, List.length_range]; omega
   · obtain ⟨q, hq, rfl⟩ := List.mem_map.1 hl
     obtain ⟨r1, r2⟩ := H3 (p := j.Prog) (l := toS j w.2.2 (q : Int))
     have h3 := Fi (fun m : GMsg => m.To) g.N _ 0 r1 fun m hm => by
      obtain ⟨s, hs, he⟩ := r2 m hm
      have := kw.vt s (Es hs).1
      omega
     exact ⟨by omega, (Hp fun m hm => kw.vc m (Es hm).1).2⟩
theorem J8 (p : Int) : ∀ (l : List (List GMsg)) (q n : Nat) {w : GWorker}, WI g j id n w → (∀ x ∈ l, x.length ≤ 100 ∧ ∀ m ∈ x, i64 m.V) → WI g j id (n + l.length) (AY p q l w)
 | [], q, n, w, h, _ => h
 | x :: l, q, n, w, h, hx => by
  rw [AY, List.length_cons, show n + (l.length + 1) = (n + 1) + l.length by omega]
  obtain ⟨x1, x2⟩ := hx x List.mem_cons_self
  refine J8 p l (q + 1) (n + 1) ?_ fun y hy => hx y (List.mem_cons_of_mem _ hy)
  rw [Ck]
  cases ieq (toT w.T (q : Int)).1 w.Id
  · exact { id := h.id, goal := h.goal, tab := h.tab, ok := h.ok, mine := h.mine, bl := Nat.le_succ_of_le h.bl, bd := h.bd, cl := Nat.le_succ_of_le h.cl, cd := h.cd
            ol := by show (w.Out ++ _).length ≤ _; rw [List.length_append, List.length_singleton]; have := h.ol; omega
            od := fun p hp => by
             rcases List.mem_append.1 hp with hp | hp
             · exact h.od p hp
             · rw [List.mem_singleton.1 hp]; exact ⟨by simp [AR], by simp [AR], by simp [AR], by simp [AR, A7], by simp [AR, A7], by simp [AR, A7], x1⟩ }
  · exact h.data x1 x2
theorem Me (w : GWorker) (p : Int) : FitM 100 (Eg w p) := ⟨by simp [Eg], by simp [Eg], by simp [Eg], by simp [Eg, A7], by simp [Eg, A7], by simp [Eg, A7], by simp [Eg]⟩
theorem Pb (h : WI g j id n w) {i : Nat} {y : GHeld} (hi : w.Held[i]? = some y) : WI g j id (n + 6) (Bt g j w i y).2 := by
 have hy := h.mine y (List.mem_of_getElem? hi)
 rw [Bt]
 cases ieq (doS g j y.X).2.2 6 || ieq (doS g j y.X).2.2 1
 · cases h0 : ieq (doS g j y.X).2.2 0
   · exact ((h.set (y' := GHeld.mk y.X true y.Given) hi rfl hy.2.2.1 hy.2.2.2).post (Me _ _)).up om
   · obtain ⟨d1, d2, d3, d4, d5⟩ := PJ g j hy.2.2.2 h0
     exact (J8 y.X.P _ 0 n (h.set (y' := GHeld.mk (doS g j y.X).1 true y.Given) hi d3 d1 d2) d5).up om
 · exact h.up om
theorem NX {x : GPart} (hx : A3 x) {l : List GMsg} (hl : ∀ m ∈ l, i64 m.V) : A3 (AO g j x l).1 := by
 have hz : A3 Cq := ⟨fun v hv => absurd hv List.not_mem_nil, fun m hm => absurd hm List.not_mem_nil⟩
 rw [AO]
 cases ieq (An g j) 0
 · exact hz
 · cases Av g j x
   · exact hz
   · cases ieq (nlen (len x.In)) 0
     · exact hz
     · cases CK g.N j.Parts x.P l
       · exact hz
       · simp only [cT]
         rw [Gp]
         cases ieq (Am j.Prog l).2 0
         · exact hz
         · exact ⟨hx.1, (Hp hl).2⟩
theorem O1 {x : GPart} {l : List GMsg} (h : ieq (AO g j x l).2 0 = true) : (AO g j x l).1.P = x.P := by
 have key : ∀ (a : GPart) (e : Int), ieq e 0 = true → ieq e 0 = true := fun _ _ h => h
 rw [AO] at h ⊢
 cases hc : ieq (An g j) 0
 · rw [hc] at h
   simp only [cF] at h
   rw [hc] at h; cases h
 · rw [hc] at h
   cases hp : Av g j x
   · rw [hp] at h; cases h
   · rw [hp] at h
     cases hi : ieq (nlen (len x.In)) 0
     · rw [hi] at h; cases h
     · rw [hi] at h
       cases ht : CK g.N j.Parts x.P l
       · rw [ht] at h; cases h
       · rw [ht] at h
         simp only [cT] at h ⊢
         rw [Gp] at h ⊢
         cases hb : ieq (Am j.Prog l).2 0
         · rw [hb] at h
           simp only [cF] at h
           rw [hb] at h; cases h
         · rfl
theorem NS (h : WI g j id n w) {i : Nat} {y : GHeld} (hi : w.Held[i]? = some y) : WI g j id (n + 1) (CF g j w i y) := by
 have hy := h.mine y (List.mem_of_getElem? hi)
 rw [CF]
 cases hq : Bk w.Buf w.T.Epoch w.Goal y.X.P (List.range j.Parts.toNat) with
 | none => exact h.up (Nat.le_succ n)
 | some ins =>
  dsimp only
  have hins : ∀ m ∈ ins.flatten, i64 m.V := fun m hm => by
   obtain ⟨x, x1, x2⟩ := List.mem_flatten.1 hm
   obtain ⟨d, d1, rfl⟩ := (IY hq).2 x x1
   exact (h.bd d d1).n m x2
  have hb : ∀ {w' : GWorker}, WI g j id n w' → w'.Buf = w.Buf → WI g j id n { w' with Buf := w.Buf.filter (DA w j.Parts y.X.P) } := fun h' e =>
   { h' with bl := Nat.le_trans (GY _ _) h.bl, bd := fun d hd => h.bd d (List.mem_filter.1 hd).1 }
  rw [El]
  cases h0 : ieq (AO g j y.X ins.flatten).2 0
  · exact (hb h rfl).post (Me _ _)
  · have r1 := (OV h0).1
    have r2 := NX (g := g) (j := j) hy.2.2.2 hins
    have r3 := JM r1 r2
    have hin : (AO g j y.X ins.flatten).1.In.length ≤ 100 := by
     obtain ⟨hc, _, _, _, _, _, _, hin⟩ := DD r1
     obtain ⟨hg, _⟩ := Au hc
     obtain ⟨_, g2, _, _⟩ := AQ hg
     obtain ⟨i1, i2⟩ := FI hin
     have h3 := Fi (fun m : GMsg => m.To) g.N _ (-1) i1 fun m hm => by have := i2 m hm; omega
     omega
    exact (hb (h.set (y' := GHeld.mk (AO g j y.X ins.flatten).1 false false) hi (O1 h0) r1 r2) rfl).post ⟨by simp [D7], by simp [D7], by simp [D7], r3.v, r3.r, hin, by simp [D7]⟩
end
theorem Iu {α σ β : Type} {step : α → σ → (σ → Option β) → Option β} {fin : σ → Option β} (P : Nat → σ → Prop) (f : σ → α → σ) : ∀ (l : List α) (s : σ), P l.length s → (∀ x ∈ l, ∀ n s, P (n + 1) s → P n (f s x) ∧ ∀ c, step x s c = c (f s x)) →
 goL step fin l s = fin (l.foldl f s) ∧ P 0 (l.foldl f s)
 | [], s, hs, _ => ⟨rfl, hs⟩
 | x :: l, s, hs, h => by
  obtain ⟨h1, h2⟩ := h x List.mem_cons_self l.length s hs
  rw [goL, h2, List.foldl_cons]
  exact Iu P f l (f s x) h1 fun y hy => h y (List.mem_cons_of_mem _ hy)
def EH (g : GGraph) (j : GJob) (s : GWorker × List GDid) (i : Nat) : GWorker × List GDid := match s.1.Held[i]? with
 | some h => bif h.Wait || (h.Given || !(ieq h.X.Step s.1.Goal)) then s else ((Bt g j s.1 i h).2, s.2 ++ (Bt g j s.1 i h).1)
 | none => s
def Ar (g : GGraph) (j : GJob) (w : GWorker) : GWorker × List GDid := (List.range w.Held.length).foldl (EH g j) (w, [])
def DE (g : GGraph) (j : GJob) (w : GWorker) (i : Nat) : GWorker := match w.Held[i]? with
 | some h => bif h.Wait && ieq h.X.Step (w.Goal + 1) then CF g j w i h else w
 | none => w
def Ca (g : GGraph) (j : GJob) (w : GWorker) : GWorker := (List.range w.Held.length).foldl (DE g j) w
section
variable {g : GGraph} {j : GJob} {id : Int} {n : Nat} {w : GWorker}
theorem I7 (p : Int) : ∀ (l : List (List GMsg)) (q : Nat) (w : GWorker), (AY p q l w).Held = w.Held ∧ (AY p q l w).T = w.T ∧ (AY p q l w).Goal = w.Goal ∧ (AY p q l w).Id = w.Id ∧ (AY p q l w).Until = w.Until ∧ (AY p q l w).Coming = w.Coming
 | [], _, _ => ⟨rfl, rfl, rfl, rfl, rfl, rfl⟩
 | x :: l, q, w => by
  obtain ⟨a, b, c, d, e, f⟩ := I7 p l (q + 1) (Ck p w q x)
  have h : (Ck p w q x).Held = w.Held ∧ (Ck p w q x).T = w.T ∧ (Ck p w q x).Goal = w.Goal ∧ (Ck p w q x).Id = w.Id ∧ (Ck p w q x).Until = w.Until ∧ (Ck p w q x).Coming = w.Coming := by
   rw [Ck]
   cases ieq (toT w.T (q : Int)).1 w.Id
   · exact ⟨rfl, rfl, rfl, rfl, rfl, rfl⟩
   · rw [cT, Bb]
     cases ile w.T.Epoch (AR w p q x).Epoch && ilt (AP w.Buf (AR w p q x).Epoch (AR w p q x).Step (AR w p q x).Q (AR w p q x).P) 0 <;> exact ⟨rfl, rfl, rfl, rfl, rfl, rfl⟩
  rw [AY]
  exact ⟨a.trans h.1, b.trans h.2.1, c.trans h.2.2.1, d.trans h.2.2.2.1, e.trans h.2.2.2.2.1, f.trans h.2.2.2.2.2⟩
theorem T2 (g : GGraph) (j : GJob) (w : GWorker) (i : Nat) (h : GHeld) : (Bt g j w i h).2.Held.length = w.Held.length ∧ (Bt g j w i h).2.T = w.T ∧ (Bt g j w i h).2.Goal = w.Goal ∧ (Bt g j w i h).1.length ≤ 1 := by
 rw [Bt]
 cases ieq (doS g j h.X).2.2 6 || ieq (doS g j h.X).2.2 1
 · cases ieq (doS g j h.X).2.2 0
   · exact ⟨List.length_set, rfl, rfl, Nat.zero_le _⟩
   · obtain ⟨a, b, c, _⟩ := I7 h.X.P (doS g j h.X).2.1 0 { w with Held := w.Held.set i (GHeld.mk (doS g j h.X).1 true h.Given) }
     exact ⟨(congrArg List.length a).trans List.length_set, b, c, Nat.le_refl _⟩
 · exact ⟨rfl, rfl, rfl, Nat.zero_le _⟩
theorem QM (g : GGraph) (j : GJob) (w : GWorker) (i : Nat) (h : GHeld) : (CF g j w i h).Held.length = w.Held.length ∧ (CF g j w i h).T = w.T ∧ (CF g j w i h).Goal = w.Goal := by
 rw [CF]
 cases Bk w.Buf w.T.Epoch w.Goal h.X.P (List.range j.Parts.toNat) with
 | none => exact ⟨rfl, rfl, rfl⟩
 | some ins =>
  dsimp only
  rw [El]
  cases ieq (AO g j h.X ins.flatten).2 0
  · exact ⟨rfl, rfl, rfl⟩
  · exact ⟨List.length_set, rfl, rfl⟩
abbrev WT3 : Type := Int × Int × Int × Int × List Int × List Int × List Int × List GHeld × List GData × List GComing × List GPost × List GDid
abbrev wt3 (w : GWorker) (a : List GDid) : WT3 := (w.Id, (w.Goal, (w.Until, (w.T.Epoch, (w.T.Owners, (w.T.Ids, (w.T.Incs, (w.Held, (w.Buf, (w.Coming, (w.Out, a)))))))))))
theorem M9 {K : Nat} (hK : 1000000 ≤ K) (h : WI g j id n w) (hn : n ≤ 300000) :
 DX K g j w K w.Id w.Goal w.Until w.T.Epoch w.T.Owners w.T.Ids w.T.Incs w.Held w.Buf w.Coming w.Out [] 0 = some (wt3 (Ar g j w).1 (Ar g j w).2) ∧ WI g j id (n + 36) (Ar g j w).1 ∧ (Ar g j w).1.Held.length = w.Held.length ∧ (Ar g j w).1.T = w.T ∧ (Ar g j w).1.Goal = w.Goal := by
 have hl := h.ok.len
 let step : Nat → GWorker × List GDid → (GWorker × List GDid → Option WT3) → Option WT3 := fun i s c =>
  bif inr (i : Int) (len s.1.Held) then (elAt s.1.Held (i : Int)).bind fun x => bif x.Wait then c s else bif x.Given then c s else bif ieq x.X.Step s.1.Goal then (Fc K s.1 g j (i : Int)).bind fun r => bif apok (len s.2) (len r.1) 24 then c (r.2, appL s.2 r.1) else none else c s else none
 have hs := EM (N := nlen (len w.Held)) (L := fun k (s : GWorker × List GDid) i => DX K g j w k s.1.Id s.1.Goal s.1.Until s.1.T.Epoch s.1.T.Owners s.1.T.Ids s.1.T.Incs s.1.Held s.1.Buf s.1.Coming s.1.Out s.2 i) step (fun s => some (wt3 s.1 s.2)) (fun k s i _ => rfl) (by rw [Cz]; omega) (K := K) (by rw [Cz]; omega) (w, [])
 have hN : (nlen (len w.Held)).toNat = w.Held.length := by rw [Cz]; exact Int.toNat_natCast _
 rw [hN] at hs
 have e := Iu (step := step) (fin := fun s => some (wt3 s.1 s.2)) (fun m s => m ≤ 6 ∧ WI g j id (n + 36 - 6 * m) s.1 ∧ s.2.length + m ≤ 6 ∧ s.1.Held.length = w.Held.length ∧ s.1.T = w.T ∧ s.1.Goal = w.Goal) (EH g j) (List.range w.Held.length) (w, []) ⟨by simp; omega, h.up (by simp; omega), by simp; omega, rfl, rfl, rfl⟩ (fun i hi m s ⟨p1, p2, p3, p4, p5, p6⟩ => by
  have hi' : i < s.1.Held.length := by rw [p4]; exact List.mem_range.1 hi
  have hy : s.1.Held[i]? = some s.1.Held[i] := List.getElem?_eq_getElem hi'
  have c1 : inr (i : Int) (len s.1.Held) = true := decide_eq_true ⟨by omega, by show (i : Int) < (s.1.Held.length : Int); omega⟩
  have c2 : elAt s.1.Held (i : Int) = some s.1.Held[i] := by rw [Bg]; exact hy
  have e0 : ∀ c, step i s c = bif s.1.Held[i].Wait then c s else bif s.1.Held[i].Given then c s else bif ieq s.1.Held[i].X.Step s.1.Goal then (Fc K s.1 g j (i : Int)).bind fun r => bif apok (len s.2) (len r.1) 24 then c (r.2, appL s.2 r.1) else none else c s := fun c => by
   show (bif inr (i : Int) (len s.1.Held) then _ else _) = _
   rw [c1, c2, cT, bS]
  have stay : (m ≤ 6 ∧ WI g j id (n + 36 - 6 * m) s.1 ∧ s.2.length + m ≤ 6 ∧ s.1.Held.length = w.Held.length ∧ s.1.T = w.T ∧ s.1.Goal = w.Goal) := ⟨by omega, p2.up om, by omega, p4, p5, p6⟩
  rw [EH, hy]
  dsimp only
  simp only [e0]
  cases s.1.Held[i].Wait
  · cases s.1.Held[i].Given
    · cases ieq s.1.Held[i].X.Step s.1.Goal
      · exact ⟨stay, fun c => rfl⟩
      · have hsml := p2.sml om
        have hf := Oj hK g j s.1 i s.1.Held[i] hy (p2.hx _ (List.getElem_mem hi')) (by have := hsml.b; omega) (by have := hsml.o; omega)
        obtain ⟨k1, k2, k3, k4⟩ := T2 g j s.1 i s.1.Held[i]
        refine ⟨⟨by omega, (Pb p2 hy).up om, ?_, k1.trans p4, k2.trans p5, k3.trans p6⟩, fun c => ?_⟩
        · show (s.2 ++ (Bt g j s.1 i s.1.Held[i]).1).length + m ≤ 6
          rw [List.length_append]; omega
        · simp only [cF, cT, Bool.or_false, Bool.not_true, hf, bS]
          rw [Bp (by show s.2.length + (Bt g j s.1 i s.1.Held[i]).1.length ≤ _; omega) om]; rfl
    · exact ⟨stay, fun c => rfl⟩
  · exact ⟨stay, fun c => rfl⟩)
 obtain ⟨e1, _, e2, _, e3, e4, e5⟩ := e
 exact ⟨hs.trans e1, e2, e3, e4, e5⟩
theorem MF {K : Nat} (hK : 1000000 ≤ K) (hc : ieq (An g j) 0 = true) (h : WI g j id n w) (hn : n ≤ 300000) (hg : i64 (w.Goal + 1)) (a : List GDid) (b : Nat) (hb : b = w.Held.length) {r : WT3} (hr : len r.2.2.2.2.2.2.2.1 = b) :
 DY K g j r K w.Id w.Goal w.Until w.T.Epoch w.T.Owners w.T.Ids w.T.Incs w.Held w.Buf w.Coming w.Out 0 = some (wt (Ca g j w)) ∧ WI g j id (n + 6) (Ca g j w) ∧ (Ca g j w).T = w.T := by
 have hl := h.ok.len
 obtain ⟨_, _, _, _, _, _, _, _, j6⟩ := Au hc
 let step : Nat → GWorker → (GWorker → Option WT) → Option WT := fun i s c =>
  bif inr (i : Int) (len s.Held) then (elAt s.Held (i : Int)).bind fun x => bif x.Wait then (bif ieq x.X.Step (wadd .i64 s.Goal 1) then (Fg K s g j (i : Int)).bind fun r => c r else c s) else c s else none
 have hs := EM (N := nlen (len r.2.2.2.2.2.2.2.1)) (L := fun k (s : GWorker) i => DY K g j r k s.Id s.Goal s.Until s.T.Epoch s.T.Owners s.T.Ids s.T.Incs s.Held s.Buf s.Coming s.Out i) step (fun s => some (wt s)) (fun k s i _ => rfl) (by rw [hr]; show (b : Int) ≤ _; omega) (K := K) (by rw [hr]; show (b : Int).toNat < _; omega) w
 have hN : (nlen (len r.2.2.2.2.2.2.2.1)).toNat = w.Held.length := by rw [hr, hb]; exact Int.toNat_natCast _
 rw [hN] at hs
 have e := Iu (step := step) (fin := fun s => some (wt s)) (fun m s => m ≤ 6 ∧ WI g j id (n + 6 - m) s ∧ s.Held.length = w.Held.length ∧ s.T = w.T ∧ s.Goal = w.Goal) (DE g j) (List.range w.Held.length) w ⟨by simp; omega, h.up (by simp; omega), rfl, rfl, rfl⟩ (fun i hi m s ⟨p1, p2, p4, p5, p6⟩ => by
  have hi' : i < s.Held.length := by rw [p4]; exact List.mem_range.1 hi
  have hy : s.Held[i]? = some s.Held[i] := List.getElem?_eq_getElem hi'
  have c1 : inr (i : Int) (len s.Held) = true := decide_eq_true ⟨by omega, by show (i : Int) < (s.Held.length : Int); omega⟩
  have c2 : elAt s.Held (i : Int) = some s.Held[i] := by rw [Bg]; exact hy
  have c3 : wadd .i64 s.Goal 1 = s.Goal + 1 := by rw [p6]; exact Jq (by have := hg.1; omega) (by have := hg.2; omega)
  have e0 : ∀ c, step i s c = bif s.Held[i].Wait then (bif ieq s.Held[i].X.Step (s.Goal + 1) then (Fg K s g j (i : Int)).bind fun r => c r else c s) else c s := fun c => by
   show (bif inr (i : Int) (len s.Held) then _ else _) = _
   rw [c1, c2, cT, bS, c3]
  have stay : (m ≤ 6 ∧ WI g j id (n + 6 - m) s ∧ s.Held.length = w.Held.length ∧ s.T = w.T ∧ s.Goal = w.Goal) := ⟨by omega, p2.up om, p4, p5, p6⟩
  rw [DE, hy]
  dsimp only
  simp only [e0]
  cases s.Held[i].Wait
  · exact ⟨stay, fun c => rfl⟩
  · cases ieq s.Held[i].X.Step (s.Goal + 1)
    · exact ⟨stay, fun c => rfl⟩
    · have hsml := p2.sml om
      have hf := SU hK g j s i s.Held[i] hy (p2.hx _ (List.getElem_mem hi')) (by have := hsml.b; omega) p2.bd (by have := hsml.o; omega) j6
      obtain ⟨k1, k2, k3⟩ := QM g j s i s.Held[i]
      refine ⟨⟨by omega, (NS p2 hy).up om, k1.trans p4, k2.trans p5, k3.trans p6⟩, fun c => ?_⟩
      simp only [cT, Bool.and_self, hf, bS])
 obtain ⟨e1, _, e2, e3, e4, e5⟩ := e
 exact ⟨hs.trans e1, e2, e4⟩
def I9 (g : GGraph) (j : GJob) (w : GWorker) (now : Int) : GWorker × List GPost × List GDid :=
 bif ieq (An g j) 0 && ilt now w.Until then ({ Ca g j (Ar g j w).1 with Out := [] }, (Ca g j (Ar g j w).1).Out, (Ar g j w).2) else (w, [], [])
theorem UN {K : Nat} (hK : 1000000 ≤ K) (h : WI g j id n w) (hn : n ≤ 200000) (now : Int) : F14 K g j w now = some (I9 g j w now) := by
 have hg : i64 (w.Goal + 1) := by have := h.goal; unfold i64; omega
 rw [F14, Ir K w (h.sml om), bS, E1 om, bS, I9]
 cases hc : ieq (An g j) 0
 · rfl
 · rw [cT, Bool.true_and]
   show (some (ilt now w.Until)).bind _ = _
   rw [bS]
   cases ilt now w.Until
   · rfl
   · obtain ⟨d1, d2, d3, d4, d5⟩ := M9 hK h om
     rw [cT, cT, d1, bS]
     obtain ⟨c1, _, _⟩ := MF hK hc d2 om (by rw [d5]; exact hg) [] _ rfl (r := wt3 (Ar g j w).1 (Ar g j w).2) rfl
     have c1' : DY K g j (wt3 (Ar g j w).1 (Ar g j w).2) K (Ar g j w).1.Id (Ar g j w).1.Goal (Ar g j w).1.Until (Ar g j w).1.T.Epoch (Ar g j w).1.T.Owners (Ar g j w).1.T.Ids (Ar g j w).1.T.Incs (Ar g j w).1.Held (Ar g j w).1.Buf (Ar g j w).1.Coming (Ar g j w).1.Out 0 = _ := c1
     dsimp only [wt3] at c1' ⊢
     rw [c1']; rfl
end
section
variable {g : GGraph} {j : GJob} {id : Int}
theorem Sg (K : Nat) (g : GGraph) : F9 K g = some (ilt 200 (g.Edges.length : Int)) := by rw [F9]; rfl
end
def opS (p a b : Int) : Option Int := if p = 5 then (if 0 ≤ a ∧ 0 ≤ b ∧ a + b ≤ 9223372036854775807 then some (a + b) else none) else some (Al p a b).1
theorem Tz (p a b : Int) : opS p a b = opS p b a := by
 unfold opS
 rw [Ny p a b]
 split
 · rw [Int.add_comm b a]
   by_cases h : 0 ≤ a ∧ 0 ≤ b ∧ a + b ≤ 9223372036854775807
   · rw [if_pos h, if_pos ⟨h.2.1, h.1, h.2.2⟩]
   · rw [if_neg h, if_neg (fun q => h ⟨q.2.1, q.1, q.2.2⟩)]
 · rfl
theorem Hr (p a b : Int) (hb : Ao p = false) (h5 : p ≠ 5) : (Al p a b).2 = 0 := by
 rw [Al, hb, As.2 h5]
 simp only [cF]
 cases ieq p 4
 · cases ilt b a <;> rfl
 · cases ilt a b <;> rfl
theorem Wf (p a b c : Int) (hb : Ao p = false) : ((opS p a b).bind fun x => opS p x c) = (opS p b c).bind fun x => opS p a x := by
 by_cases h5 : p = 5
 · have e : ∀ x y, opS p x y = if 0 ≤ x ∧ 0 ≤ y ∧ x + y ≤ 9223372036854775807 then some (x + y) else none := fun x y => by rw [opS, if_pos h5]
   simp only [e]
   by_cases h : 0 ≤ a ∧ 0 ≤ b ∧ 0 ≤ c ∧ a + b + c ≤ 9223372036854775807
   · obtain ⟨h1, h2, h3, h4⟩ := h
     rw [if_pos ⟨h1, h2, by omega⟩, if_pos ⟨h2, h3, by omega⟩, bS, bS, if_pos ⟨by omega, h3, h4⟩, if_pos ⟨h1, by omega, by omega⟩, Int.add_assoc]
   · have l : ((if 0 ≤ a ∧ 0 ≤ b ∧ a + b ≤ 9223372036854775807 then some (a + b) else none).bind fun x => if 0 ≤ x ∧ 0 ≤ c ∧ x + c ≤ 9223372036854775807 then some (x + c) else none) = none := by
      by_cases q : 0 ≤ a ∧ 0 ≤ b ∧ a + b ≤ 9223372036854775807
      · rw [if_pos q, bS, if_neg (fun q2 => h ⟨q.1, q.2.1, q2.2.1, by omega⟩)]
      · rw [if_neg q]; rfl
     have r : ((if 0 ≤ b ∧ 0 ≤ c ∧ b + c ≤ 9223372036854775807 then some (b + c) else none).bind fun x => if 0 ≤ a ∧ 0 ≤ x ∧ a + x ≤ 9223372036854775807 then some (a + x) else none) = none := by
      by_cases q : 0 ≤ b ∧ 0 ≤ c ∧ b + c ≤ 9223372036854775807
      · rw [if_pos q, bS, if_neg (fun q2 => h ⟨q2.1, q.1, q.2.1, by omega⟩)]
      · rw [if_neg q]; rfl
     rw [l, r]
 · have e : ∀ x y, opS p x y = some (Al p x y).1 := fun x y => by rw [opS, if_neg h5]
   simp only [e, bS]
   rw [Sn (Hr p a b hb h5) (Hr p _ c hb h5) (Hr p b c hb h5)]
abbrev Acc := Option (Option Int)
def Ax (p : Int) : Acc → Acc → Acc
 | none, y => y
 | some x, none => some x
 | some x, some y => some (x.bind fun a => y.bind fun b => opS p a b)
theorem Gv (p : Int) (x : Acc) : Ax p x none = x := by cases x <;> rfl
theorem Lm (p : Int) (x y : Acc) : Ax p x y = Ax p y x := by
 cases x with
 | none => exact (Gv p y).symm
 | some x => cases y with
  | none => rfl
  | some y =>
   cases x with
   | none => cases y <;> rfl
   | some a => cases y with
    | none => rfl
    | some b => show some (opS p a b) = some (opS p b a); rw [Tz]
theorem Hu (p : Int) (hb : Ao p = false) (x y z : Acc) : Ax p (Ax p x y) z = Ax p x (Ax p y z) := by
 cases x with
 | none => rfl
 | some x => cases y with
  | none => rfl
  | some y => cases z with
   | none => rw [Gv, Gv]
   | some z =>
    cases x with
    | none => cases y <;> cases z <;> rfl
    | some a => cases y with
     | none => cases z <;> rfl
     | some b => cases z with
      | none => show some ((opS p a b).bind fun a => none) = some none; cases opS p a b <;> rfl
      | some c => show some ((opS p a b).bind fun x => opS p x c) = some ((opS p b c).bind fun x => opS p a x); rw [Wf p a b c hb]
theorem Lb (p : Int) (x : Acc) : Ax p x (some none) = some none := by
 cases x with
 | none => rfl
 | some x => cases x <;> rfl
theorem LT (p : Int) (x : Acc) : Ax p (some none) x = some none := by rw [Lm, Lb]
def AA (t : Int) (m : GMsg) : Acc := if m.To = t then some (some m.V) else none
def acc (p t : Int) : List GMsg → Acc
 | [] => none
 | m :: l => Ax p (AA t m) (acc p t l)
theorem HL (p t : Int) (hb : Ao p = false) : ∀ (l l' : List GMsg), acc p t (l ++ l') = Ax p (acc p t l) (acc p t l')
 | [], l' => rfl
 | m :: l, l' => by
  show Ax p (AA t m) (acc p t (l ++ l')) = Ax p (Ax p (AA t m) (acc p t l)) (acc p t l')
  rw [HL p t hb l l', Hu p hb]
theorem IX (p t : Int) (hb : Ao p = false) {l l' : List GMsg} (h : l.Perm l') : acc p t l = acc p t l' := by
 induction h with
 | nil => rfl
 | cons x _ ih => show Ax p _ _ = Ax p _ _; rw [ih]
 | swap x y l =>
  show Ax p (AA t y) (Ax p (AA t x) (acc p t l)) = Ax p (AA t x) (Ax p (AA t y) (acc p t l))
  rw [← Hu p hb, Lm p (AA t y), Hu p hb]
 | trans _ _ i1 i2 => exact i1.trans i2
theorem Hc (p t : Int) : ∀ {l : List GMsg}, (∀ m ∈ l, m.To ≠ t) → acc p t l = none
 | [], _ => rfl
 | m :: l, h => by
  show Ax p (AA t m) (acc p t l) = none
  rw [Hc p t fun x hx => h x (List.mem_cons_of_mem _ hx), AA, if_neg (h m List.mem_cons_self)]; rfl
theorem Hh (p t : Int) : ∀ {l : List GMsg}, acc p t l ≠ none → ∃ m ∈ l, m.To = t := fun {l} h => by
 by_cases q : ∃ m ∈ l, m.To = t
 · exact q
 · exact absurd (Hc p t fun m hm e => q ⟨m, hm, e⟩) h
theorem Hv (p t : Int) (f : GMsg → Bool) (hf : ∀ m, m.To = t → f m = true) : ∀ (l : List GMsg), acc p t (l.filter f) = acc p t l
 | [] => rfl
 | m :: l => by
  rw [List.filter_cons]
  by_cases h : m.To = t
  · rw [if_pos (hf m h)]
    show Ax p _ _ = Ax p _ _
    rw [Hv p t f hf l]
  · have e : acc p t (m :: l) = acc p t l := by show Ax p (AA t m) _ = _; rw [AA, if_neg h]; rfl
    rw [e]
    split
    · have e' : acc p t (m :: l.filter f) = acc p t (l.filter f) := by show Ax p (AA t m) _ = _; rw [AA, if_neg h]; rfl
      rw [e', Hv p t f hf l]
    · exact Hv p t f hf l
def De (p : Int) (m : GMsg) : Prop := p = 5 → 0 ≤ m.V
theorem QR {p a b : Int} (hb : Ao p = false) (h1 : p = 5 → 0 ≤ a) (h2 : p = 5 → 0 ≤ b) :
 (ieq (Al p a b).2 0 = true ∧ opS p a b = some (Al p a b).1 ∧ (p = 5 → 0 ≤ (Al p a b).1)) ∨ (ieq (Al p a b).2 0 = false ∧ (Al p a b).2 = 8 ∧ opS p a b = none) := by
 by_cases h5 : p = 5
 · have q1 := h1 h5
   have q2 := h2 h5
   have e : Al p a b = bif AF (a + b) then (a + b, 0) else (0, 8) := by
    rw [Al, hb, Af.2 h5, Be]
    cases AF (a + b) <;> rfl
   rw [opS, if_pos h5, e]
   cases hf : AF (a + b)
   · have := DG.1 hf
     exact .inr ⟨rfl, rfl, if_neg om⟩
   · have := Cm.1 hf
     unfold i64 at this
     exact .inl ⟨rfl, if_pos ⟨q1, q2, this.2⟩, fun _ => by show 0 ≤ a + b; omega⟩
 · exact .inl ⟨Af.2 (Hr p a b hb h5), by rw [opS, if_neg h5], fun h => absurd h h5⟩
theorem Oh (p : Int) (hb : Ao p = false) : ∀ (r : List GMsg) (c : GMsg) (d : List GMsg), (∀ x ∈ r, c.To ≤ x.To) → r.Pairwise (fun a b => a.To ≤ b.To) → De p c → (∀ x ∈ r, De p x) →
 ((∃ t, acc p t (c :: r) = some none) ∧ Bz p r c d = .inl 8) ∨
 ∃ w, Bz p r c d = .inr (d ++ w) ∧ w.Pairwise (fun a b => a.To < b.To) ∧ (∀ m ∈ w, c.To ≤ m.To) ∧ (∀ t, acc p t (c :: r) ≠ some none) ∧ ∀ m, m ∈ w ↔ acc p m.To (c :: r) = some (some m.V) := by
 intro r
 induction r with
 | nil =>
  intro c d _ _ _ _
  have e : ∀ t, acc p t [c] = AA t c := fun t => Gv p _
  refine .inr ⟨[c], rfl, List.pairwise_singleton _ _, fun m hm => by rw [List.mem_singleton.1 hm]; omega, fun t => ?_, fun m => ?_⟩
  · rw [e, AA]; split <;> simp
  · rw [e, AA, List.mem_singleton]
    constructor
    · rintro rfl; rw [if_pos rfl]
    · intro h
      split at h
      · rename_i h1
        have h2 : c.V = m.V := by simpa using h
        cases m; cases c; simp_all
      · cases h
 | cons x r ih =>
  intro c d hc hr hn hnr
  obtain ⟨hx, hr'⟩ := List.pairwise_cons.1 hr
  have hnx := hnr x List.mem_cons_self
  have hnr' := fun y hy => hnr y (List.mem_cons_of_mem _ hy)
  rw [Bz]
  cases h1 : ieq c.To x.To
  · have hne := As.1 h1
    have hlt : c.To < x.To := by have := hc x List.mem_cons_self; omega
    have hno : acc p c.To (x :: r) = none := Hc p _ fun m hm => by
     rcases List.mem_cons.1 hm with rfl | hm
     · omega
     · have := hx m hm; omega
    have hc0 : acc p c.To (c :: x :: r) = some (some c.V) := by
     show Ax p (AA c.To c) (acc p c.To (x :: r)) = _
     rw [hno, Gv, AA, if_pos rfl]
    have hcn : ∀ t, c.To ≠ t → acc p t (c :: x :: r) = acc p t (x :: r) := fun t ht => by
     show Ax p (AA t c) (acc p t (x :: r)) = _
     rw [AA, if_neg ht]; rfl
    rw [cF]
    rcases ih x (d ++ [c]) hx hr' hnx hnr' with ⟨⟨t, ht⟩, h2⟩ | ⟨w, h2, h3, h4, h5, h6⟩
    · left
      exact ⟨⟨t, by show Ax p _ (acc p t (x :: r)) = _; rw [ht, Lb]⟩, h2⟩
    · right
      refine ⟨c :: w, by rw [h2, List.append_assoc]; rfl, List.pairwise_cons.2 ⟨fun m hm => by have := h4 m hm; omega, h3⟩, fun m hm => ?_, fun t => ?_, fun m => ?_⟩
      · rcases List.mem_cons.1 hm with rfl | hm
        · omega
        · have := h4 m hm; omega
      · by_cases ht : c.To = t
        · subst ht; rw [hc0]; simp
        · rw [hcn t ht]; exact h5 t
      · rw [List.mem_cons]
        by_cases ht : c.To = m.To
        · rw [← ht, hc0]
          constructor
          · rintro (rfl | h)
            · rfl
            · have := h4 m h; omega
          · intro h
            have h2 : c.V = m.V := by simpa using h
            left
            cases m; cases c; simp_all
        · rw [hcn _ ht, ← h6 m]
          constructor
          · rintro (rfl | h)
            · exact absurd rfl ht
            · exact h
          · exact .inr
  · have heq := Af.1 h1
    have hpair : ∀ t, acc p t (c :: x :: r) = Ax p (Ax p (AA t c) (AA t x)) (acc p t r) := fun t => by
     show Ax p (AA t c) (Ax p (AA t x) (acc p t r)) = _
     rw [Hu p hb]
    rw [cT]
    rcases QR hb hn hnx with ⟨q1, q2, q3⟩ | ⟨q1, q2, q3⟩
    · have hone : ∀ t, Ax p (AA t c) (AA t x) = AA t (GMsg.mk c.To (Al p c.V x.V).1) := fun t => by
       simp only [AA, ← heq]
       by_cases ht : c.To = t
       · rw [if_pos ht, if_pos ht, if_pos ht]
         show some (opS p c.V x.V) = _
         rw [q2]
       · rw [if_neg ht, if_neg ht, if_neg ht]; rfl
      have hall : ∀ t, acc p t (c :: x :: r) = acc p t (GMsg.mk c.To (Al p c.V x.V).1 :: r) := fun t => by rw [hpair, hone]; rfl
      rw [q1, cT]
      rcases ih (GMsg.mk c.To (Al p c.V x.V).1) d (fun y hy => by have := hx y hy; show c.To ≤ y.To; omega) hr' q3 hnr' with ⟨⟨t, ht⟩, h2⟩ | ⟨w, h2, h3, h4, h5, h6⟩
      · exact .inl ⟨⟨t, by rw [hall]; exact ht⟩, h2⟩
      · exact .inr ⟨w, h2, h3, h4, fun t => by rw [hall]; exact h5 t, fun m => by rw [hall]; exact h6 m⟩
    · left
      refine ⟨⟨c.To, ?_⟩, by rw [q1, q2]; rfl⟩
      rw [hpair, AA, if_pos rfl, AA, if_pos heq.symm]
      show Ax p (some (opS p c.V x.V)) _ = _
      rw [q3, LT]
theorem GO {p : Int} (hb : Ao p = false) {l : List GMsg} (hn : ∀ m ∈ l, De p m) :
 (Am p l = ([], 8) ∧ ∃ t, acc p t l = some none) ∨ (∃ w, Am p l = (w, 0) ∧ w.Pairwise (fun a b => a.To < b.To) ∧ (∀ t, acc p t l ≠ some none) ∧ ∀ m, m ∈ w ↔ acc p m.To l = some (some m.V)) := by
 have hp := C4 l
 have hs : (Ay l).Pairwise (fun a b => a.To ≤ b.To) := (FF l).imp fun {a b} h => by have := Gr.1 h; omega
 have ha : ∀ t, acc p t l = acc p t (Ay l) := fun t => (IX p t hb hp).symm
 have hn' : ∀ m ∈ Ay l, De p m := fun m hm => hn m (hp.mem_iff.1 hm)
 simp only [ha]
 rw [Am, hb, cF]
 generalize Ay l = m at *
 cases m with
 | nil => exact .inr ⟨[], rfl, List.Pairwise.nil, fun t h => (nomatch h), fun m => ⟨fun h => absurd h List.not_mem_nil, fun h => (nomatch h)⟩⟩
 | cons x r =>
  obtain ⟨h1, h2⟩ := List.pairwise_cons.1 hs
  rw [Dx]
  rcases Oh p hb r x [] h1 h2 (hn' x List.mem_cons_self) (fun y hy => hn' y (List.mem_cons_of_mem _ hy)) with ⟨q1, q2⟩ | ⟨w, q1, q2, q3, q4, q5⟩
  · exact .inl ⟨by rw [q2]; rfl, q1⟩
  · exact .inr ⟨w, by rw [q1]; rfl, q2, q4, q5⟩
theorem MG (p : Int) : ∀ {w : List GMsg}, w.Pairwise (fun a b => a.To < b.To) → ∀ m ∈ w, acc p m.To w = some (some m.V)
 | [], _, m, h => absurd h List.not_mem_nil
 | x :: w, hw, m, h => by
  obtain ⟨h1, h2⟩ := List.pairwise_cons.1 hw
  show Ax p (AA m.To x) (acc p m.To w) = _
  rcases List.mem_cons.1 h with rfl | h
  · rw [Hc p m.To fun y hy => by have := h1 y hy; omega, Gv, AA, if_pos rfl]
  · have := h1 m h
    rw [MG p h2 m h, AA, if_neg om]; rfl
theorem PK {p : Int} {l w : List GMsg} (hw : w.Pairwise (fun a b => a.To < b.To)) (h : ∀ t, acc p t l ≠ some none) (hm : ∀ m, m ∈ w ↔ acc p m.To l = some (some m.V)) (t : Int) : acc p t w = acc p t l := by
 by_cases q : ∃ m ∈ w, m.To = t
 · obtain ⟨m, hm1, rfl⟩ := q
   rw [MG p hw m hm1, (hm m).1 hm1]
 · rw [Hc p t fun m hm1 e => q ⟨m, hm1, e⟩]
   cases hl : acc p t l with
   | none => rfl
   | some x => cases x with
    | none => exact absurd hl (h t)
    | some v => exact absurd ⟨GMsg.mk t v, (hm _).2 hl, rfl⟩ q
theorem KS {n : Int} : ∀ {l : List GMsg} {v : Int}, l.Pairwise (fun a b => a.To < b.To) → (∀ m ∈ l, v < m.To ∧ m.To < n) → Cn n v l = true
 | [], v, _, _ => rfl
 | m :: l, v, hp, hm => by
  obtain ⟨a, b⟩ := List.pairwise_cons.1 hp
  have h1 := hm m List.mem_cons_self
  rw [Cn, Ad.2 h1.1, Ad.2 h1.2]
  exact KS b fun x hx => ⟨a x hx, (hm x (List.mem_cons_of_mem _ hx)).2⟩
theorem OG {g : GGraph} {j : GJob} {s : GState} (hc : ieq (An g j) 0 = true) (h0 : 0 ≤ s.Step) (h40 : s.Step ≤ 40) (hv : (s.Vals.length : Int) = g.N) (hr : (s.Rest.length : Int) = g.N) (hi : Cn g.N (-1) s.In = true) : Aq g j s = true := by
 rw [Aq, hc, AK.2 h0, AK.2 h40, Af.2 hv, Af.2 hr, hi]; rfl
theorem Pp {g : GGraph} {j : GJob} {s : GState} : ∀ (l : List Nat) (a : List Int) (b : List Bool) (c : List GMsg) (w : Tri), (∀ m ∈ c, 0 ≤ m.To ∧ m.To < g.N) → Bh g j s l a b c = .inr w → ∀ m ∈ w.2.2, 0 ≤ m.To ∧ m.To < g.N := by
 intro l
 induction l with
 | nil => intro a b c w h hw; injection hw with hw; subst hw; exact h
 | cons v l ih =>
  intro a b c w h hw
  rw [Bh] at hw
  cases hq : ieq (Ag g j s v).2.2.2 0
  · rw [hq] at hw; cases hw
  · rw [hq] at hw
    refine ih _ _ _ w (fun m hm => ?_) hw
    rcases List.mem_append.1 hm with hm | hm
    · exact h m hm
    · rw [Ag] at hm
      cases hz : s.Rest.getD v false && !(atS s.In (v : Int)).2
      · rw [hz] at hm; exact Jd m hm
      · rw [hz] at hm; exact absurd hm List.not_mem_nil
theorem Q2 {g : GGraph} {j : GJob} {s : GState} (hg : goodS s) (h : ieq (AH g j s).2 0 = true) : Aq g j (AH g j s).1 = true := by
 obtain ⟨hc, hr, h40, w, hA, hb, he⟩ := L6 h
 obtain ⟨_, s1, s2, _⟩ := AZ hr
 obtain ⟨hgc, _⟩ := Au hc
 obtain ⟨g1, g2, g3, _⟩ := AQ hgc
 have ht := Pp _ [] [] [] w (fun m hm => absurd hm List.not_mem_nil) hA
 rw [List.range_eq_range'] at hA
 have kw := Ia hg.nice g.N.toNat 0 [] [] [] (Hk g) w hA
 have h1 := kw.la
 have h2 := kw.lb
 have hs := As.1 h40
 obtain ⟨r1, r2⟩ := H3 (p := j.Prog) (l := w.2.2)
 rw [he]
 refine OG hc (show 0 ≤ s.Step + 1 by omega) (show s.Step + 1 ≤ 40 by omega) (show (w.1.length : Int) = _ by omega) (show (w.2.1.length : Int) = _ by omega) (KS r1 fun m hm => ?_)
 obtain ⟨u, hu, e⟩ := r2 m hm
 have := ht u hu
 omega
def C0 (j : GJob) (s : GState) : Prop := j.Prog = 5 → (∀ v ∈ s.Vals, 0 ≤ v) ∧ ∀ m ∈ s.In, 0 ≤ m.V
theorem MD {g : GGraph} {j : GJob} {s : GState} (hr : Aq g j s = true) {v : Nat} (hv : (v : Int) < g.N) : ieq (Ag g j s v).2.2.2 0 = true ∨ (Ag g j s v).2.2.2 = 8 := by
 obtain ⟨hc, s1, s2, _⟩ := AZ hr
 have hs : ∀ (b : Bool) (w : Int) (o : Option (List GMsg)), ieq (Cx b w o).2.2.2 0 = true ∨ (Cx b w o).2.2.2 = 8 := fun b w o => match o with | none => .inr rfl | some _ => .inl rfl
 rw [Ag]
 cases s.Rest.getD v false && !(atS s.In (v : Int)).2
 · rw [cF, AC, hc, Ab.2 (show (0 : Int) ≤ (v : Int) by omega), Di.2 hv, Ab.2 s1, Ab.2 s2]
   simp only [cT, cF]
   cases ieq j.Prog 5
   · rw [cF, Dw]
     cases DT j.Prog j.Source s.Step (v : Int) (s.Vals.getD v 0) (CQ j.Prog (s.Vals.getD v 0) (atS s.In (v : Int)).1 (atS s.In (v : Int)).2)
     · exact .inl rfl
     · exact hs _ _ _
   · rw [cT, DN]
     cases (CN s.Step (s.Vals.getD v 0) (atS s.In (v : Int)).1 (atS s.In (v : Int)).2).2
     · exact .inr rfl
     · cases ile 10 s.Step
       · exact hs _ _ _
       · exact .inl rfl
 · exact .inl rfl
theorem LI {v n d : Int} (hv : 0 ≤ v) (hn : 0 ≤ n) : 0 ≤ (Cb v n d).1 := by
 rw [Cb]
 cases h1 : ilt d 1
 · have h1' := Ab.1 h1
   rw [cF, CW]
   cases AF (v * n)
   · exact Int.le_refl 0
   · exact Int.tdiv_nonneg (Int.mul_nonneg hv hn) om
 · exact Int.le_refl 0
theorem LP {val many : Int} (hv : 0 ≤ val) : ∀ {l : List GEdge} {s r : List GMsg}, (∀ m ∈ s, 0 ≤ m.V) → AS 5 val many l s = some r → ∀ m ∈ r, 0 ≤ m.V
 | [], s, r, hs, h => by injection h with h; subst h; exact hs
 | e :: l, s, r, hs, h => by
  rw [AS] at h
  cases hq : (CS 5 val e many).2
  · rw [hq] at h; cases h
  · rw [hq, cT] at h
    refine LP hv (fun m hm => ?_) h
    rcases List.mem_append.1 hm with hm | hm
    · exact hs m hm
    · rw [List.mem_singleton.1 hm]; exact LI hv om
theorem Im {g : GGraph} {j : GJob} {s : GState} (hf : C0 j s) {v : Nat} : ∀ m ∈ (Ag g j s v).2.1, De j.Prog m := by
 intro m hm h5
 obtain ⟨f1, f2⟩ := hf h5
 have hval : 0 ≤ s.Vals.getD v 0 := by
  rw [List.getD_eq_getElem?_getD]
  cases hq : s.Vals[v]? with
  | none => exact Int.le_refl 0
  | some y => exact f1 y (List.mem_of_getElem? hq)
 have hgot : 0 ≤ (atS s.In (v : Int)).1 := by
  rw [atS]
  cases hq : s.In.find? fun m => ieq m.To (v : Int) with
  | none => exact Int.le_refl 0
  | some m => exact f2 m (List.mem_of_find?_eq_some hq)
 rw [Ag] at hm
 cases hz : s.Rest.getD v false && !(atS s.In (v : Int)).2
 · rw [hz, cF] at hm
   have hw : 0 ≤ (CN s.Step (s.Vals.getD v 0) (atS s.In (v : Int)).1 (atS s.In (v : Int)).2).1 := by
    rw [CN]
    cases ilt 0 s.Step
    · exact hval
    · rw [cT, Ej]
      have hg2 : 0 ≤ (bif (atS s.In (v : Int)).2 then (atS s.In (v : Int)).1 else 0) := by
       cases (atS s.In (v : Int)).2
       · exact Int.le_refl 0
       · exact hgot
      have := LI (d := 100) hg2 (show (0 : Int) ≤ 85 by omega)
      cases (Cb (bif (atS s.In (v : Int)).2 then (atS s.In (v : Int)).1 else 0) 85 100).2
      · exact Int.le_refl 0
      · rw [cT, Be]
        cases AF (150000 + (Cb (bif (atS s.In (v : Int)).2 then (atS s.In (v : Int)).1 else 0) 85 100).1)
        · exact Int.le_refl 0
        · show 0 ≤ 150000 + _; omega
   have hno : ∀ {e : Int}, m ∈ ((0, [], false, e) : Int × List GMsg × Bool × Int).2.1 → 0 ≤ m.V := fun h => absurd h List.not_mem_nil
   rw [AC] at hm
   cases hc : ieq (An g j) 0
   · rw [hc] at hm; exact hno hm
   · cases h1 : ilt (v : Int) 0
     · cases h2 : ile g.N (v : Int)
       · cases h3 : ilt s.Step 0
         · cases h4 : ilt 40 s.Step
           · rw [hc, h1, h2, h3, h4, Af.2 h5] at hm
             simp only [cT, cF, DN] at hm
             cases hw2 : (CN s.Step (s.Vals.getD v 0) (atS s.In (v : Int)).1 (atS s.In (v : Int)).2).2
             · rw [hw2] at hm; exact hno hm
             · cases h10 : ile 10 s.Step
               · rw [hw2, h10] at hm
                 simp only [cT, cF] at hm
                 generalize (CN s.Step (s.Vals.getD v 0) (atS s.In (v : Int)).1 (atS s.In (v : Int)).2).1 = w at hm hw
                 cases hq : AS 5 w (A4 g (v : Int)) (Aj g (v : Int)) [] with
                 | none => rw [hq] at hm; exact absurd hm List.not_mem_nil
                 | some r => rw [hq] at hm; exact LP hw (fun m hm => absurd hm List.not_mem_nil) hq m hm
               · rw [hw2, h10] at hm; exact absurd hm List.not_mem_nil
           · rw [hc, h1, h2, h3, h4] at hm; exact hno hm
         · rw [hc, h1, h2, h3] at hm; exact hno hm
       · rw [hc, h1, h2] at hm; exact hno hm
     · rw [hc, h1] at hm; exact hno hm
 · rw [hz] at hm; exact absurd hm List.not_mem_nil
theorem IV {g : GGraph} {j : GJob} {s : GState} : ∀ (l : List Nat) (a : List Int) (b : List Bool) (c : List GMsg),
 ((∀ v ∈ l, ieq (Ag g j s v).2.2.2 0 = true) ∧ Bh g j s l a b c = .inr (a ++ l.map (fun v => (Ag g j s v).1), b ++ l.map (fun v => (Ag g j s v).2.2.1), c ++ l.flatMap fun v => (Ag g j s v).2.1)) ∨
 ∃ v ∈ l, ieq (Ag g j s v).2.2.2 0 = false ∧ Bh g j s l a b c = .inl (Ag g j s v).2.2.2 := by
 intro l
 induction l with
 | nil => intro a b c; exact .inl ⟨fun v hv => absurd hv List.not_mem_nil, by simp [Bh]⟩
 | cons v l ih =>
  intro a b c
  rw [Bh]
  cases hq : ieq (Ag g j s v).2.2.2 0
  · exact .inr ⟨v, List.mem_cons_self, hq, rfl⟩
  · rw [cT]
    rcases ih (a ++ [(Ag g j s v).1]) (b ++ [(Ag g j s v).2.2.1]) (c ++ (Ag g j s v).2.1) with ⟨h1, h2⟩ | ⟨u, h1, h2, h3⟩
    · refine .inl ⟨fun u hu => ?_, by rw [h2]; simp⟩
      rcases List.mem_cons.1 hu with rfl | hu
      · exact hq
      · exact h1 u hu
    · exact .inr ⟨u, List.mem_cons_of_mem _ h1, h2, h3⟩
theorem Rs {g : GGraph} {j : GJob} {s : GState} {x : GPart} : ∀ (l : List Nat) (i : Nat) (a : List Int) (b : List Bool) (c : List GMsg), (∀ k (h : k < l.length), AN g j x (i + k) l[k] = Ag g j s l[k]) → doA g j x l i a b c = Bh g j s l a b c := by
 intro l
 induction l with
 | nil => intro i a b c _; rfl
 | cons v l ih =>
  intro i a b c h
  have h0 : AN g j x i v = Ag g j s v := h 0 (Nat.zero_lt_succ _)
  rw [doA, Bh, h0, ih (i + 1) _ _ _ fun k hk => by
   have := h (k + 1) (by simpa using hk)
   rw [show i + 1 + k = i + (k + 1) by omega]
   simpa using this]
theorem IU {α β : Type} (f : α → β) (l : List α) (d : β) {k : Nat} (h : k < l.length) : (l.map f).getD k d = f l[k] := by
 rw [List.getD_eq_getElem?_getD, List.getElem?_map, List.getElem?_eq_getElem h]; rfl
theorem P4 {g : GGraph} {j : GJob} {s : GState} (hp : 1 ≤ j.Parts) (p : Int) {k : Nat} (h : k < (Ak g j p).length) : AN g j (Ap g j s p) k (Ak g j p)[k] = Ag g j s (Ak g j p)[k] := by
 obtain ⟨v, hv⟩ : ∃ v, (Ak g j p)[k] = v := ⟨_, rfl⟩
 have hm := (DH hp).1 (List.getElem_mem h)
 rw [hv] at hm ⊢
 have e1 : (Ap g j s p).Rest.getD k false = s.Rest.getD v false := by rw [← hv]; exact IU _ _ _ h
 have e2 : (Ap g j s p).Vals.getD k 0 = s.Vals.getD v 0 := by rw [← hv]; exact IU _ _ _ h
 have e3 : atS (Ap g j s p).In (v : Int) = atS s.In (v : Int) := by
  have : (fun m : GMsg => decide (ieq (m.To % j.Parts) p = true ∧ ieq m.To (v : Int) = true)) = fun m => ieq m.To (v : Int) := by
   funext m
   cases hq : ieq m.To (v : Int)
   · exact decide_eq_false fun h => by cases h.2
   · have := Af.1 hq
     exact decide_eq_true ⟨by rw [this]; exact Af.2 hm.2, rfl⟩
  rw [atS, atS, Ap]
  dsimp only
  rw [List.find?_filter, this]
 rw [AN, Ag, e1, e2, e3]; rfl
def FO (g : GGraph) (j : GJob) (s : GState) (v : Nat) : List GMsg := (Ag g j s v).2.1
def cW (g : GGraph) (j : GJob) (s : GState) : List GMsg := (List.range g.N.toNat).flatMap (FO g j s)
def cP (g : GGraph) (j : GJob) (s : GState) (p : Int) : List GMsg := (Ak g j p).flatMap (FO g j s)
theorem M6 {g : GGraph} {j : GJob} {s : GState} (hr : Aq g j s = true) (h40 : ieq s.Step 40 = false) {v : Nat} (hv : (v : Int) < g.N) (he : ieq (Ag g j s v).2.2.2 0 = false) : (AH g j s).2 = 8 := by
 obtain ⟨hc, _⟩ := AZ hr
 rw [AH, hc, hr, h40]
 simp only [cT, cF]
 rcases IV (g := g) (j := j) (s := s) (List.range g.N.toNat) [] [] [] with ⟨h1, _⟩ | ⟨u, h1, h2, h3⟩
 · have := h1 v (List.mem_range.2 om)
   rw [he] at this; cases this
 · rw [h3]
   show (Ag g j s u).2.2.2 = 8
   rcases MD hr (v := u) (by have := List.mem_range.1 h1; omega) with q | q
   · rw [q] at h2; cases h2
   · exact q
theorem IB {g : GGraph} {j : GJob} {s : GState} (hr : Aq g j s = true) (h40 : ieq s.Step 40 = false) (hf : C0 j s) (h : ∀ v : Nat, (v : Int) < g.N → ieq (Ag g j s v).2.2.2 0 = true) :
 ((AH g j s).2 = 8 ∧ ∃ t, acc j.Prog t (cW g j s) = some none) ∨ ∃ w, AH g j s = (GState.mk (s.Step + 1) ((List.range g.N.toNat).map fun v => (Ag g j s v).1) ((List.range g.N.toNat).map fun v => (Ag g j s v).2.2.1) w, 0) ∧
  w.Pairwise (fun a b => a.To < b.To) ∧ (∀ t, acc j.Prog t (cW g j s) ≠ some none) ∧ ∀ m, m ∈ w ↔ acc j.Prog m.To (cW g j s) = some (some m.V) := by
 obtain ⟨hc, _⟩ := AZ hr
 obtain ⟨_, p1, p2, _⟩ := Au hc
 have hb : Ao j.Prog = false := by rw [Ao, Ab.2 p1, Ab.2 p2]; rfl
 have hn : ∀ m ∈ cW g j s, De j.Prog m := fun m hm => by
  obtain ⟨v, _, hv⟩ := List.mem_flatMap.1 hm
  exact Im hf m hv
 rw [AH, hc, hr, h40]
 simp only [cT, cF]
 rcases IV (g := g) (j := j) (s := s) (List.range g.N.toNat) [] [] [] with ⟨h1, h2⟩ | ⟨u, h1, h2, h3⟩
 · simp only [List.nil_append] at h2
   rw [h2, GI]
   rcases GO hb hn with ⟨q1, q2⟩ | ⟨w, q1, q2, q3, q4⟩
   · left
     refine ⟨?_, q2⟩
     have : Am j.Prog ((List.range g.N.toNat).flatMap fun v => (Ag g j s v).2.1) = ([], 8) := q1
     dsimp only
     rw [this]; rfl
   · right
     have : Am j.Prog ((List.range g.N.toNat).flatMap fun v => (Ag g j s v).2.1) = (w, 0) := q1
     dsimp only
     rw [this]
     exact ⟨w, rfl, q2, q3, q4⟩
 · have := h u (by have := List.mem_range.1 h1; omega)
   rw [h2] at this; cases this
theorem IC {p t : Int} (hb : Ao p = false) {a b l : List GMsg} (h : (a ++ b).Perm l) (ha : acc p t a = some none) : acc p t l = some none := by
 rw [← IX p t hb h, HL p t hb, ha, LT]
theorem Re (g : GGraph) (j : GJob) (s : GState) (p : Int) : ∃ b, (cP g j s p ++ b).Perm (cW g j s) := by
 have h := List.filter_append_perm (fun v => ieq ((v % j.Parts.toNat : Nat) : Int) p) (List.range g.N.toNat)
 have h2 := h.flatMap_right (FO g j s)
 rw [List.flatMap_append] at h2
 exact ⟨_, h2⟩
theorem M4 (j : GJob) (c : List GMsg) (q : Int) : ∃ b, (toS j c q ++ b).Perm c := ⟨_, List.filter_append_perm _ c⟩
theorem Tn {g : GGraph} {j : GJob} {s : GState} (hb : Ao j.Prog = false) {p q t : Int} (h : acc j.Prog t (toS j (cP g j s p) q) = some none) : acc j.Prog t (cW g j s) = some none := by
 obtain ⟨b1, h1⟩ := M4 j (cP g j s p) q
 obtain ⟨b2, h2⟩ := Re g j s p
 exact IC hb h2 (IC hb h1 h)
theorem Ji {g : GGraph} {j : GJob} {s : GState} (hr : Aq g j s = true) (h40 : ieq s.Step 40 = false) (hf : C0 j s) {p : Nat} (hp : (p : Int) < j.Parts) :
 (doS g j (Ap g j s (p : Int)) = (Cq, [], 8) ∧ (AH g j s).2 = 8) ∨
 ((∀ v ∈ Ak g j (p : Int), ieq (Ag g j s v).2.2.2 0 = true) ∧ (∀ q < j.Parts.toNat, ieq (Am j.Prog (toS j (cP g j s (p : Int)) (q : Int))).2 0 = true) ∧
  doS g j (Ap g j s (p : Int)) = (GPart.mk (p : Int) (s.Step + 1) ((Ak g j (p : Int)).map fun v => (Ag g j s v).1) ((Ak g j (p : Int)).map fun v => (Ag g j s v).2.2.1) [],
   (List.range j.Parts.toNat).map (fun (q : Nat) => (Am j.Prog (toS j (cP g j s (p : Int)) (q : Int))).1), 0)) := by
 obtain ⟨hc, _⟩ := AZ hr
 obtain ⟨hg, p1, p2, _, _, _, _, p7, p8⟩ := Au hc
 have hb : Ao j.Prog = false := by rw [Ao, Ab.2 p1, Ab.2 p2]; rfl
 have hmem : ∀ v ∈ Ak g j (p : Int), (v : Int) < g.N := fun v hv => ((DH p7).1 hv).1
 have hdo : doA g j (Ap g j s (p : Int)) (Ak g j (p : Int)) 0 [] [] [] = Bh g j s (Ak g j (p : Int)) [] [] [] :=
  Rs _ 0 [] [] [] fun k hk => by rw [Nat.zero_add]; exact P4 p7 _ hk
 have hn : ∀ q, ∀ m ∈ toS j (cP g j s (p : Int)) q, De j.Prog m := fun q m hm => by
  obtain ⟨v, _, hv⟩ := List.mem_flatMap.1 (Es hm).1
  exact Im hf m hv
 have e40 : ieq (Ap g j s (p : Int)).Step 40 = false := h40
 have eP : (Ap g j s (p : Int)).P = (p : Int) := rfl
 rw [doS, hc, Gi hr hp, e40, eP, hdo]
 simp only [cT, cF]
 rcases IV (g := g) (j := j) (s := s) (Ak g j (p : Int)) [] [] [] with ⟨h1, h2⟩ | ⟨u, h1, h2, h3⟩
 · simp only [List.nil_append] at h2
   rw [h2, doB]
   dsimp only
   have hall : ∀ q : Nat, (Am j.Prog (toS j (cP g j s (p : Int)) (q : Int)) = ([], 8) ∧ (AH g j s).2 = 8) ∨ ieq (Am j.Prog (toS j (cP g j s (p : Int)) (q : Int))).2 0 = true := fun q => by
    rcases GO hb (hn (q : Int)) with ⟨q1, t, q2⟩ | ⟨w, q1, _⟩
    · left
      refine ⟨q1, ?_⟩
      by_cases hv : ∀ v : Nat, (v : Int) < g.N → ieq (Ag g j s v).2.2.2 0 = true
      · rcases IB hr h40 hf hv with ⟨a, _⟩ | ⟨w, _, _, a, _⟩
        · exact a
        · exact absurd (Tn hb q2) (a t)
      · have : ∃ v : Nat, (v : Int) < g.N ∧ ieq (Ag g j s v).2.2.2 0 = false := by
         apply Classical.byContradiction
         intro hno
         apply hv
         intro v hvN
         cases hq : ieq (Ag g j s v).2.2.2 0
         · exact absurd ⟨v, hvN, hq⟩ hno
         · rfl
        obtain ⟨v, a1, a2⟩ := this
        exact M6 hr h40 a1 a2
    · right; rw [q1]; rfl
   have hc' : ((Ak g j (p : Int)).flatMap fun v => (Ag g j s v).2.1) = cP g j s (p : Int) := rfl
   rw [hc']
   have htell : ∀ (l : List Nat) (d : List (List GMsg)), (CO j (cP g j s (p : Int)) l d = .inl 8 ∧ (AH g j s).2 = 8) ∨
    ((∀ q ∈ l, ieq (Am j.Prog (toS j (cP g j s (p : Int)) (q : Int))).2 0 = true) ∧ CO j (cP g j s (p : Int)) l d = .inr (d ++ l.map fun (q : Nat) => (Am j.Prog (toS j (cP g j s (p : Int)) (q : Int))).1)) := by
    intro l
    induction l with
    | nil => intro d; exact .inr ⟨fun q hq => absurd hq List.not_mem_nil, by simp [CO]⟩
    | cons q l ih =>
     intro d
     rw [CO]
     rcases hall q with ⟨a1, a2⟩ | a1
     · left; rw [a1]; exact ⟨rfl, a2⟩
     · rw [a1, cT]
       rcases ih (d ++ [(Am j.Prog (toS j (cP g j s (p : Int)) (q : Int))).1]) with b | ⟨b1, b2⟩
       · exact .inl b
       · refine .inr ⟨fun y hy => ?_, by rw [b2]; simp⟩
         rcases List.mem_cons.1 hy with rfl | hy
         · exact a1
         · exact b1 y hy
   rcases htell (List.range j.Parts.toNat) [] with ⟨a1, a2⟩ | ⟨a1, a2⟩
   · left; rw [a1]; exact ⟨rfl, a2⟩
   · right
     rw [a2, List.nil_append]
     exact ⟨h1, fun q hq => a1 q (List.mem_range.2 hq), rfl⟩
 · left
   have hu := hmem u h1
   have h8 := M6 hr h40 hu h2
   have e8 : (Ag g j s u).2.2.2 = 8 := by
    rcases MD hr hu with q | q
    · rw [q] at h2; cases h2
    · exact q
   rw [h3, e8]
   exact ⟨rfl, h8⟩
theorem Wi : ∀ P < 7, 0 < P → ∀ n < 25, ((List.range P).flatMap fun p => (List.range n).filter fun v => v % P == p).isPerm (List.range n) = true := by decide +kernel
theorem Rn {g : GGraph} {j : GJob} (h1 : 1 ≤ j.Parts) (h6 : j.Parts ≤ 6) (hn : g.N ≤ 24) : ((List.range j.Parts.toNat).flatMap fun (p : Nat) => Ak g j (p : Int)).Perm (List.range g.N.toNat) := by
 have h := List.isPerm_iff.1 (Wi j.Parts.toNat om om g.N.toNat om)
 have e : (fun (p : Nat) => Ak g j (p : Int)) = fun p => (List.range g.N.toNat).filter fun v => v % j.Parts.toNat == p := by
  funext p
  rw [Ak, Cr]
  refine List.filter_congr fun v _ => ?_
  rw [Bool.eq_iff_iff, Af, beq_iff_eq]; omega
 rw [e]; exact h
theorem PL {g : GGraph} {j : GJob} (s : GState) (h1 : 1 ≤ j.Parts) (h6 : j.Parts ≤ 6) (hn : g.N ≤ 24) (q : Int) : ((List.range j.Parts.toNat).flatMap fun (p : Nat) => toS j (cP g j s (p : Int)) q).Perm (toS j (cW g j s) q) := by
 have h := ((Rn (g := g) h1 h6 hn).flatMap_right (FO g j s)).filter fun m => ieq (AU j m.To) q
 rw [List.flatMap_assoc, List.filter_flatMap] at h
 exact h
theorem MY {p t : Int} : ∀ {l : List GMsg} {v : Int}, (∀ m ∈ l, De p m) → acc p t l = some (some v) → p = 5 → 0 ≤ v
 | [], v, _, h, _ => nomatch h
 | m :: l, v, hl, h, h5 => by
  have hm := hl m List.mem_cons_self h5
  have ih := fun v => MY (p := p) (t := t) (l := l) (v := v) fun x hx => hl x (List.mem_cons_of_mem _ hx)
  have h' : Ax p (AA t m) (acc p t l) = some (some v) := h
  rw [AA] at h'
  split at h'
  · cases hq : acc p t l with
    | none =>
     rw [hq] at h'
     have : m.V = v := by simpa [Ax] using h'
     omega
    | some y =>
     rw [hq] at h'
     cases y with
     | none => cases h'
     | some b =>
      have h2 : opS p m.V b = some v := by simpa [Ax] using h'
      rw [opS, if_pos h5] at h2
      split at h2
      · rename_i h3
        have : m.V + b = v := by simpa using h2
        omega
      · cases h2
  · exact ih v h' h5
def Dj (g : GGraph) (j : GJob) (s : GState) (q : Int) : List (List GMsg) := (List.range j.Parts.toNat).map fun (p : Nat) => (Am j.Prog (toS j (cP g j s (p : Int)) q)).1
theorem Mz {g : GGraph} {j : GJob} {s : GState} (hf : C0 j s) {p q : Int} : ∀ m ∈ toS j (cP g j s p) q, De j.Prog m := fun m hm => by
 obtain ⟨v, _, hv⟩ := List.mem_flatMap.1 (Es hm).1
 exact Im hf m hv
theorem U9 {p : Int} (hb : Ao p = false) {l : List GMsg} (hn : ∀ m ∈ l, De p m) : ∀ m ∈ (Am p l).1, De p m := fun m hm h5 => by
 rcases GO hb hn with ⟨q1, _⟩ | ⟨w, q1, _, _, q4⟩
 · rw [q1] at hm; exact absurd hm List.not_mem_nil
 · rw [q1] at hm
   exact MY hn ((q4 m).1 hm) h5
theorem Mt {g : GGraph} {j : GJob} {s : GState} (hb : Ao j.Prog = false) (hf : C0 j s) {q : Int} (t : Int) : ∀ (ps : List Nat), (∀ p ∈ ps, ieq (Am j.Prog (toS j (cP g j s (p : Int)) q)).2 0 = true) →
 acc j.Prog t (ps.map fun (p : Nat) => (Am j.Prog (toS j (cP g j s (p : Int)) q)).1).flatten = acc j.Prog t (ps.flatMap fun (p : Nat) => toS j (cP g j s (p : Int)) q)
 | [], _ => rfl
 | p :: ps, h => by
  rw [List.map_cons, List.flatten_cons, List.flatMap_cons, HL _ _ hb, HL _ _ hb, Mt hb hf t ps fun x hx => h x (List.mem_cons_of_mem _ hx)]
  congr 1
  have hp := h p List.mem_cons_self
  rcases GO hb (Mz (g := g) hf (p := (p : Int)) (q := q)) with ⟨q1, _⟩ | ⟨w, q1, q2, q3, q4⟩
  · rw [q1] at hp; cases hp
  · rw [q1]; exact PK q2 q3 q4 t
theorem Kl {g : GGraph} {j : GJob} {s : GState} {v : Nat} : ∀ m ∈ FO g j s v, 0 ≤ m.To ∧ m.To < g.N := fun m hm => by
 rw [FO, Ag] at hm
 cases hz : s.Rest.getD v false && !(atS s.In (v : Int)).2
 · rw [hz] at hm; exact Jd m hm
 · rw [hz] at hm; exact absurd hm List.not_mem_nil
def Bc (g : GGraph) (j : GJob) (s : GState) (q : Int) (w : List GMsg) : GPart := GPart.mk q (s.Step + 1) ((Ak g j q).map fun v => (Ag g j s v).1) ((Ak g j q).map fun v => (Ag g j s v).2.2.1) w
theorem Vq {g : GGraph} {j : GJob} {s : GState} (hr : Aq g j s = true) (h40 : ieq s.Step 40 = false) (hf : C0 j s) {q : Nat} (hq : (q : Int) < j.Parts)
 (hB : ∀ p < j.Parts.toNat, ieq (Am j.Prog (toS j (cP g j s (p : Int)) (q : Int))).2 0 = true) :
 (AO g j (Bc g j s (q : Int) []) (Dj g j s (q : Int)).flatten = (Cq, 8) ∧ ∃ t, acc j.Prog t (toS j (cW g j s) (q : Int)) = some none) ∨
 ∃ w, AO g j (Bc g j s (q : Int) []) (Dj g j s (q : Int)).flatten = (Bc g j s (q : Int) w, 0) ∧ w.Pairwise (fun a b => a.To < b.To) ∧ (∀ t, acc j.Prog t (toS j (cW g j s) (q : Int)) ≠ some none) ∧
  ∀ m, m ∈ w ↔ acc j.Prog m.To (toS j (cW g j s) (q : Int)) = some (some m.V) := by
 obtain ⟨hc, s1, s2, _⟩ := AZ hr
 obtain ⟨hg, p1, p2, _, _, _, _, p7, p8⟩ := Au hc
 obtain ⟨g1, g2, _⟩ := AQ hg
 have hb : Ao j.Prog = false := by rw [Ao, Ab.2 p1, Ab.2 p2]; rfl
 have hs := As.1 h40
 have hR : Av g j (Bc g j s (q : Int) []) = true := by
  rw [Bc, Av]
  simp only [hc, AK.2 (show (0 : Int) ≤ (q : Int) by omega), Ad.2 hq, AK.2 (show 0 ≤ s.Step + 1 by omega), AK.2 (show s.Step + 1 ≤ 40 by omega), Bj, Bool.true_and, Bool.and_true, List.length_map]
  rw [AL, A6]; rfl
 have hI : ieq (nlen (len (Bc g j s (q : Int) []).In)) 0 = true := rfl
 have hmem : ∀ m ∈ (Dj g j s (q : Int)).flatten, De j.Prog m ∧ 0 ≤ m.To ∧ m.To < g.N ∧ m.To % j.Parts = (q : Int) := fun m hm => by
  obtain ⟨l, hl, hm⟩ := List.mem_flatten.1 hm
  obtain ⟨p, _, rfl⟩ := List.mem_map.1 hl
  obtain ⟨u, hu, e⟩ := (H3 (p := j.Prog) (l := toS j (cP g j s (p : Int)) (q : Int))).2 m hm
  obtain ⟨u1, u2⟩ := Es hu
  obtain ⟨v, _, hv⟩ := List.mem_flatMap.1 u1
  have ht := Kl u hv
  have := (G6 p7 p8 ht.1).1
  exact ⟨U9 hb (Mz hf) m hm, by omega, by omega, by rw [← e]; omega⟩
 have hO : CK g.N j.Parts (Bc g j s (q : Int) []).P (Dj g j s (q : Int)).flatten = true := by
  rw [CK, List.all_eq_true]
  intro m hm
  obtain ⟨_, a1, a2, a3⟩ := hmem m hm
  rw [AK.2 a1, Ad.2 a2, Af.2 (show m.To % j.Parts = (Bc g j s (q : Int) []).P from a3)]; rfl
 have hacc : ∀ t, acc j.Prog t (Dj g j s (q : Int)).flatten = acc j.Prog t (toS j (cW g j s) (q : Int)) := fun t => by
  rw [Dj, Mt hb hf t _ fun p hp => hB p (List.mem_range.1 hp)]
  exact IX _ t hb (PL s p7 p8 g2 _)
 rw [AO, hc, hR, hI, hO, Gp]
 simp only [cT]
 rcases GO hb (fun m hm => (hmem m hm).1) with ⟨q1, t, q2⟩ | ⟨w, q1, q2, q3, q4⟩
 · left; rw [q1]; exact ⟨rfl, t, by rw [← hacc]; exact q2⟩
 · right
   rw [q1]
   exact ⟨w, rfl, q2, fun t => by rw [← hacc]; exact q3 t, fun m => by rw [← hacc]; exact q4 m⟩
theorem VO {g : GGraph} {j : GJob} {s : GState} (hr : Aq g j s = true) (h40 : ieq s.Step 40 = false) (hf : C0 j s)
 (hv : ∀ p < j.Parts.toNat, ∀ v ∈ Ak g j (p : Int), ieq (Ag g j s v).2.2.2 0 = true)
 (hT : ∀ q < j.Parts.toNat, ∃ w, AO g j (Bc g j s (q : Int) []) (Dj g j s (q : Int)).flatten = (Bc g j s (q : Int) w, 0) ∧ w.Pairwise (fun a b => a.To < b.To) ∧ (∀ t, acc j.Prog t (toS j (cW g j s) (q : Int)) ≠ some none) ∧
  ∀ m, m ∈ w ↔ acc j.Prog m.To (toS j (cW g j s) (q : Int)) = some (some m.V)) :
 (AH g j s).2 = 0 ∧ ∀ q < j.Parts.toNat, AO g j (Bc g j s (q : Int) []) (Dj g j s (q : Int)).flatten = (Ap g j (AH g j s).1 (q : Int), 0) := by
 obtain ⟨hc, s1, s2, _⟩ := AZ hr
 obtain ⟨hg, p1, p2, _, _, _, _, p7, p8⟩ := Au hc
 obtain ⟨g1, g2, _⟩ := AQ hg
 have hall : ∀ v : Nat, (v : Int) < g.N → ieq (Ag g j s v).2.2.2 0 = true := fun v hvN => by
  have hm0 : 0 ≤ (v : Int) % j.Parts := Int.emod_nonneg _ om
  have hm1 : (v : Int) % j.Parts < j.Parts := Int.emod_lt_of_pos _ om
  have := hv ((v : Int) % j.Parts).toNat om v
  rw [show (((v : Int) % j.Parts).toNat : Int) = (v : Int) % j.Parts by omega] at this
  exact this ((DH p7).2 ⟨hvN, rfl⟩)
 have hcW : ∀ m ∈ cW g j s, 0 ≤ m.To ∧ m.To < g.N := fun m hm => by
  obtain ⟨v, _, hv⟩ := List.mem_flatMap.1 hm
  exact Kl m hv
 have htoS : ∀ t (q : Nat), AU j t = (q : Int) → acc j.Prog t (toS j (cW g j s) (q : Int)) = acc j.Prog t (cW g j s) := fun t q hq =>
  Hv _ t _ (fun m hm => Af.2 (by rw [hm]; exact hq)) _
 have hno : ∀ t, acc j.Prog t (cW g j s) ≠ some none := fun t ht => by
  obtain ⟨m, hm, rfl⟩ := Hh j.Prog t (l := cW g j s) (by rw [ht]; simp)
  obtain ⟨h0, h1, h2⟩ := G6 p7 p8 (hcW m hm).1
  have hlt : AU j m.To < j.Parts := by rw [h0]; exact Int.emod_lt_of_pos _ om
  obtain ⟨w, _, _, a, _⟩ := hT (AU j m.To).toNat om
  refine a m.To ?_
  rw [htoS m.To (AU j m.To).toNat om]; exact ht
 rcases IB hr h40 hf hall with ⟨_, t, ht⟩ | ⟨w, hstep, hw1, _, hw2⟩
 · exact absurd ht (hno t)
 · refine ⟨by rw [hstep], fun q hq => ?_⟩
   obtain ⟨wq, hq1, hq2, _, hq4⟩ := hT q hq
   rw [hq1, hstep]
   congr 1
   have hmap : ∀ {α : Type} (f : Nat → α) (d : α), ((Ak g j (q : Int)).map fun v => ((List.range g.N.toNat).map f).getD v d) = (Ak g j (q : Int)).map f := fun f d => by
    refine List.map_congr_left fun v hv => ?_
    have := ((DH p7).1 hv).1
    rw [IU f (List.range g.N.toNat) d (show v < (List.range g.N.toNat).length by rw [List.length_range]; omega), List.getElem_range]
   have hIn : wq = w.filter fun m => ieq (m.To % j.Parts) (q : Int) := by
    refine HZ (lt := fun a b : GMsg => a.To < b.To) (fun a b h => by omega) hq2 (hw1.filter _) fun m => ?_
    rw [hq4, List.mem_filter, hw2]
    by_cases hh : AU j m.To = (q : Int)
    · rw [htoS _ _ hh]
      constructor
      · intro h
        refine ⟨h, Af.2 ?_⟩
        obtain ⟨u, hu, e⟩ := Hh j.Prog m.To (l := cW g j s) (by rw [h]; simp)
        have := (G6 p7 p8 (v := m.To) (by rw [← e]; exact (hcW u hu).1)).1
        omega
      · exact fun h => h.1
    · constructor
      · intro h
        obtain ⟨u, hu, e⟩ := Hh j.Prog m.To (l := toS j (cW g j s) (q : Int)) (by rw [h]; simp)
        exact absurd (by rw [← e]; exact (Es hu).2) hh
      · rintro ⟨h1, h2⟩
        obtain ⟨u, hu, e⟩ := Hh j.Prog m.To (l := cW g j s) (by rw [h1]; simp)
        have := (G6 p7 p8 (v := m.To) (by rw [← e]; exact (hcW u hu).1)).1
        have := Af.1 h2
        exact absurd om hh
   rw [Bc, Ap, hmap, hmap, hIn]
theorem SY {j : GJob} {s : GState} (h : (bif ieq j.Prog 5 then (s.Vals.all fun v => ile 0 v) && s.In.all fun m => ile 0 m.V else true) = true) : C0 j s := fun h5 => by
 rw [Af.2 h5, cT, Bool.and_eq_true, List.all_eq_true, List.all_eq_true] at h
 exact ⟨fun v hv => AK.1 (h.1 v hv), fun m hm => AK.1 (h.2 m hm)⟩
theorem Lu {g : GGraph} {j : GJob} {s : GState} (hn : CL s) (p : Int) : A3 (Ap g j s p) := by
 have h0 : i64 0 := by unfold i64; omega
 refine ⟨fun v hv => ?_, fun m hm => hn.2 m (List.mem_filter.1 hm).1⟩
 obtain ⟨u, _, rfl⟩ := List.mem_map.1 hv
 rw [List.getD_eq_getElem?_getD]
 cases hq : s.Vals[u]? with
 | none => exact h0
 | some y => exact hn.1 y (List.mem_of_getElem? hq)
def tS (g : GGraph) (j : GJob) (s : GState) (q : Nat) : GPart × Int := AO g j (Bc g j s (q : Int) []) (Dj g j s (q : Int)).flatten
def Lr (g : GGraph) (j : GJob) (s : GState) (q : Nat) : Prop := ∃ w, AO g j (Bc g j s (q : Int) []) (Dj g j s (q : Int)).flatten = (Bc g j s (q : Int) w, 0) ∧ w.Pairwise (fun a b => a.To < b.To) ∧ (∀ t, acc j.Prog t (toS j (cW g j s) (q : Int)) ≠ some none) ∧
 ∀ m, m ∈ w ↔ acc j.Prog m.To (toS j (cW g j s) (q : Int)) = some (some m.V)
def hn7 : Hint := { H 7 with nt := 252, prot := 0, kp := 0 }
def Na : Code := loopOf E 7 0
def KQ : Code := loopOf E 7 1
def U7 : Code := loopOf E 7 2
def Vn : Code := loopOf E 7 3
def Qp : Code := loopOf E 7 4
def F7_res (r1 : Bool) : Res := ⟨[(.one (mB r1))], []⟩
def Ew (K : Nat) (a1 : GGraph) (a2 : GJob) (a3 : GState) : Nat → Int → Option ((Unit) ⊕ (Unit))
 | 0, _ => none
 | k + 1, v4 =>
  bif (ilt v4 (nlen (len a3.Vals))) then
   (bif (ieq a2.Prog 5) then
    (bif (inr v4 (len a3.Vals)) then
    (elAt a3.Vals v4).bind fun x5 =>
    bif (ilt x5 0) then
     (some (.inl ()))
    else
    Ew K a1 a2 a3 k (wadd .i64 v4 1)
    else none)
   else
   some (.inr ()))
  else
  some (.inr ())
def MT (a1 : GGraph) (a2 : GJob) (a3 : GState) (v4 : Int) : TS := .on (kq 192 3 <| kq 256 5 <| kq 320 5 <| kq 448 2 <| []) <| b0 192 a1 <| b1 256 a2 <| b5 320 a3 <| sq 448 [u0, (uI v4)] []
def Se (a1 : GGraph) (a2 : GJob) (a3 : GState) (w4 : Unit) : TS := .on (kq 384 2 <| []) <| sq 384 [u0, (uB true)] []
def UD (a1 : GGraph) (a2 : GJob) (a3 : GState) (w4 : Unit) : TS := .on (kq 192 3 <| kq 256 5 <| kq 320 5 <| []) <| b0 192 a1 <| b1 256 a2 <| b5 320 a3 []
theorem IH (K : Nat) (a1 : GGraph) (a2 : GJob) (a3 : GState) : ∀ (k : Nat) (v4 : Int) (r : (Unit) ⊕ (Unit)), Ew K a1 a2 a3 k v4 = some r → (Sum.elim (fun w => LoopEv E H hn7 0 Na (MT a1 a2 a3 v4) .ret (Se a1 a2 a3 w)) (fun w => LoopEv E H hn7 0 Na (MT a1 a2 a3 v4) (.exit 0) (UD a1 a2 a3 w))) r := by
 intro k
 induction k with
 | zero => intro v4 r F; cases F
 | succ k ih =>
  intro v4 r F
  rw [Ew] at F
  apply jc F <;> intro h5 F
  have q11 {l} (z : HA hn7 l) := zi (nl a3.Vals) <| DB h5 <| z
  apply jc F <;> intro h6 F
  apply jn F; intro h7 F
  apply jb F; intro x8 h9 F
  have q12 {l} (z : HA hn7 l) := zT h6 <| zT h7 <| zX (.sub (flat e6 a3.Vals) (nidx v4 1) 1 [(i6 x8)]) ⟨rfl, sub_flat0 (eInt_len _) h9 1 (by decide)⟩ <| z
  apply jc F <;> intro h10 F
  apply jr F
  exact lE <| q11 <| q12 <| zT h10 <| zX (.call 10 [] (Res.mk [(.one (mB true))] [])) knows10 <| zX (ff (leadsAny (Res.mk [(.one (mB true))] []))) lk <| z0
  exact lN2 (q11 <| q12 <| zF h10 <| zi (wadd .i64 v4 1) <| z0) (ih _ _ F)
  apply jr F
  exact lE <| q11 <| zF h6 <| z0
  apply jr F
  exact lE <| zi (nl a3.Vals) <| Cw h5 <| zf1 <| z0
def Ec (K : Nat) (a1 : GGraph) (a2 : GJob) (a3 : GState) : Nat → Int → Option ((Unit) ⊕ (Unit))
 | 0, _ => none
 | k + 1, v4 =>
  bif (ilt v4 (nlen (len a3.In))) then
   (bif (ieq a2.Prog 5) then
    (bif (inr v4 (len a3.In)) then
    (elAt a3.In v4).bind fun x5 =>
    bif (ilt x5.V 0) then
     (some (.inl ()))
    else
    Ec K a1 a2 a3 k (wadd .i64 v4 1)
    else none)
   else
   some (.inr ()))
  else
  some (.inr ())
def K1 (a1 : GGraph) (a2 : GJob) (a3 : GState) (v4 : Int) : TS := .on (kq 192 3 <| kq 256 5 <| kq 320 5 <| kq 512 2 <| []) <| b0 192 a1 <| b1 256 a2 <| b5 320 a3 <| sq 512 [u0, (uI v4)] []
def Q5 (a1 : GGraph) (a2 : GJob) (a3 : GState) (w4 : Unit) : TS := .on (kq 384 2 <| []) <| sq 384 [u0, (uB true)] []
def TY (a1 : GGraph) (a2 : GJob) (a3 : GState) (w4 : Unit) : TS := .on (kq 192 3 <| kq 256 5 <| kq 320 5 <| []) <| b0 192 a1 <| b1 256 a2 <| b5 320 a3 []
theorem Ns (K : Nat) (a1 : GGraph) (a2 : GJob) (a3 : GState) : ∀ (k : Nat) (v4 : Int) (r : (Unit) ⊕ (Unit)), Ec K a1 a2 a3 k v4 = some r → (Sum.elim (fun w => LoopEv E H hn7 2 KQ (K1 a1 a2 a3 v4) .ret (Q5 a1 a2 a3 w)) (fun w => LoopEv E H hn7 2 KQ (K1 a1 a2 a3 v4) (.exit 2) (TY a1 a2 a3 w))) r := by
 intro k
 induction k with
 | zero => intro v4 r F; cases F
 | succ k ih =>
  intro v4 r F
  rw [Ec] at F
  apply jc F <;> intro h5 F
  have q11 {l} (z : HA hn7 l) := zi (nl a3.In) <| DB h5 <| z
  apply jc F <;> intro h6 F
  apply jn F; intro h7 F
  apply jb F; intro x8 h9 F
  have q12 {l} (z : HA hn7 l) := zT h6 <| zT h7 <| zU eGMsg_len h9 1 1 <| z
  apply jc F <;> intro h10 F
  apply jr F
  exact lE <| q11 <| q12 <| zT h10 <| zX (.call 10 [] (Res.mk [(.one (mB true))] [])) knows10 <| zX (ff (leadsAny (Res.mk [(.one (mB true))] []))) lk <| z0
  exact lN2 (q11 <| q12 <| zF h10 <| zi (wadd .i64 v4 1) <| z0) (ih _ _ F)
  apply jr F
  exact lE <| q11 <| zF h6 <| z0
  apply jr F
  exact lE <| zi (nl a3.In) <| Cw h5 <| zf1 <| z0
def Fw (K : Nat) (a1 : GGraph) (a2 : GJob) (a3 : GState) (r4 : List GPart × Int) (r5 : GWorker) : Nat → List Int → Int → Option (List Int)
 | 0, _, _ => none
 | k + 1, v6, v7 =>
  bif (ilt v7 (nlen (len r4.1))) then
   (bif (apok (len v6) 1 8) then
   Fw K a1 a2 a3 r4 r5 k (appL v6 [3]) (wadd .i64 v7 1)
   else none)
  else
  some v6
def NU (a1 : GGraph) (a2 : GJob) (a3 : GState) (r4 : List GPart × Int) (r5 : GWorker) (v6 : List Int) (v7 : Int) : TS := .on (kq 192 3 <| kq 256 5 <| kq 320 5 <| kq 576 2 <| kq 704 12 <| kq 768 2 <| kq 832 2 <| []) <| b0 192 a1 <| b1 256 a2 <| b5 320 a3 <| sq 576 [u0, (uO 45 eGPart r4.1)] <| b2 704 r5 <| sq 768 [u0, (uO 3 e6 v6)] <| sq 832 [u0, (uI v7)] []
def OY (a1 : GGraph) (a2 : GJob) (a3 : GState) (r4 : List GPart × Int) (r5 : GWorker) (w6 : List Int) : TS := .on (kq 192 3 <| kq 256 5 <| kq 320 5 <| kq 576 2 <| kq 704 12 <| kq 768 2 <| []) <| b0 192 a1 <| b1 256 a2 <| b5 320 a3 <| sq 576 [u0, (uO 45 eGPart r4.1)] <| b2 704 r5 <| sq 768 [u0, (uO 3 e6 w6)] []
theorem Vw (K : Nat) (a1 : GGraph) (a2 : GJob) (a3 : GState) (r4 : List GPart × Int) (r5 : GWorker) : ∀ (k : Nat) (v6 : List Int) (v7 : Int) (r : List Int), Fw K a1 a2 a3 r4 r5 k v6 v7 = some r → LoopEv E H hn7 4 U7 (NU a1 a2 a3 r4 r5 v6 v7) (.exit 4) (OY a1 a2 a3 r4 r5 r) := by
 intro k
 induction k with
 | zero => intro v6 v7 r F; cases F
 | succ k ih =>
  intro v6 v7 r F
  rw [Fw] at F
  apply jc F <;> intro h8 F
  apply jn F; intro h9 F
  exact lN1 (zi (nl r4.1) <| zT h8 <| zX (tt (leqm [(i6 3)] 1 1)) rfl <| zT h9 <| zV (app_ok (enc := e6) (v6 : List Int) [3]) <| zi (wadd .i64 v7 1) <| z0) (ih _ _ _ F)
  apply jr F
  exact lE <| zi (nl r4.1) <| zF h8 <| z0
def Fh (K : Nat) (a1 : GGraph) (a2 : GJob) (a3 : GState) (r4 : List GPart × Int) (w5 : List Int) : Nat → Int → Int → Int → Int → List Int → List Int → List Int → List GHeld → List GData → List GComing → List GPost → Int → Option (Int × Int × Int × Int × List Int × List Int × List Int × List GHeld × List GData × List GComing × List GPost)
 | 0, _, _, _, _, _, _, _, _, _, _, _, _ => none
 | k + 1, v6, v7, v8, v9, v10, v11, v12, v13, v14, v15, v16, v17 =>
  bif (ilt v17 (nlen (len r4.1))) then
   (bif (inr v17 (len r4.1)) then
   (elAt r4.1 v17).bind fun x18 =>
   (F18 K a1 a2 (GWorker.mk v6 v7 v8 (GTable.mk v9 v10 v11 v12) v13 v14 v15 v16) (GMail.mk 1 2 0 0 0 0 0 0 w5 [3] [1] x18 [])).bind fun r19 =>
   Fh K a1 a2 a3 r4 w5 k r19.Id r19.Goal r19.Until r19.T.Epoch r19.T.Owners r19.T.Ids r19.T.Incs r19.Held r19.Buf r19.Coming r19.Out (wadd .i64 v17 1)
   else none)
  else
  some (v6, (v7, (v8, (v9, (v10, (v11, (v12, (v13, (v14, (v15, v16))))))))))
def QH (a1 : GGraph) (a2 : GJob) (a3 : GState) (r4 : List GPart × Int) (w5 : List Int) (v6 : Int) (v7 : Int) (v8 : Int) (v9 : Int) (v10 : List Int) (v11 : List Int) (v12 : List Int) (v13 : List GHeld) (v14 : List GData) (v15 : List GComing) (v16 : List GPost) (v17 : Int) : TS := .on (kq 192 3 <| kq 256 5 <| kq 320 5 <| kq 576 2 <| kq 704 12 <| kq 768 2 <| kq 896 2 <| []) <| b0 192 a1 <| b1 256 a2 <| b5 320 a3 <| sq 576 [u0, (uO 45 eGPart r4.1)] <| sq 704 [(uX 38 11), (uI v6), (uI v7), (uI v8), (uI v9), (uS e6 v10), (uS e6 v11), (uS e6 v12), (uO 69 eGHeld v13), (uO 112 eGData v14), (uO 113 eGComing v15), (uO 86 eGPost v16)] <| sq 768 [u0, (uS e6 w5)] <| sq 896 [u0, (uI v17)] []
def So (a1 : GGraph) (a2 : GJob) (a3 : GState) (r4 : List GPart × Int) (w5 : List Int) (w6 : Int × Int × Int × Int × List Int × List Int × List Int × List GHeld × List GData × List GComing × List GPost) : TS := .on (kq 192 3 <| kq 256 5 <| kq 320 5 <| kq 704 12 <| []) <| b0 192 a1 <| b1 256 a2 <| b5 320 a3 <| sq 704 [(uX 38 11), (uI w6.1), (uI w6.2.1), (uI w6.2.2.1), (uI w6.2.2.2.1), (uS e6 w6.2.2.2.2.1), (uS e6 w6.2.2.2.2.2.1), (uS e6 w6.2.2.2.2.2.2.1), (uO 69 eGHeld w6.2.2.2.2.2.2.2.1), (uO 112 eGData w6.2.2.2.2.2.2.2.2.1), (uO 113 eGComing w6.2.2.2.2.2.2.2.2.2.1), (uO 86 eGPost w6.2.2.2.2.2.2.2.2.2.2)] []
theorem NH (K : Nat) (a1 : GGraph) (a2 : GJob) (a3 : GState) (r4 : List GPart × Int) (w5 : List Int) : ∀ (k : Nat) (v6 : Int) (v7 : Int) (v8 : Int) (v9 : Int) (v10 : List Int) (v11 : List Int) (v12 : List Int) (v13 : List GHeld) (v14 : List GData) (v15 : List GComing) (v16 : List GPost) (v17 : Int) (r : Int × Int × Int × Int × List Int × List Int × List Int × List GHeld × List GData × List GComing × List GPost), Fh K a1 a2 a3 r4 w5 k v6 v7 v8 v9 v10 v11 v12 v13 v14 v15 v16 v17 = some r → LoopEv E H hn7 6 Vn (QH a1 a2 a3 r4 w5 v6 v7 v8 v9 v10 v11 v12 v13 v14 v15 v16 v17) (.exit 6) (So a1 a2 a3 r4 w5 r) := by
 intro k
 induction k with
 | zero => intro v6 v7 v8 v9 v10 v11 v12 v13 v14 v15 v16 v17 r F; cases F
 | succ k ih =>
  intro v6 v7 v8 v9 v10 v11 v12 v13 v14 v15 v16 v17 r F
  rw [Fh] at F
  apply jc F <;> intro h18 F
  apply jn F; intro h19 F
  apply jb F; intro x20 h21 F
  apply jb F; intro r22 h23 F
  exact lN1 (zi (nl r4.1) <| zT h18 <| zT h19 <| zS eGPart_len h21 5 <| zc (Kw K a1 a2 (GWorker.mk v6 v7 v8 (GTable.mk v9 v10 v11 v12) v13 v14 v15 v16) (GMail.mk 1 2 0 0 0 0 0 0 w5 [3] [1] x20 []) _ h23) <| zi (wadd .i64 v17 1) <| z0) (ih _ _ _ _ _ _ _ _ _ _ _ _ _ F)
  apply jr F
  exact lE <| zi (nl r4.1) <| zF h18 <| z0
def DF (K : Nat) (a1 : GGraph) (a2 : GJob) (r3 : GWorker × List GPost × List GDid) (r4 : GState × Int) : Nat → List GPart → Bool → Int → Option (List GPart × Bool)
 | 0, _, _, _ => none
 | k + 1, v5, v6, v7 =>
  bif (ilt v7 (nlen (len r3.2.1))) then
   (bif (inr v7 (len r3.2.1)) then
   (elAt r3.2.1 v7).bind fun x8 =>
   bif (ieq x8.M.Kind 5) then
    (bif (ieq x8.M.E 0) then
     (bif (apok (len v5) 1 88) then
     bif v6 then
      (DF K a1 a2 r3 r4 k (appL v5 [x8.M.X]) true (wadd .i64 v7 1))
     else
     DF K a1 a2 r3 r4 k (appL v5 [x8.M.X]) (ieq x8.M.E 8) (wadd .i64 v7 1)
     else none)
    else
    bif v6 then
     (DF K a1 a2 r3 r4 k v5 true (wadd .i64 v7 1))
    else
    DF K a1 a2 r3 r4 k v5 (ieq x8.M.E 8) (wadd .i64 v7 1))
   else
   bif v6 then
    (DF K a1 a2 r3 r4 k v5 true (wadd .i64 v7 1))
   else
   DF K a1 a2 r3 r4 k v5 false (wadd .i64 v7 1)
   else none)
  else
  some (v5, v6)
def VH (a1 : GGraph) (a2 : GJob) (r3 : GWorker × List GPost × List GDid) (r4 : GState × Int) (v5 : List GPart) (v6 : Bool) (v7 : Int) : TS := .on (kq 192 3 <| kq 256 5 <| kq 1024 2 <| kq 1088 2 <| kq 1152 5 <| kq 1216 2 <| kq 1280 2 <| kq 1344 2 <| kq 1408 2 <| []) <| b0 192 a1 <| b1 256 a2 <| sq 1024 [u0, (uO 86 eGPost r3.2.1)] <| sq 1088 [u0, (uO 66 eGDid r3.2.2)] <| sq 1152 [(uX 74 4), (uI r4.1.Step), (uO 2 e6 r4.1.Vals), (uO 4 eBool r4.1.Rest), (uO 78 eGMsg r4.1.In)] <| sq 1216 [u0, (uI r4.2)] <| sq 1280 [u0, (uO 45 eGPart v5)] <| sq 1344 [u0, (uB v6)] <| sq 1408 [u0, (uI v7)] []
def Qy (a1 : GGraph) (a2 : GJob) (r3 : GWorker × List GPost × List GDid) (r4 : GState × Int) (w5 : List GPart × Bool) : TS := .on (kq 192 3 <| kq 256 5 <| kq 1024 2 <| kq 1088 2 <| kq 1152 5 <| kq 1216 2 <| kq 1280 2 <| kq 1344 2 <| []) <| b0 192 a1 <| b1 256 a2 <| sq 1024 [u0, (uO 86 eGPost r3.2.1)] <| sq 1088 [u0, (uO 66 eGDid r3.2.2)] <| sq 1152 [(uX 74 4), (uI r4.1.Step), (uO 2 e6 r4.1.Vals), (uO 4 eBool r4.1.Rest), (uO 78 eGMsg r4.1.In)] <| sq 1216 [u0, (uI r4.2)] <| sq 1280 [u0, (uO 45 eGPart w5.1)] <| sq 1344 [u0, (uB w5.2)] []
theorem O4 (K : Nat) (a1 : GGraph) (a2 : GJob) (r3 : GWorker × List GPost × List GDid) (r4 : GState × Int) : ∀ (k : Nat) (v5 : List GPart) (v6 : Bool) (v7 : Int) (r : List GPart × Bool), DF K a1 a2 r3 r4 k v5 v6 v7 = some r → LoopEv E H hn7 8 Qp (VH a1 a2 r3 r4 v5 v6 v7) (.exit 8) (Qy a1 a2 r3 r4 r) := by
 intro k
 induction k with
 | zero => intro v5 v6 v7 r F; cases F
 | succ k ih =>
  intro v5 v6 v7 r F
  rw [DF] at F
  apply jc F <;> intro h8 F
  apply jn F; intro h9 F
  apply jb F; intro x10 h11 F
  have q18 {l} (z : HA hn7 l) := zi (nl r3.2.1) <| zT h8 <| zT h9 <| zU eGPost_len h11 2 1 <| z
  apply jc F <;> intro h12 F
  have q19 {l} (z : HA hn7 l) := zC3 h12 <| zT h9 <| zC3 h12 <| zU eGPost_len h11 9 1 <| Cy h12 <| z
  apply jc F <;> intro h13 F
  apply jn F; intro h14 F
  have q20 {l} (z : HA hn7 l) := zT h13 <| zT h9 <| zU eGPost_len h11 13 5 <| zX (tt (leqm [(i6 x10.M.X.P), (i6 x10.M.X.Step), (sE e6 x10.M.X.Vals), (sE eBool x10.M.X.Rest), (sE eGMsg x10.M.X.In)] 1 5)) rfl <| zT h14 <| zV (app_ok (enc := eGPart) (v5 : List GPart) [x10.M.X]) <| z
  apply jc F <;> intro h15 F
  exact lN1 (q18 <| q19 <| q20 <| zA6 h15 <| Ah h15 <| zi (wadd .i64 v7 1) <| z0) (ih _ _ _ _ F)
  exact lN1 (q18 <| q19 <| q20 <| zB3 h15 <| zT h9 <| zB3 h15 <| zU eGPost_len h11 2 1 <| zB2 h15 <| zC3 h12 <| zT h9 <| zC3 h12 <| zU eGPost_len h11 9 1 <| zC1 h12 <| zB1 h15 <| zT h12 <| zF h15 <| zi (wadd .i64 v7 1) <| z0) (ih _ _ _ _ F)
  apply jc F <;> intro h16 F
  exact lN1 (q18 <| q19 <| zF h13 <| zA6 h16 <| Ah h16 <| zi (wadd .i64 v7 1) <| z0) (ih _ _ _ _ F)
  exact lN1 (q18 <| q19 <| zF h13 <| zB3 h16 <| zT h9 <| zB3 h16 <| zU eGPost_len h11 2 1 <| zB2 h16 <| zC3 h12 <| zT h9 <| zC3 h12 <| zU eGPost_len h11 9 1 <| zC1 h12 <| zB1 h16 <| zT h12 <| zF h16 <| zi (wadd .i64 v7 1) <| z0) (ih _ _ _ _ F)
  have q21 {l} (z : HA hn7 l) := zD6 h12 <| D0 h12 <| zf1 <| z
  apply jc F <;> intro h17 F
  exact lN1 (q18 <| q21 <| zA6 h17 <| Ah h17 <| zi (wadd .i64 v7 1) <| z0) (ih _ _ _ _ F)
  exact lN1 (q18 <| q21 <| zB3 h17 <| zT h9 <| zB3 h17 <| zU eGPost_len h11 2 1 <| zB2 h17 <| zD6 h12 <| zD1 h12 <| zB1 h17 <| zF h12 <| zF h17 <| zi (wadd .i64 v7 1) <| z0) (ih _ _ _ _ F)
  apply jr F
  exact lE <| zi (nl r3.2.1) <| zF h8 <| z0
def F7 (K : Nat) (a1 : GGraph) (a2 : GJob) (a3 : GState) : Option (Bool) :=
 (F9 K a1).bind fun r4 =>
 bif r4 then
  (some true)
 else
 bif (ilt 100 (nlen (len a3.Vals))) then
  (some true)
 else
 bif (ilt 100 (nlen (len a3.In))) then
  (some true)
 else
 (F19 K a1 a2).bind fun r5 =>
 bif (ieq r5 0) then
  ((F20 K a1 a2 a3).bind fun r6 =>
  bif r6 then
   (bif (ieq a3.Step 40) then
    (some true)
   else
   (Ew K a1 a2 a3 K 0).bind fun y7 =>
   Sum.elim (fun w8 =>
    some true)
    (fun w9 =>
    (Ec K a1 a2 a3 K 0).bind fun y10 =>
    Sum.elim (fun w11 =>
     some true)
     (fun w12 =>
     (F21 K a1 a2 a3).bind fun r13 =>
     (F11 K 3).bind fun r14 =>
     (F22 K r14 10).bind fun r15 =>
     (Fw K a1 a2 a3 r13 r15 K [] 0).bind fun w16 =>
     (Fh K a1 a2 a3 r13 w16 K r15.Id r15.Goal r15.Until r15.T.Epoch r15.T.Owners r15.T.Ids r15.T.Incs r15.Held r15.Buf r15.Coming r15.Out 0).bind fun w17 =>
     (F18 K a1 a2 (GWorker.mk w17.1 w17.2.1 w17.2.2.1 (GTable.mk w17.2.2.2.1 w17.2.2.2.2.1 w17.2.2.2.2.2.1 w17.2.2.2.2.2.2.1) w17.2.2.2.2.2.2.2.1 w17.2.2.2.2.2.2.2.2.1 w17.2.2.2.2.2.2.2.2.2.1 w17.2.2.2.2.2.2.2.2.2.2) (GMail.mk 3 2 0 a3.Step 0 0 0 0 [] [] [] (GPart.mk 0 0 [] [] []) [])).bind fun r18 =>
     (F14 K a1 a2 r18 5).bind fun r19 =>
     (F23 K a1 a2 a3).bind fun r20 =>
     (DF K a1 a2 r19 r20 K [] false 0).bind fun w21 =>
     bif (ieq r20.2 0) then
      ((F24 K a1 a2 w21.1).bind fun r22 =>
      bif w21.2 then
       (some false)
      else
      bif (ieq (nlen (len r19.2.2)) a2.Parts) then
       (bif (ieq r22.2 0) then
        ((F25 K r22.1 r20.1).bind fun r23 =>
        bif r23 then
         (bif (inr 0 (len r19.2.1)) then
         (elAt r19.2.1 0).bind fun x24 =>
         (F27 K x24.M).bind fun r25 =>
         (F26 K r25).bind fun r26 =>
         bif r26 then
          (some true)
         else
         some false
         else none)
        else
        some false)
       else
       some false)
      else
      some false)
     else
     bif w21.2 then
      (bif (ieq r20.2 8) then
       (some true)
      else
      some false)
     else
     some false) y10) y7)
  else
  some true)
 else
 some true
theorem F7_ok (K : Nat) (a1 : GGraph) (a2 : GJob) (a3 : GState) (r : Bool) (F : F7 K a1 a2 a3 = some r) : Evt E H 7 [.agg (eGGraph a1), .agg (eGJob a2), .agg (eGState a3)] (F7_res r) := by
 rw [F7] at F
 apply jb F; intro r4 h5 F
 apply jc F <;> intro h6 F
 apply jr F
 exact fpC hn7 <| zl (Lg K a1 _ h5) <| Bx h6 <| zt4 <| zr1 <| zt4 <| zr1 <| zt5 <| zr1 <| zt3 <| zr2 <| zX (.call 10 [] (Res.mk [(.one (mB true))] [])) knows10 <| zX (ff (leadsAny (Res.mk [(.one (mB true))] []))) lk <| z0
 have q61 {l} (z : HA hn7 l) := zl (Lg K a1 _ h5) <| zB3 h6 <| zi (nl a3.Vals) <| A0 h6 <| z
 apply jc F <;> intro h7 F
 apply jr F
 exact fpC hn7 <| q61 <| Bx (igt_eq h7) <| zt4 <| zr1 <| zt5 <| zr1 <| zt3 <| zr2 <| zX (.call 10 [] (Res.mk [(.one (mB true))] [])) knows10 <| zX (ff (leadsAny (Res.mk [(.one (mB true))] []))) lk <| z0
 have q62 {l} (z : HA hn7 l) := zB3 (igt_eq h7) <| zi (nl a3.In) <| A0 (igt_eq h7) <| z
 apply jc F <;> intro h8 F
 apply jr F
 exact fpC hn7 <| q61 <| q62 <| Bx (igt_eq h8) <| zt5 <| zr1 <| zt3 <| zr2 <| zX (.call 10 [] (Res.mk [(.one (mB true))] [])) knows10 <| zX (ff (leadsAny (Res.mk [(.one (mB true))] []))) lk <| z0
 apply jb F; intro r9 h10 F
 have q63 {l} (z : HA hn7 l) := zB3 (igt_eq h8) <| zl (CY K a1 a2 _ h10) <| A0 (igt_eq h8) <| z
 apply jc F <;> intro h11 F
 apply jb F; intro r12 h13 F
 have q64 {l} (z : HA hn7 l) := zB4 (ine_t h11) <| zl (Jb K a1 a2 a3 _ h13) <| A0 (ine_t h11) <| z
 apply jc F <;> intro h14 F
 have q65 {l} (z : HA hn7 l) := Ai (bnot_t h14) <| z
 apply jc F <;> intro h15 F
 apply jr F
 exact fpC hn7 <| q61 <| q62 <| q63 <| q64 <| q65 <| zT h15 <| zX (.call 10 [] (Res.mk [(.one (mB true))] [])) knows10 <| zX (ff (leadsAny (Res.mk [(.one (mB true))] []))) lk <| z0
 apply jb F; intro y17 h16 F
 refine js F (fun w18 hx F => ?_) fun w19 hx F => ?_
 subst hx
 apply jr F
 exact fpC hn7 <| q61 <| q62 <| q63 <| q64 <| q65 <| zF h15 <| zo (IH K a1 a2 a3 K 0 _ h16) <| z0
 subst hx
 apply jb F; intro y21 h20 F
 refine js F (fun w22 hx F => ?_) fun w23 hx F => ?_
 subst hx
 apply jr F
 exact fpC hn7 <| q61 <| q62 <| q63 <| q64 <| q65 <| zF h15 <| zo (IH K a1 a2 a3 K 0 _ h16) <| zo (Ns K a1 a2 a3 K 0 _ h20) <| z0
 subst hx
 apply jb F; intro r24 h25 F
 apply jb F; intro r26 h27 F
 apply jb F; intro r28 h29 F
 apply jb F; intro w31 h30 F
 apply jb F; intro w33 h32 F
 apply jb F; intro r34 h35 F
 apply jb F; intro r36 h37 F
 apply jb F; intro r38 h39 F
 apply jb F; intro w41 h40 F
 have q66 {l} (z : HA hn7 l) := zF h15 <| zo (IH K a1 a2 a3 K 0 _ h16) <| zo (Ns K a1 a2 a3 K 0 _ h20) <| zc (Qb K a1 a2 a3 _ h25) <| zc (Rl K 3 _ h27) <| zc (Si K r26 10 _ h29) <| zo (Vw K a1 a2 a3 r24 r28 K [] 0 _ h30) <| zo (NH K a1 a2 a3 r24 w31 K r28.Id r28.Goal r28.Until r28.T.Epoch r28.T.Owners r28.T.Ids r28.T.Incs r28.Held r28.Buf r28.Coming r28.Out 0 _ h32) <| zc (Kw K a1 a2 (GWorker.mk w33.1 w33.2.1 w33.2.2.1 (GTable.mk w33.2.2.2.1 w33.2.2.2.2.1 w33.2.2.2.2.2.1 w33.2.2.2.2.2.2.1) w33.2.2.2.2.2.2.2.1 w33.2.2.2.2.2.2.2.2.1 w33.2.2.2.2.2.2.2.2.2.1 w33.2.2.2.2.2.2.2.2.2.2) (GMail.mk 3 2 0 a3.Step 0 0 0 0 [] [] [] (GPart.mk 0 0 [] [] []) []) _ h35) <| zc (TC K a1 a2 r34 5 _ h37) <| zl (N9 K a1 a2 a3 _ h39) <| zo (O4 K a1 a2 r36 r38 K [] false 0 _ h40) <| z
 apply jc F <;> intro h42 F
 apply jb F; intro r43 h44 F
 have q67 {l} (z : HA hn7 l) := zF (ine_t h42) <| zl (Ru K a1 a2 w41.1 _ h44) <| z
 apply jc F <;> intro h45 F
 apply jr F
 exact fpC hn7 <| q61 <| q62 <| q63 <| q64 <| q65 <| q66 <| q67 <| AJ (bnot_t h45) <| zk2 <| zf1 <| zk3 <| zf1 <| zk6 <| zf1 <| zk1 <| zf1 <| z0
 have q68 {l} (z : HA hn7 l) := zC2 (bnot_f h45) <| zi (nl r36.2.2) <| DB (bnot_f h45) <| z
 apply jc F <;> intro h46 F
 have q69 {l} (z : HA hn7 l) := Hm h46 <| z
 apply jc F <;> intro h47 F
 apply jb F; intro r48 h49 F
 have q70 {l} (z : HA hn7 l) := zC3 h47 <| zl (Tt K r43.1 r38.1 _ h49) <| zT h47 <| z
 apply jc F <;> intro h50 F
 apply jn F; intro h51 F
 apply jb F; intro x52 h53 F
 apply jb F; intro r54 h55 F
 apply jb F; intro r56 h57 F
 have q71 {l} (z : HA hn7 l) := zC2 h50 <| zT h51 <| zC2 h50 <| zU eGPost_len h53 2 17 <| zC1 h50 <| zc (Oy K x52.M _ h55) <| zC1 h50 <| zl (Wg K r54 _ h57) <| zT h50 <| z
 apply jc F <;> intro h58 F
 apply jr F
 exact fpC hn7 <| q61 <| q62 <| q63 <| q64 <| q65 <| q66 <| q67 <| q68 <| q69 <| q70 <| q71 <| zC1 h58 <| zX (.call 10 [] (Res.mk [(.one (mB true))] [])) knows10 <| zX (ff (leadsAny (Res.mk [(.one (mB true))] []))) lk <| zT h58 <| z0
 apply jr F
 exact fpC hn7 <| q61 <| q62 <| q63 <| q64 <| q65 <| q66 <| q67 <| q68 <| q69 <| q70 <| q71 <| D0 h58 <| z0
 apply jr F
 exact fpC hn7 <| q61 <| q62 <| q63 <| q64 <| q65 <| q66 <| q67 <| q68 <| q69 <| q70 <| F4 h50 <| zk1 <| zf1 <| z0
 apply jr F
 exact fpC hn7 <| q61 <| q62 <| q63 <| q64 <| q65 <| q66 <| q67 <| q68 <| q69 <| Cw h47 <| zk6 <| zf1 <| zk1 <| zf1 <| z0
 apply jr F
 exact fpC hn7 <| q61 <| q62 <| q63 <| q64 <| q65 <| q66 <| q67 <| q68 <| GZ h46 <| zk3 <| zf1 <| zk6 <| zf1 <| zk1 <| zf1 <| z0
 apply jc F <;> intro h59 F
 have q72 {l} (z : HA hn7 l) := zT (ine_f h42) <| Hm h59 <| z
 apply jc F <;> intro h60 F
 apply jr F
 exact fpC hn7 <| q61 <| q62 <| q63 <| q64 <| q65 <| q66 <| q72 <| zC1 h60 <| zX (.call 10 [] (Res.mk [(.one (mB true))] [])) knows10 <| zX (ff (leadsAny (Res.mk [(.one (mB true))] []))) lk <| zT h60 <| z0
 apply jr F
 exact fpC hn7 <| q61 <| q62 <| q63 <| q64 <| q65 <| q66 <| q72 <| D0 h60 <| z0
 apply jr F
 exact fpC hn7 <| q61 <| q62 <| q63 <| q64 <| q65 <| q66 <| zT (ine_f h42) <| GZ h59 <| zk1 <| zf1 <| z0
 apply jr F
 exact fpC hn7 <| q61 <| q62 <| q63 <| q64 <| Ah (bnot_f h14) <| zr1 <| zX (.call 10 [] (Res.mk [(.one (mB true))] [])) knows10 <| zX (ff (leadsAny (Res.mk [(.one (mB true))] []))) lk <| z0
 apply jr F
 exact fpC hn7 <| q61 <| q62 <| q63 <| Bv (ine_f h11) <| zt3 <| zr2 <| zX (.call 10 [] (Res.mk [(.one (mB true))] [])) knows10 <| zX (ff (leadsAny (Res.mk [(.one (mB true))] []))) lk <| z0
theorem Hx {n : Int} {l : List Int} : Bd n l = true ↔ (∀ x ∈ l, 0 ≤ x ∧ x ≤ 1099511627776) ∧ (l.length : Int) ≤ n := by
 simp only [Bd, Bool.and_eq_true, List.all_eq_true, Bool.not_eq_true', Ab, AK]
theorem MW {g : GGraph} {j : GJob} {x : GPart} (h : Av g j x = true) : x.Vals.length ≤ 24 ∧ x.Rest.length = x.Vals.length ∧ x.In.length ≤ 24 ∧ FA x.In = true ∧ 0 ≤ x.P ∧ x.P < j.Parts ∧ j.Parts ≤ 6 ∧ 0 ≤ x.Step ∧ x.Step ≤ 40 := by
 obtain ⟨hc, p0, pj, q1, q2, hv, hr, hin⟩ := DD h
 obtain ⟨hg, _, _, _, _, _, _, _, j6⟩ := Au hc
 obtain ⟨g1, g2, _, _⟩ := AQ hg
 have hl := Ft g j g2 x.P
 obtain ⟨i1, i2⟩ := FI hin
 have h3 := Fi (fun m : GMsg => m.To) g.N x.In 0 i1 fun m hm => by have := i2 m hm; omega
 have hcv : AL g j x.P = ((Ak g j x.P).length : Int) := rfl
 refine ⟨by omega, by omega, by omega, ?_, p0, pj, j6, q1, q2⟩
 rw [FA, Bool.and_eq_true, AK]
 refine ⟨List.all_eq_true.2 fun m hm => Hx.2 ⟨fun y hy => ?_, by simp⟩, by omega⟩
 rw [List.mem_singleton.1 hy]
 have := i2 m hm
 omega
structure TabOk (j : GJob) (t : GTable) : Prop where
 r : Ci t = true
 e : 0 < t.Epoch ∧ t.Epoch ≤ 1099511627776
 n : t.Owners.length = j.Parts.toNat
 o : Bd 6 t.Owners = true
 i : Bd 5 t.Ids = true
 c : Bd (t.Ids.length : Int) t.Incs = true
def DQ (t : GTable) (x : GPart) : GMail := GMail.mk 1 t.Epoch 0 0 0 0 0 0 t.Owners t.Ids t.Incs x []
def isO (t : GTable) (me : Int) (p : Nat) : Bool := ieq (t.Owners.getD p 0) me
def Dn (g : GGraph) (j : GJob) (s : GState) (t : GTable) (me : Int) (k : Nat) : List GHeld := ((List.range k).filter (isO t me)).map fun (p : Nat) => GHeld.mk (Ap g j s (p : Int)) false false
def CX (t : GTable) (me : Int) (k : Nat) : List GPost := ((List.range k).filter (isO t me)).map fun (p : Nat) => GPost.mk 0 0 (GMail.mk 2 t.Epoch 0 0 (p : Int) 0 0 0 [] [] [] A7 [])
def AM (g : GGraph) (j : GJob) (s : GState) (t : GTable) (me u : Int) (k : Nat) : GWorker := GWorker.mk me (-1) u (if k = 0 then noT else t) (Dn g j s t me k) [] [] (CX t me k)
section
variable {g : GGraph} {j : GJob} {s : GState} {t : GTable} {me u : Int}
theorem Kr : ∀ (l : List GHeld) (x : GPart), (∀ h ∈ l, h.X.P < x.P) → Db l x = l ++ [GHeld.mk x false false]
 | [], x, _ => rfl
 | h :: l, x, hl => by
  have h1 : ilt h.X.P x.P = true := Ad.2 (hl h List.mem_cons_self)
  have ih := Kr l x fun y hy => hl y (List.mem_cons_of_mem _ hy)
  rw [Db] at ih ⊢
  rw [List.takeWhile_cons, List.dropWhile_cons, h1]
  simp only [if_true, List.cons_append]
  rw [ih]
theorem UG {α : Type} {p : α → Bool} {l : List α} (h : ∀ x ∈ l, p x = false) : Co p l = -1 := by
 rw [Co, List.findIdx?_eq_none_iff.2 h]
theorem Kv {k : Nat} : ∀ h ∈ Dn g j s t me k, h.X.P < (k : Int) := fun h hh => by
 obtain ⟨p, hp, rfl⟩ := List.mem_map.1 hh
 have := List.mem_range.1 (List.mem_filter.1 hp).1
 show (p : Int) < k
 omega
theorem OL (ht : TabOk j t) {x : GPart} (hx : Av g j x = true) : Cu (DQ t x) = true := by
 obtain ⟨h1, h2, h3, h4, h5, h6, h6', h7, h8⟩ := MW hx
 obtain ⟨_, _, t3, t4, _⟩ := GR ht.r
 simp only [Cu, DQ, Bool.and_eq_true, AK, Af]
 refine ⟨by omega, by omega, ?_, ht.o, ht.i, ht.c, by omega, by omega, by omega, h4, by rfl⟩
 refine Hx.2 ⟨fun y hy => ?_, by simp⟩
 have := ht.e
 simp only [List.mem_cons, List.not_mem_nil, or_false] at hy
 omega
theorem KK (ht : TabOk j t) {x : GPart} (hx : Av g j x = true) (hn : A3 x) : MI (DQ t x) := by
 obtain ⟨h1, h2, h3, h4, h5, h6, h6', _⟩ := MW hx
 obtain ⟨_, _, t3, t4, t5, _⟩ := GR ht.r
 exact ⟨⟨by show t.Owners.length ≤ 100; omega, by show t.Ids.length ≤ 100; omega, by show t.Incs.length ≤ 100; omega, by show x.Vals.length ≤ 100; omega, by show x.Rest.length ≤ 100; omega, by show x.In.length ≤ 100; omega, Nat.zero_le _⟩, by show i64 x.P; unfold i64; omega, hn, fun y hy => absurd hy List.not_mem_nil⟩
theorem ME (ht : Ci t = true) {k : Nat} (hk : k < t.Owners.length) : toT t (k : Int) = (t.Owners.getD k 0, EQ t (t.Owners.getD k 0), 0) := by
 have e : Aw t = t := by rw [Aw, ht]; rfl
 have h1 : ilt (k : Int) 0 = false := Ab.2 om
 have h2 : ile (t.Owners.length : Int) (k : Int) = false := Di.2 om
 rw [toT, e, h1, h2, Int.toNat_natCast]; rfl
theorem Nx (ht : TabOk j t) (hr : Aq g j s = true) {k : Nat} (hk : k < j.Parts.toNat) :
 Eb g j (GWorker.mk me (-1) u t (Dn g j s t me k) [] [] (CX t me k)) (DQ t (Ap g j s (k : Int))) = AM g j s t me u (k + 1) := by
 have hx := Gi hr (p := k) om
 have e1 : toT t (k : Int) = _ := ME ht.r (by rw [ht.n]; exact hk)
 have e2 : CZ (Dn g j s t me k) (k : Int) = -1 := UG fun h hh => by
  have := Kv h hh
  exact As.2 om
 have e3 : BH g j (GWorker.mk me (-1) u t (Dn g j s t me k) [] [] (CX t me k)) (Ap g j s (k : Int)) = isO t me k := by
  show (ieq (toT t (k : Int)).2.2 0 && (ieq (toT t (k : Int)).1 me && (Av g j _ && ilt (CZ (Dn g j s t me k) (k : Int)) 0))) = _
  rw [e1, e2, hx, isO]
  cases ieq (t.Owners.getD k 0) me <;> rfl
 have eh : Dn g j s t me (k + 1) = Dn g j s t me k ++ ([k].filter (isO t me)).map fun (p : Nat) => GHeld.mk (Ap g j s (p : Int)) false false := by
  rw [Dn, List.range_succ, List.filter_append, List.map_append]; rfl
 have eo : CX t me (k + 1) = CX t me k ++ ([k].filter (isO t me)).map fun (p : Nat) => GPost.mk 0 0 (GMail.mk 2 t.Epoch 0 0 (p : Int) 0 0 0 [] [] [] A7 []) := by
  rw [CX, List.range_succ, List.filter_append, List.map_append]; rfl
 rw [AM, if_neg om, eh, eo, Eb]
 show (bif BH g j _ (Ap g j s (k : Int)) then _ else _) = _
 rw [e3]
 cases ho : isO t me k
 · have : [k].filter (isO t me) = [] := by rw [List.filter_cons, ho]; rfl
   rw [this]; simp
 · have : [k].filter (isO t me) = [k] := by rw [List.filter_cons, ho]; rfl
   rw [this, cT, Er]
   show GWorker.mk me (-1) u t (Db (Dn g j s t me k) (Ap g j s (k : Int))) [] [] _ = _
   rw [Kr _ _ Kv]; rfl
theorem Nb (ht : TabOk j t) (hr : Aq g j s = true) {k : Nat} (hk : k < j.Parts.toNat) : EE g j (AM g j s t me u k) (DQ t (Ap g j s (k : Int))) = AM g j s t me u (k + 1) := by
 obtain ⟨hc, _⟩ := AZ hr
 have hx := Gi hr (p := k) om
 have hm := OL ht hx
 have htab : A9 j t.Epoch (DQ t (Ap g j s (k : Int))) = (t, true) := by
  have e : GTable.mk t.Epoch t.Owners t.Ids t.Incs = t := rfl
  rw [A9]
  show (GTable.mk t.Epoch t.Owners t.Ids t.Incs, Ci (GTable.mk t.Epoch t.Owners t.Ids t.Incs) && (ilt 0 t.Epoch && ieq (t.Owners.length : Int) j.Parts)) = _
  rw [e, ht.r, Ad.2 ht.e.1, Af.2 (by have := ht.n; omega)]; rfl
 rw [EE, hc, hm]
 show Fd g j _ _ = _
 rw [Fd]
 show (bif (A9 j t.Epoch _).2 then (bif ilt t.Epoch _ then _ else bif ilt _ t.Epoch then _ else _) else _) = _
 rw [htab, cT]
 rw [← Nx (u := u) (me := me) ht hr hk]
 by_cases h0 : k = 0
 · subst h0
   have q1 : ilt t.Epoch (AM g j s t me u 0).T.Epoch = false := Ab.2 (by show (0 : Int) ≤ t.Epoch; have := ht.e; omega)
   have q2 : ilt (AM g j s t me u 0).T.Epoch t.Epoch = true := Ad.2 (by show (0 : Int) < t.Epoch; exact ht.e.1)
   rw [q1, q2, cF, cT]
   show Eb g j (Fp (GWorker.mk me (-1) u (A9 j t.Epoch (DQ t (Ap g j s ((0 : Nat) : Int)))).1 [] [] [] []) t.Epoch) _ = _
   rw [htab]; rfl
 · have q0 : (AM g j s t me u k).T = t := if_neg h0
   have q1 : ilt t.Epoch (AM g j s t me u k).T.Epoch = false := Ab.2 (by rw [q0]; omega)
   have q2 : ilt (AM g j s t me u k).T.Epoch t.Epoch = false := Ab.2 (by rw [q0]; omega)
   rw [q1, q2, cF, cF, AM, if_neg h0]
theorem HS (ht : TabOk j t) (hr : Aq g j s = true) (hn : CL s) : ∀ k, k ≤ j.Parts.toNat → WI g j me k (AM g j s t me u k)
 | 0, _ => by
  rw [AM, if_pos rfl]
  exact ⟨rfl, ⟨by show (-1 : Int) ≤ -1; omega, by show (-1 : Int) ≤ _; omega⟩, L7, HOk.nil, fun h hh => absurd hh List.not_mem_nil, Nat.le_refl _, fun h hh => absurd hh List.not_mem_nil, Nat.le_refl _, fun h hh => absurd hh List.not_mem_nil, Nat.le_refl _, fun h hh => absurd hh List.not_mem_nil⟩
 | k + 1, hk => by
  rw [← Nb ht hr om]
  exact L8 (HS ht hr hn k om) (KK ht (Gi hr om) (Lu hn _))
theorem SX {K : Nat} (hK : 1000000 ≤ K) (ht : TabOk j t) (hr : Aq g j s = true) (hn : CL s) {k : Nat} (hk : k < j.Parts.toNat) : F18 K g j (AM g j s t me u k) (DQ t (Ap g j s (k : Int))) = some (AM g j s t me u (k + 1)) := by
 have hW := HS (me := me) (u := u) ht hr hn k om
 have hm := KK ht (Gi hr (p := k) om) (Lu hn _)
 have h6 : k ≤ 1000 := by obtain ⟨hc, _⟩ := AZ hr; have := Au hc; omega
 rw [Kq hK g j _ _ (hW.sml om) hW.hx hW.cd (hm.f.up om) hm.p, Nb ht hr hk]
theorem Ma {β : Type} {step : GPart → GWorker → (GWorker → Option β) → Option β} {fin : GWorker → Option β} {K : Nat} (hK : 1000000 ≤ K) (ht : TabOk j t) (hr : Aq g j s = true) (hn : CL s)
 (hs : ∀ x w c, step x w c = (F18 K g j w (DQ t x)).bind c) : ∀ n k, k + n = j.Parts.toNat → goL step fin ((List.range' k n).map fun (p : Nat) => Ap g j s (p : Int)) (AM g j s t me u k) = fin (AM g j s t me u j.Parts.toNat)
 | 0, k, h => by rw [show k = j.Parts.toNat by omega]; rfl
 | n + 1, k, h => by
  rw [List.range'_succ, List.map_cons, goL, hs, SX hK ht hr hn om, bS]
  exact Ma hK ht hr hn hs n (k + 1) om
end
def Az (j : GJob) : GTable := GTable.mk 2 (List.replicate j.Parts.toNat 3) [3] [1]
def bxS (g : GGraph) (j : GJob) (s : GState) (p q : Nat) : List GMsg := (Am j.Prog (toS j (cP g j s (p : Int)) (q : Int))).1
def okD (g : GGraph) (j : GJob) (s : GState) (p : Nat) : Bool := ieq (doS g j (Ap g j s (p : Int))).2.2 0
def isF (x : GPost) : Bool := ieq x.M.Kind 5 && ieq x.M.E 8
def daS (g : GGraph) (j : GJob) (s : GState) (p q : Nat) : GData := GData.mk 2 s.Step (p : Int) (q : Int) (bxS g j s p q)
section
variable {g : GGraph} {j : GJob} {s : GState} {w : GWorker}
theorem P6 {k : Nat} (ht : TabOk j (Az j)) (hk : k < j.Parts.toNat) : (toT (Az j) (k : Int)).1 = 3 := by
 have hl : (Az j).Owners.length = j.Parts.toNat := List.length_replicate
 rw [ME ht.r (by rw [hl]; exact hk)]
 show (List.replicate j.Parts.toNat (3 : Int)).getD k 0 = 3
 rw [List.getD_eq_getElem?_getD, List.getElem?_replicate, if_pos hk]; rfl
theorem OA {b : List GData} {e t q p : Int} (h : ilt (AP b e t q p) 0 = true) : ∀ d ∈ b, BD e t q p d = false := fun d hd => by
 rw [Ad, AP, Co] at h
 cases hf : b.findIdx? (BD e t q p) with
 | none => exact List.findIdx?_eq_none_iff.1 hf d hd
 | some n => rw [hf] at h; simp only at h; omega
theorem JZ (ht : TabOk j (Az j)) (p : Nat) : ∀ (n r : Nat) (w : GWorker), r + n ≤ j.Parts.toNat → w.T = Az j → w.Id = 3 → w.Goal = s.Step →
 (AY (p : Int) r ((List.range' r n).map fun (q : Nat) => bxS g j s p q) w).Out = w.Out ∧
 (∀ d ∈ w.Buf, d ∈ (AY (p : Int) r ((List.range' r n).map fun (q : Nat) => bxS g j s p q) w).Buf) ∧
 (∀ d ∈ (AY (p : Int) r ((List.range' r n).map fun (q : Nat) => bxS g j s p q) w).Buf, d ∈ w.Buf ∨ ∃ q < j.Parts.toNat, d = daS g j s p q) ∧
 ∀ q, r ≤ q → q < r + n → ∃ d ∈ (AY (p : Int) r ((List.range' r n).map fun (q : Nat) => bxS g j s p q) w).Buf, BD 2 s.Step (p : Int) (q : Int) d = true
 | 0, r, w, _, _, _, _ => ⟨rfl, fun d hd => hd, fun d hd => .inl hd, fun q h1 h2 => by omega⟩
 | n + 1, r, w, hr, hT, hI, hG => by
  rw [List.range'_succ, List.map_cons, AY]
  have hst : Ck (p : Int) w r (bxS g j s p r) = Bb w (AR w (p : Int) r (bxS g j s p r)) := by
   rw [Ck, hT, P6 ht om, hI]; rfl
  rw [hst]
  have hda : Bb w (AR w (p : Int) r (bxS g j s p r)) = bif ilt (AP w.Buf 2 s.Step (p : Int) (r : Int)) 0 then { w with Buf := w.Buf ++ [daS g j s p r] } else w := by
   rw [Bb]
   show (bif ile w.T.Epoch w.T.Epoch && ilt (AP w.Buf w.T.Epoch w.Goal (p : Int) (r : Int)) 0 then { w with Buf := w.Buf ++ [GData.mk w.T.Epoch w.Goal (p : Int) (r : Int) (bxS g j s p r)] } else w) = _
   rw [AK.2 (Int.le_refl _), Bool.true_and, hT, hG]; rfl
  have key : (Bb w (AR w (p : Int) r (bxS g j s p r))).Out = w.Out ∧ (Bb w (AR w (p : Int) r (bxS g j s p r))).T = w.T ∧ (Bb w (AR w (p : Int) r (bxS g j s p r))).Id = w.Id ∧ (Bb w (AR w (p : Int) r (bxS g j s p r))).Goal = w.Goal ∧
   (∀ d ∈ w.Buf, d ∈ (Bb w (AR w (p : Int) r (bxS g j s p r))).Buf) ∧ (∀ d ∈ (Bb w (AR w (p : Int) r (bxS g j s p r))).Buf, d ∈ w.Buf ∨ d = daS g j s p r) ∧ ∃ d ∈ (Bb w (AR w (p : Int) r (bxS g j s p r))).Buf, BD 2 s.Step (p : Int) (r : Int) d = true := by
   rw [hda]
   cases hq : ilt (AP w.Buf 2 s.Step (p : Int) (r : Int)) 0
   · refine ⟨rfl, rfl, rfl, rfl, fun d hd => hd, fun d hd => .inl hd, ?_⟩
     rw [Ab] at hq
     obtain ⟨i, x, _, hx, hp⟩ := Gs (show ¬ Co (BD 2 s.Step (p : Int) (r : Int)) w.Buf < 0 from Int.not_lt.2 hq)
     exact ⟨x, List.mem_of_getElem? hx, hp⟩
   · refine ⟨rfl, rfl, rfl, rfl, fun d hd => List.mem_append_left _ hd, fun d hd => ?_, daS g j s p r, List.mem_append_right _ (List.mem_singleton.2 rfl), ?_⟩
     · rcases List.mem_append.1 hd with hd | hd
       · exact .inl hd
       · exact .inr (List.mem_singleton.1 hd)
     · simp [BD, daS, A6]
  obtain ⟨k1, k2, k3, k4, k5, k6, d0, k7, k8⟩ := key
  obtain ⟨i1, i2, i3, i4⟩ := JZ ht p n (r + 1) _ om (k2.trans hT) (k3.trans hI) (k4.trans hG)
  refine ⟨i1.trans k1, fun d hd => i2 d (k5 d hd), fun d hd => ?_, fun q h1 h2 => ?_⟩
  · rcases i3 d hd with h | h
    · rcases k6 d h with h | h
      · exact .inl h
      · exact .inr ⟨r, by omega, h⟩
    · exact .inr h
  · by_cases hq : q = r
    · subst hq; exact ⟨d0, i2 d0 k7, k8⟩
    · exact i4 q om om
structure DI (g : GGraph) (j : GJob) (s : GState) (out : List GPost) (i : Nat) (st : GWorker × List GDid) : Prop where
 t : st.1.T = Az j
 go : st.1.Goal = s.Step
 id : st.1.Id = 3
 len : st.1.Held.length = j.Parts.toNat
 hl : ∀ q, i ≤ q → q < j.Parts.toNat → st.1.Held[q]? = some (GHeld.mk (Ap g j s (q : Int)) false false)
 bad : (∃ p, p < i ∧ okD g j s p = false) → ∃ x ∈ st.1.Out, isF x = true
 dn : ∀ q, q < i → okD g j s q = true → st.1.Held[q]? = some (GHeld.mk (Bc g j s (q : Int) []) true false)
 da : ∀ q, q < i → okD g j s q = true → ∀ r < j.Parts.toNat, ∃ d ∈ st.1.Buf, BD 2 s.Step (q : Int) (r : Int) d = true
 db : ∀ d ∈ st.1.Buf, ∃ q r, q < j.Parts.toNat ∧ r < j.Parts.toNat ∧ d = daS g j s q r
 out : (∀ q, q < i → okD g j s q = true) → st.1.Out = out ∧ st.2.length = i
theorem RQ (ht : TabOk j (Az j)) (hr : Aq g j s = true) (h40 : ieq s.Step 40 = false) (hf : C0 j s) {out : List GPost} {i : Nat} {st : GWorker × List GDid} (hi : i < j.Parts.toNat) (h : DI g j s out i st) : DI g j s out (i + 1) (EH g j st i) := by
 have hh := h.hl i (Nat.le_refl _) hi
 have hlt : i < st.1.Held.length := by rw [h.len]; exact hi
 have hst : ieq (Ap g j s (i : Int)).Step st.1.Goal = true := by rw [h.go]; exact A6 _
 have e : EH g j st i = ((Bt g j st.1 i (GHeld.mk (Ap g j s (i : Int)) false false)).2, st.2 ++ (Bt g j st.1 i (GHeld.mk (Ap g j s (i : Int)) false false)).1) := by
  rw [EH, hh]
  show (bif false || (false || !(ieq (Ap g j s (i : Int)).Step st.1.Goal)) then _ else _) = _
  rw [hst]; rfl
 have hset : ∀ (y : GHeld) q, q ≠ i → (st.1.Held.set i y)[q]? = st.1.Held[q]? := fun y q hq => List.getElem?_set_ne (Ne.symm hq)
 rw [e]
 rcases Ji hr h40 hf (p := i) om with ⟨a1, _⟩ | ⟨v1, v2, a1⟩
 · have ok : okD g j s i = false := by rw [okD, a1]; rfl
   have e2 : Bt g j st.1 i (GHeld.mk (Ap g j s (i : Int)) false false) = ([], Ha { st.1 with Held := st.1.Held.set i (GHeld.mk (Ap g j s (i : Int)) true false) } (i : Int)) := by
    rw [Bt]; dsimp only; rw [a1]; rfl
   rw [e2]
   refine ⟨h.t, h.go, h.id, by show (st.1.Held.set i _).length = _; rw [List.length_set]; exact h.len, fun q h1 h2 => ?_, fun _ => ⟨_, List.mem_append_right _ (List.mem_singleton.2 rfl), rfl⟩, fun q h1 h2 => ?_, fun q h1 h2 => ?_, h.db, fun hall => ?_⟩
   · show (st.1.Held.set i _)[q]? = _
     rw [hset _ q om]; exact h.hl q om h2
   · by_cases hq : q = i
     · rw [hq, ok] at h2; cases h2
     · show (st.1.Held.set i _)[q]? = _
       rw [hset _ q hq]; exact h.dn q om h2
   · by_cases hq : q = i
     · rw [hq, ok] at h2; cases h2
     · exact h.da q om h2
   · have := hall i om; rw [ok] at this; cases this
 · have ok : okD g j s i = true := by rw [okD, a1]; rfl
   have hbx : (List.range j.Parts.toNat).map (fun (q : Nat) => (Am j.Prog (toS j (cP g j s (i : Int)) (q : Int))).1) = (List.range' 0 j.Parts.toNat).map fun (q : Nat) => bxS g j s i q := by rw [← List.range_eq_range']; rfl
   rw [hbx] at a1
   let w1 : GWorker := { st.1 with Held := st.1.Held.set i (GHeld.mk (Bc g j s (i : Int) []) true false) }
   have e2 : Bt g j st.1 i (GHeld.mk (Ap g j s (i : Int)) false false) = ([GDid.mk (AY (i : Int) 0 ((List.range' 0 j.Parts.toNat).map fun (q : Nat) => bxS g j s i q) w1).T.Epoch (AY (i : Int) 0 ((List.range' 0 j.Parts.toNat).map fun (q : Nat) => bxS g j s i q) w1).Goal (i : Int)], AY (i : Int) 0 ((List.range' 0 j.Parts.toNat).map fun (q : Nat) => bxS g j s i q) w1) := by
    rw [Bt]; dsimp only; rw [a1]; rfl
   obtain ⟨o1, o2, o3, o4⟩ := JZ (g := g) (s := s) ht i j.Parts.toNat 0 w1 om h.t h.id h.go
   obtain ⟨p1, p2, p3, p4, _⟩ := I7 (i : Int) ((List.range' 0 j.Parts.toNat).map fun (q : Nat) => bxS g j s i q) 0 w1
   rw [e2]
   refine ⟨p2.trans h.t, p3.trans h.go, p4.trans h.id, by rw [p1]; show (st.1.Held.set i _).length = _; rw [List.length_set]; exact h.len, fun q h1 h2 => ?_, fun ⟨p, hp, hb⟩ => ?_, fun q h1 h2 => ?_, fun q h1 h2 r hr => ?_, fun d hd => ?_, fun hall => ?_⟩
   · rw [p1]; show (st.1.Held.set i _)[q]? = _
     rw [hset _ q om]; exact h.hl q om h2
   · by_cases hq : p = i
     · rw [hq, ok] at hb; cases hb
     · obtain ⟨x, hx, hfx⟩ := h.bad ⟨p, by omega, hb⟩
       exact ⟨x, by rw [o1]; exact hx, hfx⟩
   · rw [p1]; show (st.1.Held.set i _)[q]? = _
     by_cases hq : q = i
     · rw [hq, List.getElem?_set_self hlt]
     · rw [hset _ q hq]; exact h.dn q om h2
   · by_cases hq : q = i
     · rw [hq]; exact o4 r (Nat.zero_le _) om
     · obtain ⟨d, hd, hd2⟩ := h.da q om h2 r hr
       exact ⟨d, o2 d hd, hd2⟩
   · rcases o3 d hd with h1 | ⟨q, hq, h1⟩
     · exact h.db d h1
     · exact ⟨i, q, hi, hq, h1⟩
   · obtain ⟨h1, h2⟩ := h.out fun q hq => hall q om
     exact ⟨by rw [o1]; exact h1, by show (st.2 ++ _).length = _; rw [List.length_append, h2]; rfl⟩
theorem KJ (ht : TabOk j (Az j)) (hr : Aq g j s = true) (h40 : ieq s.Step 40 = false) (hf : C0 j s) {out : List GPost} : ∀ (n i : Nat) (st : GWorker × List GDid), i + n = j.Parts.toNat → DI g j s out i st → DI g j s out j.Parts.toNat ((List.range' i n).foldl (EH g j) st)
 | 0, i, st, h, hd => by rw [← show i = j.Parts.toNat by omega]; exact hd
 | n + 1, i, st, h, hd => by
  rw [List.range'_succ, List.foldl_cons]
  exact KJ ht hr h40 hf n (i + 1) _ om (RQ ht hr h40 hf om hd)
end
section
variable {g : GGraph} {j : GJob} {s : GState} {w : GWorker}
def okT (g : GGraph) (j : GJob) (s : GState) (q : Nat) : Bool := ieq (tS g j s q).2 0
def HY (g : GGraph) (j : GJob) (s : GState) (q : Nat) : GPost := GPost.mk 0 0 (GMail.mk 5 2 0 s.Step (q : Int) 0 0 0 [] [] [] (tS g j s q).1 [])
structure CI (g : GGraph) (j : GJob) (s : GState) (out : List GPost) (i : Nat) (w : GWorker) : Prop where
 t : w.T = Az j
 go : w.Goal = s.Step
 len : w.Held.length = j.Parts.toNat
 hl : ∀ q, i ≤ q → q < j.Parts.toNat → w.Held[q]? = some (GHeld.mk (Bc g j s (q : Int) []) true false)
 bad : (∃ p, p < i ∧ okT g j s p = false) → ∃ x ∈ w.Out, isF x = true
 da : ∀ r, i ≤ r → r < j.Parts.toNat → ∀ q < j.Parts.toNat, ∃ d ∈ w.Buf, BD 2 s.Step (q : Int) (r : Int) d = true
 db : ∀ d ∈ w.Buf, ∃ q r, q < j.Parts.toNat ∧ r < j.Parts.toNat ∧ d = daS g j s q r
 out : (∀ q, q < i → okT g j s q = true) → w.Out = out ++ (List.range i).map (HY g j s)
theorem JD {b : List GData} {r : Nat} (hd : ∀ d ∈ b, ∃ q r, d = daS g j s q r) : ∀ (l : List Nat), (∀ q ∈ l, ∃ d ∈ b, BD 2 s.Step (q : Int) (r : Int) d = true) → Bk b 2 s.Step (r : Int) l = some (l.map fun q => bxS g j s q r)
 | [], _ => rfl
 | q :: l, h => by
  obtain ⟨d, hd1, hd2⟩ := h q List.mem_cons_self
  have hg : ilt (AP b 2 s.Step (q : Int) (r : Int)) 0 = false := by
   cases hq : ilt (AP b 2 s.Step (q : Int) (r : Int)) 0
   · rfl
   · have := OA hq d hd1; rw [hd2] at this; cases this
  have hg' := hg
  rw [Ab] at hg'
  obtain ⟨i, x, e1, e2, e3⟩ := Gs (show ¬ Co (BD 2 s.Step (q : Int) (r : Int)) b < 0 from Int.not_lt.2 hg')
  have hx : (b.getD (AP b 2 s.Step (q : Int) (r : Int)).toNat Hj).Msgs = bxS g j s q r := by
   have e1' : AP b 2 s.Step (q : Int) (r : Int) = (i : Int) := e1
   rw [e1', Int.toNat_natCast, List.getD_eq_getElem?_getD, e2]
   obtain ⟨q', r', rfl⟩ := hd x (List.mem_of_getElem? e2)
   simp only [BD, daS, Bool.and_eq_true, Af] at e3
   obtain ⟨_, _, e4, e5⟩ := e3
   rw [show q' = q by omega, show r' = r by omega]; rfl
  rw [Bk, hg, JD hd l fun q hq => h q (List.mem_cons_of_mem _ hq), hx]; rfl
theorem O5 {out : List GPost} {i : Nat} (hp : (j.Parts.toNat : Int) = j.Parts) (hi : i < j.Parts.toNat) (h : CI g j s out i w) : CI g j s out (i + 1) (DE g j w i) := by
 have hh := h.hl i (Nat.le_refl _) hi
 have hlt : i < w.Held.length := by rw [h.len]; exact hi
 have e : DE g j w i = CF g j w i (GHeld.mk (Bc g j s (i : Int) []) true false) := by
  rw [DE, hh]
  show (bif true && ieq (s.Step + 1) (w.Goal + 1) then _ else _) = _
  rw [h.go, A6]; rfl
 have hins : Bk w.Buf w.T.Epoch w.Goal (i : Int) (List.range j.Parts.toNat) = some (Dj g j s (i : Int)) := by
  rw [h.t, h.go]
  exact JD (fun d hd => by obtain ⟨q, r, _, _, h⟩ := h.db d hd; exact ⟨q, r, h⟩) _ fun q hq => h.da i (Nat.le_refl _) hi q (List.mem_range.1 hq)
 have e2 : CF g j w i (GHeld.mk (Bc g j s (i : Int) []) true false) = El g j w i (GHeld.mk (Bc g j s (i : Int) []) true false) (Dj g j s (i : Int)) := by
  rw [CF]
  show (match Bk w.Buf w.T.Epoch w.Goal (i : Int) (List.range j.Parts.toNat) with | none => w | some ins => El g j w i _ ins) = _
  rw [hins]
 have hset : ∀ (y : GHeld) q, q ≠ i → (w.Held.set i y)[q]? = w.Held[q]? := fun y q hq => List.getElem?_set_ne (Ne.symm hq)
 have hda : ∀ r, i + 1 ≤ r → r < j.Parts.toNat → ∀ q < j.Parts.toNat, ∃ d ∈ w.Buf.filter (DA w j.Parts (i : Int)), BD 2 s.Step (q : Int) (r : Int) d = true := fun r h1 h2 q hq => by
  obtain ⟨d, d1, d2⟩ := h.da r om h2 q hq
  refine ⟨d, List.mem_filter.2 ⟨d1, ?_⟩, d2⟩
  have d3 := d2
  simp only [BD, Bool.and_eq_true, Af] at d3
  have : ieq d.P (i : Int) = false := As.2 om
  rw [DA, this]; simp
 have hdb : ∀ d ∈ w.Buf.filter (DA w j.Parts (i : Int)), ∃ q r, q < j.Parts.toNat ∧ r < j.Parts.toNat ∧ d = daS g j s q r := fun d hd => h.db d (List.mem_filter.1 hd).1
 rw [e, e2, El]
 show CI g j s out (i + 1) (bif ieq (tS g j s i).2 0 then Er { w with Held := w.Held.set i (GHeld.mk (tS g j s i).1 false false), Buf := w.Buf.filter (DA w j.Parts (i : Int)) } (D7 w (i : Int) (tS g j s i).1) else Ha { w with Buf := w.Buf.filter (DA w j.Parts (i : Int)) } (i : Int))
 cases hq : ieq (tS g j s i).2 0
 · refine ⟨h.t, h.go, h.len, fun q h1 h2 => h.hl q om h2, fun _ => ⟨_, List.mem_append_right _ (List.mem_singleton.2 rfl), rfl⟩, hda, hdb, fun hall => ?_⟩
   have := hall i om
   rw [okT, hq] at this; cases this
 · refine ⟨h.t, h.go, by show (w.Held.set i _).length = _; rw [List.length_set]; exact h.len, fun q h1 h2 => ?_, fun ⟨p, hp, hb⟩ => ?_, hda, hdb, fun hall => ?_⟩
   · show (w.Held.set i _)[q]? = _
     rw [hset _ q om]; exact h.hl q om h2
   · by_cases hpi : p = i
     · rw [hpi, okT, hq] at hb; cases hb
     · obtain ⟨x, hx, hfx⟩ := h.bad ⟨p, by omega, hb⟩
       exact ⟨x, List.mem_append_left _ hx, hfx⟩
   · have := h.out fun q hq => hall q om
     show w.Out ++ [GPost.mk 0 0 (D7 w (i : Int) (tS g j s i).1)] = _
     rw [this, List.range_succ, List.map_append, List.append_assoc]
     have : D7 w (i : Int) (tS g j s i).1 = (HY g j s i).M := by rw [D7, h.t, h.go]; rfl
     rw [this]; rfl
theorem KR {out : List GPost} (hp : (j.Parts.toNat : Int) = j.Parts) : ∀ (n i : Nat) (w : GWorker), i + n = j.Parts.toNat → CI g j s out i w → CI g j s out j.Parts.toNat ((List.range' i n).foldl (DE g j) w)
 | 0, i, w, h, hd => by rw [← show i = j.Parts.toNat by omega]; exact hd
 | n + 1, i, w, h, hd => by
  rw [List.range'_succ, List.foldl_cons]
  exact KR hp n (i + 1) _ om (O5 hp om hd)
theorem UU {x : GPost} (w : GWorker) (i : Nat) (h : x ∈ w.Out) : x ∈ (DE g j w i).Out := by
 rw [DE]
 cases w.Held[i]? with
 | none => exact h
 | some y =>
  show x ∈ (bif y.Wait && ieq y.X.Step (w.Goal + 1) then CF g j w i y else w).Out
  cases y.Wait && ieq y.X.Step (w.Goal + 1)
  · exact h
  · rw [cT, CF]
    cases Bk w.Buf w.T.Epoch w.Goal y.X.P (List.range j.Parts.toNat) with
    | none => exact h
    | some ins =>
     show x ∈ (El g j w i y ins).Out
     rw [El]
     cases ieq (AO g j y.X ins.flatten).2 0
     · exact List.mem_append_left _ h
     · exact List.mem_append_left _ h
theorem L1 {x : GPost} : ∀ (l : List Nat) (w : GWorker), x ∈ w.Out → x ∈ (l.foldl (DE g j) w).Out
 | [], _, h => h
 | i :: l, w, h => by rw [List.foldl_cons]; exact L1 l _ (UU w i h)
theorem PY (hr : Aq g j s = true) (hv : ∀ p < j.Parts.toNat, ∀ v ∈ Ak g j (p : Int), ieq (Ag g j s v).2.2.2 0 = true) : ∀ v : Nat, (v : Int) < g.N → ieq (Ag g j s v).2.2.2 0 = true := fun v hvN => by
 obtain ⟨hc, _⟩ := AZ hr
 obtain ⟨hg, _, _, _, _, _, _, p7, p8⟩ := Au hc
 have hm0 : 0 ≤ (v : Int) % j.Parts := Int.emod_nonneg _ om
 have hm1 : (v : Int) % j.Parts < j.Parts := Int.emod_lt_of_pos _ om
 have := hv ((v : Int) % j.Parts).toNat om v
 rw [show (((v : Int) % j.Parts).toNat : Int) = (v : Int) % j.Parts by omega] at this
 exact this ((DH p7).2 ⟨hvN, rfl⟩)
theorem S5 {q : Nat} (hr : Aq g j s = true) (h40 : ieq s.Step 40 = false) (hf : C0 j s) {t : Int} (h : acc j.Prog t (toS j (cW g j s) (q : Int)) = some none) (hall : ∀ v : Nat, (v : Int) < g.N → ieq (Ag g j s v).2.2.2 0 = true) : (AH g j s).2 = 8 := by
 obtain ⟨hc, _⟩ := AZ hr
 obtain ⟨_, p1, p2, _⟩ := Au hc
 have hb : Ao j.Prog = false := by rw [Ao, Ab.2 p1, Ab.2 p2]; rfl
 obtain ⟨b, hb2⟩ := M4 j (cW g j s) (q : Int)
 have := IC hb hb2 h
 rcases IB hr h40 hf hall with ⟨h8, _⟩ | ⟨w, _, _, hno, _⟩
 · exact h8
 · exact absurd this (hno t)
def Da (x : List GPart × Bool) (p : GPost) : List GPart × Bool := (bif ieq p.M.Kind 5 && ieq p.M.E 0 then x.1 ++ [p.M.X] else x.1, x.2 || isF p)
theorem Nc : ∀ (l : List GPost) (x : List GPart × Bool), (l.foldl Da x).2 = (x.2 || l.any isF)
 | [], x => by simp
 | p :: l, x => by rw [List.foldl_cons, Nc l, List.any_cons, Da]; simp [Bool.or_assoc]
theorem Sp {K : Nat} (g : GGraph) (j : GJob) (r : GWorker × List GPost × List GDid) (n : GState × Int) (hl : r.2.1.length ≤ 500000) (hK : 1000000 ≤ K) : DF K g j r n K [] false 0 = some (r.2.1.foldl Da ([], false)) := by
 let step : GPost → List GPart × Bool → (List GPart × Bool → Option (List GPart × Bool)) → Option (List GPart × Bool) := fun x s c =>
  bif ieq x.M.Kind 5 then (bif ieq x.M.E 0 then (bif apok (len s.1) 1 88 then (bif s.2 then c (appL s.1 [x.M.X], true) else c (appL s.1 [x.M.X], ieq x.M.E 8)) else none) else (bif s.2 then c (s.1, true) else c (s.1, ieq x.M.E 8))) else (bif s.2 then c (s.1, true) else c (s.1, false))
 have hs := AE (l := r.2.1) (L := fun k (s : List GPart × Bool) i => DF K g j r n k s.1 s.2 i) step (fun s => some s) (fun k s i _ => rfl) om (K := K) om ([], false)
 have go : ∀ (l : List GPost) (s : List GPart × Bool), s.1.length + l.length ≤ 500000 → goL step (fun s => some s) l s = some (l.foldl Da s) := by
  intro l
  induction l with
  | nil => intro s _; rfl
  | cons x l ih =>
   intro s h
   rw [List.length_cons] at h
   have e : ∀ c, step x s c = c (Da s x) := fun c => by
    show (bif ieq x.M.Kind 5 then _ else _) = _
    rw [Da, isF]
    cases ieq x.M.Kind 5
    · cases s.2 <;> rfl
    · cases ieq x.M.E 0
      · cases s.2 <;> rfl
      · simp only [cT, Bool.and_self, Bool.true_and]
        rw [Bp (by show s.1.length + 1 ≤ _; omega) om]
        cases s.2 <;> rfl
   rw [goL, e, List.foldl_cons]
   refine ih _ ?_
   rw [Da]
   cases ieq x.M.Kind 5 && ieq x.M.E 0
   · show s.1.length + l.length ≤ _; omega
   · show (s.1 ++ [x.M.X]).length + l.length ≤ _; rw [List.length_append, List.length_singleton]; omega
 exact hs.trans (go r.2.1 ([], false) (by simpa using hl))
theorem Ri (t : GTable) (me : Int) : ∀ (k : Nat) (x : List GPart × Bool), (CX t me k).foldl Da x = x := by
 intro k x
 rw [CX]
 generalize (List.range k).filter (isO t me) = l
 induction l generalizing x with
 | nil => rfl
 | cons p l ih => rw [List.map_cons, List.foldl_cons]; rw [ih]; rw [Da]; show (x.1, x.2 || false) = x; simp
theorem Lq : ∀ (l : List Nat) (x : List GPart × Bool), (l.map (HY g j s)).foldl Da x = (x.1 ++ l.map fun q => (tS g j s q).1, x.2)
 | [], x => by simp
 | q :: l, x => by
  rw [List.map_cons, List.foldl_cons, Lq l, Da]
  show (x.1 ++ [(tS g j s q).1] ++ _, x.2 || false) = _
  simp
end
theorem Ph {K : Nat} (hK : 1000 ≤ K) (g : GGraph) (j : GJob) (l : List GPart) (hx : ∀ x ∈ l, x.In.length < 1000) : F24 K g j l = some (HE g j l) := by
 rw [F24, E6 om, HE]
 have nl : nlen (len l) = (l.length : Int) := rfl
 cases hc : ieq (An g j) 0
 · simp only [bS, hc, cF]; rfl
 · obtain ⟨hg, p1, p2, p3, p4, p5, p6, p7, p8⟩ := Au hc
   simp only [bS, hc, cT, nl]
   cases hl : ieq (l.length : Int) j.Parts
   · rfl
   · have hl' := Af.1 hl
     have h := Bw (l := l) (L := fun k (_ : Unit) i => Gq K g j l k i) (fun i x (_ : Unit) c => bif ieq x.P (i : Int) then (bif inr 0 (len l) then (elAt l 0).bind fun y => bif ieq x.Step y.Step then ((F17 K g j x).bind fun q => bif q then c () else some (.inl ())) else some (.inl ()) else none) else some (.inl ())) (fun _ => some (.inr ())) (fun k st i hi => rfl) om K () 0 om om
     have e := S7 (K := K) (g := g) (j := j) (l := l) rfl om F17 (fun x h => NK hK g j x (by have := hx x h; omega) (by have := hx x h; omega)) l 0 rfl
     have c2 : Gq K g j l K 0 = some (Bf (C6 g j (l.getD 0 noP).Step 0 l)) := h.trans e
     rw [cT, cT, c2]
     cases ho : C6 g j (l.getD 0 noP).Step 0 l
     · rfl
     · obtain ⟨a1, a2⟩ := Fe (l := l) noP (show 0 < l.length by omega)
       have a1' : inr 0 (len l) = true := a1
       have a2' : elAt l 0 = some (l.getD 0 noP) := a2
       have s1 : Bf true = .inr () := rfl
       simp only [s1, bS, Sum.elim_inr, a1', a2', cT, Od hK g j l _ hc hl' ho]
       rfl
section
variable {g : GGraph} {j : GJob} {s : GState}
theorem Jo (hc : ieq (An g j) 0 = true) : TabOk j (Az j) := by
 obtain ⟨_, _, _, _, _, _, _, p7, p8⟩ := Au hc
 have hl : (Az j).Owners.length = j.Parts.toNat := List.length_replicate
 have hm : ∀ o ∈ (Az j).Owners, o = 3 := fun o ho => (List.mem_replicate.1 ho).2
 refine ⟨?_, ⟨by show (0 : Int) < 2; omega, by show (2 : Int) ≤ _; omega⟩, hl, Hx.2 ⟨fun o ho => by rw [hm o ho]; omega, by omega⟩, by show Bd 5 [3] = true; decide, by show Bd 1 [1] = true; decide⟩
 have h1 : (Az j).Owners.all (fun o => !(ilt (CA [3] o) 0)) = true := List.all_eq_true.2 fun o ho => by rw [hm o ho]; decide
 have h2 : ilt 6 ((Az j).Owners.length : Int) = false := Ab.2 om
 show (!(ilt 2 0) && (!(ilt 1099511627776 2) && (!(ilt 5 1) && (ieq 1 1 && (!(ilt 6 ((Az j).Owners.length : Int)) && (Ek 0 [3] [1] && (Az j).Owners.all fun o => !(ilt (CA [3] o) 0))))))) = true
 rw [h1, h2]; decide
theorem Lk (g : GGraph) (j : GJob) {k : Nat} (hk : k ≤ j.Parts.toNat) : (List.range k).filter (isO (Az j) 3) = List.range k := List.filter_eq_self.2 fun p hp => by
 have := List.mem_range.1 hp
 show ieq ((List.replicate j.Parts.toNat (3 : Int)).getD p 0) 3 = true
 rw [List.getD_eq_getElem?_getD, List.getElem?_replicate, if_pos om]; rfl
def AW (g : GGraph) (j : GJob) (s : GState) : GWorker := { AM g j s (Az j) 3 10 j.Parts.toNat with Goal := s.Step }
def C1 (s : GState) : GMail := GMail.mk 3 2 0 s.Step 0 0 0 0 [] [] [] (GPart.mk 0 0 [] [] []) []
theorem Lf (hr : Aq g j s = true) : EE g j (AM g j s (Az j) 3 10 j.Parts.toNat) (C1 s) = AW g j s := by
 obtain ⟨hc, s1, s2, _⟩ := AZ hr
 obtain ⟨_, _, _, _, _, _, _, p7, p8⟩ := Au hc
 have hm : Cu (C1 s) = true := by
  simp only [Cu, C1, Bool.and_eq_true]
  refine ⟨by decide, by decide, Hx.2 ⟨fun y hy => ?_, by simp⟩, by decide, by decide, by decide, by decide, by decide, by decide, by decide, by decide⟩
  simp only [List.mem_cons, List.not_mem_nil, or_false] at hy
  omega
 rw [EE, hc, hm]
 show ER _ _ = _
 rw [ER]
 show (bif ieq 2 (AM g j s (Az j) 3 10 j.Parts.toNat).T.Epoch then _ else _) = _
 have : (AM g j s (Az j) 3 10 j.Parts.toNat).T = Az j := if_neg om
 have q : ieq 2 (AM g j s (Az j) 3 10 j.Parts.toNat).T.Epoch = true := by rw [this]; rfl
 rw [q]; rfl
theorem IJ (s : GState) : MI (C1 s) := ⟨⟨by simp [C1], by simp [C1], by simp [C1], by simp [C1], by simp [C1], by simp [C1], by simp [C1]⟩, by show i64 0; unfold i64; omega, ⟨fun v hv => absurd hv List.not_mem_nil, fun v hv => absurd hv List.not_mem_nil⟩, fun y hy => absurd hy List.not_mem_nil⟩
theorem UC (hr : Aq g j s = true) : DI g j s (CX (Az j) 3 j.Parts.toNat) 0 (AW g j s, []) := by
 obtain ⟨hc, s1, s2, _⟩ := AZ hr
 obtain ⟨_, _, _, _, _, _, _, p7, p8⟩ := Au hc
 have hT : (AM g j s (Az j) 3 10 j.Parts.toNat).T = Az j := if_neg om
 have hH : (AW g j s).Held = (List.range j.Parts.toNat).map fun (p : Nat) => GHeld.mk (Ap g j s (p : Int)) false false := by
  show Dn g j s (Az j) 3 j.Parts.toNat = _
  rw [Dn, Lk g j (Nat.le_refl _)]
 refine ⟨hT, rfl, rfl, by rw [hH]; simp, fun q _ hq => ?_, fun ⟨p, hp, _⟩ => absurd hp (Nat.not_lt_zero _), fun q hq => absurd hq (Nat.not_lt_zero _), fun q hq => absurd hq (Nat.not_lt_zero _), fun d hd => absurd hd List.not_mem_nil, fun _ => ⟨rfl, rfl⟩⟩
 rw [hH, List.getElem?_map, List.getElem?_range hq]; rfl
theorem UW {K : Nat} (hK : 1000000 ≤ K) (g : GGraph) (j : GJob) (s : GState) (hl : s.Vals.length ≤ 100) : Ew K g j s K 0 = some (Bf (bif ieq j.Prog 5 then s.Vals.all fun v => ile 0 v else true)) := by
 let step : Int → Unit → (Unit → Option (Unit ⊕ Unit)) → Option (Unit ⊕ Unit) := fun x _ c => bif ilt x 0 then some (.inl ()) else c ()
 cases h5 : ieq j.Prog 5
 · obtain ⟨k, rfl⟩ : ∃ k, K = k + 1 := ⟨K - 1, by omega⟩
   rw [Ew, h5]
   cases ilt 0 (nlen (len s.Vals)) <;> rfl
 · have h := AE (l := s.Vals) (L := fun k (_ : Unit) i => Ew K g j s k i) step (fun _ => some (.inr ())) (fun k st i _ => by rw [Ew, h5]; rfl) om (K := K) om ()
   have e := E9 (step := step) (fun x => ile 0 x) s.Vals (fun x _ c => by
    show (bif ilt x 0 then _ else _) = _
    cases hx : ilt x 0
    · rw [Ab] at hx; rw [AK.2 hx]; rfl
    · rw [Ad] at hx; rw [Di.2 hx]; rfl)
   rw [cT]
   exact h.trans e
theorem Wa {K : Nat} (hK : 1000000 ≤ K) (g : GGraph) (j : GJob) (s : GState) (hl : s.In.length ≤ 100) : Ec K g j s K 0 = some (Bf (bif ieq j.Prog 5 then s.In.all fun m => ile 0 m.V else true)) := by
 let step : GMsg → Unit → (Unit → Option (Unit ⊕ Unit)) → Option (Unit ⊕ Unit) := fun x _ c => bif ilt x.V 0 then some (.inl ()) else c ()
 cases h5 : ieq j.Prog 5
 · obtain ⟨k, rfl⟩ : ∃ k, K = k + 1 := ⟨K - 1, by omega⟩
   rw [Ec, h5]
   cases ilt 0 (nlen (len s.In)) <;> rfl
 · have h := AE (l := s.In) (L := fun k (_ : Unit) i => Ec K g j s k i) step (fun _ => some (.inr ())) (fun k st i _ => by rw [Ec, h5]; rfl) om (K := K) om ()
   have e := E9 (step := step) (fun x => ile 0 x.V) s.In (fun x _ c => by
    show (bif ilt x.V 0 then _ else _) = _
    cases hx : ilt x.V 0
    · rw [Ab] at hx; rw [AK.2 hx]; rfl
    · rw [Ad] at hx; rw [Di.2 hx]; rfl)
   rw [cT]
   exact h.trans e
theorem SK {K : Nat} (hK : 1000000 ≤ K) (g : GGraph) (j : GJob) (s : GState) (r : List GPart × Int) (w : GWorker) (hl : r.1.length ≤ 100) : Fw K g j s r w K [] 0 = some (List.replicate r.1.length 3) := by
 let step : GPart → List Int → (List Int → Option (List Int)) → Option (List Int) := fun _ a c => bif apok (len a) 1 8 then c (appL a [3]) else none
 have hw : ∀ (k n i : Nat) (a : List Int), n < k → i + n = r.1.length → a = List.replicate i 3 → Fw K g j s r w k a (i : Int) = some (List.replicate r.1.length 3) := by
  intro k
  induction k with
  | zero => intro n i a h; omega
  | succ k ih =>
   intro n i a h1 h2 h3
   rw [Fw]
   cases n with
   | zero =>
    have : ilt (i : Int) (nlen (len r.1)) = false := Ab.2 (by rw [Cz]; omega)
    rw [this, h3, show i = r.1.length by omega]; rfl
   | succ n =>
    have : ilt (i : Int) (nlen (len r.1)) = true := Ad.2 (by rw [Cz]; omega)
    rw [this, cT, Bp (by show a.length + 1 ≤ 1000000; rw [h3, List.length_replicate]; omega) om, cT, Ge om]
    exact ih n (i + 1) _ om om (by rw [h3]; show List.replicate i 3 ++ [3] = _; rw [List.replicate_succ'])
 exact hw K r.1.length 0 [] om om rfl
end
section
variable {g : GGraph} {j : GJob} {s : GState}
theorem K8 (hr : Aq g j s = true) (hn : CL s) : WI g j 3 (j.Parts.toNat + 1) (AW g j s) := by
 obtain ⟨hc, _⟩ := AZ hr
 rw [← Lf hr]
 exact L8 (HS (Jo hc) hr hn _ (Nat.le_refl _)) (IJ s)
theorem Rc (hr : Aq g j s = true) (hn : CL s) : (Ca g j (Ar g j (AW g j s)).1).Out.length ≤ 200 := by
 obtain ⟨hc, _⟩ := AZ hr
 obtain ⟨_, _, _, _, _, _, _, p7, p8⟩ := Au hc
 have h := K8 hr hn
 obtain ⟨_, d2, d3, d4, d5⟩ := M9 (Nat.le_refl 1000000) h om
 have hg : i64 ((AW g j s).Goal + 1) := by have := h.goal; unfold i64; omega
 obtain ⟨_, c2, _⟩ := MF (Nat.le_refl 1000000) hc d2 om (by rw [d5]; exact hg) [] _ rfl (r := wt3 (Ar g j (AW g j s)).1 (Ar g j (AW g j s)).2) rfl
 have := c2.ol
 omega
theorem We (hr : Aq g j s = true) (h40 : ieq s.Step 40 = false) (hf : C0 j s) :
 ((Ca g j (Ar g j (AW g j s)).1).Out.any isF = true ∧ (AH g j s).2 = 8) ∨
 ((Ca g j (Ar g j (AW g j s)).1).Out = CX (Az j) 3 j.Parts.toNat ++ (List.range j.Parts.toNat).map (HY g j s) ∧ (Ar g j (AW g j s)).2.length = j.Parts.toNat ∧ (AH g j s).2 = 0 ∧ ∀ q < j.Parts.toNat, tS g j s q = (Ap g j (AH g j s).1 (q : Int), 0)) := by
 obtain ⟨hc, _⟩ := AZ hr
 obtain ⟨_, _, _, _, _, _, _, p7, p8⟩ := Au hc
 have ht := Jo (g := g) hc
 have h0 := UC hr
 have hd := KJ ht hr h40 hf j.Parts.toNat 0 _ om h0
 have el : (AW g j s).Held.length = j.Parts.toNat := h0.len
 have ed : (List.range' 0 j.Parts.toNat).foldl (EH g j) (AW g j s, []) = Ar g j (AW g j s) := by rw [Ar, el, List.range_eq_range']
 rw [ed] at hd
 have hd' := hd
 generalize Ar g j (AW g j s) = st at hd
 by_cases hbad : ∃ p, p < j.Parts.toNat ∧ okD g j s p = false
 · left
   obtain ⟨x, hx, hfx⟩ := hd.bad hbad
   refine ⟨List.any_eq_true.2 ⟨x, by rw [Ca]; exact L1 _ _ hx, hfx⟩, ?_⟩
   obtain ⟨p, hp, hb⟩ := hbad
   rcases Ji hr h40 hf (p := p) om with ⟨_, a⟩ | ⟨_, _, a⟩
   · exact a
   · rw [okD, a] at hb; cases hb
 · have hok : ∀ p, p < j.Parts.toNat → okD g j s p = true := fun p hp => by
    cases h : okD g j s p
    · exact absurd ⟨p, hp, h⟩ hbad
    · rfl
   have hdp : ∀ p, p < j.Parts.toNat → (∀ v ∈ Ak g j (p : Int), ieq (Ag g j s v).2.2.2 0 = true) ∧ (∀ q < j.Parts.toNat, ieq (Am j.Prog (toS j (cP g j s (p : Int)) (q : Int))).2 0 = true) := fun p hp => by
    rcases Ji hr h40 hf (p := p) om with ⟨a, _⟩ | ⟨a, b, _⟩
    · have := hok p hp; rw [okD, a] at this; cases this
    · exact ⟨a, b⟩
   obtain ⟨o1, o2⟩ := hd.out hok
   have hci : CI g j s (CX (Az j) 3 j.Parts.toNat) 0 st.1 := ⟨hd.t, hd.go, hd.len, fun q _ hq => hd.dn q hq (hok q hq), fun ⟨p, hp, _⟩ => absurd hp (Nat.not_lt_zero _), fun r _ hr q hq => hd.da q hq (hok q hq) r hr, hd.db, fun _ => by rw [o1]; simp⟩
   have hc2 := KR om j.Parts.toNat 0 _ om hci
   have ec : (List.range' 0 j.Parts.toNat).foldl (DE g j) st.1 = Ca g j st.1 := by rw [Ca, hd.len, List.range_eq_range']
   rw [ec] at hc2
   have htake : ∀ q, q < j.Parts.toNat → (okT g j s q = false ∧ (AH g j s).2 = 8) ∨ (okT g j s q = true ∧ Lr g j s q) := fun q hq => by
    rcases Vq hr h40 hf (q := q) om (fun p hp => (hdp p hp).2 q hq) with ⟨a, t, b⟩ | ⟨w, a, b⟩
    · exact .inl ⟨by rw [okT, tS, a]; rfl, S5 hr h40 hf b (PY hr fun p hp => (hdp p hp).1)⟩
    · exact .inr ⟨by rw [okT, tS, a]; rfl, w, a, b⟩
   by_cases hbt : ∃ q, q < j.Parts.toNat ∧ okT g j s q = false
   · left
     obtain ⟨x, hx, hfx⟩ := hc2.bad hbt
     refine ⟨List.any_eq_true.2 ⟨x, hx, hfx⟩, ?_⟩
     obtain ⟨q, hq, hb⟩ := hbt
     rcases htake q hq with ⟨_, a⟩ | ⟨a, _⟩
     · exact a
     · rw [a] at hb; cases hb
   · right
     have hgt : ∀ q, q < j.Parts.toNat → okT g j s q = true ∧ Lr g j s q := fun q hq => by
      rcases htake q hq with ⟨a, _⟩ | a
      · exact absurd ⟨q, hq, a⟩ hbt
      · exact a
     obtain ⟨e0, eT⟩ := VO hr h40 hf (fun p hp => (hdp p hp).1) (fun q hq => (hgt q hq).2)
     exact ⟨hc2.out fun q hq => (hgt q hq).1, o2, e0, eT⟩
theorem UL {K : Nat} (hK : 1000000 ≤ K) (g : GGraph) (j : GJob) (s : GState) (hn : CL s) : F7 K g j s = some true := by
 rw [F7, Sg, bS]
 cases ilt 200 (g.Edges.length : Int)
 · rw [cF]
   cases hv : ilt 100 (nlen (len s.Vals))
   · rw [cF]
     cases hi : ilt 100 (nlen (len s.In))
     · rw [Ab, Cz] at hv hi
       rw [cF, E6 om, bS]
       cases hc : ieq (An g j) 0
       · rfl
       · rw [cT, Ih om g j s om om, bS]
         cases hr : Aq g j s
         · rfl
         · rw [cT]
           cases h40 : ieq s.Step 40
           · rw [cF, UW hK g j s om, bS]
             cases q0 : (bif ieq j.Prog 5 then s.Vals.all fun v => ile 0 v else true)
             · rfl
             · show ((Ec K g j s K 0).bind _) = _
               rw [Wa hK g j s om, bS]
               cases q1 : (bif ieq j.Prog 5 then s.In.all fun m => ile 0 m.V else true)
               · rfl
               · have hf : C0 j s := SY (by
                  cases h5 : ieq j.Prog 5
                  · rfl
                  · rw [h5] at q0 q1; rw [cT] at q0 q1 ⊢; rw [q0, q1]; rfl)
                 obtain ⟨_, s1, s2, s3, s4, s5⟩ := AZ hr
                 obtain ⟨hg, _, _, _, _, _, _, p7, p8⟩ := Au hc
                 obtain ⟨g1, g2, _⟩ := AQ hg
                 have ht := Jo (g := g) hc
                 have hsp : Hw g j s = (AG g j s, 0) := by rw [Hw, hc, hr]; rfl
                 have hlen : (AG g j s).length = j.Parts.toNat := by simp [AG]
                 have hW0 : Sml (GWorker.mk 3 (-1) 0 (GTable.mk 0 [] [] []) [] [] [] []) := ⟨Nat.zero_le _, Nat.zero_le _, Nat.zero_le _, Nat.zero_le _⟩
                 have hL : Iv (GWorker.mk 3 (-1) 0 (GTable.mk 0 [] [] []) [] [] [] []) 10 = AM g j s (Az j) 3 10 0 := rfl
                 let step : GPart → GWorker → (GWorker → Option WT) → Option WT := fun x w c => (F18 K g j w (DQ (Az j) x)).bind c
                 have hs := AE (l := AG g j s) (L := fun k (w : GWorker) i => Fh K g j s (AG g j s, 0) (List.replicate j.Parts.toNat 3) k w.Id w.Goal w.Until w.T.Epoch w.T.Owners w.T.Ids w.T.Incs w.Held w.Buf w.Coming w.Out i) step (fun w => some (wt w)) (fun k s i _ => rfl) om (K := K) om (AM g j s (Az j) 3 10 0)
                 have hgo := Ma (g := g) (j := j) (s := s) (t := Az j) (me := 3) (u := 10) (step := step) (fin := fun w => some (wt w)) hK ht hr hn (fun x w c => rfl) j.Parts.toNat 0 om
                 rw [← List.range_eq_range'] at hgo
                 have h3 : Fh K g j s (AG g j s, 0) (List.replicate j.Parts.toNat 3) K 3 (-1) 10 0 [] [] [] [] [] [] [] 0 = some (wt (AM g j s (Az j) 3 10 j.Parts.toNat)) := hs.trans hgo
                 have hWl := HS (me := 3) (u := 10) ht hr hn j.Parts.toNat (Nat.le_refl _)
                 have hB : F18 K g j (AM g j s (Az j) 3 10 j.Parts.toNat) (C1 s) = some (AW g j s) := by
                  rw [Kq hK g j _ _ (hWl.sml om) hWl.hx hWl.cd ((IJ s).f.up om) (IJ s).p, Lf hr]
                 have hT : F14 K g j (AW g j s) 5 = some ({ Ca g j (Ar g j (AW g j s)).1 with Out := [] }, (Ca g j (Ar g j (AW g j s)).1).Out, (Ar g j (AW g j s)).2) := by
                  rw [UN hK (K8 hr hn) om, I9, hc]; rfl
                 show ((F21 K g j s).bind _) = _
                 rw [Rv om g j s om, hsp, bS]
                 show ((F11 K 3).bind _) = _
                 rw [F11, bS, SZ K _ 10 hW0, hL, bS, SK hK g j s (AG g j s, 0) _ (by show (AG g j s).length ≤ 100; omega), bS]
                 show ((Fh K g j s (AG g j s, 0) (List.replicate (AG g j s).length 3) K 3 (-1) 10 0 [] [] [] [] [] [] [] 0).bind _) = _
                 rw [hlen, h3, bS]
                 show ((F18 K g j (AM g j s (Az j) 3 10 j.Parts.toNat) (C1 s)).bind _) = _
                 rw [hB, bS, hT, bS, T6 om g j s hn om om, bS,
                  Sp g j _ _ (by have := Rc hr hn; show (Ca g j (Ar g j (AW g j s)).1).Out.length ≤ _; omega) hK, bS]
                 dsimp only
                 rcases We hr h40 hf with ⟨f1, f2⟩ | ⟨f1, f2, f3, f4⟩
                 · rw [f2, Nc, f1]; rfl
                 · have hIn := GJ s5 om
                   have hgood : goodS s := ⟨hn, by omega, by omega, by omega⟩
                   have e0' : ieq (AH g j s).2 0 = true := by rw [f3]; rfl
                   have hS1 := Q2 hgood e0'
                   obtain ⟨hg1, _⟩ := VV hgood e0'
                   have l1 := hg1.lin
                   have l2 := hg1.lre
                   have l3 := hg1.lva
                   have hl : ((List.range j.Parts.toNat).map fun q => (tS g j s q).1) = AG g j (AH g j s).1 := by
                    rw [AG]
                    refine List.map_congr_left fun q hq => ?_
                    rw [f4 q (List.mem_range.1 hq)]
                   have hscan : (Ca g j (Ar g j (AW g j s)).1).Out.foldl Da ([], false) = (AG g j (AH g j s).1, false) := by
                    rw [f1, List.foldl_append, Ri, Lq, hl]; rfl
                   have hj := Ph (K := K) om g j (AG g j (AH g j s).1) fun x hx => by
                    obtain ⟨p, hp, rfl⟩ := List.mem_map.1 hx
                    exact Nat.lt_of_le_of_lt (List.length_filter_le _ _) om
                   rw [V2 hS1] at hj
                   have h25 : F25 K (AH g j s).1 (AH g j s).1 = some true := Sz _ ⟨⟨by omega, by omega⟩, ⟨by omega, by omega⟩, by omega, by omega⟩
                   have hP : ieq (nlen (len (Ar g j (AW g j s)).2)) j.Parts = true := Af.2 (by rw [Cz]; omega)
                   obtain ⟨m, hm⟩ : ∃ m, j.Parts.toNat = m + 1 := ⟨j.Parts.toNat - 1, by omega⟩
                   have hout0 : CX (Az j) 3 j.Parts.toNat = GPost.mk 0 0 (GMail.mk 2 2 0 0 0 0 0 0 [] [] [] A7 []) :: (List.range' 1 m).map fun (p : Nat) => GPost.mk 0 0 (GMail.mk 2 2 0 0 (p : Int) 0 0 0 [] [] [] A7 []) := by
                    rw [CX, Lk g j (Nat.le_refl _), hm, List.range_eq_range', List.range'_succ]; rfl
                   have hx0 : elAt (Ca g j (Ar g j (AW g j s)).1).Out 0 = some (GPost.mk 0 0 (GMail.mk 2 2 0 0 0 0 0 0 [] [] [] A7 [])) := by
                    rw [f1, hout0]; rfl
                   have hi0 : inr 0 (len (Ca g j (Ar g j (AW g j s)).1).Out) = true := by
                    rw [f1, hout0]; exact decide_eq_true ⟨by omega, by simp [len]; omega⟩
                   have h26 : F26 K (GMail.mk 2 2 0 0 0 0 0 0 [] [] [] A7 []) = some true := by
                    obtain ⟨k, rfl⟩ : ∃ k, K = k + 20 := ⟨K - 20, by omega⟩
                    kernel_rfl
                   have z : ieq 0 0 = true := rfl
                   rw [e0', cT, hscan, hj, bS]
                   dsimp only
                   rw [cF, hP, cT, z, cT, h25, bS, cT, hi0, cT, hx0, bS, F27, bS, h26]
                   rfl
           · rfl
     · rfl
   · rfl
 · rfl
theorem law7 (g : GGraph) (j : GJob) (s : GState) (_ : WGGraph g) (_ : WGJob j) (hs : WGState s) : F7 1000000 g j s = some true := UL (Nat.le_refl _) g j s (NJ hs)
end
end
end Go.Proofs.Ytbaihlhoedbpkaa.Tm

/- What the row of WorkerStale leans on: printed functions and plain laws. Conditions: none. -/
import Derived.Test.YtbaihlhoedbpkaaTy
import Derived.Test.YtbaihlhoedbpkaaTab
import Derived.Test.YtbaihlhoedbpkaaKn
import Derived.Test.YtbaihlhoedbpkaaWf
import Derived.IntWalk
import Derived.KernelRfl
import Derived.OpenShut
import Derived.Test.YtbaihlhoedbpkaaBWorkerStale2
set_option linter.unusedVariables false
set_option linter.unusedSimpArgs false
namespace Go.Proofs.Ytbaihlhoedbpkaa.Tm
open Go
theorem verts_at {g : GGraph} {j : GJob} (h1 : 1 ≤ j.Parts) (h6 : j.Parts ≤ 6) (hn : g.N ≤ 24) {p : Int} (hp : 0 ≤ p ∧ p < j.Parts) (i : Nat) (h : i < (vertsS g j p).length) : (((vertsS g j p)[i] : Nat) : Int) = p + (i : Int) * j.Parts := by
 obtain ⟨q, rfl⟩ := Int.eq_ofNat_of_zero_le hp.1
 have e : vertsS g j (q : Int) = progL 30 g.N.toNat j.Parts.toNat q := (prog_verts (by omega) (by omega) (by omega) (by omega)).symm
 simp only [e] at h ⊢
 rw [progL_get]
 have : ((j.Parts.toNat : Nat) : Int) = j.Parts := by omega
 rw [Int.natCast_add, Int.natCast_mul, this]
def boxT (j : GJob) : Int ⊕ Tri → Int ⊕ S8
 | .inl e => .inl e
 | .inr w => .inr (w.1, w.2.1, boxes j w.2.2)
theorem home_in {j : GJob} (h1 : 1 ≤ j.Parts) (h6 : j.Parts ≤ 6) {v : Int} (h0 : 0 ≤ v) : homeS j v = v % j.Parts ∧ 0 ≤ homeS j v ∧ homeS j v ≤ 5 := by
 have hm0 : 0 ≤ v % j.Parts := Int.emod_nonneg _ (by omega)
 have hm1 : v % j.Parts < j.Parts := Int.emod_lt_of_pos _ (by omega)
 have e : homeS j v = v % j.Parts := by rw [homeS, ilt_f.2 h0, ilt_f.2 h1, ilt_f.2 h6]; rfl
 rw [e]; exact ⟨rfl, hm0, by omega⟩
theorem go116 {K : Nat} (hK : 3000 ≤ K) (g : GGraph) (j : GJob) (x : GPart) (hR : partRight g j x = true) (hn : niceP x) (hin : x.In.length ≤ 300) : ∀ (n i : Nat) (a : List Int) (b : List Bool) (c : List GMsg), i + n = x.Vals.length → keepP g i a b c →
 goI (st116 K g j x) (fun s => some (.inr s)) i (x.Vals.drop i) (a, b, boxes j c) = some (boxT j (doA g j x ((vertsS g j x.P).drop i) i a b c)) := by
 obtain ⟨hc, p1, p2, p3, p4, p5, p6, _⟩ := partRight_ok hR
 obtain ⟨hg, _, _, _, _, _, _, p7, p8⟩ := jcheck_ok hc
 obtain ⟨g1, g2, g3, _⟩ := gcheck_ok hg
 have hvl := verts_len g j g2 x.P
 rw [countS] at p5 p6
 intro n
 induction n with
 | zero =>
  intro i a b c hi _
  have e1 : x.Vals.drop i = [] := List.drop_eq_nil_of_le (by omega)
  have e2 : (vertsS g j x.P).drop i = [] := List.drop_eq_nil_of_le (by omega)
  rw [e1, e2]; rfl
 | succ n ih =>
  intro i a b c hi h
  have hlc := h.lc
  obtain ⟨v, hv⟩ : ∃ v, (vertsS g j x.P)[i]'(by omega) = v := ⟨_, rfl⟩
  have hat0 := verts_at p7 p8 g2 ⟨p1, p2⟩ i (by omega)
  rw [hv] at hat0
  have hd2 : (vertsS g j x.P).drop i = v :: (vertsS g j x.P).drop (i + 1) := by rw [List.drop_eq_getElem_cons (by omega : i < (vertsS g j x.P).length), hv]
  have hvm : v ∈ vertsS g j x.P := hv ▸ List.getElem_mem _
  have hvn := ((mem_verts p7).1 hvm).1
  have hd1 : x.Vals.drop i = x.Vals.getD i 0 :: x.Vals.drop (i + 1) := by
   rw [List.drop_eq_getElem_cons (by omega : i < x.Vals.length), List.getD_eq_getElem?_getD, List.getElem?_eq_getElem (by omega : i < x.Vals.length)]; rfl
  have hv0 : 0 ≤ (i : Int) * j.Parts := Int.mul_nonneg (by omega) (by omega)
  have e1 : wmul .i64 (i : Int) j.Parts = (i : Int) * j.Parts := wmul_ok (by unfold i64; omega)
  have e2 : wadd .i64 x.P ((i : Int) * j.Parts) = (v : Int) := by rw [wadd_i64 (by unfold i64; omega)]; omega
  have hnx := keepP_next (j := j) hn v h
  obtain ⟨la, lb, _, _, _, _⟩ := h
  obtain ⟨o3, o4⟩ := onep_outs (g := g) (j := j) (x := x) (i := i) (v := v)
  obtain ⟨r1, r2⟩ := elAt_get (l := x.Rest) (i := i) (by omega) false
  have a1 : apok (len a) 1 8 = true := decide_eq_true ⟨by show a.length + 1 ≤ _; omega, by show (a.length + 1) * 8 ≤ _; omega⟩
  have a2 : apok (len b) 1 1 = true := decide_eq_true ⟨by show b.length + 1 ≤ _; omega, by show (b.length + 1) * 1 ≤ _; omega⟩
  have hx : i64 (x.Vals.getD i 0) := by
   rw [List.getD_eq_getElem?_getD]
   cases hq : x.Vals[i]? with
   | none => show i64 0; unfold i64; omega
   | some y => exact hn.1 y (List.mem_of_getElem? hq)
  have hat := atS_i64 (l := x.In) (v := (v : Int)) hn.2
  have nx := ih (i + 1) _ _ _ (by omega) hnx
  have f99 := F93_spec (K := K) (by omega) g j x.Step (v : Int) (atS x.In (v : Int)).2 hx hat
  have hro := fun (aa : List Int) (bb : List Bool) (vv : Int) (rr : Bool) => route (K := K) g j x aa bb vv rr (oneP g j x i v).2.1 (i : Int) c (by omega) (by omega) (fun m hm => (home_in p7 p8 (o4 m hm).1).2)
  rw [hd1, hd2, goI, st116, doA, e1, e2, F92_spec x.In (v : Int) (by omega) (by omega), r1, r2]
  simp only [cond_true, Option.bind_some, f99, a1, a2]
  have eb : ∀ c, (boxes j c).1 = toS j c 0 ∧ (boxes j c).2.1 = toS j c 1 ∧ (boxes j c).2.2.1 = toS j c 2 ∧ (boxes j c).2.2.2.1 = toS j c 3 ∧ (boxes j c).2.2.2.2.1 = toS j c 4 ∧ (boxes j c).2.2.2.2.2 = toS j c 5 := fun c => ⟨rfl, rfl, rfl, rfl, rfl, rfl⟩
  obtain ⟨q0, q1, q2, q3, q4, q5⟩ := eb c
  rw [q0, q1, q2, q3, q4, q5]
  cases hs : (atS x.In (v : Int)).2
  · cases hy : x.Rest.getD i false
    · have hT : oneP g j x i v = turnS g j x.Step (v : Int) (x.Vals.getD i 0) (atS x.In (v : Int)).1 false := by rw [oneP, hy, hs]; rfl
      rw [hT] at nx hro ⊢
      simp only [cond_false, cond_true, hro, Option.bind_some]
      cases ieq (turnS g j x.Step (v : Int) (x.Vals.getD i 0) (atS x.In (v : Int)).1 false).2.2.2 0
      · rfl
      · exact nx
    · have hT : oneP g j x i v = (x.Vals.getD i 0, [], true, 0) := by rw [oneP, hy, hs]; rfl
      rw [hT] at nx ⊢
      simp only [List.append_nil] at nx ⊢
      exact nx
  · have hT : oneP g j x i v = turnS g j x.Step (v : Int) (x.Vals.getD i 0) (atS x.In (v : Int)).1 true := by rw [oneP, hs, Bool.not_true, Bool.and_false]; rfl
    rw [hT] at nx hro ⊢
    simp only [cond_false, cond_true, hro, Option.bind_some]
    cases x.Rest.getD i false <;> cases ieq (turnS g j x.Step (v : Int) (x.Vals.getD i 0) (atS x.In (v : Int)).1 true).2.2.2 0 <;> first | rfl | exact nx
def st116b (K : Nat) (j : GJob) (s : B6) (q : Nat) (d : List (List GMsg)) (c : List (List GMsg) → Option (Int ⊕ List (List GMsg))) : Option (Int ⊕ List (List GMsg)) :=
 bif (ieq (q : Int) 0) then ((F95 K j.Prog s.1).bind fun r => bif (ieq r.2 0) then (bif (apok (len d) 1 24) then c (appL d [r.1]) else none) else some (.inl r.2)) else
 bif (ieq (q : Int) 1) then ((F95 K j.Prog s.2.1).bind fun r => bif (ieq r.2 0) then (bif (apok (len d) 1 24) then c (appL d [r.1]) else none) else some (.inl r.2)) else
 bif (ieq (q : Int) 2) then ((F95 K j.Prog s.2.2.1).bind fun r => bif (ieq r.2 0) then (bif (apok (len d) 1 24) then c (appL d [r.1]) else none) else some (.inl r.2)) else
 bif (ieq (q : Int) 3) then ((F95 K j.Prog s.2.2.2.1).bind fun r => bif (ieq r.2 0) then (bif (apok (len d) 1 24) then c (appL d [r.1]) else none) else some (.inl r.2)) else
 bif (ieq (q : Int) 4) then ((F95 K j.Prog s.2.2.2.2.1).bind fun r => bif (ieq r.2 0) then (bif (apok (len d) 1 24) then c (appL d [r.1]) else none) else some (.inl r.2)) else
 bif (ieq (q : Int) 5) then (F95 K j.Prog s.2.2.2.2.2).bind fun r => bif (ieq r.2 0) then (bif (apok (len d) 1 24) then c (appL d [r.1]) else none) else some (.inl r.2) else none
theorem tell_step {K : Nat} (hK : 3000 ≤ K) (j : GJob) (c : List GMsg) (hl : c.length ≤ 2000) (hv : ∀ m ∈ c, i64 m.V) (q : Nat) (hq : q < 6) (d : List (List GMsg)) (hd : d.length ≤ 6) (k : List (List GMsg) → Option (Int ⊕ List (List GMsg))) :
 st116b K j (boxes j c) q d k = bif ieq (boxS j.Prog (toS j c (q : Int))).2 0 then k (d ++ [(boxS j.Prog (toS j c (q : Int))).1]) else some (.inl (boxS j.Prog (toS j c (q : Int))).2) := by
 have ap : apok (len d) 1 24 = true := decide_eq_true ⟨by show d.length + 1 ≤ _; omega, by show (d.length + 1) * 24 ≤ _; omega⟩
 have hlen := fun q => toS_len j c q
 have f := fun (q : Int) => F95_spec (K := K) j.Prog (toS j c q) (fun m hm => hv m (toS_mem hm).1) (by have := hlen q; omega) (by have := hlen q; omega)
 rw [st116b, boxes]
 simp only [f, Option.bind_some, ap, cond_true]
 rcases (by omega : q = 0 ∨ q = 1 ∨ q = 2 ∨ q = 3 ∨ q = 4 ∨ q = 5) with rfl | rfl | rfl | rfl | rfl | rfl <;> rfl
theorem go116b {K : Nat} (hK : 3000 ≤ K) (j : GJob) (c : List GMsg) (hl : c.length ≤ 2000) (hv : ∀ m ∈ c, i64 m.V) : ∀ (l : List Nat) (d : List (List GMsg)), (∀ q ∈ l, q < 6) → d.length + l.length ≤ 6 →
 goL (st116b K j (boxes j c)) (fun d => some (.inr d)) l d = some (tellS j c l d) := by
 intro l
 induction l with
 | nil => intro d _ _; rfl
 | cons q l ih =>
  intro d hq hd
  simp only [List.length_cons] at hd
  rw [goL, tell_step hK j c hl hv q (hq q List.mem_cons_self) d (by omega), tellS, ih _ (fun y hy => hq y (List.mem_cons_of_mem _ hy)) (by simp only [List.length_append, List.length_singleton]; omega)]
  cases ieq (boxS j.Prog (toS j c (q : Int))).2 0 <;> rfl
theorem F58_spec {K : Nat} (hK : 3000 ≤ K) (g : GGraph) (j : GJob) (x : GPart) (hn : niceP x) (hin : x.In.length ≤ 300) (hp : i64 x.P) : F58 K g j x = some (doS g j x) := by
 rw [F58, F31_spec (by omega), F91_spec (by omega) g j x (by omega) (by omega) hp, Option.bind_some, Option.bind_some, doS]
 cases hc : ieq (jcheck g j) 0
 · rfl
 · cases hR : partRight g j x
   · rfl
   · cases h40 : ieq x.Step 40
     · obtain ⟨_, p1, p2, p3, p4, p5, p6, _⟩ := partRight_ok hR
       obtain ⟨hg, _, _, _, _, _, _, p7, p8⟩ := jcheck_ok hc
       obtain ⟨g1, g2, g3, _⟩ := gcheck_ok hg
       have hvl := verts_len g j g2 x.P
       rw [countS] at p5 p6
       have h := scanI (l := x.Vals) (L := fun k (s : S8) i => F58_l0_0 K g.N g.Edges j.Prog j.Source j.Limit j.Parts x.P x.Step x.Vals x.Rest x.In k s.1 s.2.1 s.2.2.1 s.2.2.2.1 s.2.2.2.2.1 s.2.2.2.2.2.1 s.2.2.2.2.2.2.1 s.2.2.2.2.2.2.2 i) (st116 K g j x) (fun s => some (.inr s)) (fun k s i _ => rfl) (by omega) K ([], [], boxes j []) 0 (by omega) (by omega)
       have h' : F58_l0_0 K g.N g.Edges j.Prog j.Source j.Limit j.Parts x.P x.Step x.Vals x.Rest x.In K [] [] [] [] [] [] [] [] 0 = some (boxT j (doA g j x (vertsS g j x.P) 0 [] [] [])) := by
        rw [show F58_l0_0 K g.N g.Edges j.Prog j.Source j.Limit j.Parts x.P x.Step x.Vals x.Rest x.In K [] [] [] [] [] [] [] [] 0 = _ from h]
        have := go116 hK g j x hR hn hin x.Vals.length 0 [] [] [] (by omega) (keepP0 g)
        rwa [List.drop_zero] at this
       simp only [cond_true, cond_false, h', Option.bind_some]
       cases hA : doA g j x (vertsS g j x.P) 0 [] [] [] with
       | inl e => rfl
       | inr w =>
        have kw := doA_keep hn _ 0 [] [] [] (keepP0 g) w hA
        have hwl := kw.lc
        have hw : wadd .i64 x.Step 1 = x.Step + 1 := wadd_i64 (by unfold i64; omega)
        have t := scanN (N := j.Parts) (L := fun k d i => F58_l2_2 K j.Prog j.Source j.Limit j.Parts x.P (x.Step + 1) w.1 w.2.1 (toS j w.2.2 0) (toS j w.2.2 1) (toS j w.2.2 2) (toS j w.2.2 3) (toS j w.2.2 4) (toS j w.2.2 5) k d i) (fun q d c => st116b K j (boxes j w.2.2) q d c) (fun d => some (.inr d)) (fun k d i _ => rfl) (by omega) (K := K) (by omega) []
        have t' : F58_l2_2 K j.Prog j.Source j.Limit j.Parts x.P (x.Step + 1) w.1 w.2.1 (toS j w.2.2 0) (toS j w.2.2 1) (toS j w.2.2 2) (toS j w.2.2 3) (toS j w.2.2 4) (toS j w.2.2 5) K [] 0 = some (tellS j w.2.2 (List.range j.Parts.toNat) []) := by
         rw [show F58_l2_2 K j.Prog j.Source j.Limit j.Parts x.P (x.Step + 1) w.1 w.2.1 (toS j w.2.2 0) (toS j w.2.2 1) (toS j w.2.2 2) (toS j w.2.2 3) (toS j w.2.2 4) (toS j w.2.2 5) K [] 0 = _ from t]
         exact go116b hK j w.2.2 (by omega) kw.vc _ [] (fun q hq => by have := List.mem_range.1 hq; omega) (by rw [List.length_range]; simp only [List.length_nil]; omega)
        simp only [boxT, Sum.elim_inr, boxes, hw, t', Option.bind_some, doB]
        cases tellS j w.2.2 (List.range j.Parts.toNat) [] <;> rfl
     · rfl
def atHd (l : List GHeld) (p : Int) : Int := posS (fun h => ieq h.X.P p) l
theorem F72_spec (K : Nat) (w : GWorker) (p : Int) (hl : w.Held.length < 1000000) (hK : w.Held.length < K) : F72_iiiiiiioooo K w p = some (atHd w.Held p, w) := by
 let step : Nat → GHeld → Unit → (Unit → Option (Int ⊕ Unit)) → Option (Int ⊕ Unit) := fun i x _ c => bif ieq x.X.P p then some (.inl (i : Int)) else c ()
 have h := scanI (l := w.Held) (L := fun k (_ : Unit) i => F72_iiiiiiioooo_l0_0 K w p k i) step (fun _ => some (.inr ())) (fun k s i _ => rfl) (by omega) K () 0 (by omega) (by omega)
 have g := find_go (step := step) (fun h => ieq h.X.P p) w.Held 0 (fun x _ i c => rfl)
 rw [List.drop_zero] at h
 have e : F72_iiiiiiioooo_l0_0 K w p K 0 = _ := h.trans g
 rw [F72_iiiiiiioooo, e]
 exact posS_elim _ _ fun q => some (q, w)
def mineS (g : GGraph) (j : GJob) (w : GWorker) (x : GPart) : Bool := ieq (toT w.T x.P).2.2 0 && (ieq (toT w.T x.P).1 w.Id && (partRight g j x && ilt (atHd w.Held x.P) 0))
theorem F70_spec {K : Nat} (hK : 1000 ≤ K) (w : GWorker) (g : GGraph) (j : GJob) (x : GPart) (hh : w.Held.length ≤ 100) (hx : x.In.length < 1000000 ∧ x.In.length < K) (hp : i64 x.P) : F70_iiiiiiioooo K w g j x = some (mineS g j w x, w) := by
 rw [F70_iiiiiiioooo, F60_spec (by omega), Option.bind_some, mineS, F91_spec hK g j x hx.1 hx.2 hp, F72_spec K w x.P (by omega) (by omega)]
 cases ieq (toT w.T x.P).2.2 0
 · rfl
 · cases ieq (toT w.T x.P).1 w.Id
   · rfl
   · cases partRight g j x <;> rfl
def insH (l : List GHeld) (x : GPart) : List GHeld := l.takeWhile (fun h => ilt h.X.P x.P) ++ [GHeld.mk x false false] ++ l.dropWhile (fun h => ilt h.X.P x.P)
theorem F71_loop (K : Nat) (w : GWorker) (x : GPart) (hl : w.Held.length < 1000000) : ∀ (k i : Nat), w.Held.length - i < k → i ≤ w.Held.length → F71_iiiiiiioooo_l0_0 K w x k (i : Int) = some (((i + ((w.Held.drop i).takeWhile fun h => ilt h.X.P x.P).length : Nat)) : Int) := by
 intro k
 induction k with
 | zero => intro i h; omega
 | succ k ih =>
  intro i hk hi
  rw [F71_iiiiiiioooo_l0_0]
  rcases at_idx w.Held i with ⟨h, e1, e2, e3, e4⟩ | ⟨e1, e2⟩
  · have hlt := lt_of_drop' e1
    rw [e2, e3, e4, e1, List.takeWhile_cons]
    simp only [cond_true, Option.bind_some]
    cases hp : ilt h.X.P x.P
    · simp
    · rw [cond_true, wadd_nat (by omega), ih (i + 1) (by omega) (by omega)]
      simp; omega
  · rw [e1, e2]; simp
theorem take_while {α : Type} (p : α → Bool) (l : List α) : l.take (l.takeWhile p).length = l.takeWhile p := by
 conv => lhs; rw [← List.takeWhile_append_dropWhile (p := p) (l := l)]
 rw [List.takeWhile_append_dropWhile]
 induction l with
 | nil => rfl
 | cons x l ih =>
  rw [List.takeWhile_cons]
  cases p x
  · rfl
  · simp [ih]
theorem drop_while {α : Type} (p : α → Bool) (l : List α) : l.drop (l.takeWhile p).length = l.dropWhile p := by
 induction l with
 | nil => rfl
 | cons x l ih =>
  rw [List.takeWhile_cons, List.dropWhile_cons]
  cases p x
  · rfl
  · simp [ih]
theorem while_le {α : Type} (p : α → Bool) (l : List α) : (l.takeWhile p).length ≤ l.length := (List.takeWhile_sublist p).length_le
theorem F71_spec (K : Nat) (w : GWorker) (x : GPart) (hl : w.Held.length ≤ 100) (hK : 1000 ≤ K) : F71_iiiiiiioooo K w x = some { w with Held := insH w.Held x } := by
 have e : F71_iiiiiiioooo_l0_0 K w x K 0 = some (((w.Held.takeWhile fun h => ilt h.X.P x.P).length : Nat) : Int) := by
  have e := F71_loop K w x (by omega) K 0 (by omega) (by omega)
  rw [List.drop_zero, Nat.zero_add] at e; exact e
 have hle := while_le (fun h => ilt h.X.P x.P) w.Held
 have hdl : (w.Held.dropWhile fun h => ilt h.X.P x.P).length ≤ w.Held.length := (List.dropWhile_sublist _).length_le
 have s1 : subL w.Held ((w.Held.takeWhile fun h => ilt h.X.P x.P).length : Int) (nlen (len w.Held)) = w.Held.dropWhile fun h => ilt h.X.P x.P := by
  show (w.Held.drop (Int.toNat _)).take _ = _
  simp only [nlen_len, Int.toNat_natCast]
  rw [drop_while, List.take_of_length_le]
  rw [← drop_while, List.length_drop]; exact Nat.le_refl _
 have s2 : subL w.Held 0 ((w.Held.takeWhile fun h => ilt h.X.P x.P).length : Int) = w.Held.takeWhile fun h => ilt h.X.P x.P := by
  show (w.Held.drop 0).take ((((w.Held.takeWhile fun h => ilt h.X.P x.P).length : Nat) : Int).toNat - 0) = _
  rw [Int.toNat_natCast, List.drop_zero, Nat.sub_zero]
  exact take_while _ _
 have b1 : bnd ((w.Held.takeWhile fun h => ilt h.X.P x.P).length : Int) (nlen (len w.Held)) (len w.Held) = true := decide_eq_true ⟨by omega, by rw [nlen_len]; omega, by show nlen (len w.Held) ≤ ((len w.Held : Nat) : Int); exact Int.le_refl _⟩
 have b2 : bnd 0 ((w.Held.takeWhile fun h => ilt h.X.P x.P).length : Int) (len w.Held) = true := decide_eq_true ⟨Int.le_refl _, by omega, by show _ ≤ ((w.Held.length : Nat) : Int); omega⟩
 have a1 : apok 0 (len (w.Held.dropWhile fun h => ilt h.X.P x.P)) 96 = true := apok_small (by show 0 + (w.Held.dropWhile fun h => ilt h.X.P x.P).length ≤ _; omega) (by omega)
 have a2 : apok (len (w.Held.takeWhile fun h => ilt h.X.P x.P)) 1 96 = true := apok_small (by show (w.Held.takeWhile fun h => ilt h.X.P x.P).length + 1 ≤ _; omega) (by omega)
 have a3 : apok (len (appL (w.Held.takeWhile fun h => ilt h.X.P x.P) [GHeld.mk x false false])) (len (w.Held.dropWhile fun h => ilt h.X.P x.P)) 96 = true := apok_small (by show (appL (w.Held.takeWhile fun h => ilt h.X.P x.P) [GHeld.mk x false false]).length + (w.Held.dropWhile fun h => ilt h.X.P x.P).length ≤ _; rw [appL, List.length_append, List.length_singleton]; omega) (by omega)
 rw [F71_iiiiiiioooo, e, Option.bind_some]
 simp only [s1, s2, b1, b2, ieq_refl, app_nil, a1, a2, a3, cond_true]
 rfl
def sinceS (w : GWorker) (e : Int) : GWorker := { w with Buf := w.Buf.filter (fun d => ile e d.Epoch), Coming := w.Coming.filter (fun c => ile e c.Epoch) }
theorem F69_spec {K : Nat} (w : GWorker) (e : Int) (h1 : w.Buf.length ≤ 1000000) (h2 : w.Coming.length ≤ 1000000) (k1 : w.Buf.length < K) (k2 : w.Coming.length < K) : F69_iiiiiiioooo K w e = some (sinceS w e) := by
 let st1 : GData → List GData → (List GData → Option (List GData)) → Option (List GData) := fun x a c => bif ile e x.Epoch then (bif apok (len a) 1 56 then c (appL a [x]) else none) else c a
 have e1 := scanL (l := w.Buf) (L := fun k a i => F69_iiiiiiioooo_l0_0 K w e k a i) st1 (fun a => some a) (fun k s i _ => rfl) (by omega) k1 []
 have g1 := filt_go (step := st1) (fun d => ile e d.Epoch) (fun d => d) 56 (by omega) 1000000 (by omega) w.Buf [] (by simp; omega) (fun x _ a c => rfl)
 have f1 : F69_iiiiiiioooo_l0_0 K w e K [] 0 = some (w.Buf.filter fun d => ile e d.Epoch) := (e1.trans g1).trans (by simp)
 rw [F69_iiiiiiioooo, f1, Option.bind_some]
 let st2 : GComing → List GComing → (List GComing → Option (List GComing)) → Option (List GComing) := fun x a c => bif ile e x.Epoch then (bif apok (len a) 1 96 then c (appL a [x]) else none) else c a
 have e2 := scanL (l := w.Coming) (L := fun k a i => F69_iiiiiiioooo_l1_1 K w e (w.Buf.filter fun d => ile e d.Epoch) k a i) st2 (fun a => some a) (fun k s i _ => rfl) (by omega) k2 []
 have g2 := filt_go (step := st2) (fun d => ile e d.Epoch) (fun d => d) 96 (by omega) 1000000 (by omega) w.Coming [] (by simp; omega) (fun x _ a c => rfl)
 have f2 : F69_iiiiiiioooo_l1_1 K w e (w.Buf.filter fun d => ile e d.Epoch) K [] 0 = some (w.Coming.filter fun d => ile e d.Epoch) := (e2.trans g2).trans (by simp)
 rw [f2]; rfl
def postS (w : GWorker) (m : GMail) : GWorker := { w with Out := w.Out ++ [GPost.mk 0 0 m] }
theorem F63_spec (K : Nat) (w : GWorker) (m : GMail) (h : w.Out.length ≤ 900000) : F63_iiiiiiioooo K w m = some (postS w m) := by
 rw [F63_iiiiiiioooo, apok_small (by show w.Out.length + 1 ≤ _; omega) (by omega)]; rfl
def noP' : GPart := GPart.mk 0 0 [] [] []
def failM (w : GWorker) (p : Int) : GMail := GMail.mk 5 w.T.Epoch 0 w.Goal p 0 0 8 [] [] [] noP' []
def failS (w : GWorker) (p : Int) : GWorker := postS w (failM w p)
theorem F59_spec (K : Nat) (w : GWorker) (p : Int) (h : w.Out.length ≤ 900000) : F59_iiiiiiioooo K w p = some (failS w p) := by
 rw [F59_iiiiiiioooo, F63_spec K _ _ h]; rfl
def isDa (e s q p : Int) (d : GData) : Bool := ieq d.Epoch e && (ieq d.Step s && (ieq d.Q q && ieq d.P p))
def gotS (l : List GData) (e s q p : Int) : Int := posS (isDa e s q p) l
theorem F61_spec (K : Nat) (w : GWorker) (e s q p : Int) (hl : w.Buf.length < 1000000) (hK : w.Buf.length < K) : F61_iiiiiiioooo K w e s q p = some (gotS w.Buf e s q p, w) := by
 let step : Nat → GData → Unit → (Unit → Option (Int ⊕ Unit)) → Option (Int ⊕ Unit) := fun i x _ c =>
  bif ieq x.Epoch e then (bif ieq x.Step s then (bif ieq x.Q q then (bif ieq x.P p then some (.inl (i : Int)) else c ()) else c ()) else c ()) else c ()
 have h := scanI (l := w.Buf) (L := fun k (_ : Unit) i => F61_iiiiiiioooo_l0_0 K w e s q p k i) step (fun _ => some (.inr ())) (fun k s i _ => rfl) (by omega) K () 0 (by omega) (by omega)
 have g := find_go (step := step) (isDa e s q p) w.Buf 0 (fun x _ i c => by
  show (bif ieq x.Epoch e then (bif ieq x.Step s then (bif ieq x.Q q then (bif ieq x.P p then _ else _) else _) else _) else _) = _
  rw [isDa]
  cases ieq x.Epoch e <;> cases ieq x.Step s <;> cases ieq x.Q q <;> cases ieq x.P p <;> rfl)
 rw [List.drop_zero] at h
 have e : F61_iiiiiiioooo_l0_0 K w e s q p K 0 = _ := h.trans g
 rw [F61_iiiiiiioooo, e]
 exact posS_elim _ _ fun q => some (q, w)
def tableS (j : GJob) (e : Int) (m : GMail) : GTable × Bool := (GTable.mk e m.Owners m.Ids m.Incs, tabR (GTable.mk e m.Owners m.Ids m.Incs) && (ilt 0 e && ieq (m.Owners.length : Int) j.Parts))
theorem F68_spec {K : Nat} (hK : 100 ≤ K) (j : GJob) (e : Int) (m : GMail) : F68 K j e m = some (tableS j e m) := by
 rw [F68, F100_spec hK, Option.bind_some, tableS, nlen_len]
 cases tabR (GTable.mk e m.Owners m.Ids m.Incs) <;> cases ilt 0 e <;> rfl
def loadedM (m : GMail) : GMail := GMail.mk 2 m.Epoch 0 0 m.X.P 0 0 0 [] [] [] noP' []
def putX (g : GGraph) (j : GJob) (w : GWorker) (m : GMail) : GWorker := bif mineS g j w m.X then postS { w with Held := insH w.Held m.X } (loadedM m) else w
def loadS (g : GGraph) (j : GJob) (w : GWorker) (m : GMail) : GWorker :=
 bif (tableS j m.Epoch m).2 then (bif ilt m.Epoch w.T.Epoch then w else bif ilt w.T.Epoch m.Epoch then putX g j (sinceS { w with Goal := -1, T := (tableS j m.Epoch m).1, Held := [], Out := [] } m.Epoch) m else putX g j w m) else w
structure Sml (w : GWorker) : Prop where
 h : w.Held.length ≤ 50
 b : w.Buf.length ≤ 500000
 c : w.Coming.length ≤ 500000
 o : w.Out.length ≤ 500000
theorem filt_le {α : Type} (p : α → Bool) (l : List α) : (l.filter p).length ≤ l.length := List.length_filter_le p l
theorem F41_spec {K : Nat} (hK : 1000000 ≤ K) (w : GWorker) (g : GGraph) (j : GJob) (m : GMail) (hw : Sml w) (hx : FitM 2000 m) (hp : i64 m.X.P) : F41_iiiiiiioooo K w g j m = some (loadS g j w m) := by
 have hin : m.X.In.length < 1000000 ∧ m.X.In.length < K := by have := hx.x; omega
 rw [F41_iiiiiiioooo, F68_spec (by omega), Option.bind_some, loadS]
 cases (tableS j m.Epoch m).2
 · rfl
 · cases ilt m.Epoch w.T.Epoch
   · rw [cond_true, cond_true, cond_false, cond_false]
     cases ilt w.T.Epoch m.Epoch
     · rw [cond_false, cond_false, F70_spec (by omega) w g j m.X (by have := hw.h; omega) hin hp, Option.bind_some, putX]
       cases mineS g j w m.X
       · rfl
       · show (F71_iiiiiiioooo K w m.X).bind _ = _
         rw [F71_spec K w m.X (by have := hw.h; omega) (by omega), Option.bind_some, F63_spec K _ _ (by have := hw.o; show w.Out.length ≤ _; omega)]; rfl
     · rw [cond_true, cond_true, F69_spec (w := GWorker.mk w.Id (-1) w.Until (tableS j m.Epoch m).1 [] w.Buf w.Coming []) m.Epoch (by have := hw.b; show w.Buf.length ≤ _; omega) (by have := hw.c; show w.Coming.length ≤ _; omega) (by have := hw.b; show w.Buf.length < _; omega) (by have := hw.c; show w.Coming.length < _; omega), Option.bind_some]
       show (F70_iiiiiiioooo K (sinceS { w with Goal := -1, T := (tableS j m.Epoch m).1, Held := [], Out := [] } m.Epoch) g j m.X).bind _ = _
       generalize hv : sinceS { w with Goal := -1, T := (tableS j m.Epoch m).1, Held := [], Out := [] } m.Epoch = v
       have vh : v.Held = [] := by rw [← hv]; rfl
       have vo : v.Out = [] := by rw [← hv]; rfl
       rw [F70_spec (by omega) v g j m.X (by rw [vh]; simp) hin hp, Option.bind_some, putX]
       cases mineS g j v m.X
       · rfl
       · show (F71_iiiiiiioooo K v m.X).bind _ = _
         rw [F71_spec K v m.X (by rw [vh]; simp) (by omega), Option.bind_some, F63_spec K _ _ (by show v.Out.length ≤ _; rw [vo]; simp)]; rfl
   · rfl
def beginW (w : GWorker) (m : GMail) : GWorker := bif ieq m.Epoch w.T.Epoch then { w with Goal := m.Step } else w
theorem F42_spec (K : Nat) (w : GWorker) (g : GGraph) (j : GJob) (m : GMail) : F42_iiiiiiioooo K w g j m = some (beginW w m) := by
 rw [F42_iiiiiiioooo, beginW]
 cases ieq m.Epoch w.T.Epoch <;> rfl
def dataS (w : GWorker) (m : GMail) : GWorker := bif ile w.T.Epoch m.Epoch && ilt (gotS w.Buf m.Epoch m.Step m.Q m.P) 0 then { w with Buf := w.Buf ++ [GData.mk m.Epoch m.Step m.Q m.P m.Msgs] } else w
theorem F43_spec {K : Nat} (w : GWorker) (g : GGraph) (j : GJob) (m : GMail) (hl : w.Buf.length ≤ 900000) (hK : 1000000 ≤ K) : F43_iiiiiiioooo K w g j m = some (dataS w m) := by
 rw [F43_iiiiiiioooo, F61_spec K w _ _ _ _ (by omega) (by omega), Option.bind_some, dataS]
 cases ile w.T.Epoch m.Epoch
 · rfl
 · cases ilt (gotS w.Buf m.Epoch m.Step m.Q m.P) 0
   · rfl
   · simp only [cond_true, Bool.and_true]
     rw [apok_small (by show w.Buf.length + 1 ≤ _; omega) (by omega)]; rfl
def giveM (m : GMail) (x : GPart) : GMail := GMail.mk 7 m.Epoch 0 0 0 0 0 0 [] [] [] x []
def giveAt (w : GWorker) (m : GMail) (h : GHeld) : GWorker :=
 bif h.Wait || (h.Given || ilt (findS m.Ids m.To) 0) then w else { w with Held := w.Held.set (atHd w.Held m.P).toNat (GHeld.mk h.X h.Wait true), Out := w.Out ++ [GPost.mk m.To (m.Incs.getD (findS m.Ids m.To).toNat 0) (giveM m h.X)] }
def giveS (w : GWorker) (m : GMail) : GWorker :=
 bif ieq m.Epoch w.T.Epoch && !(ilt (atHd w.Held m.P) 0) then (match w.Held[(atHd w.Held m.P).toNat]? with | some h => giveAt w m h | none => w) else w
theorem F44_spec {K : Nat} (hK : 1000 ≤ K) (w : GWorker) (g : GGraph) (j : GJob) (m : GMail) (hw : Sml w) (hm : FitM 2000 m) (hi : m.Incs.length = m.Ids.length) (hK2 : m.Ids.length < K) : F44_iiiiiiioooo K w g j m = some (giveS w m) := by
 rw [F44_iiiiiiioooo, F72_spec K w m.P (by have := hw.h; omega) (by have := hw.h; omega), Option.bind_some, giveS]
 cases ieq m.Epoch w.T.Epoch
 · rfl
 · cases hn : ilt (atHd w.Held m.P) 0
   · simp only [cond_true, cond_false, Bool.true_and, Bool.not_false]
     rw [ilt_f] at hn
     obtain ⟨q, h, e1, e2, e3⟩ := posS_at (p := fun h : GHeld => ieq h.X.P m.P) (l := w.Held) (by show ¬ atHd w.Held m.P < 0; omega)
     have e1' : atHd w.Held m.P = (q : Int) := e1
     have hql : q < w.Held.length := (List.getElem?_eq_some_iff.1 e2).1
     rw [e1', Int.toNat_natCast, e2]
     have b1 : inr (q : Int) (len w.Held) = true := decide_eq_true ⟨by omega, by show (q : Int) < (w.Held.length : Int); omega⟩
     have b2 : elAt w.Held (q : Int) = some h := by rw [elAt_nat]; exact e2
     rw [b1, b2, cond_true, Option.bind_some]
     dsimp only
     rw [giveAt, e1', Int.toNat_natCast]
     cases hW : h.Wait
     · cases h.Given
       · simp only [cond_false, Bool.false_or]
         let step : Nat → Int → Unit → (Unit → Option ((List GHeld × List GPost) ⊕ Unit)) → Option ((List GHeld × List GPost) ⊕ Unit) := fun i x _ c =>
          bif ieq x m.To then
           (bif inr (q : Int) (len w.Held) then (elAt w.Held (q : Int)).bind fun h => bif inr (i : Int) (len m.Incs) then (elAt m.Incs (i : Int)).bind fun n =>
            bif inr (q : Int) (len (putAt w.Held (q : Int) (GHeld.mk h.X h.Wait true))) then (elAt (putAt w.Held (q : Int) (GHeld.mk h.X h.Wait true)) (q : Int)).bind fun h' =>
            bif apok (len w.Out) 1 264 then some (.inl (putAt w.Held (q : Int) (GHeld.mk h.X h.Wait true), appL w.Out [GPost.mk m.To n (giveM m h'.X)])) else none else none else none else none)
          else c ()
         have hs := scanI (l := m.Ids) (L := fun k (_ : Unit) i => F44_iiiiiiioooo_l0_0 K m ((q : Int), w) k i) step (fun _ => some (.inr ())) (fun k s i _ => rfl) (by have := hm.i; omega) K () 0 (by omega) (by omega)
         rw [List.drop_zero] at hs
         have go : ∀ (l : List Int) (i : Nat), m.Ids.drop i = l → goI step (fun _ => some (.inr ())) i l () = some (match l.findIdx? (fun x => ieq x m.To) with
          | some z => .inl (w.Held.set q (GHeld.mk h.X h.Wait true), w.Out ++ [GPost.mk m.To (m.Incs.getD (i + z) 0) (giveM m h.X)]) | none => .inr ()) := by
          intro l
          induction l with
          | nil => intro i _; rfl
          | cons x l ih =>
           intro i hd
           have hlt := lt_of_drop' hd
           have hd2 : m.Ids.drop (i + 1) = l := by
            have := List.drop_eq_getElem_cons hlt
            rw [hd] at this
            injection this with _ h2; exact h2.symm
           rw [goI, List.findIdx?_cons]
           show (bif ieq x m.To then _ else _) = _
           cases ieq x m.To
           · rw [cond_false, ih (i + 1) hd2]
             cases l.findIdx? (fun x => ieq x m.To) with
             | none => rfl
             | some z => simp [Nat.add_assoc, Nat.add_comm 1 z]
           · have c1 : inr (i : Int) (len m.Incs) = true := decide_eq_true ⟨by omega, by show (i : Int) < (m.Incs.length : Int); omega⟩
             have c2 : elAt m.Incs (i : Int) = some (m.Incs.getD i 0) := by rw [elAt_nat, getD_lt (by omega)]; exact List.getElem?_eq_getElem (by omega)
             have c3 : putAt w.Held (q : Int) (GHeld.mk h.X h.Wait true) = w.Held.set q (GHeld.mk h.X h.Wait true) := by show w.Held.set (Int.toNat q) _ = _; rw [Int.toNat_natCast]
             have c4 : inr (q : Int) (len (w.Held.set q (GHeld.mk h.X h.Wait true))) = true := decide_eq_true ⟨by omega, by show (q : Int) < ((w.Held.set q _).length : Int); rw [List.length_set]; omega⟩
             have c5 : elAt (w.Held.set q (GHeld.mk h.X h.Wait true)) (q : Int) = some (GHeld.mk h.X h.Wait true) := by rw [elAt_nat, List.getElem?_set_self hql]
             simp only [cond_true, b1, b2, Option.bind_some, c1, c2, c3, c4, c5, apok_small (show len w.Out + 1 ≤ 1000000 by have := hw.o; show w.Out.length + 1 ≤ _; omega) (show 264 ≤ 1000 by omega)]
             simp [appL]
         have e : F44_iiiiiiioooo_l0_0 K m ((q : Int), w) K 0 = _ := hs.trans (go m.Ids 0 rfl)
         rw [e]
         have hfe : findS m.Ids m.To = (match m.Ids.findIdx? (fun x => ieq x m.To) with | some z => (z : Int) | none => -1) := rfl
         cases hf : m.Ids.findIdx? (fun x => ieq x m.To) with
         | none =>
          rw [hfe, hf]; rfl
         | some z =>
          rw [hfe, hf]
          have hz : ilt ((z : Nat) : Int) 0 = false := ilt_f.2 (by omega)
          simp only [Option.bind_some, Sum.elim_inl, hz, cond_false, Nat.zero_add, Int.toNat_natCast, hW]
       · rfl
     · rfl
   · rfl
theorem rising_len {α : Type} (f : α → Int) (hi : Int) : ∀ (l : List α) (lo : Int), l.Pairwise (fun a b => f a < f b) → (∀ x ∈ l, lo ≤ f x ∧ f x < hi) → (l.length : Int) ≤ max 0 (hi - lo)
 | [], lo, _, _ => by simp; omega
 | x :: l, lo, h, g => by
  have hx := g x List.mem_cons_self
  have := rising_len f hi l (f x + 1) (List.pairwise_cons.1 h).2 fun y hy => ⟨by have := (List.pairwise_cons.1 h).1 y hy; omega, (g y (List.mem_cons_of_mem _ hy)).2⟩
  rw [List.length_cons]
  omega
structure HOk (l : List GHeld) : Prop where
 s : l.Pairwise (fun a b => a.X.P < b.X.P)
 r : ∀ h ∈ l, 0 ≤ h.X.P ∧ h.X.P < 6
theorem HOk.len {l : List GHeld} (h : HOk l) : l.length ≤ 6 := by
 have := rising_len (fun h : GHeld => h.X.P) 6 l 0 h.s h.r
 omega
theorem HOk.nil : HOk [] := ⟨List.Pairwise.nil, fun h hh => absurd hh List.not_mem_nil⟩
theorem mem_insH {l : List GHeld} {x : GPart} {h : GHeld} : h ∈ insH l x ↔ h ∈ l ∨ h = GHeld.mk x false false := by
 have : h ∈ l ↔ h ∈ l.takeWhile (fun h => ilt h.X.P x.P) ∨ h ∈ l.dropWhile (fun h => ilt h.X.P x.P) := by
  conv => lhs; rw [← List.takeWhile_append_dropWhile (p := fun h => ilt h.X.P x.P) (l := l)]
  rw [List.mem_append]
 rw [insH, List.mem_append, List.mem_append, List.mem_singleton, this]
 constructor
 · rintro ((h | h) | h)
   · exact .inl (.inl h)
   · exact .inr h
   · exact .inl (.inr h)
 · rintro ((h | h) | h)
   · exact .inl (.inl h)
   · exact .inr h
   · exact .inl (.inr h)
theorem mem_while {α : Type} {p : α → Bool} : ∀ {l : List α} {x : α}, x ∈ l.takeWhile p → p x = true
 | y :: l, x, h => by
  rw [List.takeWhile_cons] at h
  cases hp : p y
  · rw [hp] at h; exact absurd h List.not_mem_nil
  · rw [hp] at h
    rcases List.mem_cons.1 h with rfl | h
    · exact hp
    · exact mem_while h
theorem insH_sorted {l : List GHeld} {x : GPart} (hs : l.Pairwise (fun a b => a.X.P < b.X.P)) (hn : ∀ h ∈ l, h.X.P ≠ x.P) : (insH l x).Pairwise (fun a b => a.X.P < b.X.P) := by
 have e := List.takeWhile_append_dropWhile (p := fun h : GHeld => ilt h.X.P x.P) (l := l)
 have h1 : ∀ h ∈ l.takeWhile (fun h => ilt h.X.P x.P), h.X.P < x.P := fun h hh => by
  have := mem_while hh
  exact ilt_iff.1 this
 have h2 : ∀ h ∈ l.dropWhile (fun h => ilt h.X.P x.P), x.P < h.X.P := by
  have key : ∀ (l : List GHeld), l.Pairwise (fun a b => a.X.P < b.X.P) → (∀ h ∈ l, h.X.P ≠ x.P) → ∀ h ∈ l.dropWhile (fun h => ilt h.X.P x.P), x.P < h.X.P := by
   intro l
   induction l with
   | nil => intro _ _ h hh; cases hh
   | cons y l ih =>
    intro hs hn h hh
    rw [List.dropWhile_cons] at hh
    cases hp : ilt y.X.P x.P
    · rw [hp] at hh
      rw [ilt_f] at hp
      have := hn y List.mem_cons_self
      rcases List.mem_cons.1 hh with rfl | hh
      · omega
      · have := (List.pairwise_cons.1 hs).1 h hh; omega
    · rw [hp] at hh
      exact ih (List.pairwise_cons.1 hs).2 (fun h hh => hn h (List.mem_cons_of_mem _ hh)) h hh
  exact key l hs hn
 rw [← e, List.pairwise_append] at hs
 rw [insH, List.append_assoc, List.pairwise_append]
 refine ⟨hs.1, ?_, ?_⟩
 · rw [List.singleton_append, List.pairwise_cons]
   exact ⟨h2, hs.2.1⟩
 · intro a ha b hb
   rw [List.singleton_append, List.mem_cons] at hb
   rcases hb with rfl | hb
   · exact h1 a ha
   · exact hs.2.2 a ha b hb
theorem atHd_neg {l : List GHeld} {p : Int} : ilt (atHd l p) 0 = true ↔ ∀ h ∈ l, h.X.P ≠ p := by
 rw [ilt_iff]
 refine (posS_neg _ _).trans ?_
 simp only [ieq_f]
theorem mineS_ok {g : GGraph} {j : GJob} {w : GWorker} {x : GPart} (h : mineS g j w x = true) : 0 ≤ x.P ∧ x.P < ((ownT w.T).Owners.length : Int) ∧ (ownT w.T).Owners.getD x.P.toNat 0 = w.Id ∧ partRight g j x = true ∧ ∀ h ∈ w.Held, h.X.P ≠ x.P := by
 rw [mineS, Bool.and_eq_true, Bool.and_eq_true, Bool.and_eq_true] at h
 obtain ⟨h1, h2, h3, h4⟩ := h
 obtain ⟨a, b, c⟩ := toT_ok h1
 exact ⟨a, b, by rw [← c]; exact ieq_iff.1 h2, h3, atHd_neg.1 h4⟩
theorem HOk.ins {g : GGraph} {j : GJob} {w : GWorker} {x : GPart} (h : HOk w.Held) (hm : mineS g j w x = true) : HOk (insH w.Held x) := by
 obtain ⟨a, b, _, _, d⟩ := mineS_ok hm
 have := (tabR_ok (ownT_right w.T)).2.2.2.2.1
 refine ⟨insH_sorted h.s d, fun y hy => ?_⟩
 rcases mem_insH.1 hy with hy | rfl
 · exact h.r y hy
 · exact ⟨a, by show x.P < 6; omega⟩
def gotM (m : GMail) : GMail := GMail.mk 8 m.Epoch 0 0 m.X.P 0 0 0 [] [] [] noP' []
def isC (e p : Int) (c : GComing) : Bool := ieq c.Epoch e && ieq c.X.P p
def takeQ (w : GWorker) (m : GMail) : GWorker := bif ilt m.Epoch w.T.Epoch || w.Coming.any (isC m.Epoch m.X.P) then w else postS { w with Coming := w.Coming ++ [GComing.mk m.Epoch m.X] } (gotM m)
theorem F45_spec {K : Nat} (w : GWorker) (g : GGraph) (j : GJob) (m : GMail) (hw : Sml w) (hK : 1000000 ≤ K) : F45_iiiiiiioooo K w g j m = some (takeQ w m) := by
 let step : GComing → Unit → (Unit → Option (Unit ⊕ Unit)) → Option (Unit ⊕ Unit) := fun x _ c => bif ieq x.Epoch m.Epoch then (bif ieq x.X.P m.X.P then some (.inl ()) else c ()) else c ()
 have h := scanL (l := w.Coming) (L := fun k (_ : Unit) i => F45_iiiiiiioooo_l0_0 K w m k i) step (fun _ => some (.inr ())) (fun k s i _ => rfl) (by have := hw.c; omega) (K := K) (by have := hw.c; omega) ()
 have e := all_go (step := step) (fun c => !(isC m.Epoch m.X.P c)) w.Coming (fun x _ c => by
  show (bif ieq x.Epoch m.Epoch then (bif ieq x.X.P m.X.P then _ else _) else _) = _
  rw [isC]
  cases ieq x.Epoch m.Epoch <;> cases ieq x.X.P m.X.P <;> rfl)
 have e1 : F45_iiiiiiioooo_l0_0 K w m K 0 = _ := h.trans e
 have e2 : (w.Coming.all fun c => !(isC m.Epoch m.X.P c)) = !(w.Coming.any (isC m.Epoch m.X.P)) := by rw [List.not_any_eq_all_not]
 rw [F45_iiiiiiioooo, e1, e2, takeQ]
 cases ilt m.Epoch w.T.Epoch
 · cases w.Coming.any (isC m.Epoch m.X.P)
   · simp only [cond_false, Bool.not_false, sumU, cond_true, Option.bind_some, Sum.elim_inr, Bool.or_false]
     rw [apok_small (by have := hw.c; show w.Coming.length + 1 ≤ _; omega) (by omega), cond_true, F63_spec K _ _ (by have := hw.o; show w.Out.length ≤ _; omega)]; rfl
   · rfl
 · rfl
def restH (w : GWorker) (m : GMail) : List GPart := (w.Held.filter fun h => ieq m.Epoch w.T.Epoch && (!(h.Wait) && !(h.Given))).map (·.X)
def restC (w : GWorker) (m : GMail) : List GPart := (w.Coming.filter fun c => ieq c.Epoch m.Epoch).map (·.X)
def holdX (g : GGraph) (j : GJob) (w : GWorker) (x : GPart) : GWorker := bif mineS g j w x then { w with Held := insH w.Held x } else w
def changeS (g : GGraph) (j : GJob) (w : GWorker) (m : GMail) : GWorker :=
 bif (tableS j m.Fresh m).2 then (bif ile m.Fresh w.T.Epoch then w else sinceS ((restH w m ++ restC w m).foldl (holdX g j) { w with T := (tableS j m.Fresh m).1, Goal := -1, Held := [] }) m.Fresh) else w
theorem goL_fold {α σ β : Type} {step : α → σ → (σ → Option β) → Option β} {fin : σ → Option β} (P : σ → Prop) (f : σ → α → σ) : ∀ (l : List α) (s : σ), P s → (∀ x ∈ l, ∀ s, P s → P (f s x) ∧ ∀ c, step x s c = c (f s x)) →
 goL step fin l s = fin (l.foldl f s) ∧ P (l.foldl f s)
 | [], s, hs, _ => ⟨rfl, hs⟩
 | x :: l, s, hs, h => by
  obtain ⟨h1, h2⟩ := h x List.mem_cons_self s hs
  rw [goL, h2, List.foldl_cons]
  exact goL_fold P f l (f s x) h1 fun y hy => h y (List.mem_cons_of_mem _ hy)
abbrev WT : Type := Int × Int × Int × Int × List Int × List Int × List Int × List GHeld × List GData × List GComing × List GPost
abbrev wt (w : GWorker) : WT :=
 (w.Id, (w.Goal, (w.Until, (w.T.Epoch, (w.T.Owners, (w.T.Ids, (w.T.Incs, (w.Held, (w.Buf, (w.Coming, w.Out))))))))))
structure SmlP (x : GPart) : Prop where
 v : x.Vals.length ≤ 100
 r : x.Rest.length ≤ 100
 i : x.In.length ≤ 300
 p : i64 x.P
 n : niceP x
theorem F46_hold {K : Nat} (hK : 1000000 ≤ K) (g : GGraph) (j : GJob) (m : GMail) (l : List GPart) (hl : l.length ≤ 600000) (hp : ∀ x ∈ l, SmlP x) (w : GWorker) (hw : HOk w.Held) :
 F46_iiiiiiioooo_l2_2 K g j m l K w.Id w.Goal w.Until w.T.Epoch w.T.Owners w.T.Ids w.T.Incs w.Held w.Buf w.Coming w.Out 0 = some (wt (l.foldl (holdX g j) w)) := by
 let step : GPart → GWorker → (GWorker → Option WT) → Option WT := fun x w c => (F70_iiiiiiioooo K w g j x).bind fun r => bif r.1 then (F71_iiiiiiioooo K r.2 x).bind fun r => c r else c r.2
 have h := scanL (l := l) (L := fun k (w : GWorker) i => F46_iiiiiiioooo_l2_2 K g j m l k w.Id w.Goal w.Until w.T.Epoch w.T.Owners w.T.Ids w.T.Incs w.Held w.Buf w.Coming w.Out i) step (fun w => some (wt w)) (fun k s i _ => rfl) (by omega) (K := K) (by omega) w
 have e := goL_fold (step := step) (fin := fun w => some (wt w)) (fun w => HOk w.Held) (holdX g j) l w hw (fun x hx w hw => by
  have hs := hp x hx
  have hlen := hw.len
  have e1 := F70_spec (K := K) (by omega) w g j x (by omega) (by have := hs.i; omega) hs.p
  constructor
  · show HOk (holdX g j w x).Held
    rw [holdX]
    cases hm : mineS g j w x
    · exact hw
    · exact hw.ins hm
  · intro c
    show (F70_iiiiiiioooo K w g j x).bind _ = _
    rw [e1, Option.bind_some, holdX]
    cases mineS g j w x
    · rfl
    · rw [cond_true, cond_true, F71_spec K w x (by omega) (by omega), Option.bind_some])
 exact h.trans e.1
theorem F46_spec {K : Nat} (hK : 1000000 ≤ K) (w : GWorker) (g : GGraph) (j : GJob) (m : GMail) (hw : Sml w) (h1 : ∀ h ∈ w.Held, SmlP h.X) (h2 : ∀ c ∈ w.Coming, SmlP c.X) : F46_iiiiiiioooo K w g j m = some (changeS g j w m) := by
 have a1 := hw.h
 have a2 := hw.c
 have a3 := hw.b
 rw [F46_iiiiiiioooo, F68_spec (by omega), Option.bind_some, changeS]
 cases (tableS j m.Fresh m).2
 · rfl
 · cases ile m.Fresh w.T.Epoch
   · rw [cond_true, cond_true, cond_false, cond_false]
     generalize hr : tableS j m.Fresh m = r
     let st1 : GHeld → List GPart → (List GPart → Option (List GPart)) → Option (List GPart) := fun x a c => bif ieq m.Epoch w.T.Epoch then (bif x.Wait then c a else bif x.Given then c a else bif apok (len a) 1 88 then c (appL a [x.X]) else none) else c a
     have e1 := scanL (l := w.Held) (L := fun k a i => F46_iiiiiiioooo_l0_0 K w g j m r k a i) st1 (fun a => some a) (fun k s i _ => rfl) (by omega) (K := K) (by omega) []
     have g1 := filt_go (step := st1) (fun h : GHeld => ieq m.Epoch w.T.Epoch && (!(h.Wait) && !(h.Given))) (fun h => h.X) 88 (by omega) 1000000 (by omega) w.Held [] (by simp; omega) (fun x _ a c => by
      show (bif ieq m.Epoch w.T.Epoch then (bif x.Wait then c a else bif x.Given then c a else _) else c a) = _
      cases ieq m.Epoch w.T.Epoch <;> cases x.Wait <;> cases x.Given <;> rfl)
     have f1 : F46_iiiiiiioooo_l0_0 K w g j m r K [] 0 = some (restH w m) := (e1.trans g1).trans (by simp [restH])
     rw [f1, Option.bind_some]
     have hrl : (restH w m).length ≤ 50 := by rw [restH, List.length_map]; exact Nat.le_trans (filt_le _ _) a1
     let st2 : GComing → List GPart → (List GPart → Option (List GPart)) → Option (List GPart) := fun x a c => bif ieq x.Epoch m.Epoch then (bif apok (len a) 1 88 then c (appL a [x.X]) else none) else c a
     have e2 := scanL (l := w.Coming) (L := fun k a i => F46_iiiiiiioooo_l1_1 K w g j m r k a i) st2 (fun a => some a) (fun k s i _ => rfl) (by omega) (K := K) (by omega) (restH w m)
     have g2 := filt_go (step := st2) (fun c : GComing => ieq c.Epoch m.Epoch) (fun c => c.X) 88 (by omega) 1000000 (by omega) w.Coming (restH w m) (by omega) (fun x _ a c => rfl)
     have f2 : F46_iiiiiiioooo_l1_1 K w g j m r K (restH w m) 0 = some (restH w m ++ restC w m) := e2.trans g2
     rw [f2, Option.bind_some]
     have hcl : (restC w m).length ≤ 500000 := by rw [restC, List.length_map]; exact Nat.le_trans (filt_le _ _) a2
     have f3 := F46_hold hK g j m (restH w m ++ restC w m) (by rw [List.length_append]; omega) (fun x hx => by
      rcases List.mem_append.1 hx with hx | hx
      · obtain ⟨h, hh, rfl⟩ := List.mem_map.1 hx
        exact h1 h (List.mem_filter.1 hh).1
      · obtain ⟨c, hc, rfl⟩ := List.mem_map.1 hx
        exact h2 c (List.mem_filter.1 hc).1) { w with T := r.1, Goal := -1, Held := [] } HOk.nil
     have f3' : F46_iiiiiiioooo_l2_2 K g j m (restH w m ++ restC w m) K w.Id (-1) w.Until r.1.Epoch r.1.Owners r.1.Ids r.1.Incs [] w.Buf w.Coming w.Out 0 = _ := f3
     rw [f3', Option.bind_some]
     generalize hv : (restH w m ++ restC w m).foldl (holdX g j) { w with T := r.1, Goal := -1, Held := [] } = v
     have hbc : v.Buf = w.Buf ∧ v.Coming = w.Coming := by
      have key : ∀ (l : List GPart) (u : GWorker), (l.foldl (holdX g j) u).Buf = u.Buf ∧ (l.foldl (holdX g j) u).Coming = u.Coming := by
       intro l
       induction l with
       | nil => intro u; exact ⟨rfl, rfl⟩
       | cons x l ih =>
        intro u
        rw [List.foldl_cons]
        have := ih (holdX g j u x)
        have e : (holdX g j u x).Buf = u.Buf ∧ (holdX g j u x).Coming = u.Coming := by rw [holdX]; cases mineS g j u x <;> exact ⟨rfl, rfl⟩
        exact ⟨this.1.trans e.1, this.2.trans e.2⟩
      rw [← hv]; exact key _ _
     show (F69_iiiiiiioooo K v m.Fresh).bind _ = _
     rw [F69_spec v m.Fresh (by rw [hbc.1]; omega) (by rw [hbc.2]; omega) (by rw [hbc.1]; omega) (by rw [hbc.2]; omega)]; rfl
   · rfl
theorem F30_spec (K : Nat) (w : GWorker) (h : Sml w) : F30 K w = some w := by
 obtain ⟨h1, h2, h3, h4⟩ := h
 rw [F30, apok_small (by show 0 + w.Held.length ≤ _; omega) (by omega), apok_small (by show 0 + w.Buf.length ≤ _; omega) (by omega), apok_small (by show 0 + w.Coming.length ≤ _; omega) (by omega), apok_small (by show 0 + w.Out.length ≤ _; omega) (by omega)]
 simp only [cond_true, app_nil]
def byKind (g : GGraph) (j : GJob) (w : GWorker) (m : GMail) : GWorker :=
 bif ieq m.Kind 1 then loadS g j w m else bif ieq m.Kind 3 then beginW w m else bif ieq m.Kind 4 then dataS w m else bif ieq m.Kind 6 then giveS w m else bif ieq m.Kind 7 then takeQ w m else bif ieq m.Kind 9 then changeS g j w m else w
def takeW (g : GGraph) (j : GJob) (w : GWorker) (m : GMail) : GWorker := bif ieq (jcheck g j) 0 && mailR m then byKind g j w m else w
theorem F18_spec {K : Nat} (hK : 1000000 ≤ K) (g : GGraph) (j : GJob) (w : GWorker) (m : GMail) (hw : Sml w) (h1 : ∀ h ∈ w.Held, SmlP h.X) (h2 : ∀ c ∈ w.Coming, SmlP c.X) (hm : FitM 2000 m) (hp : i64 m.X.P) : F18 K g j w m = some (takeW g j w m) := by
 rw [F18, F30_spec K w hw, Option.bind_some, F31_spec (by omega), Option.bind_some, F40_spec (by omega) m hm, takeW]
 cases ieq (jcheck g j) 0
 · rfl
 · cases hr : mailR m
   · rfl
   · have hi : m.Incs.length = m.Ids.length := by
      simp only [mailR, Bool.and_eq_true, ieq_iff] at hr
      have := hr.2.2.2.2.2.2.1
      omega
     simp only [cond_true, Option.bind_some, Bool.true_and, byKind, F41_spec hK w g j m hw hm hp, F42_spec, F43_spec w g j m (by have := hw.b; omega) hK, F44_spec (K := K) (by omega) w g j m hw hm hi (by have := hm.i; omega), F45_spec w g j m hw hK, F46_spec hK w g j m hw h1 h2]
     cases ieq m.Kind 1 <;> cases ieq m.Kind 3 <;> cases ieq m.Kind 4 <;> cases ieq m.Kind 6 <;> cases ieq m.Kind 7 <;> cases ieq m.Kind 9 <;> rfl
def leaseS (w : GWorker) (n : Int) : GWorker := bif ilt w.Until n then { w with Until := n } else w
theorem F22_spec (K : Nat) (w : GWorker) (n : Int) (h : Sml w) : F22 K w n = some (leaseS w n) := by
 rw [F22, F30_spec K w h, Option.bind_some, leaseS]
 cases ilt w.Until n <;> rfl
theorem foldC_ok (p : Int) : ∀ (r : List GMsg) (c : GMsg) (d w : List GMsg), foldC p r c d = .inr w → i64 c.V → (∀ x ∈ r, i64 x.V) → (∀ x ∈ d, i64 x.V) → w.length ≤ d.length + r.length + 1 ∧ ∀ x ∈ w, i64 x.V
 | [], c, d, w, h, hc, _, hd => by
  injection h with h
  subst h
  refine ⟨by simp, fun x hx => ?_⟩
  rcases List.mem_append.1 hx with hx | hx
  · exact hd x hx
  · rw [List.mem_singleton.1 hx]; exact hc
 | x :: r, c, d, w, h, hc, hr, hd => by
  rw [foldC] at h
  have hx := hr x List.mem_cons_self
  have hr' := fun y hy => hr y (List.mem_cons_of_mem _ hy)
  cases h1 : ieq c.To x.To
  · rw [h1, cond_false] at h
    have := foldC_ok p r x (d ++ [c]) w h hx hr' (fun y hy => by
     rcases List.mem_append.1 hy with hy | hy
     · exact hd y hy
     · rw [List.mem_singleton.1 hy]; exact hc)
    rw [List.length_append] at this
    simp only [List.length_singleton] at this
    exact ⟨by simp only [List.length_cons]; omega, this.2⟩
  · rw [h1, cond_true] at h
    cases h2 : ieq (foldS p c.V x.V).2 0
    · rw [h2] at h; cases h
    · rw [h2, cond_true] at h
      have := foldC_ok p r _ d w h (foldS_i64 hc hx) hr' hd
      exact ⟨by simp only [List.length_cons]; omega, this.2⟩
theorem boxS_ok {p : Int} {l : List GMsg} (hl : ∀ x ∈ l, i64 x.V) : (boxS p l).1.length ≤ l.length ∧ ∀ x ∈ (boxS p l).1, i64 x.V := by
 have hn : ∀ x ∈ ([] : List GMsg), i64 x.V := fun x hx => absurd hx List.not_mem_nil
 have hs : ∀ x ∈ sortM l, i64 x.V := fun x hx => hl x ((sortM_perm l).mem_iff.1 hx)
 have hsl := sortM_len l
 rw [boxS]
 cases pbad p
 · rw [cond_false]
   generalize sortM l = m at *
   cases m with
   | nil => exact ⟨Nat.zero_le _, hn⟩
   | cons x r =>
    rw [foldO]
    cases hq : foldC p r x [] with
    | inl e => exact ⟨Nat.zero_le _, hn⟩
    | inr w =>
     have := foldC_ok p r x [] w hq (hs x List.mem_cons_self) (fun y hy => hs y (List.mem_cons_of_mem _ hy)) hn
     simp only [List.length_cons, List.length_nil] at hsl this
     exact ⟨by show w.length ≤ _; omega, this.2⟩
 · exact ⟨Nat.zero_le _, hn⟩
theorem take_right {g : GGraph} {j : GJob} {x : GPart} {l : List GMsg} (h : ieq (takeS g j x l).2 0 = true) : partRight g j (takeS g j x l).1 = true ∧ ieq (jcheck g j) 0 = true := by
 rw [takeS] at h ⊢
 cases hc : ieq (jcheck g j) 0
 · rw [hc, cond_false] at h
   have h' : ieq (jcheck g j) 0 = true := h
   rw [hc] at h'; cases h'
 · rw [hc] at h
   cases hR : partRight g j x
   · rw [hR] at h; cases h
   · rw [hR] at h
     cases hI : ieq (nlen (len x.In)) 0
     · rw [hI] at h; cases h
     · rw [hI] at h
       cases hO : takeOk g.N j.Parts x.P l
       · rw [hO] at h; cases h
       · rw [hO] at h
         simp only [cond_true, takeB] at h ⊢
         cases hB : ieq (boxS j.Prog l).2 0
         · rw [hB, cond_false] at h
           have h' : ieq (boxS j.Prog l).2 0 = true := h
           rw [hB] at h'; cases h'
         · obtain ⟨_, p1, p2, p3, p4, p5, p6, _⟩ := partRight_ok hR
           obtain ⟨r1, r2⟩ := boxS_rise (p := j.Prog) (l := l)
           have hin : inOkS g.N j.Parts x.P (-1) (boxS j.Prog l).1 = true := inOkS_mk r1 fun m hm => by
            obtain ⟨s, hs, e⟩ := r2 m hm
            have := List.all_eq_true.1 hO s hs
            simp only [Bool.and_eq_true, ile_iff, ilt_iff, ieq_iff] at this
            rw [← e]
            exact ⟨by omega, this.2.1, this.2.2⟩
           refine ⟨?_, trivial⟩
           rw [cond_true, partRight]
           simp only [hc, ile_iff.2 p1, ilt_iff.2 p2, ile_iff.2 p3, ile_iff.2 p4, ieq_iff.2 p5, ieq_iff.2 p6, hin, Bool.and_true]
theorem doA_bad {g : GGraph} {j : GJob} {x : GPart} : ∀ (l : List Nat) (i : Nat) (a : List Int) (b : List Bool) (c : List GMsg) (e : Int), doA g j x l i a b c = .inl e → ieq e 0 = false := by
 intro l
 induction l with
 | nil => intro i a b c e h; cases h
 | cons v l ih =>
  intro i a b c e h
  rw [doA] at h
  cases hq : ieq (oneP g j x i v).2.2.2 0
  · rw [hq] at h
    injection h with h
    rw [← h]; exact hq
  · rw [hq] at h; exact ih _ _ _ _ _ h
theorem tell_cases {j : GJob} {c : List GMsg} : ∀ (l : List Nat) (d : List (List GMsg)), (∃ e, ieq e 0 = false ∧ tellS j c l d = .inl e) ∨ (tellS j c l d = .inr (d ++ l.map fun (q : Nat) => (boxS j.Prog (toS j c (q : Int))).1) ∧ ∀ q ∈ l, ieq (boxS j.Prog (toS j c (q : Int))).2 0 = true) := by
 intro l
 induction l with
 | nil => intro d; exact .inr ⟨by rw [tellS, List.map_nil, List.append_nil], fun q hq => absurd hq List.not_mem_nil⟩
 | cons q l ih =>
  intro d
  rw [tellS]
  cases hq : ieq (boxS j.Prog (toS j c (q : Int))).2 0
  · exact .inl ⟨_, hq, rfl⟩
  · rcases ih (d ++ [(boxS j.Prog (toS j c (q : Int))).1]) with h | ⟨h, h'⟩
    · exact .inl h
    · refine .inr ⟨by rw [cond_true, h]; simp, fun y hy => ?_⟩
      rcases List.mem_cons.1 hy with rfl | hy
      · exact hq
      · exact h' y hy
theorem do_cases (g : GGraph) (j : GJob) {x : GPart} (hn : niceP x) : (∃ e, ieq e 0 = false ∧ doS g j x = (zeroP, [], e)) ∨
 (ieq (jcheck g j) 0 = true ∧ partRight g j x = true ∧ ieq x.Step 40 = false ∧ ∃ w, doA g j x (vertsS g j x.P) 0 [] [] [] = .inr w ∧ keepP g (vertsS g j x.P).length w.1 w.2.1 w.2.2 ∧
  (∀ q < j.Parts.toNat, ieq (boxS j.Prog (toS j w.2.2 (q : Int))).2 0 = true) ∧
  doS g j x = (GPart.mk x.P (x.Step + 1) w.1 w.2.1 [], (List.range j.Parts.toNat).map (fun (q : Nat) => (boxS j.Prog (toS j w.2.2 (q : Int))).1), 0)) := by
 rw [doS]
 cases hc : ieq (jcheck g j) 0
 · exact .inl ⟨_, hc, rfl⟩
 · cases hR : partRight g j x
   · exact .inl ⟨_, rfl, rfl⟩
   · cases h40 : ieq x.Step 40
     · cases hA : doA g j x (vertsS g j x.P) 0 [] [] [] with
       | inl e => exact .inl ⟨e, doA_bad _ _ _ _ _ _ hA, rfl⟩
       | inr w =>
        have kw := doA_keep hn _ 0 [] [] [] (keepP0 g) w hA
        rw [Nat.zero_add] at kw
        rcases tell_cases (j := j) (c := w.2.2) (List.range j.Parts.toNat) [] with ⟨e, h1, h2⟩ | ⟨h, h'⟩
        · refine .inl ⟨e, h1, ?_⟩
          simp only [cond_true, cond_false, doB, h2, doC]
        · refine .inr ⟨rfl, rfl, rfl, w, rfl, kw, fun q hq => h' q (List.mem_range.2 hq), ?_⟩
          simp only [cond_true, cond_false, doB, h, doC, List.nil_append]
     · exact .inl ⟨_, rfl, rfl⟩
theorem do_fit {K : Nat} (hK : 3000 ≤ K) (g : GGraph) (j : GJob) {x : GPart} (hn : niceP x) : fitP K (doS g j x).1 ∧ (doS g j x).2.1.length ≤ 6 ∧ ∀ l ∈ (doS g j x).2.1, l.length ≤ 2000 := by
 have hz : fitP K zeroP := by refine ⟨⟨?_, ?_⟩, ⟨?_, ?_⟩, ?_, ?_⟩ <;> simp [zeroP] <;> omega
 rcases do_cases g j hn with ⟨e, _, h⟩ | ⟨hc, hR, _, w, _, kw, _, h⟩
 · rw [h]; exact ⟨hz, Nat.zero_le _, fun l hl => absurd hl List.not_mem_nil⟩
 · obtain ⟨hg, _, _, _, _, _, _, p7, p8⟩ := jcheck_ok hc
   obtain ⟨g1, g2, g3, _⟩ := gcheck_ok hg
   have hvl := verts_len g j g2 x.P
   have h1 := kw.la
   have h2 := kw.lb
   have h3 := kw.lc
   rw [h]
   refine ⟨⟨⟨by show w.1.length < _; omega, by show w.1.length < _; omega⟩, ⟨by show w.2.1.length < _; omega, by show w.2.1.length < _; omega⟩, by show 0 < 1000000; omega, by show 0 < K; omega⟩, ?_, fun l hl => ?_⟩
   · show ((List.range j.Parts.toNat).map _).length ≤ 6
     rw [List.length_map, List.length_range]; omega
   · obtain ⟨q, hq, rfl⟩ := List.mem_map.1 hl
     have := (boxS_ok (p := j.Prog) (l := toS j w.2.2 (q : Int)) fun m hm => kw.vc m (toS_mem hm).1).1
     have := toS_len j w.2.2 (q : Int)
     omega
def outM (w : GWorker) (p : Int) (q : Nat) (l : List GMsg) : GMail := GMail.mk 4 w.T.Epoch 0 w.Goal (q : Int) p 0 0 [] [] [] noP' l
def outStep (p : Int) (w : GWorker) (q : Nat) (l : List GMsg) : GWorker :=
 bif ieq (toT w.T (q : Int)).1 w.Id then dataS w (outM w p q l) else { w with Out := w.Out ++ [GPost.mk (toT w.T (q : Int)).1 (toT w.T (q : Int)).2.1 (outM w p q l)] }
def outsW (p : Int) : Nat → List (List GMsg) → GWorker → GWorker
 | _, [], w => w
 | q, l :: r, w => outsW p (q + 1) r (outStep p w q l)
theorem dataS_len (w : GWorker) (m : GMail) : (dataS w m).Buf.length ≤ w.Buf.length + 1 ∧ (dataS w m).Out = w.Out := by
 rw [dataS]
 cases ile w.T.Epoch m.Epoch && ilt (gotS w.Buf m.Epoch m.Step m.Q m.P) 0
 · exact ⟨by show w.Buf.length ≤ _; omega, rfl⟩
 · exact ⟨by show (w.Buf ++ _).length ≤ _; simp, rfl⟩
theorem outStep_len (p : Int) (w : GWorker) (q : Nat) (l : List GMsg) : (outStep p w q l).Buf.length ≤ w.Buf.length + 1 ∧ (outStep p w q l).Out.length ≤ w.Out.length + 1 := by
 rw [outStep]
 cases ieq (toT w.T (q : Int)).1 w.Id
 · exact ⟨by show w.Buf.length ≤ _; omega, by show (w.Out ++ _).length ≤ _; simp⟩
 · have := dataS_len w (outM w p q l)
   exact ⟨this.1, by show (dataS w (outM w p q l)).Out.length ≤ _; rw [this.2]; omega⟩
theorem F33_loop {K : Nat} (hK : 1000000 ≤ K) (g : GGraph) (j : GJob) (h : GHeld) (r : GPart × List (List GMsg) × Int) (hr : r.2.1.length ≤ 100) (w : GWorker) (hb : w.Buf.length ≤ 800000) (ho : w.Out.length ≤ 800000) :
 F33_iiiiiiioooo_l0_0 K g j h r K w.Id w.Goal w.Until w.T.Epoch w.T.Owners w.T.Ids w.T.Incs w.Held w.Buf w.Coming w.Out 0 = some (wt (outsW h.X.P 0 r.2.1 w)) := by
 let step : Nat → List GMsg → GWorker → (GWorker → Option WT) → Option WT := fun i l w c =>
  (F60 K w.T (i : Int)).bind fun t => bif ieq t.1 w.Id then (F43_iiiiiiioooo K w g j (outM w h.X.P i l)).bind fun r => c r
   else bif apok (len w.Out) 1 264 then c { w with Out := appL w.Out [GPost.mk t.1 t.2.1 (outM w h.X.P i l)] } else none
 have hs := scanI (l := r.2.1) (L := fun k (w : GWorker) i => F33_iiiiiiioooo_l0_0 K g j h r k w.Id w.Goal w.Until w.T.Epoch w.T.Owners w.T.Ids w.T.Incs w.Held w.Buf w.Coming w.Out i) step (fun w => some (wt w)) (fun k s i _ => rfl) (by omega) K w 0 (by omega) (by omega)
 have go : ∀ (l : List (List GMsg)) (i : Nat) (w : GWorker), w.Buf.length + l.length ≤ 900000 → w.Out.length + l.length ≤ 900000 → goI step (fun w => some (wt w)) i l w = some (wt (outsW h.X.P i l w)) := by
  intro l
  induction l with
  | nil => intro i w _ _; rfl
  | cons x l ih =>
   intro i w h1 h2
   rw [List.length_cons] at h1 h2
   have hl := outStep_len h.X.P w i x
   rw [goI, outsW, ← ih (i + 1) (outStep h.X.P w i x) (by omega) (by omega)]
   show (F60 K w.T (i : Int)).bind _ = _
   rw [F60_spec (by omega), Option.bind_some, outStep]
   cases ieq (toT w.T (i : Int)).1 w.Id
   · rw [cond_false, cond_false, apok_small (by show w.Out.length + 1 ≤ _; omega) (by omega)]; rfl
   · rw [cond_true, cond_true, F43_spec w g j _ (by omega) hK, Option.bind_some]
 rw [List.drop_zero] at hs
 exact hs.trans (go r.2.1 0 w (by omega) (by omega))
def doAt (g : GGraph) (j : GJob) (w : GWorker) (i : Nat) (h : GHeld) : List GDid × GWorker :=
 bif ieq (doS g j h.X).2.2 6 || ieq (doS g j h.X).2.2 1 then ([], w) else
 bif ieq (doS g j h.X).2.2 0 then
  ([GDid.mk (outsW h.X.P 0 (doS g j h.X).2.1 { w with Held := w.Held.set i (GHeld.mk (doS g j h.X).1 true h.Given) }).T.Epoch (outsW h.X.P 0 (doS g j h.X).2.1 { w with Held := w.Held.set i (GHeld.mk (doS g j h.X).1 true h.Given) }).Goal h.X.P],
   outsW h.X.P 0 (doS g j h.X).2.1 { w with Held := w.Held.set i (GHeld.mk (doS g j h.X).1 true h.Given) })
 else ([], failS { w with Held := w.Held.set i (GHeld.mk h.X true h.Given) } h.X.P)
theorem F33_spec {K : Nat} (hK : 1000000 ≤ K) (g : GGraph) (j : GJob) (w : GWorker) (i : Nat) (h : GHeld) (hi : w.Held[i]? = some h) (hx : SmlP h.X) (hb : w.Buf.length ≤ 800000) (ho : w.Out.length ≤ 800000) : F33_iiiiiiioooo K w g j (i : Int) = some (doAt g j w i h) := by
 have hlt : i < w.Held.length := (List.getElem?_eq_some_iff.1 hi).1
 have e1 : inr (i : Int) (len w.Held) = true := decide_eq_true ⟨by omega, by show (i : Int) < (w.Held.length : Int); omega⟩
 have e2 : elAt w.Held (i : Int) = some h := by rw [elAt_nat]; exact hi
 have p1 : ∀ (y : GHeld), putAt w.Held (i : Int) y = w.Held.set i y := fun y => by show w.Held.set (Int.toNat _) _ = _; rw [Int.toNat_natCast]
 have f1 := (do_fit (K := 3000) (by omega) g j hx.n).2.1
 rw [F33_iiiiiiioooo, e1, e2, cond_true, Option.bind_some, F58_spec (by omega) g j h.X hx.n hx.i hx.p, Option.bind_some, doAt]
 cases ieq (doS g j h.X).2.2 6
 · cases ieq (doS g j h.X).2.2 1
   · cases ieq (doS g j h.X).2.2 0
     · simp only [cond_false, Bool.or_false, p1]
       rw [F59_spec K _ _ (by show w.Out.length ≤ _; omega)]; rfl
     · simp only [cond_false, cond_true, Bool.or_false, p1]
       have e3 : inr (i : Int) (len (w.Held.set i (GHeld.mk h.X true h.Given))) = true := decide_eq_true ⟨by omega, by show (i : Int) < ((w.Held.set i _).length : Int); rw [List.length_set]; omega⟩
       have e4 : elAt (w.Held.set i (GHeld.mk h.X true h.Given)) (i : Int) = some (GHeld.mk h.X true h.Given) := by rw [elAt_nat, List.getElem?_set_self hlt]
       have e5 : putAt (w.Held.set i (GHeld.mk h.X true h.Given)) (i : Int) (GHeld.mk (doS g j h.X).1 true h.Given) = w.Held.set i (GHeld.mk (doS g j h.X).1 true h.Given) := by
        show (w.Held.set i _).set (Int.toNat _) _ = _; rw [Int.toNat_natCast, List.set_set]
       rw [e3, e4, cond_true, Option.bind_some, e5]
       have hl := F33_loop hK g j h (doS g j h.X) (by omega) { w with Held := w.Held.set i (GHeld.mk (doS g j h.X).1 true h.Given) } (by show w.Buf.length ≤ _; omega) (by show w.Out.length ≤ _; omega)
       have hl' : F33_iiiiiiioooo_l0_0 K g j h (doS g j h.X) K w.Id w.Goal w.Until w.T.Epoch w.T.Owners w.T.Ids w.T.Incs (w.Held.set i (GHeld.mk (doS g j h.X).1 true h.Given)) w.Buf w.Coming w.Out 0 = _ := hl
       rw [hl']; rfl
   · rfl
 · rfl
def noDa : GData := GData.mk 0 0 0 0 []
def insW (b : List GData) (e s p : Int) : List Nat → Option (List (List GMsg))
 | [] => some []
 | q :: r => bif ilt (gotS b e s (q : Int) p) 0 then none else (insW b e s p r).map fun l => (b.getD (gotS b e s (q : Int) p).toNat noDa).Msgs :: l
def keepD (w : GWorker) (parts p : Int) (d : GData) : Bool := !(ieq d.Epoch w.T.Epoch && (ieq d.Step w.Goal && (ieq d.P p && (!(ilt d.Q 0) && !(ile parts d.Q)))))
def readyM (w : GWorker) (p : Int) (x : GPart) : GMail := GMail.mk 5 w.T.Epoch 0 w.Goal p 0 0 0 [] [] [] x []
def collectB (g : GGraph) (j : GJob) (w : GWorker) (i : Nat) (h : GHeld) (ins : List (List GMsg)) : GWorker :=
 bif ieq (takeS g j h.X ins.flatten).2 0 then postS { w with Held := w.Held.set i (GHeld.mk (takeS g j h.X ins.flatten).1 false false), Buf := w.Buf.filter (keepD w j.Parts h.X.P) } (readyM w h.X.P (takeS g j h.X ins.flatten).1)
 else failS { w with Buf := w.Buf.filter (keepD w j.Parts h.X.P) } h.X.P
def collectAt (g : GGraph) (j : GJob) (w : GWorker) (i : Nat) (h : GHeld) : GWorker :=
 match insW w.Buf w.T.Epoch w.Goal h.X.P (List.range j.Parts.toNat) with | none => w | some ins => collectB g j w i h ins
abbrev WT2 : Type := Int × Int × Int × Int × List Int × List Int × List Int × List GHeld × List GData × List GComing × List GPost × List (List GMsg)
abbrev wt2 (w : GWorker) (a : List (List GMsg)) : WT2 := (w.Id, (w.Goal, (w.Until, (w.T.Epoch, (w.T.Owners, (w.T.Ids, (w.T.Incs, (w.Held, (w.Buf, (w.Coming, (w.Out, a)))))))))))
theorem F34_ins {K : Nat} (hK : 1000000 ≤ K) (g : GGraph) (j : GJob) (w : GWorker) (i p : Int) (hb : w.Buf.length ≤ 900000) (hp : j.Parts ≤ 6) : ∃ r, F34_iiiiiiioooo_l0_0 K i g.N g.Edges j.Prog j.Source j.Limit j.Parts p K w.Id w.Goal w.Until w.T.Epoch w.T.Owners w.T.Ids w.T.Incs w.Held w.Buf w.Coming w.Out [] 0 = some r ∧
 (match insW w.Buf w.T.Epoch w.Goal p (List.range j.Parts.toNat) with | none => ∃ a, r = .inl (wt2 w a) | some ins => r = .inr (wt2 w ins)) := by
 let step : Nat → GWorker × List (List GMsg) → (GWorker × List (List GMsg) → Option (WT2 ⊕ WT2)) → Option (WT2 ⊕ WT2) := fun q s c =>
  (F61_iiiiiiioooo K s.1 s.1.T.Epoch s.1.Goal (q : Int) p).bind fun r => bif ilt r.1 0 then some (.inl (wt2 r.2 s.2)) else bif inr r.1 (len r.2.Buf) then (elAt r.2.Buf r.1).bind fun d => bif apok (len s.2) 1 24 then c (r.2, appL s.2 [d.Msgs]) else none else none
 have hs := scanN (N := j.Parts) (L := fun k (s : GWorker × List (List GMsg)) i' => F34_iiiiiiioooo_l0_0 K i g.N g.Edges j.Prog j.Source j.Limit j.Parts p k s.1.Id s.1.Goal s.1.Until s.1.T.Epoch s.1.T.Owners s.1.T.Ids s.1.T.Incs s.1.Held s.1.Buf s.1.Coming s.1.Out s.2 i') step (fun s => some (.inr (wt2 s.1 s.2))) (fun k s i' _ => rfl) (by omega) (K := K) (by omega) (w, [])
 have go : ∀ (l : List Nat) (a : List (List GMsg)), a.length + l.length ≤ 100 → ∃ r, goL step (fun s => some (.inr (wt2 s.1 s.2))) l (w, a) = some r ∧ (match insW w.Buf w.T.Epoch w.Goal p l with | none => ∃ a, r = .inl (wt2 w a) | some ins => r = .inr (wt2 w (a ++ ins))) := by
  intro l
  induction l with
  | nil => intro a _; exact ⟨_, rfl, by rw [insW]; simp⟩
  | cons q l ih =>
   intro a ha
   rw [List.length_cons] at ha
   rw [goL, insW]
   have e0 : step q (w, a) (goL step (fun s => some (.inr (wt2 s.1 s.2))) l) = bif ilt (gotS w.Buf w.T.Epoch w.Goal (q : Int) p) 0 then some (.inl (wt2 w a)) else bif inr (gotS w.Buf w.T.Epoch w.Goal (q : Int) p) (len w.Buf) then (elAt w.Buf (gotS w.Buf w.T.Epoch w.Goal (q : Int) p)).bind fun d => bif apok (len a) 1 24 then goL step (fun s => some (.inr (wt2 s.1 s.2))) l (w, appL a [d.Msgs]) else none else none := by
    show (F61_iiiiiiioooo K w w.T.Epoch w.Goal (q : Int) p).bind _ = _
    rw [F61_spec K w _ _ _ _ (by omega) (by omega)]; rfl
   rw [e0]
   cases hn : ilt (gotS w.Buf w.T.Epoch w.Goal (q : Int) p) 0
   · rw [cond_false, cond_false]
     rw [ilt_f] at hn
     obtain ⟨z, d, z1, z2, _⟩ := posS_at (p := isDa w.T.Epoch w.Goal (q : Int) p) (l := w.Buf) (by show ¬ gotS w.Buf w.T.Epoch w.Goal (q : Int) p < 0; omega)
     have z1' : gotS w.Buf w.T.Epoch w.Goal (q : Int) p = (z : Int) := z1
     have hz : z < w.Buf.length := (List.getElem?_eq_some_iff.1 z2).1
     have c1 : inr (z : Int) (len w.Buf) = true := decide_eq_true ⟨by omega, by show (z : Int) < (w.Buf.length : Int); omega⟩
     have c2 : elAt w.Buf (z : Int) = some d := by rw [elAt_nat]; exact z2
     have c3 : w.Buf.getD z noDa = d := by rw [List.getD_eq_getElem?_getD, z2]; rfl
     rw [z1', c1, c2, cond_true, Option.bind_some, apok_small (by show a.length + 1 ≤ _; omega) (by omega), cond_true, appL, Int.toNat_natCast, c3]
     obtain ⟨r, r1, r2⟩ := ih (a ++ [d.Msgs]) (by simp; omega)
     refine ⟨r, r1, ?_⟩
     cases hi : insW w.Buf w.T.Epoch w.Goal p l with
     | none => rw [hi] at r2; exact r2
     | some ins =>
      rw [hi] at r2
      show r = .inr (wt2 w (a ++ d.Msgs :: ins))
      rw [r2]; simp
   · exact ⟨_, rfl, a, rfl⟩
 obtain ⟨r, r1, r2⟩ := go (List.range j.Parts.toNat) [] (by simp; omega)
 exact ⟨r, hs.trans r1, by
  cases hi : insW w.Buf w.T.Epoch w.Goal p (List.range j.Parts.toNat) with
  | none => rw [hi] at r2; exact r2
  | some ins => rw [hi] at r2; exact r2⟩
theorem insW_len {b : List GData} {e s p : Int} : ∀ {l : List Nat} {ins : List (List GMsg)}, insW b e s p l = some ins → ins.length = l.length ∧ ∀ x ∈ ins, ∃ d ∈ b, d.Msgs = x
 | [], ins, h => by rw [insW] at h; cases h; exact ⟨rfl, fun x hx => absurd hx List.not_mem_nil⟩
 | q :: l, ins, h => by
  rw [insW] at h
  cases hn : ilt (gotS b e s (q : Int) p) 0
  · rw [hn, cond_false] at h
    cases hi : insW b e s p l with
    | none => rw [hi] at h; cases h
    | some i2 =>
     rw [hi] at h
     cases h
     obtain ⟨a1, a2⟩ := insW_len hi
     rw [ilt_f] at hn
     obtain ⟨z, d, z1, z2, _⟩ := posS_at (p := isDa e s (q : Int) p) (l := b) (by show ¬ gotS b e s (q : Int) p < 0; omega)
     have z1' : gotS b e s (q : Int) p = (z : Int) := z1
     have c3 : b.getD z noDa = d := by rw [List.getD_eq_getElem?_getD, z2]; rfl
     refine ⟨by simp [a1], fun x hx => ?_⟩
     rw [z1', Int.toNat_natCast, c3] at hx
     rcases List.mem_cons.1 hx with rfl | hx
     · exact ⟨d, List.mem_of_getElem? z2, rfl⟩
     · exact a2 x hx
  · rw [hn] at h; cases h
theorem flat_le {α : Type} (c : Nat) : ∀ (l : List (List α)), (∀ x ∈ l, x.length ≤ c) → l.flatten.length ≤ c * l.length
 | [], _ => by simp
 | x :: l, h => by
  have h1 := h x List.mem_cons_self
  have h2 := flat_le c l fun y hy => h y (List.mem_cons_of_mem _ hy)
  rw [List.flatten_cons, List.length_append, List.length_cons, Nat.mul_succ]; omega
structure SmlD (d : GData) : Prop where
 l : d.Msgs.length ≤ 100
 n : ∀ m ∈ d.Msgs, i64 m.V
theorem F34_spec {K : Nat} (hK : 1000000 ≤ K) (g : GGraph) (j : GJob) (w : GWorker) (i : Nat) (h : GHeld) (hi : w.Held[i]? = some h) (hx : SmlP h.X) (hb : w.Buf.length ≤ 800000) (hd : ∀ d ∈ w.Buf, SmlD d) (ho : w.Out.length ≤ 800000) (hp : j.Parts ≤ 6) : F34_iiiiiiioooo K w g j (i : Int) = some (collectAt g j w i h) := by
 have hlt : i < w.Held.length := (List.getElem?_eq_some_iff.1 hi).1
 have e1 : inr (i : Int) (len w.Held) = true := decide_eq_true ⟨by omega, by show (i : Int) < (w.Held.length : Int); omega⟩
 have e2 : elAt w.Held (i : Int) = some h := by rw [elAt_nat]; exact hi
 have p1 : ∀ (y : GHeld), putAt w.Held (i : Int) y = w.Held.set i y := fun y => by show w.Held.set (Int.toNat _) _ = _; rw [Int.toNat_natCast]
 obtain ⟨r, r1, r2⟩ := F34_ins hK g j w (i : Int) h.X.P (by omega) hp
 rw [F34_iiiiiiioooo, e1, e2, cond_true, Option.bind_some, r1, Option.bind_some, collectAt]
 cases hn : insW w.Buf w.T.Epoch w.Goal h.X.P (List.range j.Parts.toNat) with
 | none => rw [hn] at r2; obtain ⟨a, rfl⟩ := r2; rfl
 | some ins =>
  rw [hn] at r2
  subst r2
  obtain ⟨n1, n2⟩ := insW_len hn
  rw [List.length_range] at n1
  have nf : ins.flatten.length ≤ 100 * ins.length := flat_le 100 ins fun x hx' => by obtain ⟨d, d1, rfl⟩ := n2 x hx'; exact (hd d d1).l
  let st : GData → List GData → (List GData → Option (List GData)) → Option (List GData) := fun x a c =>
   bif ieq x.Epoch w.T.Epoch then (bif ieq x.Step w.Goal then (bif ieq x.P h.X.P then (bif ilt x.Q 0 then (bif apok (len a) 1 56 then c (appL a [x]) else none) else bif ile j.Parts x.Q then (bif apok (len a) 1 56 then c (appL a [x]) else none) else c a)
    else bif apok (len a) 1 56 then c (appL a [x]) else none) else bif apok (len a) 1 56 then c (appL a [x]) else none) else bif apok (len a) 1 56 then c (appL a [x]) else none
  have s1 := scanL (l := w.Buf) (L := fun k a q => F34_iiiiiiioooo_l1_1 K w.Id w.Goal w.Until w.T.Epoch w.T.Owners w.T.Ids w.T.Incs w.Held w.Buf w.Coming w.Out (i : Int) g.N g.Edges j.Prog j.Source j.Limit j.Parts h.X.P ins k a q) st (fun a => some a) (fun k s i _ => rfl) (by omega) (K := K) (by omega) []
  have s2 := filt_go (step := st) (keepD w j.Parts h.X.P) (fun d => d) 56 (by omega) 1000000 (by omega) w.Buf [] (by simp; omega) (fun x _ a c => by
   show (bif ieq x.Epoch w.T.Epoch then (bif ieq x.Step w.Goal then (bif ieq x.P h.X.P then (bif ilt x.Q 0 then _ else _) else _) else _) else _) = _
   rw [keepD]
   cases ieq x.Epoch w.T.Epoch <;> cases ieq x.Step w.Goal <;> cases ieq x.P h.X.P <;> cases ilt x.Q 0 <;> cases ile j.Parts x.Q <;> rfl)
  have s3 : F34_iiiiiiioooo_l1_1 K w.Id w.Goal w.Until w.T.Epoch w.T.Owners w.T.Ids w.T.Incs w.Held w.Buf w.Coming w.Out (i : Int) g.N g.Edges j.Prog j.Source j.Limit j.Parts h.X.P ins K [] 0 = some (w.Buf.filter (keepD w j.Parts h.X.P)) := (s1.trans s2).trans (by simp)
  dsimp only [Sum.elim_inr, wt2]
  rw [s3, Option.bind_some, e1, e2, cond_true, Option.bind_some, F62_spec (by omega) g j h.X ins hx.p hx.i hx.v hx.r (by omega) (by omega) (by omega) (fun m hm => by
   obtain ⟨x, x1, x2⟩ := List.mem_flatten.1 hm
   obtain ⟨d, d1, rfl⟩ := n2 x x1
   exact (hd d d1).n m x2), Option.bind_some, collectB]
  cases ieq (takeS g j h.X ins.flatten).2 0
  · rw [cond_false, cond_false, F59_spec K _ _ (by show w.Out.length ≤ _; omega)]; rfl
  · rw [cond_true, cond_true, F63_spec K _ _ (by show w.Out.length ≤ _; omega), Option.bind_some, p1]; rfl
theorem right_sml {g : GGraph} {j : GJob} {x : GPart} (h : partRight g j x = true) (hn : niceP x) : SmlP x := by
 obtain ⟨hc, p0, pj, _, _, hv, hr, hin⟩ := partRight_ok h
 obtain ⟨hg, _, _, _, _, _, _, _, j6⟩ := jcheck_ok hc
 obtain ⟨g1, g2, _, _⟩ := gcheck_ok hg
 have hl := verts_len g j g2 x.P
 obtain ⟨i1, i2⟩ := inOkS_ok hin
 have h3 := rising_len (fun m : GMsg => m.To) g.N x.In (-1) i1 fun m hm => by have := i2 m hm; omega
 have hcv : countS g j x.P = ((vertsS g j x.P).length : Int) := rfl
 exact ⟨by omega, by omega, by omega, by unfold i64; omega, hn⟩
structure WI (g : GGraph) (j : GJob) (id : Int) (n : Nat) (w : GWorker) : Prop where
 id : w.Id = id
 goal : -1 ≤ w.Goal ∧ w.Goal ≤ 1099511627776
 tab : tabR w.T = true
 ok : HOk w.Held
 mine : ∀ h ∈ w.Held, h.X.P < (w.T.Owners.length : Int) ∧ w.T.Owners.getD h.X.P.toNat 0 = w.Id ∧ partRight g j h.X = true ∧ niceP h.X
 bl : w.Buf.length ≤ n
 bd : ∀ d ∈ w.Buf, SmlD d
 cl : w.Coming.length ≤ n
 cd : ∀ c ∈ w.Coming, SmlP c.X
 ol : w.Out.length ≤ n
 od : ∀ p ∈ w.Out, FitM 100 p.M
section
variable {g : GGraph} {j : GJob} {id : Int} {n : Nat} {w : GWorker}
theorem WI.sml (h : WI g j id n w) (hn : n ≤ 400000) : Sml w := ⟨by have := h.ok.len; omega, by have := h.bl; omega, by have := h.cl; omega, by have := h.ol; omega⟩
theorem WI.hx (h : WI g j id n w) : ∀ y ∈ w.Held, SmlP y.X := fun y hy => right_sml (h.mine y hy).2.2.1 (h.mine y hy).2.2.2
theorem WI.up (h : WI g j id n w) {m : Nat} (hm : n ≤ m) : WI g j id m w := { h with bl := Nat.le_trans h.bl hm, cl := Nat.le_trans h.cl hm, ol := Nat.le_trans h.ol hm }
theorem WI.own (h : WI g j id n w) : ownT w.T = w.T := by rw [ownT, h.tab]; rfl
theorem wi_new (g : GGraph) (j : GJob) (id : Int) : WI g j id 0 (GWorker.mk id (-1) 0 noT [] [] [] []) :=
 ⟨rfl, ⟨by show (-1 : Int) ≤ -1; omega, by show (-1 : Int) ≤ _; omega⟩, noT_right, HOk.nil, fun h hh => absurd hh List.not_mem_nil, Nat.le_refl _, fun h hh => absurd hh List.not_mem_nil, Nat.le_refl _, fun h hh => absurd hh List.not_mem_nil, Nat.le_refl _, fun h hh => absurd hh List.not_mem_nil⟩
theorem WI.post (h : WI g j id n w) {m : GMail} (hm : FitM 100 m) : WI g j id (n + 1) (postS w m) :=
 { id := h.id, goal := h.goal, tab := h.tab, ok := h.ok, mine := h.mine, bl := Nat.le_succ_of_le h.bl, bd := h.bd, cl := Nat.le_succ_of_le h.cl, cd := h.cd
   ol := by show (w.Out ++ _).length ≤ _; rw [List.length_append, List.length_singleton]; have := h.ol; omega
   od := fun p hp => by
    rcases List.mem_append.1 hp with hp | hp
    · exact h.od p hp
    · rw [List.mem_singleton.1 hp]; exact hm }
theorem WI.hold (h : WI g j id n w) {x : GPart} (hm : mineS g j w x = true) (hn : niceP x) : WI g j id n { w with Held := insH w.Held x } := by
 obtain ⟨m1, m2, m3, m4, m5⟩ := mineS_ok hm
 rw [h.own] at m2 m3
 exact { h with
  ok := h.ok.ins hm
  mine := fun y hy => by
   rcases mem_insH.1 hy with hy | rfl
   · exact h.mine y hy
   · exact ⟨m2, m3, m4, hn⟩ }
theorem WI.since (h : WI g j id n w) (e : Int) : WI g j id n (sinceS w e) :=
 { id := h.id, goal := h.goal, tab := h.tab, ok := h.ok, mine := h.mine, bl := Nat.le_trans (filt_le _ _) h.bl, bd := fun d hd => h.bd d (List.mem_filter.1 hd).1
   cl := Nat.le_trans (filt_le _ _) h.cl, cd := fun d hd => h.cd d (List.mem_filter.1 hd).1, ol := h.ol, od := h.od }
theorem WI.turn (h : WI g j id n w) {t : GTable} (ht : tabR t = true) (out : List GPost) (ho : out = [] ∨ out = w.Out) : WI g j id n { w with T := t, Goal := -1, Held := [], Out := out } :=
 { id := h.id, goal := ⟨by show (-1 : Int) ≤ -1; omega, by show (-1 : Int) ≤ _; omega⟩, tab := ht, ok := HOk.nil, mine := fun y hy => absurd hy List.not_mem_nil, bl := h.bl, bd := h.bd, cl := h.cl, cd := h.cd
   ol := by rcases ho with rfl | rfl; exact Nat.zero_le _; exact h.ol
   od := by rcases ho with rfl | rfl; exact fun p hp => absurd hp List.not_mem_nil; exact h.od }
theorem HOk.set {l : List GHeld} (h : HOk l) {i : Nat} {y y' : GHeld} (hi : l[i]? = some y) (hp : y'.X.P = y.X.P) : HOk (l.set i y') := by
 have hlt := (List.getElem?_eq_some_iff.1 hi).1
 have he : l[i] = y := (List.getElem?_eq_some_iff.1 hi).2
 constructor
 · rw [List.pairwise_iff_getElem]
   intro a b ha hb hab
   rw [List.length_set] at ha hb
   have := (List.pairwise_iff_getElem.1 h.s) a b ha hb hab
   rw [List.getElem_set, List.getElem_set]
   split
   · subst_vars
     rw [if_neg (by omega), hp]; exact this
   · split
     · subst_vars
       rw [hp]; exact this
     · exact this
 · intro z hz
   rcases List.mem_or_eq_of_mem_set hz with hz | rfl
   · exact h.r z hz
   · rw [hp]; exact h.r y (List.mem_of_getElem? hi)
theorem WI.set (h : WI g j id n w) {i : Nat} {y y' : GHeld} (hi : w.Held[i]? = some y) (hp : y'.X.P = y.X.P) (hr : partRight g j y'.X = true) (hn : niceP y'.X) : WI g j id n { w with Held := w.Held.set i y' } := by
 have hy := h.mine y (List.mem_of_getElem? hi)
 exact { h with
  ok := h.ok.set hi hp
  mine := fun z hz => by
   rcases List.mem_or_eq_of_mem_set hz with hz | rfl
   · exact h.mine z hz
   · exact ⟨by rw [hp]; exact hy.1, by rw [hp]; exact hy.2.1, hr, hn⟩ }
theorem WI.data (h : WI g j id n w) {m : GMail} (hm : m.Msgs.length ≤ 100) (hv : ∀ y ∈ m.Msgs, i64 y.V) : WI g j id (n + 1) (dataS w m) := by
 rw [dataS]
 cases ile w.T.Epoch m.Epoch && ilt (gotS w.Buf m.Epoch m.Step m.Q m.P) 0
 · exact h.up (Nat.le_succ n)
 · exact { id := h.id, goal := h.goal, tab := h.tab, ok := h.ok, mine := h.mine
           bl := by show (w.Buf ++ _).length ≤ _; rw [List.length_append, List.length_singleton]; have := h.bl; omega
           bd := fun d hd => by
            rcases List.mem_append.1 hd with hd | hd
            · exact h.bd d hd
            · rw [List.mem_singleton.1 hd]; exact ⟨hm, hv⟩
           cl := Nat.le_succ_of_le h.cl, cd := h.cd, ol := Nat.le_succ_of_le h.ol, od := h.od }
structure MI (m : GMail) : Prop where
 f : FitM 100 m
 p : i64 m.X.P
 x : niceP m.X
 s : ∀ y ∈ m.Msgs, i64 y.V
theorem MI.sml {m : GMail} (h : MI m) (hr : mailR m = true) : SmlP m.X := by
 have := h.f
 exact ⟨this.v, this.r, by have := this.x; omega, h.p, h.x⟩
theorem FitM.up {c d : Nat} {m : GMail} (h : FitM c m) (hc : c ≤ d) : FitM d m := ⟨Nat.le_trans h.o hc, Nat.le_trans h.i hc, Nat.le_trans h.n hc, Nat.le_trans h.v hc, Nat.le_trans h.r hc, Nat.le_trans h.x hc, Nat.le_trans h.s hc⟩
theorem tableS_ok {j : GJob} {e : Int} {m : GMail} (h : (tableS j e m).2 = true) : tabR (tableS j e m).1 = true ∧ (tableS j e m).1.Epoch = e := by
 rw [tableS, Bool.and_eq_true] at h
 exact ⟨h.1, rfl⟩
theorem wi_putX (h : WI g j id n w) {m : GMail} (hm : MI m) : WI g j id (n + 1) (putX g j w m) := by
 rw [putX]
 cases hq : mineS g j w m.X
 · exact h.up (Nat.le_succ n)
 · exact (h.hold hq hm.x).post ⟨by simp [loadedM], by simp [loadedM], by simp [loadedM], by simp [loadedM, noP'], by simp [loadedM, noP'], by simp [loadedM, noP'], by simp [loadedM]⟩
theorem wi_load (h : WI g j id n w) {m : GMail} (hm : MI m) : WI g j id (n + 1) (loadS g j w m) := by
 rw [loadS]
 cases ht : (tableS j m.Epoch m).2
 · exact h.up (Nat.le_succ n)
 · cases ilt m.Epoch w.T.Epoch
   · cases ilt w.T.Epoch m.Epoch
     · exact wi_putX h hm
     · exact wi_putX ((h.turn (tableS_ok ht).1 [] (.inl rfl)).since m.Epoch) hm
   · exact h.up (Nat.le_succ n)
theorem mailR_step {m : GMail} (hr : mailR m = true) : 0 ≤ m.Step ∧ m.Step ≤ 1099511627776 := by
 simp only [mailR, Bool.and_eq_true] at hr
 exact (fairS_mem hr.2.2.1).1 m.Step (by simp)
theorem wi_begin (h : WI g j id n w) {m : GMail} (hr : mailR m = true) : WI g j id n (beginW w m) := by
 have := mailR_step hr
 rw [beginW]
 cases ieq m.Epoch w.T.Epoch
 · exact h
 · exact { h with goal := ⟨by show -1 ≤ m.Step; omega, this.2⟩ }
theorem wi_give (h : WI g j id n w) {m : GMail} (hm : MI m) : WI g j id (n + 1) (giveS w m) := by
 rw [giveS]
 cases ieq m.Epoch w.T.Epoch && !(ilt (atHd w.Held m.P) 0)
 · exact h.up (Nat.le_succ n)
 · rw [cond_true]
   cases hq : w.Held[(atHd w.Held m.P).toNat]? with
   | none => exact h.up (Nat.le_succ n)
   | some y =>
    dsimp only
    rw [giveAt]
    cases y.Wait || (y.Given || ilt (findS m.Ids m.To) 0)
    · have hy := h.mine y (List.mem_of_getElem? hq)
      have hs := h.hx y (List.mem_of_getElem? hq)
      have h1 := h.set (y' := GHeld.mk y.X y.Wait true) hq rfl hy.2.2.1 hy.2.2.2
      have hin : y.X.In.length ≤ 100 := by
       obtain ⟨hc, _, _, _, _, _, _, hin⟩ := partRight_ok hy.2.2.1
       obtain ⟨hg, _⟩ := jcheck_ok hc
       obtain ⟨_, g2, _, _⟩ := gcheck_ok hg
       obtain ⟨i1, i2⟩ := inOkS_ok hin
       have h3 := rising_len (fun m : GMsg => m.To) g.N y.X.In (-1) i1 fun m hm => by have := i2 m hm; omega
       omega
      exact { id := h1.id, goal := h1.goal, tab := h1.tab, ok := h1.ok, mine := h1.mine, bl := Nat.le_succ_of_le h1.bl, bd := h1.bd, cl := Nat.le_succ_of_le h1.cl, cd := h1.cd
              ol := by show (w.Out ++ _).length ≤ _; rw [List.length_append, List.length_singleton]; have := h.ol; omega
              od := fun p hp => by
               rcases List.mem_append.1 hp with hp | hp
               · exact h.od p hp
               · rw [List.mem_singleton.1 hp]; exact ⟨by simp [giveM], by simp [giveM], by simp [giveM], hs.v, hs.r, hin, by simp [giveM]⟩ }
    · exact h.up (Nat.le_succ n)
theorem wi_takeQ (h : WI g j id n w) {m : GMail} (hm : MI m) (hr : mailR m = true) : WI g j id (n + 1) (takeQ w m) := by
 rw [takeQ]
 cases ilt m.Epoch w.T.Epoch || w.Coming.any (isC m.Epoch m.X.P)
 · exact { id := h.id, goal := h.goal, tab := h.tab, ok := h.ok, mine := h.mine, bl := Nat.le_succ_of_le h.bl, bd := h.bd
           cl := by show (w.Coming ++ _).length ≤ _; rw [List.length_append, List.length_singleton]; have := h.cl; omega
           cd := fun c hc => by
            rcases List.mem_append.1 hc with hc | hc
            · exact h.cd c hc
            · rw [List.mem_singleton.1 hc]; exact hm.sml hr
           ol := by show (w.Out ++ _).length ≤ _; rw [List.length_append, List.length_singleton]; have := h.ol; omega
           od := fun p hp => by
            rcases List.mem_append.1 hp with hp | hp
            · exact h.od p hp
            · rw [List.mem_singleton.1 hp]; exact ⟨by simp [gotM], by simp [gotM], by simp [gotM], by simp [gotM, noP'], by simp [gotM, noP'], by simp [gotM, noP'], by simp [gotM]⟩ }
 · exact h.up (Nat.le_succ n)
theorem wi_holdX (h : WI g j id n w) {x : GPart} (hx : niceP x) : WI g j id n (holdX g j w x) := by
 rw [holdX]
 cases hq : mineS g j w x
 · exact h
 · exact h.hold hq hx
theorem wi_holds : ∀ (l : List GPart) {w : GWorker}, WI g j id n w → (∀ x ∈ l, niceP x) → WI g j id n (l.foldl (holdX g j) w)
 | [], w, h, _ => h
 | x :: l, w, h, hx => by
  rw [List.foldl_cons]
  exact wi_holds l (wi_holdX h (hx x List.mem_cons_self)) fun y hy => hx y (List.mem_cons_of_mem _ hy)
theorem rest_nice (h : WI g j id n w) (m : GMail) : ∀ x ∈ restH w m ++ restC w m, niceP x := fun x hx => by
 rcases List.mem_append.1 hx with hx | hx
 · obtain ⟨y, hy, rfl⟩ := List.mem_map.1 hx
   exact (h.mine y (List.mem_filter.1 hy).1).2.2.2
 · obtain ⟨c, hc, rfl⟩ := List.mem_map.1 hx
   exact (h.cd c (List.mem_filter.1 hc).1).n
theorem wi_change (h : WI g j id n w) (m : GMail) : WI g j id n (changeS g j w m) := by
 rw [changeS]
 cases ht : (tableS j m.Fresh m).2
 · exact h
 · cases ile m.Fresh w.T.Epoch
   · exact (wi_holds _ (h.turn (tableS_ok ht).1 w.Out (.inr rfl)) (rest_nice h m)).since m.Fresh
   · exact h
theorem wi_take (h : WI g j id n w) {m : GMail} (hm : MI m) : WI g j id (n + 1) (takeW g j w m) := by
 rw [takeW]
 cases ieq (jcheck g j) 0
 · exact h.up (Nat.le_succ n)
 · cases hr : mailR m
   · exact h.up (Nat.le_succ n)
   · simp only [Bool.and_true, cond_true]
     rw [byKind]
     cases ieq m.Kind 1
     · cases ieq m.Kind 3
       · cases ieq m.Kind 4
         · cases ieq m.Kind 6
           · cases ieq m.Kind 7
             · cases ieq m.Kind 9
               · exact h.up (Nat.le_succ n)
               · exact (wi_change h m).up (Nat.le_succ n)
             · exact wi_takeQ h hm hr
           · exact wi_give h hm
         · exact h.data hm.f.s hm.s
       · exact (wi_begin h hr).up (Nat.le_succ n)
     · exact wi_load h hm
theorem wi_lease (h : WI g j id n w) (k : Int) : WI g j id n (leaseS w k) := by
 rw [leaseS]
 cases ilt w.Until k
 · exact h
 · exact { h with }
theorem do_right (g : GGraph) (j : GJob) {x : GPart} (hn : niceP x) (h : ieq (doS g j x).2.2 0 = true) : partRight g j (doS g j x).1 = true ∧ niceP (doS g j x).1 ∧ (doS g j x).1.P = x.P ∧ (doS g j x).2.1.length ≤ 6 ∧ ∀ l ∈ (doS g j x).2.1, l.length ≤ 100 ∧ ∀ m ∈ l, i64 m.V := by
 rcases do_cases g j hn with ⟨e, he, hq⟩ | ⟨hc, hR, h40, w, _, kw, _, hq⟩
 · rw [hq] at h; rw [h] at he; cases he
 · obtain ⟨_, p0, pj, s0, s40, hv, hr, _⟩ := partRight_ok hR
   obtain ⟨hg, _, _, _, _, _, _, _, j6⟩ := jcheck_ok hc
   obtain ⟨g1, g2, _, _⟩ := gcheck_ok hg
   have hcv : countS g j x.P = ((vertsS g j x.P).length : Int) := rfl
   rw [ieq_f] at h40
   rw [hq]
   refine ⟨?_, ⟨kw.va, fun m hm => absurd hm List.not_mem_nil⟩, rfl, ?_, fun l hl => ?_⟩
   · simp only [partRight, Bool.and_eq_true, ile_iff, ilt_iff, ieq_iff]
     have := kw.la
     have := kw.lb
     exact ⟨ieq_iff.1 hc, p0, pj, by omega, by omega, by omega, by omega, rfl⟩
   · show ((List.range j.Parts.toNat).map _).length ≤ 6
     rw [List.length_map, List.length_range]; omega
   · obtain ⟨q, hq, rfl⟩ := List.mem_map.1 hl
     obtain ⟨r1, r2⟩ := boxS_rise (p := j.Prog) (l := toS j w.2.2 (q : Int))
     have h3 := rising_len (fun m : GMsg => m.To) g.N _ 0 r1 fun m hm => by
      obtain ⟨s, hs, he⟩ := r2 m hm
      have := kw.vt s (toS_mem hs).1
      omega
     exact ⟨by omega, (boxS_ok fun m hm => kw.vc m (toS_mem hm).1).2⟩
theorem wi_outs (p : Int) : ∀ (l : List (List GMsg)) (q n : Nat) {w : GWorker}, WI g j id n w → (∀ x ∈ l, x.length ≤ 100 ∧ ∀ m ∈ x, i64 m.V) → WI g j id (n + l.length) (outsW p q l w)
 | [], q, n, w, h, _ => h
 | x :: l, q, n, w, h, hx => by
  rw [outsW, List.length_cons, show n + (l.length + 1) = (n + 1) + l.length by omega]
  obtain ⟨x1, x2⟩ := hx x List.mem_cons_self
  refine wi_outs p l (q + 1) (n + 1) ?_ fun y hy => hx y (List.mem_cons_of_mem _ hy)
  rw [outStep]
  cases ieq (toT w.T (q : Int)).1 w.Id
  · exact { id := h.id, goal := h.goal, tab := h.tab, ok := h.ok, mine := h.mine, bl := Nat.le_succ_of_le h.bl, bd := h.bd, cl := Nat.le_succ_of_le h.cl, cd := h.cd
            ol := by show (w.Out ++ _).length ≤ _; rw [List.length_append, List.length_singleton]; have := h.ol; omega
            od := fun p hp => by
             rcases List.mem_append.1 hp with hp | hp
             · exact h.od p hp
             · rw [List.mem_singleton.1 hp]; exact ⟨by simp [outM], by simp [outM], by simp [outM], by simp [outM, noP'], by simp [outM, noP'], by simp [outM, noP'], x1⟩ }
  · exact h.data x1 x2
theorem fail_fit (w : GWorker) (p : Int) : FitM 100 (failM w p) := ⟨by simp [failM], by simp [failM], by simp [failM], by simp [failM, noP'], by simp [failM, noP'], by simp [failM, noP'], by simp [failM]⟩
theorem wi_do (h : WI g j id n w) {i : Nat} {y : GHeld} (hi : w.Held[i]? = some y) : WI g j id (n + 6) (doAt g j w i y).2 := by
 have hy := h.mine y (List.mem_of_getElem? hi)
 rw [doAt]
 cases ieq (doS g j y.X).2.2 6 || ieq (doS g j y.X).2.2 1
 · cases h0 : ieq (doS g j y.X).2.2 0
   · exact ((h.set (y' := GHeld.mk y.X true y.Given) hi rfl hy.2.2.1 hy.2.2.2).post (fail_fit _ _)).up (by omega)
   · obtain ⟨d1, d2, d3, d4, d5⟩ := do_right g j hy.2.2.2 h0
     exact (wi_outs y.X.P _ 0 n (h.set (y' := GHeld.mk (doS g j y.X).1 true y.Given) hi d3 d1 d2) d5).up (by omega)
 · exact h.up (by omega)
theorem take_nice {x : GPart} (hx : niceP x) {l : List GMsg} (hl : ∀ m ∈ l, i64 m.V) : niceP (takeS g j x l).1 := by
 have hz : niceP zeroP := ⟨fun v hv => absurd hv List.not_mem_nil, fun m hm => absurd hm List.not_mem_nil⟩
 rw [takeS]
 cases ieq (jcheck g j) 0
 · exact hz
 · cases partRight g j x
   · exact hz
   · cases ieq (nlen (len x.In)) 0
     · exact hz
     · cases takeOk g.N j.Parts x.P l
       · exact hz
       · simp only [cond_true]
         rw [takeB]
         cases ieq (boxS j.Prog l).2 0
         · exact hz
         · exact ⟨hx.1, (boxS_ok hl).2⟩
theorem take_P {x : GPart} {l : List GMsg} (h : ieq (takeS g j x l).2 0 = true) : (takeS g j x l).1.P = x.P := by
 have key : ∀ (a : GPart) (e : Int), ieq e 0 = true → ieq e 0 = true := fun _ _ h => h
 rw [takeS] at h ⊢
 cases hc : ieq (jcheck g j) 0
 · rw [hc] at h
   simp only [cond_false] at h
   rw [hc] at h; cases h
 · rw [hc] at h
   cases hp : partRight g j x
   · rw [hp] at h; cases h
   · rw [hp] at h
     cases hi : ieq (nlen (len x.In)) 0
     · rw [hi] at h; cases h
     · rw [hi] at h
       cases ht : takeOk g.N j.Parts x.P l
       · rw [ht] at h; cases h
       · rw [ht] at h
         simp only [cond_true] at h ⊢
         rw [takeB] at h ⊢
         cases hb : ieq (boxS j.Prog l).2 0
         · rw [hb] at h
           simp only [cond_false] at h
           rw [hb] at h; cases h
         · rfl
theorem wi_collect (h : WI g j id n w) {i : Nat} {y : GHeld} (hi : w.Held[i]? = some y) : WI g j id (n + 1) (collectAt g j w i y) := by
 have hy := h.mine y (List.mem_of_getElem? hi)
 rw [collectAt]
 cases hq : insW w.Buf w.T.Epoch w.Goal y.X.P (List.range j.Parts.toNat) with
 | none => exact h.up (Nat.le_succ n)
 | some ins =>
  dsimp only
  have hins : ∀ m ∈ ins.flatten, i64 m.V := fun m hm => by
   obtain ⟨x, x1, x2⟩ := List.mem_flatten.1 hm
   obtain ⟨d, d1, rfl⟩ := (insW_len hq).2 x x1
   exact (h.bd d d1).n m x2
  have hb : ∀ {w' : GWorker}, WI g j id n w' → w'.Buf = w.Buf → WI g j id n { w' with Buf := w.Buf.filter (keepD w j.Parts y.X.P) } := fun h' e =>
   { h' with bl := Nat.le_trans (filt_le _ _) h.bl, bd := fun d hd => h.bd d (List.mem_filter.1 hd).1 }
  rw [collectB]
  cases h0 : ieq (takeS g j y.X ins.flatten).2 0
  · exact (hb h rfl).post (fail_fit _ _)
  · have r1 := (take_right h0).1
    have r2 := take_nice (g := g) (j := j) hy.2.2.2 hins
    have r3 := right_sml r1 r2
    have hin : (takeS g j y.X ins.flatten).1.In.length ≤ 100 := by
     obtain ⟨hc, _, _, _, _, _, _, hin⟩ := partRight_ok r1
     obtain ⟨hg, _⟩ := jcheck_ok hc
     obtain ⟨_, g2, _, _⟩ := gcheck_ok hg
     obtain ⟨i1, i2⟩ := inOkS_ok hin
     have h3 := rising_len (fun m : GMsg => m.To) g.N _ (-1) i1 fun m hm => by have := i2 m hm; omega
     omega
    exact (hb (h.set (y' := GHeld.mk (takeS g j y.X ins.flatten).1 false false) hi (take_P h0) r1 r2) rfl).post ⟨by simp [readyM], by simp [readyM], by simp [readyM], r3.v, r3.r, hin, by simp [readyM]⟩
end
theorem goL_inv {α σ β : Type} {step : α → σ → (σ → Option β) → Option β} {fin : σ → Option β} (P : Nat → σ → Prop) (f : σ → α → σ) : ∀ (l : List α) (s : σ), P l.length s → (∀ x ∈ l, ∀ n s, P (n + 1) s → P n (f s x) ∧ ∀ c, step x s c = c (f s x)) →
 goL step fin l s = fin (l.foldl f s) ∧ P 0 (l.foldl f s)
 | [], s, hs, _ => ⟨rfl, hs⟩
 | x :: l, s, hs, h => by
  obtain ⟨h1, h2⟩ := h x List.mem_cons_self l.length s hs
  rw [goL, h2, List.foldl_cons]
  exact goL_inv P f l (f s x) h1 fun y hy => h y (List.mem_cons_of_mem _ hy)
def doOne (g : GGraph) (j : GJob) (s : GWorker × List GDid) (i : Nat) : GWorker × List GDid := match s.1.Held[i]? with
 | some h => bif h.Wait || (h.Given || !(ieq h.X.Step s.1.Goal)) then s else ((doAt g j s.1 i h).2, s.2 ++ (doAt g j s.1 i h).1)
 | none => s
def doAll (g : GGraph) (j : GJob) (w : GWorker) : GWorker × List GDid := (List.range w.Held.length).foldl (doOne g j) (w, [])
def colOne (g : GGraph) (j : GJob) (w : GWorker) (i : Nat) : GWorker := match w.Held[i]? with
 | some h => bif h.Wait && ieq h.X.Step (w.Goal + 1) then collectAt g j w i h else w
 | none => w
def colAll (g : GGraph) (j : GJob) (w : GWorker) : GWorker := (List.range w.Held.length).foldl (colOne g j) w
section
variable {g : GGraph} {j : GJob} {id : Int} {n : Nat} {w : GWorker}
theorem outs_held (p : Int) : ∀ (l : List (List GMsg)) (q : Nat) (w : GWorker), (outsW p q l w).Held = w.Held ∧ (outsW p q l w).T = w.T ∧ (outsW p q l w).Goal = w.Goal ∧ (outsW p q l w).Id = w.Id ∧ (outsW p q l w).Until = w.Until ∧ (outsW p q l w).Coming = w.Coming
 | [], _, _ => ⟨rfl, rfl, rfl, rfl, rfl, rfl⟩
 | x :: l, q, w => by
  obtain ⟨a, b, c, d, e, f⟩ := outs_held p l (q + 1) (outStep p w q x)
  have h : (outStep p w q x).Held = w.Held ∧ (outStep p w q x).T = w.T ∧ (outStep p w q x).Goal = w.Goal ∧ (outStep p w q x).Id = w.Id ∧ (outStep p w q x).Until = w.Until ∧ (outStep p w q x).Coming = w.Coming := by
   rw [outStep]
   cases ieq (toT w.T (q : Int)).1 w.Id
   · exact ⟨rfl, rfl, rfl, rfl, rfl, rfl⟩
   · rw [cond_true, dataS]
     cases ile w.T.Epoch (outM w p q x).Epoch && ilt (gotS w.Buf (outM w p q x).Epoch (outM w p q x).Step (outM w p q x).Q (outM w p q x).P) 0 <;> exact ⟨rfl, rfl, rfl, rfl, rfl, rfl⟩
  rw [outsW]
  exact ⟨a.trans h.1, b.trans h.2.1, c.trans h.2.2.1, d.trans h.2.2.2.1, e.trans h.2.2.2.2.1, f.trans h.2.2.2.2.2⟩
theorem do_keeps (g : GGraph) (j : GJob) (w : GWorker) (i : Nat) (h : GHeld) : (doAt g j w i h).2.Held.length = w.Held.length ∧ (doAt g j w i h).2.T = w.T ∧ (doAt g j w i h).2.Goal = w.Goal ∧ (doAt g j w i h).1.length ≤ 1 := by
 rw [doAt]
 cases ieq (doS g j h.X).2.2 6 || ieq (doS g j h.X).2.2 1
 · cases ieq (doS g j h.X).2.2 0
   · exact ⟨List.length_set, rfl, rfl, Nat.zero_le _⟩
   · obtain ⟨a, b, c, _⟩ := outs_held h.X.P (doS g j h.X).2.1 0 { w with Held := w.Held.set i (GHeld.mk (doS g j h.X).1 true h.Given) }
     exact ⟨(congrArg List.length a).trans List.length_set, b, c, Nat.le_refl _⟩
 · exact ⟨rfl, rfl, rfl, Nat.zero_le _⟩
theorem collect_keeps (g : GGraph) (j : GJob) (w : GWorker) (i : Nat) (h : GHeld) : (collectAt g j w i h).Held.length = w.Held.length ∧ (collectAt g j w i h).T = w.T ∧ (collectAt g j w i h).Goal = w.Goal := by
 rw [collectAt]
 cases insW w.Buf w.T.Epoch w.Goal h.X.P (List.range j.Parts.toNat) with
 | none => exact ⟨rfl, rfl, rfl⟩
 | some ins =>
  dsimp only
  rw [collectB]
  cases ieq (takeS g j h.X ins.flatten).2 0
  · exact ⟨rfl, rfl, rfl⟩
  · exact ⟨List.length_set, rfl, rfl⟩
abbrev WT3 : Type := Int × Int × Int × Int × List Int × List Int × List Int × List GHeld × List GData × List GComing × List GPost × List GDid
abbrev wt3 (w : GWorker) (a : List GDid) : WT3 := (w.Id, (w.Goal, (w.Until, (w.T.Epoch, (w.T.Owners, (w.T.Ids, (w.T.Incs, (w.Held, (w.Buf, (w.Coming, (w.Out, a)))))))))))
theorem tick_do {K : Nat} (hK : 1000000 ≤ K) (h : WI g j id n w) (hn : n ≤ 300000) :
 F14_l0_0 K g j w K w.Id w.Goal w.Until w.T.Epoch w.T.Owners w.T.Ids w.T.Incs w.Held w.Buf w.Coming w.Out [] 0 = some (wt3 (doAll g j w).1 (doAll g j w).2) ∧ WI g j id (n + 36) (doAll g j w).1 ∧ (doAll g j w).1.Held.length = w.Held.length ∧ (doAll g j w).1.T = w.T ∧ (doAll g j w).1.Goal = w.Goal := by
 have hl := h.ok.len
 let step : Nat → GWorker × List GDid → (GWorker × List GDid → Option WT3) → Option WT3 := fun i s c =>
  bif inr (i : Int) (len s.1.Held) then (elAt s.1.Held (i : Int)).bind fun x => bif x.Wait then c s else bif x.Given then c s else bif ieq x.X.Step s.1.Goal then (F33_iiiiiiioooo K s.1 g j (i : Int)).bind fun r => bif apok (len s.2) (len r.1) 24 then c (r.2, appL s.2 r.1) else none else c s else none
 have hs := scanN (N := nlen (len w.Held)) (L := fun k (s : GWorker × List GDid) i => F14_l0_0 K g j w k s.1.Id s.1.Goal s.1.Until s.1.T.Epoch s.1.T.Owners s.1.T.Ids s.1.T.Incs s.1.Held s.1.Buf s.1.Coming s.1.Out s.2 i) step (fun s => some (wt3 s.1 s.2)) (fun k s i _ => rfl) (by rw [nlen_len]; omega) (K := K) (by rw [nlen_len]; omega) (w, [])
 have hN : (nlen (len w.Held)).toNat = w.Held.length := by rw [nlen_len]; exact Int.toNat_natCast _
 rw [hN] at hs
 have e := goL_inv (step := step) (fin := fun s => some (wt3 s.1 s.2)) (fun m s => m ≤ 6 ∧ WI g j id (n + 36 - 6 * m) s.1 ∧ s.2.length + m ≤ 6 ∧ s.1.Held.length = w.Held.length ∧ s.1.T = w.T ∧ s.1.Goal = w.Goal) (doOne g j) (List.range w.Held.length) (w, []) ⟨by simp; omega, h.up (by simp; omega), by simp; omega, rfl, rfl, rfl⟩ (fun i hi m s ⟨p1, p2, p3, p4, p5, p6⟩ => by
  have hi' : i < s.1.Held.length := by rw [p4]; exact List.mem_range.1 hi
  have hy : s.1.Held[i]? = some s.1.Held[i] := List.getElem?_eq_getElem hi'
  have c1 : inr (i : Int) (len s.1.Held) = true := decide_eq_true ⟨by omega, by show (i : Int) < (s.1.Held.length : Int); omega⟩
  have c2 : elAt s.1.Held (i : Int) = some s.1.Held[i] := by rw [elAt_nat]; exact hy
  have e0 : ∀ c, step i s c = bif s.1.Held[i].Wait then c s else bif s.1.Held[i].Given then c s else bif ieq s.1.Held[i].X.Step s.1.Goal then (F33_iiiiiiioooo K s.1 g j (i : Int)).bind fun r => bif apok (len s.2) (len r.1) 24 then c (r.2, appL s.2 r.1) else none else c s := fun c => by
   show (bif inr (i : Int) (len s.1.Held) then _ else _) = _
   rw [c1, c2, cond_true, Option.bind_some]
  have stay : (m ≤ 6 ∧ WI g j id (n + 36 - 6 * m) s.1 ∧ s.2.length + m ≤ 6 ∧ s.1.Held.length = w.Held.length ∧ s.1.T = w.T ∧ s.1.Goal = w.Goal) := ⟨by omega, p2.up (by omega), by omega, p4, p5, p6⟩
  rw [doOne, hy]
  dsimp only
  simp only [e0]
  cases s.1.Held[i].Wait
  · cases s.1.Held[i].Given
    · cases ieq s.1.Held[i].X.Step s.1.Goal
      · exact ⟨stay, fun c => rfl⟩
      · have hsml := p2.sml (by omega)
        have hf := F33_spec hK g j s.1 i s.1.Held[i] hy (p2.hx _ (List.getElem_mem hi')) (by have := hsml.b; omega) (by have := hsml.o; omega)
        obtain ⟨k1, k2, k3, k4⟩ := do_keeps g j s.1 i s.1.Held[i]
        refine ⟨⟨by omega, (wi_do p2 hy).up (by omega), ?_, k1.trans p4, k2.trans p5, k3.trans p6⟩, fun c => ?_⟩
        · show (s.2 ++ (doAt g j s.1 i s.1.Held[i]).1).length + m ≤ 6
          rw [List.length_append]; omega
        · simp only [cond_false, cond_true, Bool.or_false, Bool.not_true, hf, Option.bind_some]
          rw [apok_small (by show s.2.length + (doAt g j s.1 i s.1.Held[i]).1.length ≤ _; omega) (by omega)]; rfl
    · exact ⟨stay, fun c => rfl⟩
  · exact ⟨stay, fun c => rfl⟩)
 obtain ⟨e1, _, e2, _, e3, e4, e5⟩ := e
 exact ⟨hs.trans e1, e2, e3, e4, e5⟩
theorem tick_col {K : Nat} (hK : 1000000 ≤ K) (hc : ieq (jcheck g j) 0 = true) (h : WI g j id n w) (hn : n ≤ 300000) (hg : i64 (w.Goal + 1)) (a : List GDid) (b : Nat) (hb : b = w.Held.length) {r : WT3} (hr : len r.2.2.2.2.2.2.2.1 = b) :
 F14_l1_1 K g j r K w.Id w.Goal w.Until w.T.Epoch w.T.Owners w.T.Ids w.T.Incs w.Held w.Buf w.Coming w.Out 0 = some (wt (colAll g j w)) ∧ WI g j id (n + 6) (colAll g j w) ∧ (colAll g j w).T = w.T := by
 have hl := h.ok.len
 obtain ⟨_, _, _, _, _, _, _, _, j6⟩ := jcheck_ok hc
 let step : Nat → GWorker → (GWorker → Option WT) → Option WT := fun i s c =>
  bif inr (i : Int) (len s.Held) then (elAt s.Held (i : Int)).bind fun x => bif x.Wait then (bif ieq x.X.Step (wadd .i64 s.Goal 1) then (F34_iiiiiiioooo K s g j (i : Int)).bind fun r => c r else c s) else c s else none
 have hs := scanN (N := nlen (len r.2.2.2.2.2.2.2.1)) (L := fun k (s : GWorker) i => F14_l1_1 K g j r k s.Id s.Goal s.Until s.T.Epoch s.T.Owners s.T.Ids s.T.Incs s.Held s.Buf s.Coming s.Out i) step (fun s => some (wt s)) (fun k s i _ => rfl) (by rw [hr]; show (b : Int) ≤ _; omega) (K := K) (by rw [hr]; show (b : Int).toNat < _; omega) w
 have hN : (nlen (len r.2.2.2.2.2.2.2.1)).toNat = w.Held.length := by rw [hr, hb]; exact Int.toNat_natCast _
 rw [hN] at hs
 have e := goL_inv (step := step) (fin := fun s => some (wt s)) (fun m s => m ≤ 6 ∧ WI g j id (n + 6 - m) s ∧ s.Held.length = w.Held.length ∧ s.T = w.T ∧ s.Goal = w.Goal) (colOne g j) (List.range w.Held.length) w ⟨by simp; omega, h.up (by simp; omega), rfl, rfl, rfl⟩ (fun i hi m s ⟨p1, p2, p4, p5, p6⟩ => by
  have hi' : i < s.Held.length := by rw [p4]; exact List.mem_range.1 hi
  have hy : s.Held[i]? = some s.Held[i] := List.getElem?_eq_getElem hi'
  have c1 : inr (i : Int) (len s.Held) = true := decide_eq_true ⟨by omega, by show (i : Int) < (s.Held.length : Int); omega⟩
  have c2 : elAt s.Held (i : Int) = some s.Held[i] := by rw [elAt_nat]; exact hy
  have c3 : wadd .i64 s.Goal 1 = s.Goal + 1 := by rw [p6]; exact wadd_ok (by have := hg.1; omega) (by have := hg.2; omega)
  have e0 : ∀ c, step i s c = bif s.Held[i].Wait then (bif ieq s.Held[i].X.Step (s.Goal + 1) then (F34_iiiiiiioooo K s g j (i : Int)).bind fun r => c r else c s) else c s := fun c => by
   show (bif inr (i : Int) (len s.Held) then _ else _) = _
   rw [c1, c2, cond_true, Option.bind_some, c3]
  have stay : (m ≤ 6 ∧ WI g j id (n + 6 - m) s ∧ s.Held.length = w.Held.length ∧ s.T = w.T ∧ s.Goal = w.Goal) := ⟨by omega, p2.up (by omega), p4, p5, p6⟩
  rw [colOne, hy]
  dsimp only
  simp only [e0]
  cases s.Held[i].Wait
  · exact ⟨stay, fun c => rfl⟩
  · cases ieq s.Held[i].X.Step (s.Goal + 1)
    · exact ⟨stay, fun c => rfl⟩
    · have hsml := p2.sml (by omega)
      have hf := F34_spec hK g j s i s.Held[i] hy (p2.hx _ (List.getElem_mem hi')) (by have := hsml.b; omega) p2.bd (by have := hsml.o; omega) j6
      obtain ⟨k1, k2, k3⟩ := collect_keeps g j s i s.Held[i]
      refine ⟨⟨by omega, (wi_collect p2 hy).up (by omega), k1.trans p4, k2.trans p5, k3.trans p6⟩, fun c => ?_⟩
      simp only [cond_true, Bool.and_self, hf, Option.bind_some])
 obtain ⟨e1, _, e2, e3, e4, e5⟩ := e
 exact ⟨hs.trans e1, e2, e4⟩
def tickW (g : GGraph) (j : GJob) (w : GWorker) (now : Int) : GWorker × List GPost × List GDid :=
 bif ieq (jcheck g j) 0 && ilt now w.Until then ({ colAll g j (doAll g j w).1 with Out := [] }, (colAll g j (doAll g j w).1).Out, (doAll g j w).2) else (w, [], [])
theorem F14_spec {K : Nat} (hK : 1000000 ≤ K) (h : WI g j id n w) (hn : n ≤ 200000) (now : Int) : F14 K g j w now = some (tickW g j w now) := by
 have hg : i64 (w.Goal + 1) := by have := h.goal; unfold i64; omega
 rw [F14, F30_spec K w (h.sml (by omega)), Option.bind_some, F31_spec (by omega), Option.bind_some, tickW]
 cases hc : ieq (jcheck g j) 0
 · rfl
 · rw [cond_true, Bool.true_and]
   show (some (ilt now w.Until)).bind _ = _
   rw [Option.bind_some]
   cases ilt now w.Until
   · rfl
   · obtain ⟨d1, d2, d3, d4, d5⟩ := tick_do hK h (by omega)
     rw [cond_true, cond_true, d1, Option.bind_some]
     obtain ⟨c1, _, _⟩ := tick_col hK hc d2 (by omega) (by rw [d5]; exact hg) [] _ rfl (r := wt3 (doAll g j w).1 (doAll g j w).2) rfl
     have c1' : F14_l1_1 K g j (wt3 (doAll g j w).1 (doAll g j w).2) K (doAll g j w).1.Id (doAll g j w).1.Goal (doAll g j w).1.Until (doAll g j w).1.T.Epoch (doAll g j w).1.T.Owners (doAll g j w).1.T.Ids (doAll g j w).1.T.Incs (doAll g j w).1.Held (doAll g j w).1.Buf (doAll g j w).1.Coming (doAll g j w).1.Out 0 = _ := c1
     dsimp only [wt3] at c1' ⊢
     rw [c1']; rfl
theorem wi_tick (h : WI g j id n w) (hK : n ≤ 200000) (now : Int) : WI g j id (n + 42) (tickW g j w now).1 ∧ (tickW g j w now).1.T = w.T ∧ (∀ p ∈ (tickW g j w now).2.1, FitM 100 p.M) := by
 have hg : i64 (w.Goal + 1) := by have := h.goal; unfold i64; omega
 rw [tickW]
 cases hc : ieq (jcheck g j) 0
 · exact ⟨h.up (by omega), rfl, fun p hp => absurd hp List.not_mem_nil⟩
 · rw [Bool.true_and]
   cases ilt now w.Until
   · exact ⟨h.up (by omega), rfl, fun p hp => absurd hp List.not_mem_nil⟩
   · obtain ⟨_, d2, d3, d4, d5⟩ := tick_do (Nat.le_refl 1000000) h (by omega)
     obtain ⟨_, c2, c3⟩ := tick_col (Nat.le_refl 1000000) hc d2 (by omega) (by rw [d5]; exact hg) [] _ rfl (r := wt3 (doAll g j w).1 (doAll g j w).2) rfl
     exact ⟨{ c2 with ol := Nat.zero_le _, od := fun p hp => absurd hp List.not_mem_nil }, c3.trans d4, c2.od⟩
end
def actW (g : GGraph) (j : GJob) (w : GWorker) (a : GAct) : GWorker × List GPost × List GDid :=
 bif ieq a.Kind 0 then (takeW g j w a.M, [], []) else bif ieq a.Kind 1 then tickW g j w a.N else (leaseS w a.N, [], [])
section
variable {g : GGraph} {j : GJob} {id : Int} {n : Nat} {w : GWorker}
theorem F13_spec {K : Nat} (hK : 1000000 ≤ K) (h : WI g j id n w) (hn : n ≤ 200000) {a : GAct} (ha : MI a.M) : F13 K g j w a = some (actW g j w a) := by
 rw [F13, actW]
 cases ieq a.Kind 0
 · cases ieq a.Kind 1
   · rw [cond_false, cond_false, cond_false, cond_false, F22_spec K w _ (h.sml (by omega))]; rfl
   · rw [cond_false, cond_false, cond_true, cond_true, F14_spec hK h hn]; rfl
 · rw [cond_true, cond_true, F18_spec hK g j w a.M (h.sml (by omega)) h.hx h.cd (ha.f.up (by omega)) ha.p]; rfl
theorem wi_act (h : WI g j id n w) (hn : n ≤ 200000) {a : GAct} (ha : MI a.M) : WI g j id (n + 42) (actW g j w a).1 := by
 rw [actW]
 cases ieq a.Kind 0
 · cases ieq a.Kind 1
   · exact (wi_lease h a.N).up (by omega)
   · exact (wi_tick h hn a.N).1
 · exact (wi_take h ha).up (by omega)
def wideM (m : GMail) : Int := [(m.Ids.length : Int), (m.Incs.length : Int), (m.X.Vals.length : Int), (m.X.Rest.length : Int), (m.X.In.length : Int), (m.Msgs.length : Int)].foldl (fun s x => bif ilt s x then x else s) (m.Owners.length : Int)
theorem F12_spec {K : Nat} (hK : 100 ≤ K) (m : GMail) : F12 K m = some (wideM m) := by
 let step : Int → Int → (Int → Option Int) → Option Int := fun x s c => bif ilt s x then c x else c s
 have hs := scanL (l := [(m.Ids.length : Int), (m.Incs.length : Int), (m.X.Vals.length : Int), (m.X.Rest.length : Int), (m.X.In.length : Int), (m.Msgs.length : Int)]) (L := fun k s i => F12_l0_0 K k s [(m.Ids.length : Int), (m.Incs.length : Int), (m.X.Vals.length : Int), (m.X.Rest.length : Int), (m.X.In.length : Int), (m.Msgs.length : Int)] i) step (fun s => some s) (fun k s i _ => rfl) (by simp) (K := K) (by simp; omega) (m.Owners.length : Int)
 have e := goL_fold (step := step) (fin := fun s => some s) (fun _ => True) (fun s x => bif ilt s x then x else s) [(m.Ids.length : Int), (m.Incs.length : Int), (m.X.Vals.length : Int), (m.X.Rest.length : Int), (m.X.In.length : Int), (m.Msgs.length : Int)] (m.Owners.length : Int) trivial (fun x _ s _ => ⟨trivial, fun c => by show (bif ilt s x then c x else c s) = _; cases ilt s x <;> rfl⟩)
 have e' : F12_l0_0 K K (nlen (len m.Owners)) [(nlen (len m.Ids)), (nlen (len m.Incs)), (nlen (len m.X.Vals)), (nlen (len m.X.Rest)), (nlen (len m.X.In)), (nlen (len m.Msgs))] 0 = some (wideM m) := hs.trans e.1
 rw [F12, e']; rfl
theorem fold_ge : ∀ (l : List Int) (s : Int), s ≤ l.foldl (fun s x => bif ilt s x then x else s) s ∧ ∀ x ∈ l, x ≤ l.foldl (fun s x => bif ilt s x then x else s) s
 | [], s => ⟨Int.le_refl _, fun x hx => absurd hx List.not_mem_nil⟩
 | y :: l, s => by
  obtain ⟨h1, h2⟩ := fold_ge l (bif ilt s y then y else s)
  have h3 : s ≤ (bif ilt s y then y else s) ∧ y ≤ (bif ilt s y then y else s) := by
   cases hq : ilt s y
   · rw [ilt_f] at hq; exact ⟨Int.le_refl _, hq⟩
   · rw [ilt_iff] at hq; exact ⟨by rw [cond_true]; omega, Int.le_refl _⟩
  rw [List.foldl_cons]
  refine ⟨Int.le_trans h3.1 h1, fun x hx => ?_⟩
  rcases List.mem_cons.1 hx with rfl | hx
  · exact Int.le_trans h3.2 h1
  · exact h2 x hx
theorem wide_fit {m : GMail} (h : ilt 100 (wideM m) = false) : FitM 100 m := by
 rw [ilt_f] at h
 obtain ⟨h1, h2⟩ := fold_ge [(m.Ids.length : Int), (m.Incs.length : Int), (m.X.Vals.length : Int), (m.X.Rest.length : Int), (m.X.In.length : Int), (m.Msgs.length : Int)] (m.Owners.length : Int)
 have k : ∀ x ∈ [(m.Ids.length : Int), (m.Incs.length : Int), (m.X.Vals.length : Int), (m.X.Rest.length : Int), (m.X.In.length : Int), (m.Msgs.length : Int)], x ≤ 100 := fun x hx => Int.le_trans (h2 x hx) h
 have h0 : (m.Owners.length : Int) ≤ 100 := Int.le_trans h1 h
 have a1 := k (m.Ids.length : Int) (by simp)
 have a2 := k (m.Incs.length : Int) (by simp)
 have a3 := k (m.X.Vals.length : Int) (by simp)
 have a4 := k (m.X.Rest.length : Int) (by simp)
 have a5 := k (m.X.In.length : Int) (by simp)
 have a6 := k (m.Msgs.length : Int) (by simp)
 exact ⟨by omega, by omega, by omega, by omega, by omega, by omega, by omega⟩
theorem wf_mi {m : GMail} (h : WGMail m) (hf : FitM 100 m) : MI m := by
 obtain ⟨_, _, _, _, _, _, _, _, _, _, _, hx, hm, _⟩ := h
 exact ⟨hf, i64_wf hx.1, wf_niceP hx, fun y hy => i64_wf (hm.2 y hy).2.1⟩
def asP (l : List GPost) : List GPost153 := l.map fun p => GPost153.mk p.To p.Inc p.M
theorem F38_spec {K : Nat} (l : List GPost) (hl : l.length ≤ 900000) (hK : 1000000 ≤ K) : F38 K l = some (asP l) := by
 let step : GPost → List GPost153 → (List GPost153 → Option (List GPost153)) → Option (List GPost153) := fun x a c => (F27 K x.M).bind fun r => bif apok (len a) 1 264 then c (appL a [GPost153.mk x.To x.Inc r]) else none
 have hs := scanL (l := l) (L := fun k a i => F38_l0_0 K l k a i) step (fun a => some a) (fun k s i _ => rfl) (by omega) (K := K) (by omega) []
 have e := filt_go (step := step) (fun _ => true) (fun p : GPost => GPost153.mk p.To p.Inc p.M) 264 (by omega) 1000000 (by omega) l [] (by simp; omega) (fun x _ a c => rfl)
 have e' : F38_l0_0 K l K [] 0 = some (asP l) := (hs.trans e).trans (by rw [List.filter_eq_self.2 (fun _ _ => rfl)]; simp [asP])
 rw [F38, e']; rfl
def asW (w : GWorker) : GWorker60 := GWorker60.mk w.Id w.Goal w.Until w.T w.Held w.Buf w.Coming (asP w.Out)
theorem F16_spec {K : Nat} (hK : 1000000 ≤ K) (w : GWorker) (h : Sml w) : F16 K w = some (asW w) := by
 obtain ⟨h1, h2, h3, h4⟩ := h
 rw [F16, F38_spec w.Out (by omega) hK, Option.bind_some]
 let s1 : GHeld → List GHeld → (List GHeld → Option (List GHeld)) → Option (List GHeld) := fun x a c => bif apok (len a) 1 96 then c (appL a [x]) else none
 have a1 := scanL (l := w.Held) (L := fun k a i => F16_l0_0 K w (asP w.Out) k a i) s1 (fun a => some a) (fun k s i _ => rfl) (by omega) (K := K) (by omega) []
 have b1 := filt_go (step := s1) (fun _ => true) (fun p => p) 96 (by omega) 1000000 (by omega) w.Held [] (by simp; omega) (fun x _ a c => rfl)
 have c1 : F16_l0_0 K w (asP w.Out) K [] 0 = some w.Held := (a1.trans b1).trans (by simp)
 let s2 : GData → List GData → (List GData → Option (List GData)) → Option (List GData) := fun x a c => bif apok (len a) 1 56 then c (appL a [x]) else none
 have a2 := scanL (l := w.Buf) (L := fun k a i => F16_l1_1 K w (asP w.Out) w.Held k a i) s2 (fun a => some a) (fun k s i _ => rfl) (by omega) (K := K) (by omega) []
 have b2 := filt_go (step := s2) (fun _ => true) (fun p => p) 56 (by omega) 1000000 (by omega) w.Buf [] (by simp; omega) (fun x _ a c => rfl)
 have c2 : F16_l1_1 K w (asP w.Out) w.Held K [] 0 = some w.Buf := (a2.trans b2).trans (by simp)
 let s3 : GComing → List GComing → (List GComing → Option (List GComing)) → Option (List GComing) := fun x a c => bif apok (len a) 1 96 then c (appL a [x]) else none
 have a3 := scanL (l := w.Coming) (L := fun k a i => F16_l2_2 K w (asP w.Out) w.Held w.Buf k a i) s3 (fun a => some a) (fun k s i _ => rfl) (by omega) (K := K) (by omega) []
 have b3 := filt_go (step := s3) (fun _ => true) (fun p => p) 96 (by omega) 1000000 (by omega) w.Coming [] (by simp; omega) (fun x _ a c => rfl)
 have c3 : F16_l2_2 K w (asP w.Out) w.Held w.Buf K [] 0 = some w.Coming := (a3.trans b3).trans (by simp)
 rw [c1, Option.bind_some, c2, Option.bind_some, c3]; rfl
theorem same64 {K : Nat} (l : List Int) (hl : l.length < 1000000) (hK : l.length < K) : F64 K l l = some true := by
 have h := scanI (l := l) (L := fun k (_ : Unit) i => F64_l0_0 K l l k i) (fun i x (_ : Unit) c => bif inr (i : Int) (len l) then (elAt l (i : Int)).bind fun y => bif ieq x y then c () else some (.inl ()) else none) (fun _ => some (.inr ())) (fun k st i hi => rfl) (by omega) K () 0 (by omega) (by omega)
 have g := self_go (l := l) (fun x y c => bif ieq x y then c else some (.inl ())) (fun x _ c => by rw [ieq_refl]; rfl) l 0 rfl
 have h' : F64_l0_0 K l l K 0 = some (.inr ()) := h.trans g
 rw [F64, ieq_refl, h']; rfl
theorem same35 {K : Nat} (hK : 1000000 ≤ K) (t : GTable) (h : tabR t = true) : F35 K t t = some true := by
 obtain ⟨_, _, h3, h4, h5, _⟩ := tabR_ok h
 rw [F35, ieq_refl, same64 t.Owners (by omega) (by omega), same64 t.Ids (by omega) (by omega), same64 t.Incs (by omega) (by omega)]; rfl
theorem fit_P {K : Nat} (hK : 1000000 ≤ K) {x : GPart} (h : x.Vals.length ≤ 2000 ∧ x.Rest.length ≤ 2000 ∧ x.In.length ≤ 2000) : fitP K x := ⟨⟨by omega, by omega⟩, ⟨by omega, by omega⟩, by omega, by omega⟩
theorem same65 {K : Nat} (hK : 1000000 ≤ K) (m : GMail) (h : FitM 100 m) : F65 K m m = some true := by
 obtain ⟨h1, h2, h3, h4, h5, h6, h7⟩ := h
 rw [F65, same64 m.Owners (by omega) (by omega), same64 m.Ids (by omega) (by omega), same64 m.Incs (by omega) (by omega), same118 m.X (fit_P hK ⟨by omega, by omega, by omega⟩), same89 m.Msgs (by omega) (by omega)]
 simp only [ieq_refl, cond_true, Option.bind_some]
theorem same36 {K : Nat} (hK : 1000000 ≤ K) (l : List GPost153) (hl : l.length < 1000000) (hm : ∀ p ∈ l, FitM 100 p.M) : F36 K l l = some true := by
 have h := scanI (l := l) (L := fun k (_ : Unit) i => F36_l0_0 K l l k i) (fun i x (_ : Unit) c => bif inr (i : Int) (len l) then (elAt l (i : Int)).bind fun y => bif ieq x.To y.To then (bif ieq x.Inc y.Inc then (F65 K x.M y.M).bind fun r => bif r then c () else some (.inl ()) else some (.inl ())) else some (.inl ()) else none) (fun _ => some (.inr ())) (fun k st i hi => rfl) (by omega) K () 0 (by omega) (by omega)
 have g := self_go (l := l) (fun x y c => bif ieq x.To y.To then (bif ieq x.Inc y.Inc then (F65 K x.M y.M).bind fun r => bif r then c else some (.inl ()) else some (.inl ())) else some (.inl ())) (fun x hx c => by rw [ieq_refl, ieq_refl, same65 hK x.M (hm x hx)]; rfl) l 0 rfl
 have h' : F36_l0_0 K l l K 0 = some (.inr ()) := h.trans g
 rw [F36, ieq_refl, h']; rfl
theorem same15 {K : Nat} (hK : 1000000 ≤ K) (h : WI g j id n w) (hn : n ≤ 400000) : F15 K (asW w) (asW w) = some true := by
 have hs := h.sml hn
 have h1 := hs.h
 have h2 := hs.b
 have h3 := hs.c
 have h4 := hs.o
 have p1 : F36 K (asP w.Out) (asP w.Out) = some true := same36 hK _ (by rw [asP, List.length_map]; omega) fun p hp => by
  obtain ⟨q, hq, rfl⟩ := List.mem_map.1 hp
  exact h.od q hq
 have e1 := scanI (l := w.Held) (L := fun k (_ : Unit) i => F15_l0_0 K (asW w) (asW w) k i) (fun i x (_ : Unit) c => bif inr (i : Int) (len w.Held) then (elAt w.Held (i : Int)).bind fun y => bif beqb x.Wait y.Wait then (bif beqb x.Given y.Given then (F28 K x.X y.X).bind fun r => bif r then c () else some (.inl ()) else some (.inl ())) else some (.inl ()) else none) (fun _ => some (.inr ())) (fun k st i hi => rfl) (by omega) K () 0 (by omega) (by omega)
 have f1 := self_go (l := w.Held) (fun x y c => bif beqb x.Wait y.Wait then (bif beqb x.Given y.Given then (F28 K x.X y.X).bind fun r => bif r then c else some (.inl ()) else some (.inl ())) else some (.inl ())) (fun x hx c => by
  have := h.hx x hx
  rw [beqb_refl, beqb_refl, same118 x.X (fit_P hK ⟨by have := this.v; omega, by have := this.r; omega, by have := this.i; omega⟩)]; rfl) w.Held 0 rfl
 have g1 : F15_l0_0 K (asW w) (asW w) K 0 = some (.inr ()) := e1.trans f1
 have e2 := scanI (l := w.Buf) (L := fun k (_ : Unit) i => F15_l1_1 K (asW w) (asW w) k i) (fun i x (_ : Unit) c => bif inr (i : Int) (len w.Buf) then (elAt w.Buf (i : Int)).bind fun y => bif ieq x.Epoch y.Epoch then (bif ieq x.Step y.Step then (bif ieq x.Q y.Q then (bif ieq x.P y.P then (F37 K x.Msgs y.Msgs).bind fun r => bif r then c () else some (.inl ()) else some (.inl ())) else some (.inl ())) else some (.inl ())) else some (.inl ()) else none) (fun _ => some (.inr ())) (fun k st i hi => rfl) (by omega) K () 0 (by omega) (by omega)
 have f2 := self_go (l := w.Buf) (fun x y c => bif ieq x.Epoch y.Epoch then (bif ieq x.Step y.Step then (bif ieq x.Q y.Q then (bif ieq x.P y.P then (F37 K x.Msgs y.Msgs).bind fun r => bif r then c else some (.inl ()) else some (.inl ())) else some (.inl ())) else some (.inl ())) else some (.inl ())) (fun x hx c => by
  have := (h.bd x hx).l
  rw [ieq_refl, ieq_refl, ieq_refl, ieq_refl, same89 x.Msgs (by omega) (by omega)]; rfl) w.Buf 0 rfl
 have g2 : F15_l1_1 K (asW w) (asW w) K 0 = some (.inr ()) := e2.trans f2
 have e3 := scanI (l := w.Coming) (L := fun k (_ : Unit) i => F15_l2_2 K (asW w) (asW w) k i) (fun i x (_ : Unit) c => bif inr (i : Int) (len w.Coming) then (elAt w.Coming (i : Int)).bind fun y => bif ieq x.Epoch y.Epoch then (F28 K x.X y.X).bind fun r => bif r then c () else some (.inl ()) else some (.inl ()) else none) (fun _ => some (.inr ())) (fun k st i hi => rfl) (by omega) K () 0 (by omega) (by omega)
 have f3 := self_go (l := w.Coming) (fun x y c => bif ieq x.Epoch y.Epoch then (F28 K x.X y.X).bind fun r => bif r then c else some (.inl ()) else some (.inl ())) (fun x hx c => by
  have := h.cd x hx
  rw [ieq_refl, same118 x.X (fit_P hK ⟨by have := this.v; omega, by have := this.r; omega, by have := this.i; omega⟩)]; rfl) w.Coming 0 rfl
 have g3 : F15_l2_2 K (asW w) (asW w) K 0 = some (.inr ()) := e3.trans f3
 rw [F15, ieq_refl, ieq_refl, ieq_refl, ieq_refl, ieq_refl, ieq_refl]
 show (F35 K w.T w.T).bind _ = _
 rw [same35 hK w.T h.tab, Option.bind_some]
 show (F36 K (asP w.Out) (asP w.Out)).bind _ = _
 rw [p1, g1, g2, g3]; rfl
end
noncomputable def hn6 : Hint := { H 6 with nt := 95, prot := 0, kp := 0 }
noncomputable def c6_0 : Code := loopOf E 6 0
def F6_res (r1 : Bool) : Res := ⟨[(.one (.im (.lit (.bool r1))))], []⟩
def F6_l0_0 (K : Nat) (v1 : List GAct) (v2 : Int) (v3 : List GEdge) (v4 : Int) (v5 : Int) (v6 : Int) (v7 : Int) (v8 : Int) (v9 : Int) (v10 : Int) (v11 : Int) (v12 : Int) (v13 : Int) (v14 : Int) (v15 : Int) (v16 : List Int) (v17 : List Int) (v18 : List Int) (v19 : Int) (v20 : Int) (v21 : List Int) (v22 : List Bool) (v23 : List GMsg) (v24 : List GMsg) : Nat → Int → Int → Int → Int → List Int → List Int → List Int → List GHeld → List GData → List GComing → List GPost → Int → Option ((Unit) ⊕ (Int × Int × Int × Int × List Int × List Int × List Int × List GHeld × List GData × List GComing × List GPost))
 | 0, _, _, _, _, _, _, _, _, _, _, _, _ => none
 | k + 1, v25, v26, v27, v28, v29, v30, v31, v32, v33, v34, v35, v36 =>
  bif (ilt v36 (nlen (len v1))) then
   (bif (ilt v36 40) then
    (bif (inr v36 (len v1)) then
    (elAt v1 v36).bind fun x37 =>
    (F12 K x37.M).bind fun r38 =>
    bif (ilt 100 r38) then
     (F6_l0_0 K v1 v2 v3 v4 v5 v6 v7 v8 v9 v10 v11 v12 v13 v14 v15 v16 v17 v18 v19 v20 v21 v22 v23 v24 k v25 v26 v27 v28 v29 v30 v31 v32 v33 v34 v35 (wadd .i64 v36 1))
    else
    (F13 K (GGraph.mk v2 v3) (GJob.mk v4 v5 v6 v7) (GWorker.mk v25 v26 v27 (GTable.mk v28 v29 v30 v31) v32 v33 v34 v35) x37).bind fun r39 =>
    bif (ilt r39.1.T.Epoch v28) then
     (some (.inl ()))
    else
    F6_l0_0 K v1 v2 v3 v4 v5 v6 v7 v8 v9 v10 v11 v12 v13 v14 v15 v16 v17 v18 v19 v20 v21 v22 v23 v24 k r39.1.Id r39.1.Goal r39.1.Until r39.1.T.Epoch r39.1.T.Owners r39.1.T.Ids r39.1.T.Incs r39.1.Held r39.1.Buf r39.1.Coming r39.1.Out (wadd .i64 v36 1)
    else none)
   else
   some (.inr (v25, (v26, (v27, (v28, (v29, (v30, (v31, (v32, (v33, (v34, v35))))))))))))
  else
  some (.inr (v25, (v26, (v27, (v28, (v29, (v30, (v31, (v32, (v33, (v34, v35)))))))))))
def F6_l0_0_S (v1 : List GAct) (v2 : Int) (v3 : List GEdge) (v4 : Int) (v5 : Int) (v6 : Int) (v7 : Int) (v8 : Int) (v9 : Int) (v10 : Int) (v11 : Int) (v12 : Int) (v13 : Int) (v14 : Int) (v15 : Int) (v16 : List Int) (v17 : List Int) (v18 : List Int) (v19 : Int) (v20 : Int) (v21 : List Int) (v22 : List Bool) (v23 : List GMsg) (v24 : List GMsg) (v25 : Int) (v26 : Int) (v27 : Int) (v28 : Int) (v29 : List Int) (v30 : List Int) (v31 : List Int) (v32 : List GHeld) (v33 : List GData) (v34 : List GComing) (v35 : List GPost) (v36 : Int) : TS := .on [192, 193, 320, 321, 322, 384, 385, 386, 387, 388, 576, 577, 578, 579, 580, 581, 582, 583, 584, 585, 586, 587, 588, 589, 590, 591, 592, 593, 704, 705, 706, 707, 708, 709, 710, 711, 712, 713, 714, 715, 768, 769] [(192, ⟨.one, 0, nob⟩), (193, ⟨.im, 0, (.sl (len v1) (flat eGAct v1))⟩), (320, ⟨(.box 24 2), 0, nob⟩), (321, ⟨.im, 0, (.lit (.int .i64 v2))⟩), (322, ⟨.im, 0, (.sl (len v3) (flat eGEdge v3))⟩), (384, ⟨(.box 26 4), 0, nob⟩), (385, ⟨.im, 0, (.lit (.int .i64 v4))⟩), (386, ⟨.im, 0, (.lit (.int .i64 v5))⟩), (387, ⟨.im, 0, (.lit (.int .i64 v6))⟩), (388, ⟨.im, 0, (.lit (.int .i64 v7))⟩), (576, ⟨(.box 47 17), 0, nob⟩), (577, ⟨.im, 0, (.lit (.int .i64 v8))⟩), (578, ⟨.im, 0, (.lit (.int .i64 v9))⟩), (579, ⟨.im, 0, (.lit (.int .i64 v10))⟩), (580, ⟨.im, 0, (.lit (.int .i64 v11))⟩), (581, ⟨.im, 0, (.lit (.int .i64 v12))⟩), (582, ⟨.im, 0, (.lit (.int .i64 v13))⟩), (583, ⟨.im, 0, (.lit (.int .i64 v14))⟩), (584, ⟨.im, 0, (.lit (.int .i64 v15))⟩), (585, ⟨.im, 0, (.sl (len v16) (flat (eInt .i64) v16))⟩), (586, ⟨.im, 0, (.sl (len v17) (flat (eInt .i64) v17))⟩), (587, ⟨.im, 0, (.sl (len v18) (flat (eInt .i64) v18))⟩), (588, ⟨.im, 0, (.lit (.int .i64 v19))⟩), (589, ⟨.im, 0, (.lit (.int .i64 v20))⟩), (590, ⟨.im, 0, (.sl (len v21) (flat (eInt .i64) v21))⟩), (591, ⟨.im, 0, (.sl (len v22) (flat eBool v22))⟩), (592, ⟨.im, 0, (.sl (len v23) (flat eGMsg v23))⟩), (593, ⟨.im, 0, (.sl (len v24) (flat eGMsg v24))⟩), (704, ⟨(.box 38 11), 0, nob⟩), (705, ⟨.im, 0, (.lit (.int .i64 v25))⟩), (706, ⟨.im, 0, (.lit (.int .i64 v26))⟩), (707, ⟨.im, 0, (.lit (.int .i64 v27))⟩), (708, ⟨.im, 0, (.lit (.int .i64 v28))⟩), (709, ⟨.im, 0, (.sl (len v29) (flat (eInt .i64) v29))⟩), (710, ⟨.im, 0, (.sl (len v30) (flat (eInt .i64) v30))⟩), (711, ⟨.im, 0, (.sl (len v31) (flat (eInt .i64) v31))⟩), (712, ⟨.im, 0, (.sl (len v32) (flat eGHeld v32))⟩), (713, ⟨.im, 0, (.sl (len v33) (flat eGData v33))⟩), (714, ⟨.im, 0, (.sl (len v34) (flat eGComing v34))⟩), (715, ⟨.im, 0, (.sl (len v35) (flat eGPost v35))⟩), (768, ⟨.one, 0, nob⟩), (769, ⟨.im, 0, (.lit (.int .i64 v36))⟩)]
def F6_l0_0_X0 (v1 : List GAct) (v2 : Int) (v3 : List GEdge) (v4 : Int) (v5 : Int) (v6 : Int) (v7 : Int) (v8 : Int) (v9 : Int) (v10 : Int) (v11 : Int) (v12 : Int) (v13 : Int) (v14 : Int) (v15 : Int) (v16 : List Int) (v17 : List Int) (v18 : List Int) (v19 : Int) (v20 : Int) (v21 : List Int) (v22 : List Bool) (v23 : List GMsg) (v24 : List GMsg) (w25 : Unit) : TS := .on [640, 641] [(640, ⟨.one, 0, nob⟩), (641, ⟨.im, 0, (.lit (.bool false))⟩)]
def F6_l0_0_X1 (v1 : List GAct) (v2 : Int) (v3 : List GEdge) (v4 : Int) (v5 : Int) (v6 : Int) (v7 : Int) (v8 : Int) (v9 : Int) (v10 : Int) (v11 : Int) (v12 : Int) (v13 : Int) (v14 : Int) (v15 : Int) (v16 : List Int) (v17 : List Int) (v18 : List Int) (v19 : Int) (v20 : Int) (v21 : List Int) (v22 : List Bool) (v23 : List GMsg) (v24 : List GMsg) (w25 : Int × Int × Int × Int × List Int × List Int × List Int × List GHeld × List GData × List GComing × List GPost) : TS := .on [320, 321, 322, 384, 385, 386, 387, 388, 576, 577, 578, 579, 580, 581, 582, 583, 584, 585, 586, 587, 588, 589, 590, 591, 592, 593, 704, 705, 706, 707, 708, 709, 710, 711, 712, 713, 714, 715] [(320, ⟨(.box 24 2), 0, nob⟩), (321, ⟨.im, 0, (.lit (.int .i64 v2))⟩), (322, ⟨.im, 0, (.sl (len v3) (flat eGEdge v3))⟩), (384, ⟨(.box 26 4), 0, nob⟩), (385, ⟨.im, 0, (.lit (.int .i64 v4))⟩), (386, ⟨.im, 0, (.lit (.int .i64 v5))⟩), (387, ⟨.im, 0, (.lit (.int .i64 v6))⟩), (388, ⟨.im, 0, (.lit (.int .i64 v7))⟩), (576, ⟨(.box 47 17), 0, nob⟩), (577, ⟨.im, 0, (.lit (.int .i64 v8))⟩), (578, ⟨.im, 0, (.lit (.int .i64 v9))⟩), (579, ⟨.im, 0, (.lit (.int .i64 v10))⟩), (580, ⟨.im, 0, (.lit (.int .i64 v11))⟩), (581, ⟨.im, 0, (.lit (.int .i64 v12))⟩), (582, ⟨.im, 0, (.lit (.int .i64 v13))⟩), (583, ⟨.im, 0, (.lit (.int .i64 v14))⟩), (584, ⟨.im, 0, (.lit (.int .i64 v15))⟩), (585, ⟨.im, 0, (.sl (len v16) (flat (eInt .i64) v16))⟩), (586, ⟨.im, 0, (.sl (len v17) (flat (eInt .i64) v17))⟩), (587, ⟨.im, 0, (.sl (len v18) (flat (eInt .i64) v18))⟩), (588, ⟨.im, 0, (.lit (.int .i64 v19))⟩), (589, ⟨.im, 0, (.lit (.int .i64 v20))⟩), (590, ⟨.im, 0, (.sl (len v21) (flat (eInt .i64) v21))⟩), (591, ⟨.im, 0, (.sl (len v22) (flat eBool v22))⟩), (592, ⟨.im, 0, (.sl (len v23) (flat eGMsg v23))⟩), (593, ⟨.im, 0, (.sl (len v24) (flat eGMsg v24))⟩), (704, ⟨(.box 38 11), 0, nob⟩), (705, ⟨.im, 0, (.lit (.int .i64 w25.1))⟩), (706, ⟨.im, 0, (.lit (.int .i64 w25.2.1))⟩), (707, ⟨.im, 0, (.lit (.int .i64 w25.2.2.1))⟩), (708, ⟨.im, 0, (.lit (.int .i64 w25.2.2.2.1))⟩), (709, ⟨.im, 0, (.sl (len w25.2.2.2.2.1) (flat (eInt .i64) w25.2.2.2.2.1))⟩), (710, ⟨.im, 0, (.sl (len w25.2.2.2.2.2.1) (flat (eInt .i64) w25.2.2.2.2.2.1))⟩), (711, ⟨.im, 0, (.sl (len w25.2.2.2.2.2.2.1) (flat (eInt .i64) w25.2.2.2.2.2.2.1))⟩), (712, ⟨.im, 0, (.sl (len w25.2.2.2.2.2.2.2.1) (flat eGHeld w25.2.2.2.2.2.2.2.1))⟩), (713, ⟨.im, 0, (.sl (len w25.2.2.2.2.2.2.2.2.1) (flat eGData w25.2.2.2.2.2.2.2.2.1))⟩), (714, ⟨.im, 0, (.sl (len w25.2.2.2.2.2.2.2.2.2.1) (flat eGComing w25.2.2.2.2.2.2.2.2.2.1))⟩), (715, ⟨.im, 0, (.sl (len w25.2.2.2.2.2.2.2.2.2.2) (flat eGPost w25.2.2.2.2.2.2.2.2.2.2))⟩)]
theorem F6_l0_0_ok (K : Nat) (v1 : List GAct) (v2 : Int) (v3 : List GEdge) (v4 : Int) (v5 : Int) (v6 : Int) (v7 : Int) (v8 : Int) (v9 : Int) (v10 : Int) (v11 : Int) (v12 : Int) (v13 : Int) (v14 : Int) (v15 : Int) (v16 : List Int) (v17 : List Int) (v18 : List Int) (v19 : Int) (v20 : Int) (v21 : List Int) (v22 : List Bool) (v23 : List GMsg) (v24 : List GMsg) : ∀ (k : Nat) (v25 : Int) (v26 : Int) (v27 : Int) (v28 : Int) (v29 : List Int) (v30 : List Int) (v31 : List Int) (v32 : List GHeld) (v33 : List GData) (v34 : List GComing) (v35 : List GPost) (v36 : Int) (r : (Unit) ⊕ (Int × Int × Int × Int × List Int × List Int × List Int × List GHeld × List GData × List GComing × List GPost)), F6_l0_0 K v1 v2 v3 v4 v5 v6 v7 v8 v9 v10 v11 v12 v13 v14 v15 v16 v17 v18 v19 v20 v21 v22 v23 v24 k v25 v26 v27 v28 v29 v30 v31 v32 v33 v34 v35 v36 = some r → (Sum.elim (fun w => LoopEv E H hn6 0 c6_0 (F6_l0_0_S v1 v2 v3 v4 v5 v6 v7 v8 v9 v10 v11 v12 v13 v14 v15 v16 v17 v18 v19 v20 v21 v22 v23 v24 v25 v26 v27 v28 v29 v30 v31 v32 v33 v34 v35 v36) .ret (F6_l0_0_X0 v1 v2 v3 v4 v5 v6 v7 v8 v9 v10 v11 v12 v13 v14 v15 v16 v17 v18 v19 v20 v21 v22 v23 v24 w)) (fun w => LoopEv E H hn6 0 c6_0 (F6_l0_0_S v1 v2 v3 v4 v5 v6 v7 v8 v9 v10 v11 v12 v13 v14 v15 v16 v17 v18 v19 v20 v21 v22 v23 v24 v25 v26 v27 v28 v29 v30 v31 v32 v33 v34 v35 v36) (.exit 0) (F6_l0_0_X1 v1 v2 v3 v4 v5 v6 v7 v8 v9 v10 v11 v12 v13 v14 v15 v16 v17 v18 v19 v20 v21 v22 v23 v24 w))) r := by
 intro k
 induction k with
 | zero => intro v25 v26 v27 v28 v29 v30 v31 v32 v33 v34 v35 v36 r hF; cases hF
 | succ k ih =>
  intro v25 v26 v27 v28 v29 v30 v31 v32 v33 v34 v35 v36 r hF
  rw [F6_l0_0] at hF
  cs h37
  ·
   have q48 {l} (z : HA hn6 l) := zi (nl v1) <| zC2x h37 <| z
   cs h38
   ·
    cn h39
    bs x40 h41
    bs r42 h43
    have q49 {l} (z : HA hn6 l) := zT h38 <| zT h39 <| zU eGAct_len h41 2 17 <| zl (F12_ok K x40.M _ h43) <| z
    cs h44
    ·
     exact lN2 (q48 <| q49 <| zT (igt_eq h44) <| zi (wadd .i64 v36 1) <| z0) (ih _ _ _ _ _ _ _ _ _ _ _ _ _ hF)
    bs r45 h46
    have q50 {l} (z : HA hn6 l) := zF (igt_eq h44) <| zT h39 <| zS eGAct_len h41 19 <| zc (F13_ok K (GGraph.mk v2 v3) (GJob.mk v4 v5 v6 v7) (GWorker.mk v25 v26 v27 (GTable.mk v28 v29 v30 v31) v32 v33 v34 v35) x40 _ h46) <| z
    cs h47
    ·
     ob
     exact lE <| q48 <| q49 <| q50 <| zT h47 <| z0
    exact lN2 (q48 <| q49 <| q50 <| zF h47 <| zi (wadd .i64 v36 1) <| z0) (ih _ _ _ _ _ _ _ _ _ _ _ _ _ hF)
   ob
   exact lE <| q48 <| zF h38 <| z0
  ob
  exact lE <| zi (nl v1) <| zD2x h37 <| zf1 <| z0
def F6 (K : Nat) (a1 : GGraph) (a2 : GJob) (a3 : Int) (a4 : List GAct) (a5 : GMail) : Option (Bool) :=
 (F9 K a1).bind fun r6 =>
 bif r6 then
  (some true)
 else
 (F12 K a5).bind fun r7 =>
 bif (ilt 100 r7) then
  (some true)
 else
 (F11 K a3).bind fun r8 =>
 (F6_l0_0 K a4 a1.N a1.Edges a2.Prog a2.Source a2.Limit a2.Parts a5.Kind a5.Epoch a5.Fresh a5.Step a5.P a5.Q a5.To a5.E a5.Owners a5.Ids a5.Incs a5.X.P a5.X.Step a5.X.Vals a5.X.Rest a5.X.In a5.Msgs K r8.Id r8.Goal r8.Until r8.T.Epoch r8.T.Owners r8.T.Ids r8.T.Incs r8.Held r8.Buf r8.Coming r8.Out 0).bind fun y9 =>
 Sum.elim (fun w10 =>
  some false)
  (fun w11 =>
  bif (ile w11.2.2.2.1 a5.Epoch) then
   (some true)
  else
  bif (ieq a5.Kind 9) then
   (bif (ilt w11.2.2.2.1 a5.Fresh) then
    (some true)
   else
   (F16 K (GWorker.mk w11.1 w11.2.1 w11.2.2.1 (GTable.mk w11.2.2.2.1 w11.2.2.2.2.1 w11.2.2.2.2.2.1 w11.2.2.2.2.2.2.1) w11.2.2.2.2.2.2.2.1 w11.2.2.2.2.2.2.2.2.1 w11.2.2.2.2.2.2.2.2.2.1 w11.2.2.2.2.2.2.2.2.2.2)).bind fun r12 =>
   (F18 K a1 a2 (GWorker.mk w11.1 w11.2.1 w11.2.2.1 (GTable.mk w11.2.2.2.1 w11.2.2.2.2.1 w11.2.2.2.2.2.1 w11.2.2.2.2.2.2.1) w11.2.2.2.2.2.2.2.1 w11.2.2.2.2.2.2.2.2.1 w11.2.2.2.2.2.2.2.2.2.1 w11.2.2.2.2.2.2.2.2.2.2) a5).bind fun r13 =>
   (F16 K r13).bind fun r14 =>
   (F15 K r12 r14).bind fun r15 =>
   bif r15 then
    (some true)
   else
   some false)
  else
  (F16 K (GWorker.mk w11.1 w11.2.1 w11.2.2.1 (GTable.mk w11.2.2.2.1 w11.2.2.2.2.1 w11.2.2.2.2.2.1 w11.2.2.2.2.2.2.1) w11.2.2.2.2.2.2.2.1 w11.2.2.2.2.2.2.2.2.1 w11.2.2.2.2.2.2.2.2.2.1 w11.2.2.2.2.2.2.2.2.2.2)).bind fun r16 =>
  (F18 K a1 a2 (GWorker.mk w11.1 w11.2.1 w11.2.2.1 (GTable.mk w11.2.2.2.1 w11.2.2.2.2.1 w11.2.2.2.2.2.1 w11.2.2.2.2.2.2.1) w11.2.2.2.2.2.2.2.1 w11.2.2.2.2.2.2.2.2.1 w11.2.2.2.2.2.2.2.2.2.1 w11.2.2.2.2.2.2.2.2.2.2) a5).bind fun r17 =>
  (F16 K r17).bind fun r18 =>
  (F15 K r16 r18).bind fun r19 =>
  bif r19 then
   (some true)
  else
  some false) y9
theorem F6_ok (K : Nat) (a1 : GGraph) (a2 : GJob) (a3 : Int) (a4 : List GAct) (a5 : GMail) (r : Bool) (hF : F6 K a1 a2 a3 a4 a5 = some r) : Evt E H 6 [.agg (eGGraph a1), .agg (eGJob a2), .one (.lit (.int .i64 a3)), .one (.sl (len a4) (flat eGAct a4)), .agg (eGMail a5)] (F6_res r) := by
 rw [F6] at hF
 bs r6 h7
 cs h8
 ·
  ob
  exact fpC hn6 <| zl (F9_ok K a1 _ h7) <| zA3x h8 <| zr1 <| zX (.call 10 [] (Res.mk [(.one (.im (.lit (.bool true))))] [])) knows10 <| zX (ff (leadsAny (Res.mk [(.one (.im (.lit (.bool true))))] []))) lk <| z0
 bs r9 h10
 have q39 {l} (z : HA hn6 l) := zl (F9_ok K a1 _ h7) <| zB2 h8 <| zl (F12_ok K a5 _ h10) <| zB1x h8 <| z
 cs h11
 ·
  ob
  exact fpC hn6 <| q39 <| zT (igt_eq h11) <| zX (.call 10 [] (Res.mk [(.one (.im (.lit (.bool true))))] [])) knows10 <| zX (ff (leadsAny (Res.mk [(.one (.im (.lit (.bool true))))] []))) lk <| z0
 bs r12 h13
 bs y15 h14
 ss w16 w17
 ·
  subst hx
  ob
  exact fpC hn6 <| q39 <| zF (igt_eq h11) <| zc (F11_ok K a3 _ h13) <| zo (F6_l0_0_ok K a4 a1.N a1.Edges a2.Prog a2.Source a2.Limit a2.Parts a5.Kind a5.Epoch a5.Fresh a5.Step a5.P a5.Q a5.To a5.E a5.Owners a5.Ids a5.Incs a5.X.P a5.X.Step a5.X.Vals a5.X.Rest a5.X.In a5.Msgs K r12.Id r12.Goal r12.Until r12.T.Epoch r12.T.Owners r12.T.Ids r12.T.Incs r12.Held r12.Buf r12.Coming r12.Out 0 _ h14) <| z0
 subst hx
 have q40 {l} (z : HA hn6 l) := zF (igt_eq h11) <| zc (F11_ok K a3 _ h13) <| zo (F6_l0_0_ok K a4 a1.N a1.Edges a2.Prog a2.Source a2.Limit a2.Parts a5.Kind a5.Epoch a5.Fresh a5.Step a5.P a5.Q a5.To a5.E a5.Owners a5.Ids a5.Incs a5.X.P a5.X.Step a5.X.Vals a5.X.Rest a5.X.In a5.Msgs K r12.Id r12.Goal r12.Until r12.T.Epoch r12.T.Owners r12.T.Ids r12.T.Incs r12.Held r12.Buf r12.Coming r12.Out 0 _ h14) <| z
 cs h18
 ·
  ob
  exact fpC hn6 <| q39 <| q40 <| zA5x (ige_eq h18) <| zr1 <| zX (.call 10 [] (Res.mk [(.one (.im (.lit (.bool true))))] [])) knows10 <| zX (ff (leadsAny (Res.mk [(.one (.im (.lit (.bool true))))] []))) lk <| z0
 have q41 {l} (z : HA hn6 l) := zB4 (ige_eq h18) <| z
 cs h19
 ·
  have q42 {l} (z : HA hn6 l) := zC6 h19 <| zB1 (ige_eq h18) <| zT h19 <| zF (ige_eq h18) <| z
  cs h20
  ·
   ob
   exact fpC hn6 <| q39 <| q40 <| q41 <| q42 <| zT (igt_eq h20) <| zX (.call 10 [] (Res.mk [(.one (.im (.lit (.bool true))))] [])) knows10 <| zX (ff (leadsAny (Res.mk [(.one (.im (.lit (.bool true))))] []))) lk <| z0
  bs r21 h22
  bs r23 h24
  bs r25 h26
  bs r27 h28
  have q43 {l} (z : HA hn6 l) := zF (igt_eq h20) <| zc (F16_ok K (GWorker.mk w17.1 w17.2.1 w17.2.2.1 (GTable.mk w17.2.2.2.1 w17.2.2.2.2.1 w17.2.2.2.2.2.1 w17.2.2.2.2.2.2.1) w17.2.2.2.2.2.2.2.1 w17.2.2.2.2.2.2.2.2.1 w17.2.2.2.2.2.2.2.2.2.1 w17.2.2.2.2.2.2.2.2.2.2) _ h22) <| zc (F18_ok K a1 a2 (GWorker.mk w17.1 w17.2.1 w17.2.2.1 (GTable.mk w17.2.2.2.1 w17.2.2.2.2.1 w17.2.2.2.2.2.1 w17.2.2.2.2.2.2.1) w17.2.2.2.2.2.2.2.1 w17.2.2.2.2.2.2.2.2.1 w17.2.2.2.2.2.2.2.2.2.1 w17.2.2.2.2.2.2.2.2.2.2) a5 _ h24) <| zc (F16_ok K r23 _ h26) <| zl (F15_ok K r21 r25 _ h28) <| z
  cs h29
  ·
   ob
   exact fpC hn6 <| q39 <| q40 <| q41 <| q42 <| q43 <| zC1 h29 <| zX (.call 10 [] (Res.mk [(.one (.im (.lit (.bool true))))] [])) knows10 <| zX (ff (leadsAny (Res.mk [(.one (.im (.lit (.bool true))))] []))) lk <| zT h29 <| z0
  ob
  exact fpC hn6 <| q39 <| q40 <| q41 <| q42 <| q43 <| zD1x h29 <| z0
 bs r30 h31
 bs r32 h33
 bs r34 h35
 bs r36 h37
 have q44 {l} (z : HA hn6 l) := zD6 h19 <| zB1 (ige_eq h18) <| zF h19 <| zF (ige_eq h18) <| zf1 <| zc (F16_ok K (GWorker.mk w17.1 w17.2.1 w17.2.2.1 (GTable.mk w17.2.2.2.1 w17.2.2.2.2.1 w17.2.2.2.2.2.1 w17.2.2.2.2.2.2.1) w17.2.2.2.2.2.2.2.1 w17.2.2.2.2.2.2.2.2.1 w17.2.2.2.2.2.2.2.2.2.1 w17.2.2.2.2.2.2.2.2.2.2) _ h31) <| zc (F18_ok K a1 a2 (GWorker.mk w17.1 w17.2.1 w17.2.2.1 (GTable.mk w17.2.2.2.1 w17.2.2.2.2.1 w17.2.2.2.2.2.1 w17.2.2.2.2.2.2.1) w17.2.2.2.2.2.2.2.1 w17.2.2.2.2.2.2.2.2.1 w17.2.2.2.2.2.2.2.2.2.1 w17.2.2.2.2.2.2.2.2.2.2) a5 _ h33) <| zc (F16_ok K r32 _ h35) <| zl (F15_ok K r30 r34 _ h37) <| z
 cs h38
 ·
  ob
  exact fpC hn6 <| q39 <| q40 <| q41 <| q44 <| zC1 h38 <| zX (.call 10 [] (Res.mk [(.one (.im (.lit (.bool true))))] [])) knows10 <| zX (ff (leadsAny (Res.mk [(.one (.im (.lit (.bool true))))] []))) lk <| zT h38 <| z0
 ob
 exact fpC hn6 <| q39 <| q40 <| q41 <| q44 <| zD1x h38 <| z0
theorem scanB {α σ β : Type} {l : List α} {B : Int} (b : Nat) (hB : B = (b : Int)) {L : Nat → σ → Int → Option β} (step : Nat → α → σ → (σ → Option β) → Option β) (fin : σ → Option β)
 (h : ∀ k s (i : Nat), i ≤ l.length → L (k + 1) s i = bif ilt i (nlen (len l)) then (bif ilt i B then (bif inr i (len l) then (elAt l i).bind fun x => step i x s (fun s' => L k s' (wadd .i64 i 1)) else none) else fin s) else fin s)
 (hl : l.length < 4611686018427387904) : ∀ (k : Nat) (s : σ) (i : Nat), b - i < k → i ≤ l.length → L k s i = goI (fun i x s c => bif ilt (i : Int) B then step i x s c else fin s) fin i (l.drop i) s := by
 intro k
 induction k with
 | zero => intro s i h; omega
 | succ k ih =>
  intro s i hk hi
  rw [h k s i hi]
  rcases at_idx l i with ⟨x, e1, e2, e3, e4⟩ | ⟨e1, e2⟩
  · have hlt := lt_of_drop' e1
    rw [e1, e2, e3, e4]
    simp only [cond_true, Option.bind_some, goI]
    cases hb : ilt (i : Int) B
    · rfl
    · rw [hB, ilt_iff] at hb
      simp only [cond_true]
      congr 1
      funext s'
      rw [wadd_nat (by omega)]
      exact ih s' (i + 1) (by omega) (by omega)
  · rw [e1, e2]; rfl
section
variable {g : GGraph} {j : GJob} {id : Int}
theorem acts_go {β : Type} {step : Nat → GAct → GWorker → (GWorker → Option β) → Option β} {fin : GWorker → Option β} : ∀ (l : List GAct) (i n : Nat) (w : GWorker), (∀ x ∈ l, ∀ (i n : Nat) (w : GWorker), WI g j id n w → n ≤ 100000 → ∃ w', WI g j id (n + 42) w' ∧ ∀ c, step i x w c = c w') →
 WI g j id n w → n + 42 * (40 - i) ≤ 100000 → ∃ w', WI g j id 100000 w' ∧ goI (fun i x s c => bif ilt (i : Int) 40 then step i x s c else fin s) fin i l w = fin w'
 | [], i, n, w, _, h, hn => ⟨w, h.up (by omega), rfl⟩
 | x :: l, i, n, w, hs, h, hn => by
  rw [goI]
  cases hi : ilt (i : Int) 40
  · exact ⟨w, h.up (by omega), rfl⟩
  · rw [ilt_iff] at hi
    obtain ⟨w1, h1, e1⟩ := hs x List.mem_cons_self i n w h (by omega)
    obtain ⟨w2, h2, e2⟩ := acts_go l (i + 1) (n + 42) w1 (fun y hy => hs y (List.mem_cons_of_mem _ hy)) h1 (by omega)
    exact ⟨w2, h2, by rw [cond_true, e1, e2]⟩
theorem great_spec (K : Nat) (g : GGraph) : F9 K g = some (ilt 200 (g.Edges.length : Int)) := by rw [F9]; rfl
theorem holds_T (g : GGraph) (j : GJob) : ∀ (l : List GPart) (w : GWorker), (l.foldl (holdX g j) w).T = w.T
 | [], _ => rfl
 | x :: l, w => by
  rw [List.foldl_cons, holds_T g j l, holdX]
  cases mineS g j w x <;> rfl
theorem take_epoch (g : GGraph) (j : GJob) (w : GWorker) (m : GMail) : w.T.Epoch ≤ (takeW g j w m).T.Epoch := by
 have hp : ∀ (v : GWorker), (putX g j v m).T = v.T := fun v => by rw [putX]; cases mineS g j v m.X <;> rfl
 rw [takeW]
 cases ieq (jcheck g j) 0 && mailR m
 · exact Int.le_refl _
 · rw [cond_true, byKind]
   cases ieq m.Kind 1
   · cases ieq m.Kind 3
     · cases ieq m.Kind 4
       · cases ieq m.Kind 6
         · cases ieq m.Kind 7
           · cases ieq m.Kind 9
             · exact Int.le_refl _
             · simp only [cond_false, cond_true]
               rw [changeS]
               cases (tableS j m.Fresh m).2
               · exact Int.le_refl _
               · cases h : ile m.Fresh w.T.Epoch
                 · rw [ile_f] at h
                   show w.T.Epoch ≤ (sinceS _ m.Fresh).T.Epoch
                   show w.T.Epoch ≤ ((restH w m ++ restC w m).foldl (holdX g j) { w with T := (tableS j m.Fresh m).1, Goal := -1, Held := [] }).T.Epoch
                   rw [holds_T]
                   show w.T.Epoch ≤ m.Fresh
                   omega
                 · exact Int.le_refl _
           · simp only [cond_false, cond_true]
             rw [takeQ]
             cases ilt m.Epoch w.T.Epoch || w.Coming.any (isC m.Epoch m.X.P) <;> exact Int.le_refl _
         · simp only [cond_false, cond_true]
           rw [giveS]
           cases ieq m.Epoch w.T.Epoch && !(ilt (atHd w.Held m.P) 0)
           · exact Int.le_refl _
           · rw [cond_true]
             cases w.Held[(atHd w.Held m.P).toNat]? with
             | none => exact Int.le_refl _
             | some y =>
              dsimp only
              rw [giveAt]
              cases y.Wait || (y.Given || ilt (findS m.Ids m.To) 0) <;> exact Int.le_refl _
       · simp only [cond_false, cond_true]
         rw [dataS]
         cases ile w.T.Epoch m.Epoch && ilt (gotS w.Buf m.Epoch m.Step m.Q m.P) 0 <;> exact Int.le_refl _
     · simp only [cond_false, cond_true]
       rw [beginW]
       cases ieq m.Epoch w.T.Epoch <;> exact Int.le_refl _
   · rw [cond_true, loadS]
     cases (tableS j m.Epoch m).2
     · exact Int.le_refl _
     · cases ilt m.Epoch w.T.Epoch
       · cases h : ilt w.T.Epoch m.Epoch
         · simp only [cond_true, cond_false]; rw [hp]; exact Int.le_refl _
         · rw [ilt_iff] at h
           simp only [cond_true, cond_false]
           rw [hp]
           show w.T.Epoch ≤ m.Epoch
           omega
       · exact Int.le_refl _
theorem act_epoch {n : Nat} {w : GWorker} (h : WI g j id n w) (hn : n ≤ 200000) (a : GAct) : w.T.Epoch ≤ (actW g j w a).1.T.Epoch := by
 rw [actW]
 cases ieq a.Kind 0
 · cases ieq a.Kind 1
   · show w.T.Epoch ≤ (leaseS w a.N).T.Epoch
     rw [leaseS]
     cases ilt w.Until a.N <;> exact Int.le_refl _
   · show w.T.Epoch ≤ (tickW g j w a.N).1.T.Epoch
     rw [(wi_tick h hn a.N).2.1]; exact Int.le_refl _
 · exact take_epoch g j w a.M
theorem take_stale {w : GWorker} {m : GMail} (h1 : ile w.T.Epoch m.Epoch = false) (h2 : ieq m.Kind 9 = true → ilt w.T.Epoch m.Fresh = false) : takeW g j w m = w := by
 rw [ile_f] at h1
 have e1 : ilt m.Epoch w.T.Epoch = true := ilt_iff.2 h1
 have e2 : ieq m.Epoch w.T.Epoch = false := ieq_f.2 (by omega)
 have e3 : ile w.T.Epoch m.Epoch = false := ile_f.2 h1
 rw [takeW]
 cases ieq (jcheck g j) 0 && mailR m
 · rfl
 · rw [cond_true, byKind]
   cases ieq m.Kind 1
   · cases ieq m.Kind 3
     · cases ieq m.Kind 4
       · cases ieq m.Kind 6
         · cases ieq m.Kind 7
           · cases h9 : ieq m.Kind 9
             · rfl
             · have h3 := h2 h9
               rw [ilt_f] at h3
               simp only [cond_false, cond_true]
               rw [changeS, ile_iff.2 h3]
               cases (tableS j m.Fresh m).2 <;> rfl
           · simp only [cond_false, cond_true]; rw [takeQ, e1]; rfl
         · simp only [cond_false, cond_true]; rw [giveS, e2]; rfl
       · simp only [cond_false, cond_true]; rw [dataS, e3]; rfl
     · simp only [cond_false, cond_true]; rw [beginW, e2]; rfl
   · rw [cond_true, loadS, e1]
     cases (tableS j m.Epoch m).2 <;> rfl
theorem law6K {K : Nat} (hK : 1000000 ≤ K) (g : GGraph) (j : GJob) (id : Int) (l : List GAct) (m : GMail) (hl : l.length < 4611686018427387904) (hw : ∀ a ∈ l, WGAct a) (hm : WGMail m) : F6 K g j id l m = some true := by
 rw [F6, great_spec, Option.bind_some]
 cases ilt 200 (g.Edges.length : Int)
 · rw [cond_false, F12_spec (by omega), Option.bind_some]
   cases hwide : ilt 100 (wideM m)
   · have hmi := wf_mi hm (wide_fit hwide)
     rw [cond_false]
     let step : Nat → GAct → GWorker → (GWorker → Option (Unit ⊕ WT)) → Option (Unit ⊕ WT) := fun i x w c => (F12 K x.M).bind fun r => bif ilt 100 r then c w else (F13 K g j w x).bind fun r => bif ilt r.1.T.Epoch w.T.Epoch then some (.inl ()) else c r.1
     have hs := scanB 40 rfl (l := l) (L := fun k (w : GWorker) i => F6_l0_0 K l g.N g.Edges j.Prog j.Source j.Limit j.Parts m.Kind m.Epoch m.Fresh m.Step m.P m.Q m.To m.E m.Owners m.Ids m.Incs m.X.P m.X.Step m.X.Vals m.X.Rest m.X.In m.Msgs k w.Id w.Goal w.Until w.T.Epoch w.T.Owners w.T.Ids w.T.Incs w.Held w.Buf w.Coming w.Out i) step (fun w => some (.inr (wt w))) (fun k s i _ => rfl) (by omega) K (GWorker.mk id (-1) 0 noT [] [] [] []) 0 (by omega) (by omega)
     obtain ⟨w, hW, hg⟩ := acts_go (step := step) (fin := fun w => some (.inr (wt w))) l 0 0 (GWorker.mk id (-1) 0 noT [] [] [] []) (fun x hx i n w h hn => by
      have e0 : ∀ c, step i x w c = bif ilt 100 (wideM x.M) then c w else (F13 K g j w x).bind fun r => bif ilt r.1.T.Epoch w.T.Epoch then some (.inl ()) else c r.1 := fun c => by
       show (F12 K x.M).bind _ = _
       rw [F12_spec (by omega)]; rfl
      simp only [e0]
      cases hq : ilt 100 (wideM x.M)
      · have hm := wf_mi (hw x hx).2.2.1 (wide_fit hq)
        refine ⟨_, wi_act h (by omega) hm, fun c => ?_⟩
        rw [cond_false, F13_spec hK h (by omega) hm, Option.bind_some, ilt_f.2 (act_epoch h (by omega) x)]; rfl
      · exact ⟨w, h.up (by omega), fun c => rfl⟩) (wi_new g j id) (by omega)
     rw [List.drop_zero] at hs
     have e : F6_l0_0 K l g.N g.Edges j.Prog j.Source j.Limit j.Parts m.Kind m.Epoch m.Fresh m.Step m.P m.Q m.To m.E m.Owners m.Ids m.Incs m.X.P m.X.Step m.X.Vals m.X.Rest m.X.In m.Msgs K id (-1) 0 0 [] [] [] [] [] [] [] 0 = some (.inr (wt w)) := hs.trans hg
     show ((F6_l0_0 K l g.N g.Edges j.Prog j.Source j.Limit j.Parts m.Kind m.Epoch m.Fresh m.Step m.P m.Q m.To m.E m.Owners m.Ids m.Incs m.X.P m.X.Step m.X.Vals m.X.Rest m.X.In m.Msgs K id (-1) 0 0 [] [] [] [] [] [] [] 0).bind _) = _
     rw [e, Option.bind_some]
     have hsame := same15 hK hW (by omega)
     have has := F16_spec hK w (hW.sml (by omega))
     have htake := F18_spec hK g j w m (hW.sml (by omega)) hW.hx hW.cd (hmi.f.up (by omega)) hmi.p
     have fin : ∀ (hst : takeW g j w m = w), ((F16 K w).bind fun r => (F18 K g j w m).bind fun r' => (F16 K r').bind fun r'' => (F15 K r r'').bind fun b => bif b then some true else some false) = some true := fun hst => by
      rw [has, Option.bind_some, htake, hst, Option.bind_some, has, Option.bind_some, hsame]; rfl
     dsimp only [wt, Sum.elim_inr]
     cases h1 : ile w.T.Epoch m.Epoch
     · cases h9 : ieq m.Kind 9
       · exact fin (take_stale h1 fun h => by rw [h9] at h; cases h)
       · cases hf : ilt w.T.Epoch m.Fresh
         · exact fin (take_stale h1 fun _ => hf)
         · rfl
     · rfl
   · rfl
 · rfl
theorem len_reach {α : Type} {l : List α} {n : Nat} (hn : 0 < n) (h : l.length * n ≤ reachBytes) : l.length < 4611686018427387904 := by
 have : l.length ≤ l.length * n := Nat.le_mul_of_pos_right _ hn
 have : reachBytes ≤ 140737488355328 := by unfold reachBytes; omega
 omega
theorem law6 (g : GGraph) (j : GJob) (id : Int) (l : List GAct) (m : GMail) (_ : WGGraph g) (_ : WGJob j) (_ : (Lit.int .i64 id).wf = true) (hl : l.length * 264 ≤ reachBytes ∧ ∀ y ∈ l, WGAct y) (hm : WGMail m) : F6 1000000 g j id l m = some true :=
 law6K (Nat.le_refl _) g j id l m (len_reach (by omega) hl.1) hl.2 hm
end
end Go.Proofs.Ytbaihlhoedbpkaa.Tm

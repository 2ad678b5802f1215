/- What the row of WorkSeq leans on: printed functions and plain laws. Conditions: none. -/
import Derived.Test.YtnjanliihnadjaaTy
import Derived.Test.YtnjanliihnadjaaTab
import Derived.Test.YtnjanliihnadjaaKn
import Derived.Test.YtnjanliihnadjaaWf
import Derived.IntWalk
import Derived.KernelRfl
import Derived.OpenShut
import Derived.Test.YtnjanliihnadjaaBWorkSeq2
set_option linter.unusedVariables false
set_option linter.unusedSimpArgs false
namespace Go.Proofs.Ytnjanliihnadjaa.Tm
open Go
theorem F121_l0_0_ok (K : Nat) (a1 : GGraph) (a2 : GJob) (a3 : GPart) (r4 : List GMsg) : ∀ (k : Nat) (v5 : Int) (r : (Unit) ⊕ (Unit)), F121_l0_0 K a1 a2 a3 r4 k v5 = some r → (Sum.elim (fun w => LoopEv E H hn121 0 c121_0 (F121_l0_0_S a1 a2 a3 r4 v5) .ret (F121_l0_0_X0 a1 a2 a3 r4 w)) (fun w => LoopEv E H hn121 0 c121_0 (F121_l0_0_S a1 a2 a3 r4 v5) (.exit 0) (F121_l0_0_X1 a1 a2 a3 r4 w))) r := by
 intro k
 induction k with
 | zero => intro v5 r hF; cases hF
 | succ k ih =>
  intro v5 r hF
  rw [F121_l0_0] at hF
  refine cond_some hF (fun h6 hF => ?_) (fun h6 hF => ?_)
  ·
   refine cond_some hF (fun h7 hF => ?_) (fun _ hF => nomatch hF)
   refine bind_some hF (fun x8 h9 hF => ?_)
   have q14 : PQ hn121 fun l => ((tt (ilt v5 (nl r4))) :: (tt (inr v5 (len r4))) :: .sub (flat eGMsg r4) (nidx v5 2) 2 [(i6 x8.To), (i6 x8.V)] :: l) := fun z => ⟨h6, h7, ⟨rfl, sub_flat0 eGMsg_len h9 2 (by decide)⟩, z⟩
   refine cond_some hF (fun h10 hF => ?_) (fun h10 hF => ?_)
   ·
    obtain rfl := sj hF
    have pz : HA hn121 [(bf (ige x8.To a1.N)), (bf (ige x8.To a1.N)), (bf (ige x8.To a1.N)), (bf (ige x8.To a1.N)), (bf (ige x8.To a1.N)), (bf (ige x8.To a1.N)), (bf (ige x8.To a1.N)), (tt (ige x8.To a1.N)), (tt true)] := ⟨(bA (ige_eq h10)), (bA (ige_eq h10)), (bA (ige_eq h10)), (bA (ige_eq h10)), (bA (ige_eq h10)), (bA (ige_eq h10)), (bA (ige_eq h10)), (ige_eq h10), rfl, trivial⟩
    exact lE hn121 0 c121_0 (F121_l0_0_S a1 a2 a3 r4 v5) (F121_l0_0_X0 a1 a2 a3 r4 ()) .ret (q14 pz)
   refine bind_some hF (fun r11 h12 hF => ?_)
   have q15 : PQ hn121 fun l => ((bg (ige x8.To a1.N)) :: (bg (ige x8.To a1.N)) :: (bg (ige x8.To a1.N)) :: (bg (ige x8.To a1.N)) :: .call 75 [.agg (eGJob a2), .one (i6 x8.To)] (F75_res r11) :: (ff (leadsAny (Res.mk [(.one (.im (i6 r11)))] []))) :: (bg (ige x8.To a1.N)) :: (bg (ige x8.To a1.N)) :: (bg (ige x8.To a1.N)) :: (ff (ige x8.To a1.N)) :: l) := fun z => ⟨(bB (ige_eq h10)), (bB (ige_eq h10)), (bB (ige_eq h10)), (bB (ige_eq h10)), (F75_ok K a2 x8.To _ h12), lk, (bB (ige_eq h10)), (bB (ige_eq h10)), (bB (ige_eq h10)), (ige_eq h10), z⟩
   refine cond_some hF (fun h13 hF => ?_) (fun h13 hF => ?_)
   ·
    have pz : HA hn121 [(ff (ine r11 a3.P)), .int (wadd .i64 v5 1) (wadd .i64 v5 1)] := ⟨(ine_t h13), rfl, trivial⟩
    have h0 := ih _ _ hF
    have hn := lN hn121 0 c121_0 (F121_l0_0_S a1 a2 a3 r4 v5) (F121_l0_0_S a1 a2 a3 r4 (wadd .i64 v5 1)) (q14 (q15 pz))
    cases r with
    | inl w => exact hn _ _ h0
    | inr w => exact hn _ _ h0
   obtain rfl := sj hF
   have pz : HA hn121 [(tt (ine r11 a3.P))] := ⟨(ine_f h13), trivial⟩
   exact lE hn121 0 c121_0 (F121_l0_0_S a1 a2 a3 r4 v5) (F121_l0_0_X0 a1 a2 a3 r4 ()) .ret (q14 (q15 pz))
  obtain rfl := sj hF
  have pz : HA hn121 [(ff (ilt v5 (nl r4)))] := ⟨h6, trivial⟩
  exact lE hn121 0 c121_0 (F121_l0_0_S a1 a2 a3 r4 v5) (F121_l0_0_X1 a1 a2 a3 r4 ()) (.exit 0) pz
def F121 (K : Nat) (a1 : GGraph) (a2 : GJob) (a3 : GPart) (a4 : List (List GMsg)) : Option (GPart × Int) :=
 (F94 K a1 a2).bind fun r5 =>
 bif (ieq r5 0) then
  ((F80 K a1 a2 a3).bind fun r6 =>
  bif r6 then
   (bif (ilt 0 (nlen (len a3.In))) then
    (some ((GPart.mk 0 0 [] [] []), 1))
   else
   (F154 K a4).bind fun r7 =>
   (F121_l0_0 K a1 a2 a3 r7 K 0).bind fun y8 =>
   Sum.elim (fun w9 =>
    some ((GPart.mk 0 0 [] [] []), 1))
    (fun w10 =>
    (F150 K a2.Prog r7).bind fun r11 =>
    bif (ieq r11.2 0) then
     ((F155 K a3).bind fun r12 =>
     some ((GPart.mk r12.P r12.Step r12.Vals r12.Rest r11.1), 0))
    else
    some ((GPart.mk 0 0 [] [] []), r11.2)) y8)
  else
  some ((GPart.mk 0 0 [] [] []), 1))
 else
 some ((GPart.mk 0 0 [] [] []), r5)
theorem F121_ok (K : Nat) (a1 : GGraph) (a2 : GJob) (a3 : GPart) (a4 : List (List GMsg)) (r : GPart × Int) (hF : F121 K a1 a2 a3 a4 = some r) : Evt E H 121 [.agg (eGGraph a1), .agg (eGJob a2), .agg (eGPart a3), .one (.sl (len a4) (flat (eSl eGMsg) a4))] (F121_res r) := by
 rw [F121] at hF
 refine bind_some hF (fun r5 h6 hF => ?_)
 refine cond_some hF (fun h7 hF => ?_) (fun h7 hF => ?_)
 ·
  refine bind_some hF (fun r8 h9 hF => ?_)
  have q23 : PQ hn121 fun l => (.call 94 [.agg (eGGraph a1), .agg (eGJob a2)] (F94_res r5) :: (ff (leadsAny (Res.mk [(.one (.im (i6 r5)))] []))) :: (ff (ine r5 0)) :: .call 80 [.agg (eGGraph a1), .agg (eGJob a2), .agg (eGPart a3)] (F80_res r8) :: (ff (leadsAny (Res.mk [(.one (.im (.lit (.bool r8))))] []))) :: l) := fun z => ⟨(F94_ok K a1 a2 _ h6), lk, (ine_t h7), (F80_ok K a1 a2 a3 _ h9), lk, z⟩
  refine cond_some hF (fun h10 hF => ?_) (fun h10 hF => ?_)
  ·
   have q24 : PQ hn121 fun l => ((bg (bnot r8)) :: (bg (bnot r8)) :: (bg (bnot r8)) :: .int (nl a3.In) (nl a3.In) :: (bg (bnot r8)) :: (ff (bnot r8)) :: l) := fun z => ⟨(bB (bnot_t h10)), (bB (bnot_t h10)), (bB (bnot_t h10)), rfl, (bB (bnot_t h10)), (bnot_t h10), z⟩
   refine cond_some hF (fun h11 hF => ?_) (fun h11 hF => ?_)
   ·
    obtain rfl := sj hF
    have pz : HA hn121 [(tt (igt (nl a3.In) 0))] := ⟨(igt_eq h11), trivial⟩
    exact fpC hn121 (r := F121_res ((GPart.mk 0 0 [] [] []), 1)) (q23 (q24 pz))
   refine bind_some hF (fun r12 h13 hF => ?_)
   have q25 : PQ hn121 fun l => ((ff (igt (nl a3.In) 0)) :: .call 154 [.one (.sl (len a4) (flat (eSl eGMsg) a4))] (F154_res r12) :: (ff (leadsAny (Res.mk [(.one (.own 130 (.sl (len r12) (flat eGMsg r12))))] []))) :: .int (nl r12) (nl r12) :: l) := fun z => ⟨(igt_eq h11), (F154_ok K a4 _ h13), lk, rfl, z⟩
   refine bind_some hF (fun y15 h14 hF => ?_)
   refine sum_some hF (fun w16 hx hF => ?_) (fun w17 hx hF => ?_)
   ·
    subst hx
    obtain rfl := sj hF
    have pz : HA hn121 [.loop 0 c121_0 (F121_l0_0_S a1 a2 a3 r12 0) .ret (F121_l0_0_X0 a1 a2 a3 r12 w16)] := ⟨(F121_l0_0_ok K a1 a2 a3 r12 K 0 _ h14), trivial⟩
    exact fpC hn121 (r := F121_res ((GPart.mk 0 0 [] [] []), 1)) (q23 (q24 (q25 pz)))
   subst hx
   refine bind_some hF (fun r18 h19 hF => ?_)
   have q26 : PQ hn121 fun l => (.loop 0 c121_0 (F121_l0_0_S a1 a2 a3 r12 0) (.exit 0) (F121_l0_0_X1 a1 a2 a3 r12 w17) :: .call 150 [.one (i6 a2.Prog), .one (.sl (len r12) (flat eGMsg r12))] (F150_res r18) :: (ff (leadsAny (Res.mk [(.one (.own 130 (.sl (len r18.1) (flat eGMsg r18.1)))), (.one (.im (i6 r18.2)))] []))) :: l) := fun z => ⟨(F121_l0_0_ok K a1 a2 a3 r12 K 0 _ h14), (F150_ok K a2.Prog r12 _ h19), lk, z⟩
   refine cond_some hF (fun h20 hF => ?_) (fun h20 hF => ?_)
   ·
    refine bind_some hF (fun r21 h22 hF => ?_)
    obtain rfl := sj hF
    have pz : HA hn121 [(ff (ine r18.2 0)), .call 155 [.agg (eGPart a3)] (F155_res r21)] := ⟨(ine_t h20), (F155_ok K a3 _ h22), trivial⟩
    exact fpC hn121 (r := F121_res ((GPart.mk r21.P r21.Step r21.Vals r21.Rest r18.1), 0)) (q23 (q24 (q25 (q26 pz))))
   obtain rfl := sj hF
   have pz : HA hn121 [(tt (ine r18.2 0))] := ⟨(ine_f h20), trivial⟩
   exact fpC hn121 (r := F121_res ((GPart.mk 0 0 [] [] []), r18.2)) (q23 (q24 (q25 (q26 pz))))
  obtain rfl := sj hF
  have pz : HA hn121 [(bf (bnot r8)), (bf (bnot r8)), (bf (bnot r8)), (bf (bnot r8)), (tt (bnot r8)), (tt true)] := ⟨(bA (bnot_f h10)), (bA (bnot_f h10)), (bA (bnot_f h10)), (bA (bnot_f h10)), (bnot_f h10), rfl, trivial⟩
  exact fpC hn121 (r := F121_res ((GPart.mk 0 0 [] [] []), 1)) (q23 pz)
 obtain rfl := sj hF
 have pz : HA hn121 [.call 94 [.agg (eGGraph a1), .agg (eGJob a2)] (F94_res r5), (ff (leadsAny (Res.mk [(.one (.im (i6 r5)))] []))), (tt (ine r5 0))] := ⟨(F94_ok K a1 a2 _ h6), lk, (ine_f h7), trivial⟩
 exact fpC hn121 (r := F121_res ((GPart.mk 0 0 [] [] []), r5)) pz
def zeroP : GPart := GPart.mk 0 0 [] [] []
def takeOk (n parts p : Int) (l : List GMsg) : Bool := l.all fun m => ile 0 m.To && (ilt m.To n && ieq (m.To % parts) p)
def takeB (j : GJob) (x : GPart) (l : List GMsg) : GPart × Int := bif ieq (boxS j.Prog l).2 0 then (GPart.mk x.P x.Step x.Vals x.Rest (boxS j.Prog l).1, 0) else (zeroP, (boxS j.Prog l).2)
def takeS (g : GGraph) (j : GJob) (x : GPart) (l : List GMsg) : GPart × Int :=
 bif ieq (jcheck g j) 0 then (bif partRight g j x then (bif ieq (nlen (len x.In)) 0 then (bif takeOk g.N j.Parts x.P l then takeB j x l else (zeroP, 1)) else (zeroP, 1)) else (zeroP, 1)) else (zeroP, jcheck g j)
theorem takeOk_perm {n parts p : Int} {l l' : List GMsg} (h : l.Perm l') : takeOk n parts p l = takeOk n parts p l' := by
 rw [Bool.eq_iff_iff]
 simp only [takeOk, List.all_eq_true]
 exact ⟨fun q m hm => q m (h.mem_iff.2 hm), fun q m hm => q m (h.mem_iff.1 hm)⟩
theorem boxS_perm {p : Int} {l l' : List GMsg} (h : l.Perm l') : boxS p l = boxS p l' := by
 rw [boxS, boxS, sortM_congr h]
theorem F154_spec {K : Nat} (ls : List (List GMsg)) (h1 : ls.length < 10000) (h2 : ls.length < K) (h3 : (ls.flatten).length < 10000) (h4 : (ls.flatten).length < K) : F154 K ls = some (sortM ls.flatten) := by
 let step : List GMsg → List GMsg → (List GMsg → Option (List GMsg)) → Option (List GMsg) := fun x a c => bif (apok (len a) (len x) 16) then c (appL a x) else none
 have h := scanL (l := ls) (L := fun k s i => F154_l0_0 K ls k s i) step (fun s => some s) (fun k s i _ => rfl) (by omega) h2 []
 have hw : ∀ (r : List (List GMsg)) (a : List GMsg), a.length + r.flatten.length < 100000 → goL step (fun s => some s) r a = some (a ++ r.flatten) := by
  intro r
  induction r with
  | nil => intro a _; simp [goL]
  | cons x r ih =>
   intro a ha
   rw [List.flatten_cons, List.length_append] at ha
   rw [goL]
   show (bif (apok (len a) (len x) 16) then goL step (fun s => some s) r (appL a x) else none) = _
   have ap : apok (len a) (len x) 16 = true := decide_eq_true ⟨by show a.length + x.length ≤ _; omega, by show (a.length + x.length) * 16 ≤ _; omega⟩
   rw [ap, cond_true, ih _ (by simp only [appL, List.length_append]; omega)]; simp [appL]
 rw [hw ls [] (by simp only [List.length_nil]; omega), List.nil_append] at h
 have h' : F154_l0_0 K ls K [] 0 = some ls.flatten := h
 rw [F154, h', Option.bind_some, F169_spec _ h4 h3]; rfl
theorem F121_loop {K : Nat} (g : GGraph) (j : GJob) (x : GPart) (l : List GMsg) (hp : 1 ≤ j.Parts) (h6 : j.Parts ≤ 6) (h0 : 0 ≤ x.P) (hl : l.length < 1000000) (hK : l.length < K) : F121_l0_0 K g j x l K 0 = some (sumU (takeOk g.N j.Parts x.P l)) := by
 let step : GMsg → Unit → (Unit → Option (Unit ⊕ Unit)) → Option (Unit ⊕ Unit) := fun m _ c =>
  bif (ile g.N m.To) then (some (.inl ())) else (F75 K j m.To).bind fun r => bif (ieq r x.P) then c () else some (.inl ())
 have h := scanL (l := l) (L := fun k (_ : Unit) i => F121_l0_0 K g j x l k i) step (fun _ => some (.inr ())) (fun k s i _ => rfl) (by omega) (K := K) hK ()
 have hw : ∀ (r : List GMsg), goL step (fun _ => some (.inr ())) r () = some (sumU (takeOk g.N j.Parts x.P r)) := by
  intro r
  induction r with
  | nil => rfl
  | cons m r ih =>
   rw [goL]
   show (bif (ile g.N m.To) then (some (.inl ())) else (F75 K j m.To).bind fun r' => bif (ieq r' x.P) then goL step (fun _ => some (.inr ())) r () else some (.inl ())) = _
   rw [F75_spec, ih, Option.bind_some, not_ile, homeS, ilt_f.2 hp, ilt_f.2 h6, takeOk, takeOk, List.all_cons, ilt_not' m.To 0]
   cases h1 : ilt m.To g.N
   · cases ile 0 m.To <;> rfl
   · cases h2 : ile 0 m.To
     · rw [Bool.not_false, Bool.true_or, cond_true, ieq_f.2 (by omega : (-1 : Int) ≠ x.P)]; rfl
     · simp only [Bool.not_true, Bool.false_or, cond_false, Bool.true_and]
       cases ieq (m.To % j.Parts) x.P <;> rfl
 rw [hw] at h
 exact h
theorem sumU_bind {α : Type} (b : Bool) (x : Option α) (y : Option α) : (some (sumU b)).bind (fun z => Sum.elim (fun _ => x) (fun _ => y) z) = bif b then y else x := by cases b <;> rfl
theorem F121_spec {K : Nat} (hK : 1000 ≤ K) (g : GGraph) (j : GJob) (x : GPart) (ls : List (List GMsg)) (hp : i64 x.P) (hx : x.In.length ≤ 300) (hv : x.Vals.length ≤ 100) (hr : x.Rest.length ≤ 100)
 (h1 : ls.length < 1000) (h3 : (ls.flatten).length < 10000) (h4 : (ls.flatten).length < K) (hs : ∀ m ∈ ls.flatten, i64 m.V) : F121 K g j x ls = some (takeS g j x ls.flatten) := by
 rw [F121, F94_spec (by omega), F80_spec hK g j x (by omega) (by omega) hp, Option.bind_some, Option.bind_some, takeS]
 cases hc : ieq (jcheck g j) 0
 · rfl
 · cases hR : partRight g j x
   · rfl
   · obtain ⟨_, p1, p2, _⟩ := partRight_ok hR
     obtain ⟨hg, _, _, _, _, _, _, p7, p8⟩ := jcheck_ok hc
     have hsl := sortM_len ls.flatten
     have e1 : ilt 0 (nlen (len x.In)) = !(ieq (nlen (len x.In)) 0) := by
      show ilt 0 (x.In.length : Int) = !(ieq (x.In.length : Int) 0)
      cases x.In.length with
      | zero => rfl
      | succ n => rw [ilt_iff.2 (by omega), ieq_f.2 (by omega)]; rfl
     have ap1 : apok 0 (len x.Vals) 8 = true := decide_eq_true ⟨by show 0 + x.Vals.length ≤ _; omega, by show (0 + x.Vals.length) * 8 ≤ _; omega⟩
     have ap2 : apok 0 (len x.Rest) 1 = true := decide_eq_true ⟨by show 0 + x.Rest.length ≤ _; omega, by show (0 + x.Rest.length) * 1 ≤ _; omega⟩
     have hso : ∀ m ∈ sortM ls.flatten, i64 m.V := fun m hm => hs m ((sortM_perm _).mem_iff.1 hm)
     simp only [cond_true, e1, F154_spec ls (show ls.length < 10000 by omega) (show ls.length < K by omega) h3 h4, Option.bind_some]
     rw [F121_loop g j x _ p7 p8 p1 (by omega) (by omega), F150_spec j.Prog (sortM ls.flatten) hso (by omega) (by omega), sumU_bind, F155, ap1, ap2, takeOk_perm (sortM_perm ls.flatten), boxS_perm (sortM_perm ls.flatten)]
     cases ieq (nlen (len x.In)) 0
     · rfl
     · cases takeOk g.N j.Parts x.P ls.flatten
       · rfl
       · rw [takeB]
         simp only [cond_true, Option.bind_some, Bool.not_true, cond_false]
         cases ieq (boxS j.Prog ls.flatten).2 0 <;> rfl
def st112 (K : Nat) (g : GGraph) (j : GJob) (s : GState) (i : Nat) (w : Tri) (c : Tri → Option (Int ⊕ Tri)) : Option (Int ⊕ Tri) :=
 (F149 K s.In (i : Int)).bind fun r5234 =>
 bif (inr (i : Int) (len s.Rest)) then
 (elAt s.Rest (i : Int)).bind fun x5237 =>
 bif x5237 then
  (bif r5234.2 then
   (bif (inr (i : Int) (len s.Vals)) then
   (elAt s.Vals (i : Int)).bind fun x5242 =>
   (F99 K g j s.Step (i : Int) x5242 r5234.1 r5234.2).bind fun r5244 =>
   bif (ieq r5244.2.2.2 0) then
    (bif (inr (i : Int) (len w.1)) then
    (elAt w.1 (i : Int)).bind fun x5248 =>
    bif (inr (i : Int) (len w.2.1)) then
    (elAt w.2.1 (i : Int)).bind fun x5251 =>
    bif (apok (len w.2.2) (len r5244.2.1) 16) then
    c (putAt w.1 (i : Int) r5244.1, putAt w.2.1 (i : Int) r5244.2.2.1, appL w.2.2 r5244.2.1)
    else none
    else none
    else none)
   else
   some (.inl r5244.2.2.2)
   else none)
  else
  bif (inr (i : Int) (len w.2.1)) then
  (elAt w.2.1 (i : Int)).bind fun x5255 =>
  c (w.1, putAt w.2.1 (i : Int) true, w.2.2)
  else none)
 else
 bif (inr (i : Int) (len s.Vals)) then
 (elAt s.Vals (i : Int)).bind fun x5258 =>
 (F99 K g j s.Step (i : Int) x5258 r5234.1 r5234.2).bind fun r5260 =>
 bif (ieq r5260.2.2.2 0) then
  (bif (inr (i : Int) (len w.1)) then
  (elAt w.1 (i : Int)).bind fun x5264 =>
  bif (inr (i : Int) (len w.2.1)) then
  (elAt w.2.1 (i : Int)).bind fun x5267 =>
  bif (apok (len w.2.2) (len r5260.2.1) 16) then
  c (putAt w.1 (i : Int) r5260.1, putAt w.2.1 (i : Int) r5260.2.2.1, appL w.2.2 r5260.2.1)
  else none
  else none
  else none)
 else
 some (.inl r5260.2.2.2)
 else none
 else none
theorem put_mid {α : Type} (a : List α) (x y : α) (r : List α) (i : Nat) (h : a.length = i) : inr (i : Int) (len (a ++ x :: r)) = true ∧ elAt (a ++ x :: r) (i : Int) = some x ∧ putAt (a ++ x :: r) (i : Int) y = (a ++ [y]) ++ r := by
 subst h
 refine ⟨decide_eq_true ⟨by omega, by show (a.length : Int) < ((a ++ x :: r).length : Int); rw [List.length_append, List.length_cons]; omega⟩, ?_, ?_⟩
 · rw [elAt_nat]; simp
 · unfold putAt
   rw [Int.toNat_natCast, List.set_append_right (h := by omega)]; simp
theorem go112 {K : Nat} (hK : 1000 ≤ K) (g : GGraph) (j : GJob) (s : GState) (hr : stRight g j s = true) (hn : niceS s) : ∀ (n i : Nat) (a : List Int) (b : List Bool) (c : List GMsg), i + n = g.N.toNat → keepS g i a b c →
 goL (st112 K g j s) (fun w => some (.inr w)) (List.range' i n) (a ++ s.Vals.drop i, b ++ List.replicate n false, c) = some (stepA g j s (List.range' i n) a b c) := by
 obtain ⟨hc, s1, s2, s3, s4, s5⟩ := stRight_ok hr
 obtain ⟨hg, _⟩ := jcheck_ok hc
 obtain ⟨g1, g2, g3, _⟩ := gcheck_ok hg
 have hil := inSt_len s5 (by omega)
 intro n
 induction n with
 | zero =>
  intro i a b c hin _
  have : s.Vals.drop i = [] := List.drop_eq_nil_of_le (by omega)
  rw [this, List.append_nil]
  show goL (st112 K g j s) (fun w => some (.inr w)) [] (a, b ++ [], c) = _
  rw [List.append_nil]; rfl
 | succ n ih =>
  intro i a b c hin h
  have hlc := keep_len h g3
  have hnx := keep_next (j := j) hn h
  have hlc2 := keep_len hnx g3
  rw [List.length_append] at hlc2
  obtain ⟨la, lb, _, _, _⟩ := h
  obtain ⟨v1, v2⟩ := elAt_get (l := s.Vals) (i := i) (by omega) 0
  obtain ⟨r1, r2⟩ := elAt_get (l := s.Rest) (i := i) (by omega) false
  have hdr : s.Vals.drop i = s.Vals.getD i 0 :: s.Vals.drop (i + 1) := by
   rw [List.drop_eq_getElem_cons (by omega : i < s.Vals.length), List.getD_eq_getElem?_getD, List.getElem?_eq_getElem (by omega : i < s.Vals.length)]; rfl
  have a4 : apok (len c) (len (oneS g j s i).2.1) 16 = true := decide_eq_true ⟨by show c.length + (oneS g j s i).2.1.length ≤ _; omega, by show (c.length + (oneS g j s i).2.1.length) * 16 ≤ _; omega⟩
  obtain ⟨m1, m2, m3⟩ := put_mid a (s.Vals.getD i 0) (oneS g j s i).1 (s.Vals.drop (i + 1)) i la
  obtain ⟨n1, n2, n3⟩ := put_mid b false (oneS g j s i).2.2.1 (List.replicate n false) i lb
  have hx : i64 (s.Vals.getD i 0) := by
   rw [List.getD_eq_getElem?_getD]
   cases hq : s.Vals[i]? with
   | none => show i64 0; unfold i64; omega
   | some x => exact hn.1 x (List.mem_of_getElem? hq)
  have hat := atS_i64 (l := s.In) (v := (i : Int)) hn.2
  have nx := ih (i + 1) _ _ _ (by omega) hnx
  have f99 := F99_spec (K := K) (by omega) g j s.Step (i : Int) (atS s.In (i : Int)).2 hx hat
  rw [List.range'_succ, hdr, List.replicate_succ, goL, st112, stepA, F149_spec s.In (i : Int) (by omega) (by omega), v1, v2, r1, r2]
  simp only [cond_true, Option.bind_some, f99, m1, m2, n1, n2]
  cases hs : (atS s.In (i : Int)).2
  · cases hy : s.Rest.getD i false
    · have hT : oneS g j s i = turnS g j s.Step (i : Int) (s.Vals.getD i 0) (atS s.In (i : Int)).1 false := by rw [oneS, hy, hs]; rfl
      rw [hT] at a4 nx m3 n3 ⊢
      simp only [cond_false, a4, cond_true, m3, n3]
      cases ieq (turnS g j s.Step (i : Int) (s.Vals.getD i 0) (atS s.In (i : Int)).1 false).2.2.2 0
      · rfl
      · exact nx
    · have hT : oneS g j s i = (s.Vals.getD i 0, [], true, 0) := by rw [oneS, hy, hs]; rfl
      rw [hT] at nx n3 ⊢
      simp only [cond_false, cond_true, n3, ieq_refl]
      have e1 : a ++ s.Vals.getD i 0 :: s.Vals.drop (i + 1) = a ++ [s.Vals.getD i 0] ++ s.Vals.drop (i + 1) := by simp
      rw [e1]
      simp only [List.append_nil] at nx ⊢
      exact nx
  · have hT : oneS g j s i = turnS g j s.Step (i : Int) (s.Vals.getD i 0) (atS s.In (i : Int)).1 true := by rw [oneS, hs, Bool.not_true, Bool.and_false]; rfl
    rw [hT] at a4 nx m3 n3 ⊢
    simp only [cond_false, a4, cond_true, m3, n3]
    cases s.Rest.getD i false <;> cases ieq (turnS g j s.Step (i : Int) (s.Vals.getD i 0) (atS s.In (i : Int)).1 true).2.2.2 0 <;> first | rfl | exact nx
theorem F112_spec {K : Nat} (hK : 1000 ≤ K) (g : GGraph) (j : GJob) (s : GState) (hn : niceS s) (hl : s.In.length < 1000000) (hk : s.In.length < K) : F112 K g j s = some (stepS g j s) := by
 rw [F112, F94_spec (by omega), F104_spec hK g j s hl hk, Option.bind_some, Option.bind_some, stepS]
 cases hc : ieq (jcheck g j) 0
 · rfl
 · cases hr : stRight g j s
   · rfl
   · cases h40 : ieq s.Step 40
     · obtain ⟨_, s1, s2, s3, s4, s5⟩ := stRight_ok hr
       obtain ⟨hg, _⟩ := jcheck_ok hc
       obtain ⟨g1, g2, g3, _⟩ := gcheck_ok hg
       have h := scanN (N := g.N) (L := fun k (w : Tri) i => F112_l0_0 K g j s k w.1 w.2.1 w.2.2 i) (st112 K g j s) (fun w => some (.inr w)) (fun k w i _ => rfl) (by omega) (K := K) (by omega) (s.Vals, List.replicate g.N.toNat false, [])
       have h' : F112_l0_0 K g j s K (appL [] s.Vals) (repL (α := Bool) g.N false) [] 0 = some (stepA g j s (List.range g.N.toNat) [] [] []) := by
        rw [show F112_l0_0 K g j s K (appL [] s.Vals) (repL (α := Bool) g.N false) [] 0 = _ from h, List.range_eq_range']
        exact go112 hK g j s hr hn g.N.toNat 0 [] [] [] (by omega) (keep0 g)
       have a1 : apok 0 (len s.Vals) 8 = true := decide_eq_true ⟨by show 0 + s.Vals.length ≤ _; omega, by show (0 + s.Vals.length) * 8 ≤ _; omega⟩
       have hmk : mkok g.N g.N 1 = true := by simp [mkok]; omega
       simp only [cond_true, cond_false, h', Option.bind_some, a1, hmk]
       cases hA : stepA g j s (List.range g.N.toNat) [] [] [] with
       | inl e => rfl
       | inr w =>
        rw [List.range_eq_range'] at hA
        have kw := stepA_keep hn g.N.toNat 0 [] [] [] (keep0 g) w hA
        have hwl := keep_len kw g3
        have hw : wadd .i64 s.Step 1 = s.Step + 1 := wadd_i64 (by unfold i64; omega)
        simp only [Sum.elim_inr, F150_spec j.Prog w.2.2 kw.vc (show w.2.2.length < K by omega) (by omega), Option.bind_some, stepB, hw]
        cases ieq (boxS j.Prog w.2.2).2 0 <;> rfl
     · rfl
def ltN (v : Int) (l : List GMsg) : Nat := (l.filter fun m => ilt m.To v).length
theorem ptr : ∀ {l : List GMsg}, l.Pairwise (fun a b => a.To < b.To) → ∀ v : Int,
 (∃ m, l[ltN v l]? = some m ∧ m.To = v ∧ (l.filter fun m => ieq m.To v) = [m] ∧ ltN (v + 1) l = ltN v l + 1) ∨
 ((∀ m, l[ltN v l]? = some m → m.To ≠ v) ∧ (l.filter fun m => ieq m.To v) = [] ∧ ltN (v + 1) l = ltN v l)
 | [], _, v => .inr ⟨fun m h => (nomatch h), rfl, rfl⟩
 | a :: r, h, v => by
  obtain ⟨h1, h2⟩ := List.pairwise_cons.1 h
  by_cases hlt : a.To < v
  · have e1 : ltN v (a :: r) = ltN v r + 1 := by unfold ltN; rw [List.filter_cons, ilt_iff.2 hlt]; rfl
    have e2 : ltN (v + 1) (a :: r) = ltN (v + 1) r + 1 := by unfold ltN; rw [List.filter_cons, ilt_iff.2 (by omega : a.To < v + 1)]; rfl
    have e3 : ((a :: r).filter fun m => ieq m.To v) = r.filter fun m => ieq m.To v := by rw [List.filter_cons, ieq_f.2 (by omega : a.To ≠ v)]; rfl
    rw [e1, e2, e3, List.getElem?_cons_succ]
    rcases ptr h2 v with ⟨m, a1, a2, a3, a4⟩ | ⟨a1, a2, a3⟩
    · exact .inl ⟨m, a1, a2, a3, by omega⟩
    · exact .inr ⟨a1, a2, by omega⟩
  · have hr : ∀ w, w ≤ v + 1 → v ≤ a.To → ltN w r = 0 := fun w hw hv => by
     unfold ltN
     rw [List.length_eq_zero_iff, List.filter_eq_nil_iff]
     intro x hx hc
     have := h1 x hx
     have := ilt_iff.1 hc
     omega
    have e1 : ltN v (a :: r) = 0 := by
     have := hr v (by omega) (by omega)
     unfold ltN at this ⊢
     rw [List.filter_cons, ilt_f.2 (by omega : v ≤ a.To)]; exact this
    have h3 : (r.filter fun m => ieq m.To v) = [] := by
     rw [List.filter_eq_nil_iff]
     intro x hx hc
     have := h1 x hx
     have := ieq_iff.1 hc
     omega
    by_cases he : a.To = v
    · left
      have e2 : ltN (v + 1) (a :: r) = 1 := by
       have := hr (v + 1) (by omega) (by omega)
       unfold ltN at this ⊢
       rw [List.filter_cons, ilt_iff.2 (by omega : a.To < v + 1), if_pos rfl, List.length_cons, this]
      refine ⟨a, by rw [e1]; rfl, he, ?_, by omega⟩
      rw [List.filter_cons, ieq_iff.2 he, if_pos rfl, h3]
    · right
      have e2 : ltN (v + 1) (a :: r) = 0 := by
       have := hr (v + 1) (by omega) (by omega)
       unfold ltN at this ⊢
       rw [List.filter_cons, ilt_f.2 (by omega : v + 1 ≤ a.To)]; exact this
      refine ⟨fun m hm => ?_, ?_, by omega⟩
      · rw [e1] at hm; cases hm; exact he
      · rw [List.filter_cons, ieq_f.2 he, h3]; rfl
def marks (l : List GPart) (m v : Nat) : List Int := (List.range m).map fun p => ((ltN (v : Int) (l.getD p noP).In : Nat) : Int)
theorem set_range {α : Type} (f : Nat → α) (m p : Nat) (y : α) : ((List.range m).map f).set p y = (List.range m).map fun q => if q = p then y else f q := by
 apply List.ext_getElem?
 intro i
 rw [List.getElem?_set, List.getElem?_map, List.getElem?_map, List.length_map, List.length_range]
 by_cases hi : i < m
 · rw [List.getElem?_range hi]
   by_cases hp : p = i
   · subst hp; simp [hi]
   · have : ¬ i = p := fun e => hp e.symm
     simp [hp, this]
 · rw [List.getElem?_eq_none (by simp; omega)]
   by_cases hp : p = i
   · subst hp; simp [hi]
   · simp [hp]
theorem ltN_other {l : List GMsg} {v : Int} (h : ∀ m ∈ l, m.To ≠ v) : ltN (v + 1) l = ltN v l := by
 unfold ltN
 congr 1
 refine List.filter_congr fun m hm => ?_
 have := h m hm
 rw [Bool.eq_iff_iff, ilt_iff, ilt_iff]; omega
theorem F85_loop {K : Nat} (hK : 1000 ≤ K) (g : GGraph) (j : GJob) (l : List GPart) (x0 : GPart) {st : Int} (hc : ieq (jcheck g j) 0 = true) (hl : (l.length : Int) = j.Parts) (h : okAll g j st 0 l = true) :
 F85_l1_1 K g j l x0 K [] [] [] (repL j.Parts 0) 0 = some ((joinS g j l).Vals, (joinS g j l).Rest, (joinS g j l).In) := by
 obtain ⟨hg, p1, p2, p3, p4, p5, p6, p7, p8⟩ := jcheck_ok hc
 obtain ⟨g1, g2, _, _⟩ := gcheck_ok hg
 obtain ⟨m, hm⟩ := Int.eq_ofNat_of_zero_le (show 0 ≤ j.Parts by omega)
 have hmt : j.Parts.toNat = m := by omega
 let step : Nat → List Int × List Bool × List GMsg × List Int → (List Int × List Bool × List GMsg × List Int → Option (List Int × List Bool × List GMsg)) → Option (List Int × List Bool × List GMsg) := fun v s c =>
  bif (izero j.Parts) then none else
  bif (inr (wrem (v : Int) j.Parts) (len l)) then
  (elAt l (wrem (v : Int) j.Parts)).bind fun x3705 =>
  bif (inr (wquo .i64 (v : Int) j.Parts) (len x3705.Vals)) then
  (elAt x3705.Vals (wquo .i64 (v : Int) j.Parts)).bind fun x3708 =>
  bif (apok (len s.1) 1 8) then
  bif (inr (wquo .i64 (v : Int) j.Parts) (len x3705.Rest)) then
  (elAt x3705.Rest (wquo .i64 (v : Int) j.Parts)).bind fun x3712 =>
  bif (apok (len s.2.1) 1 1) then
  bif (inr x3705.P (len s.2.2.2)) then
  (elAt s.2.2.2 x3705.P).bind fun x3716 =>
  bif (ilt x3716 (nlen (len x3705.In))) then
   (bif (inr x3716 (len x3705.In)) then
   (elAt x3705.In x3716).bind fun x3720 =>
   bif (ieq x3720.To (v : Int)) then
    (bif (apok (len s.2.2.1) 1 16) then
    c (appL s.1 [x3708], appL s.2.1 [x3712], appL s.2.2.1 [x3720], putAt s.2.2.2 x3705.P (wadd .i64 x3716 1))
    else none)
   else c (appL s.1 [x3708], appL s.2.1 [x3712], s.2.2.1, s.2.2.2)
   else none)
  else c (appL s.1 [x3708], appL s.2.1 [x3712], s.2.2.1, s.2.2.2)
  else none
  else none
  else none
  else none
  else none
  else none
 let fin : List Int × List Bool × List GMsg × List Int → Option (List Int × List Bool × List GMsg) := fun s => some (s.1, s.2.1, s.2.2.1)
 have hs := scanN (N := g.N) (L := fun k (s : List Int × List Bool × List GMsg × List Int) i => F85_l1_1 K g j l x0 k s.1 s.2.1 s.2.2.1 s.2.2.2 i) step fin (fun k s i _ => rfl) (by omega) (K := K) (by omega) ([], [], [], repL j.Parts 0)
 have hw : ∀ (n v : Nat) (a : List Int) (b : List Bool) (q : List GMsg), (v : Int) + n = g.N → a.length + n ≤ 100 → b.length + n ≤ 100 → q.length + 100 * n ≤ 10000 →
  goL step fin (List.range' v n) (a, b, q, marks l m v) = some (a ++ (List.range' v n).map (fun v => (partAt l j v).Vals.getD (v / j.Parts.toNat) 0), b ++ (List.range' v n).map (fun v => (partAt l j v).Rest.getD (v / j.Parts.toNat) false), q ++ (List.range' v n).flatMap fun (v : Nat) => (partAt l j v).In.filter fun m => ieq m.To (v : Int)) := by
  intro n
  induction n with
  | zero => intro v a b q _ _ _ _; simp [goL, fin]
  | succ n ih =>
   intro v a b q hv ha hb hq
   have ja := joinAt hc hl h (show (v : Int) < g.N by omega)
   obtain ⟨_, r1, r2, r3, r4, r5, r6, r7⟩ := partRight_ok ja.pr
   obtain ⟨q1, q2⟩ := inOkS_ok r7
   have hpm : v % m < m := Nat.mod_lt v (by omega)
   have hpa : partAt l j v = l.getD (v % m) noP := by unfold partAt; rw [hmt]
   have hpp : (partAt l j v).P = ((v % m : Nat) : Int) := by rw [ja.pp, hmt]
   obtain ⟨k1, k2⟩ := getD_at (l := marks l m v) 0 (show v % m < _ by simp [marks]; exact hpm)
   have k3 : (marks l m v).getD (v % m) 0 = ((ltN (v : Int) (partAt l j v).In : Nat) : Int) := by
    rw [hpa]; simp [marks, List.getD, hpm]
   rw [k3] at k2
   have hother : ∀ p, p < m → p ≠ v % m → ltN ((v + 1 : Nat) : Int) (l.getD p noP).In = ltN (v : Int) (l.getD p noP).In := fun p hp hne => by
    obtain ⟨o1, o2, o3⟩ := okAll_get (k := p) h (by omega)
    obtain ⟨_, _, _, _, _, _, _, o4⟩ := partRight_ok o3
    have := (inOkS_ok o4).2
    have e := ltN_other (l := (l.getD p noP).In) (v := (v : Int)) fun x hx hc => by
     have := (this x hx).2.2
     rw [hc, o1, hm] at this
     have : ((v % m : Nat) : Int) = ((0 + p : Nat) : Int) := by rw [← this]; simp
     omega
    rw [← e]; rfl
   have step1 : ∀ x y c, goL step fin (List.range' (v + 1) n) (appL a [x], appL b [y], c, marks l m (v + 1)) = some ((appL a [x]) ++ (List.range' (v + 1) n).map (fun v => (partAt l j v).Vals.getD (v / j.Parts.toNat) 0), (appL b [y]) ++ (List.range' (v + 1) n).map (fun v => (partAt l j v).Rest.getD (v / j.Parts.toNat) false), c ++ (List.range' (v + 1) n).flatMap fun (v : Nat) => (partAt l j v).In.filter fun m => ieq m.To (v : Int)) ∨ 10000 < c.length + 100 * n := fun x y c => by
    by_cases hcl : c.length + 100 * n ≤ 10000
    · exact .inl (ih (v + 1) _ _ c (by omega) (by simp [appL]; omega) (by simp [appL]; omega) hcl)
    · exact .inr (by omega)
   have hsame : marks l m (v + 1) = marks l m v ∨ ltN ((v : Int) + 1) (partAt l j v).In ≠ ltN (v : Int) (partAt l j v).In := by
    by_cases he : ltN ((v : Int) + 1) (partAt l j v).In = ltN (v : Int) (partAt l j v).In
    · left
      unfold marks
      refine List.map_congr_left fun p hp => ?_
      have hp' := List.mem_range.1 hp
      by_cases hpe : p = v % m
      · subst hpe
        rw [hpa] at he
        have : ltN ((v + 1 : Nat) : Int) (l.getD (v % m) noP).In = ltN ((v : Int) + 1) (l.getD (v % m) noP).In := rfl
        rw [this, he]
      · rw [hother p hp' hpe]
    · exact .inr he
   rw [List.range'_succ, goL]
   show (bif (izero j.Parts) then none else
   bif (inr (wrem (v : Int) j.Parts) (len l)) then
   (elAt l (wrem (v : Int) j.Parts)).bind fun x3705 =>
   bif (inr (wquo .i64 (v : Int) j.Parts) (len x3705.Vals)) then
   (elAt x3705.Vals (wquo .i64 (v : Int) j.Parts)).bind fun x3708 =>
   bif (apok (len a) 1 8) then
   bif (inr (wquo .i64 (v : Int) j.Parts) (len x3705.Rest)) then
   (elAt x3705.Rest (wquo .i64 (v : Int) j.Parts)).bind fun x3712 =>
   bif (apok (len b) 1 1) then
   bif (inr x3705.P (len (marks l m v))) then
   (elAt (marks l m v) x3705.P).bind fun x3716 =>
   bif (ilt x3716 (nlen (len x3705.In))) then
    (bif (inr x3716 (len x3705.In)) then
    (elAt x3705.In x3716).bind fun x3720 =>
    bif (ieq x3720.To (v : Int)) then
     (bif (apok (len q) 1 16) then
     goL step fin (List.range' (v + 1) n) (appL a [x3708], appL b [x3712], appL q [x3720], putAt (marks l m v) x3705.P (wadd .i64 x3716 1))
     else none)
    else goL step fin (List.range' (v + 1) n) (appL a [x3708], appL b [x3712], q, marks l m v)
    else none)
   else goL step fin (List.range' (v + 1) n) (appL a [x3708], appL b [x3712], q, marks l m v)
   else none
   else none
   else none
   else none
   else none
   else none) = _
   rw [ja.z, cond_false, ja.r, ja.q, ja.i1, cond_true, ja.e1, Option.bind_some, ja.i2, cond_true, ja.e2, Option.bind_some, app_ok8 (by omega), cond_true, ja.i3, cond_true, ja.e3, Option.bind_some, app_ok1 (by omega), cond_true,
    hpp, k1, cond_true, k2, Option.bind_some, app_ok16 (by omega)]
   have done : ∀ c, c.length + 100 * n ≤ 10000 → c = q ++ ((partAt l j v).In.filter fun m => ieq m.To (v : Int)) →
    goL step fin (List.range' (v + 1) n) (appL a [(partAt l j v).Vals.getD (v / j.Parts.toNat) 0], appL b [(partAt l j v).Rest.getD (v / j.Parts.toNat) false], c, marks l m (v + 1)) =
    some (a ++ (v :: List.range' (v + 1) n).map (fun v => (partAt l j v).Vals.getD (v / j.Parts.toNat) 0), b ++ (v :: List.range' (v + 1) n).map (fun v => (partAt l j v).Rest.getD (v / j.Parts.toNat) false), q ++ (v :: List.range' (v + 1) n).flatMap fun (v : Nat) => (partAt l j v).In.filter fun m => ieq m.To (v : Int)) := by
    intro c hcl hce
    rcases step1 ((partAt l j v).Vals.getD (v / j.Parts.toNat) 0) ((partAt l j v).Rest.getD (v / j.Parts.toNat) false) c with e | e
    · rw [e, hce]; simp [appL]
    · omega
   rcases ptr q1 (v : Int) with ⟨x, t1, t2, t3, t4⟩ | ⟨t1, t2, t3⟩
   · have hlt : ltN (v : Int) (partAt l j v).In < (partAt l j v).In.length := (List.getElem?_eq_some_iff.1 t1).1
     have hlen : (partAt l j v).In.length ≤ 25 := by
      have := inSt_len (n := g.N) (v := -1) (l := (partAt l j v).In) (inOkS_inSt r7) (by omega)
      omega
     have u1 : ilt ((ltN (v : Int) (partAt l j v).In : Nat) : Int) (nlen (len (partAt l j v).In)) = true := ilt_iff.2 (by show ((ltN (v : Int) (partAt l j v).In : Nat) : Int) < ((partAt l j v).In.length : Int); omega)
     have u2 : inr ((ltN (v : Int) (partAt l j v).In : Nat) : Int) (len (partAt l j v).In) = true := decide_eq_true ⟨by omega, by show ((ltN (v : Int) (partAt l j v).In : Nat) : Int) < ((partAt l j v).In.length : Int); omega⟩
     have u3 : elAt (partAt l j v).In ((ltN (v : Int) (partAt l j v).In : Nat) : Int) = some x := by rw [elAt_nat]; exact t1
     have u4 : putAt (marks l m v) ((v % m : Nat) : Int) (wadd .i64 ((ltN (v : Int) (partAt l j v).In : Nat) : Int) 1) = marks l m (v + 1) := by
      rw [wadd_nat (by omega)]
      show (marks l m v).set ((v % m : Nat) : Int).toNat _ = _
      rw [Int.toNat_natCast]
      unfold marks
      rw [set_range]
      refine List.map_congr_left fun p hp => ?_
      have hp' := List.mem_range.1 hp
      by_cases hpe : p = v % m
      · subst hpe
        rw [if_pos rfl]
        rw [hpa] at t4 ⊢
        have : ltN ((v + 1 : Nat) : Int) (l.getD (v % m) noP).In = ltN ((v : Int) + 1) (l.getD (v % m) noP).In := rfl
        rw [this, t4]
      · rw [if_neg hpe, hother p hp' hpe]
     rw [u1, cond_true, u2, cond_true, u3, Option.bind_some, ieq_iff.2 t2, cond_true, cond_true, u4]
     exact done _ (by simp [appL]; omega) (by rw [t3]; rfl)
   · have hmk : marks l m v = marks l m (v + 1) := by
      rcases hsame with e | e
      · exact e.symm
      · exact absurd t3 e
     have dn := done q (by omega) (by rw [t2, List.append_nil])
     rw [hmk]
     by_cases hlt : ltN (v : Int) (partAt l j v).In < (partAt l j v).In.length
     · have u1 : ilt ((ltN (v : Int) (partAt l j v).In : Nat) : Int) (nlen (len (partAt l j v).In)) = true := ilt_iff.2 (by show ((ltN (v : Int) (partAt l j v).In : Nat) : Int) < ((partAt l j v).In.length : Int); omega)
       have u2 : inr ((ltN (v : Int) (partAt l j v).In : Nat) : Int) (len (partAt l j v).In) = true := decide_eq_true ⟨by omega, by show ((ltN (v : Int) (partAt l j v).In : Nat) : Int) < ((partAt l j v).In.length : Int); omega⟩
       have u3 : elAt (partAt l j v).In ((ltN (v : Int) (partAt l j v).In : Nat) : Int) = some ((partAt l j v).In[ltN (v : Int) (partAt l j v).In]) := by rw [elAt_nat]; exact List.getElem?_eq_getElem hlt
       have u5 := t1 _ (List.getElem?_eq_getElem hlt)
       rw [u1, cond_true, u2, cond_true, u3, Option.bind_some, ieq_f.2 u5, cond_false]
       exact dn
     · have u1 : ilt ((ltN (v : Int) (partAt l j v).In : Nat) : Int) (nlen (len (partAt l j v).In)) = false := ilt_f.2 (by show ((partAt l j v).In.length : Int) ≤ ((ltN (v : Int) (partAt l j v).In : Nat) : Int); omega)
       rw [u1, cond_false]
       exact dn
 have hm0 : repL (α := Int) j.Parts 0 = marks l m 0 := by
  unfold marks repL
  rw [hmt]
  apply List.ext_getElem?
  intro i
  rw [List.getElem?_replicate, List.getElem?_map]
  by_cases hi : i < m
  · rw [if_pos hi, List.getElem?_range hi]
    obtain ⟨o1, o2, o3⟩ := okAll_get (k := i) h (by omega)
    obtain ⟨_, _, _, _, _, _, _, o4⟩ := partRight_ok o3
    have ho := (inOkS_ok o4).2
    have : ltN ((0 : Nat) : Int) (l.getD i noP).In = 0 := by
     unfold ltN
     rw [List.length_eq_zero_iff, List.filter_eq_nil_iff]
     intro x hx hc
     have := ho x hx
     have := ilt_iff.1 hc
     omega
    show some (0 : Int) = some ((ltN ((0 : Nat) : Int) (l.getD i noP).In : Nat) : Int)
    rw [this]; rfl
  · rw [if_neg hi, List.getElem?_eq_none (by simp; omega)]; rfl
 have := hw g.N.toNat 0 [] [] [] (by omega) (by simp; omega) (by simp; omega) (by simp; omega)
 rw [← hm0, ← List.range_eq_range'] at this
 rw [this] at hs
 simpa [joinS] using hs
theorem join_checks {K : Nat} {g : GGraph} {j : GJob} {l : List GPart} (hl : 0 < l.length) (hl2 : l.length < 1000) (hK : 1000 ≤ K) (hx : ∀ x ∈ l, x.In.length < 1000 ∧ (-9223372036854775808 ≤ x.P ∧ x.P ≤ 9223372036854775807)) :
 F85_l0_0 K g j l K 0 = some (sumU (okAll g j (l.getD 0 noP).Step 0 l)) ∧ F86_l0_0 K g j l K 0 = some (sumU (okAll g j (l.getD 0 noP).Step 0 l)) := by
 constructor
 · have h := scanI (l := l) (L := fun k (_ : Unit) i => F85_l0_0 K g j l k i) (fun i x (_ : Unit) c => bif ieq x.P (i : Int) then (bif inr 0 (len l) then (elAt l 0).bind fun y => bif ieq x.Step y.Step then ((F80 K g j x).bind fun q => bif q then c () else some (.inl ())) else some (.inl ()) else none) else some (.inl ())) (fun _ => some (.inr ())) (fun k st i hi => rfl) (by omega) K () 0 (by omega) (by omega)
   have e := chk_go (K := K) (g := g) (j := j) (l := l) rfl hl F80 (fun x h => F80_spec hK g j x (by have := hx x h; omega) (by have := hx x h; omega) (hx x h).2) l 0 rfl
   exact h.trans e
 · have h := scanI (l := l) (L := fun k (_ : Unit) i => F86_l0_0 K g j l k i) (fun i x (_ : Unit) c => bif ieq x.P (i : Int) then (bif inr 0 (len l) then (elAt l 0).bind fun y => bif ieq x.Step y.Step then ((F81 K g j x).bind fun q => bif q then c () else some (.inl ())) else some (.inl ()) else none) else some (.inl ())) (fun _ => some (.inr ())) (fun k st i hi => rfl) (by omega) K () 0 (by omega) (by omega)
   have e := chk_go (K := K) (g := g) (j := j) (l := l) rfl hl F81 (fun x h => F81_spec hK g j x (by have := hx x h; omega) (by have := hx x h; omega)) l 0 rfl
   exact h.trans e
theorem join_spec {K : Nat} (hK : 1000 ≤ K) (g : GGraph) (j : GJob) (l : List GPart) (hx : ∀ x ∈ l, x.In.length < 1000 ∧ (-9223372036854775808 ≤ x.P ∧ x.P ≤ 9223372036854775807)) : F85 K g j l = some (joinR g j l) ∧ F86 K g j l = some (joinR g j l) := by
 rw [F85, F86, F94_spec (by omega), F59_spec (by omega), joinR]
 have nl : nlen (len l) = (l.length : Int) := rfl
 cases hc : ieq (jcheck g j) 0
 · simp only [Option.bind_some, hc, cond_false]; exact ⟨rfl, rfl⟩
 · obtain ⟨hg, p1, p2, p3, p4, p5, p6, p7, p8⟩ := jcheck_ok hc
   simp only [Option.bind_some, hc, cond_true, nl]
   cases hl : ieq (l.length : Int) j.Parts
   · exact ⟨rfl, rfl⟩
   · have hl' := ieq_iff.1 hl
     obtain ⟨c1, c2⟩ := join_checks (K := K) (g := g) (j := j) (l := l) (by omega) (by omega) hK hx
     rw [cond_true, cond_true, c1, c2]
     cases ho : okAll g j (l.getD 0 noP).Step 0 l
     · exact ⟨rfl, rfl⟩
     · obtain ⟨a1, a2⟩ := getD_at (l := l) noP (show 0 < l.length by omega)
       have a1' : inr 0 (len l) = true := a1
       have a2' : elAt l 0 = some (l.getD 0 noP) := a2
       have mk : mkok j.Parts j.Parts 8 = true := decide_eq_true ⟨by omega, Int.le_refl _, by omega, by omega⟩
       have s1 : sumU true = .inr () := rfl
       simp only [s1, Option.bind_some, Sum.elim_inr, a1', a2', mk, cond_true, F85_loop hK g j l _ hc hl' ho, F86_loop hK g j l _ hc hl' ho]
       exact ⟨rfl, rfl⟩
def fitS (K : Nat) (s : GState) : Prop := (s.Vals.length < 1000000 ∧ s.Vals.length < K) ∧ (s.Rest.length < 1000000 ∧ s.Rest.length < K) ∧ s.In.length < 1000000 ∧ s.In.length < K
theorem same87 {K : Nat} (s : GState) (h : fitS K s) : F87 K s s = some true := by
 rw [F87, ieq_refl, same140 s.Vals h.1.1 h.1.2, same141 s.Rest h.2.1.1 h.2.1.2, same89 s.In h.2.2.1 h.2.2.2]; rfl
theorem cut_right {g : GGraph} {j : GJob} {s : GState} (h : stRight g j s = true) {p : Nat} (hp : (p : Int) < j.Parts) : partRight g j (cutS g j s (p : Int)) = true := by
 obtain ⟨hc, s1, s2, s3, s4, s5⟩ := stRight_ok h
 obtain ⟨q1, q2⟩ := inSt_ok s5
 unfold partRight cutS
 dsimp only
 have e1 : ieq ((((vertsS g j (p : Int)).map fun v => s.Vals.getD v 0).length : Nat) : Int) (countS g j (p : Int)) = true := ieq_iff.2 (by simp [countS])
 have e2 : ieq ((((vertsS g j (p : Int)).map fun v => s.Rest.getD v false).length : Nat) : Int) (countS g j (p : Int)) = true := ieq_iff.2 (by simp [countS])
 have e3 : inOkS g.N j.Parts (p : Int) (-1) (s.In.filter fun m => ieq (m.To % j.Parts) (p : Int)) = true := inOkS_mk (q1.filter _) fun m hm => by
  obtain ⟨a, b⟩ := List.mem_filter.1 hm
  exact ⟨(q2 m a).1, (q2 m a).2, ieq_iff.1 b⟩
 rw [hc, ile_iff.2 (by omega : (0 : Int) ≤ (p : Int)), ilt_iff.2 hp, ile_iff.2 s1, ile_iff.2 s2, e1, e2, e3]; rfl
theorem split_okAll {g : GGraph} {j : GJob} {s : GState} (h : stRight g j s = true) : ∀ (n i : Nat), ((i + n : Nat) : Int) = j.Parts → okAll g j s.Step i ((List.range' i n).map fun (p : Nat) => cutS g j s (p : Int)) = true
 | 0, i, _ => rfl
 | n + 1, i, hi => by
  rw [List.range'_succ, List.map_cons, okAll, cut_right h (by omega), split_okAll h n (i + 1) (by omega), ieq_iff.2 (show (cutS g j s (i : Int)).P = (i : Int) from rfl), ieq_iff.2 (show (cutS g j s (i : Int)).Step = s.Step from rfl)]; rfl
theorem split_getD {g : GGraph} {j : GJob} {s : GState} {p : Nat} (hp : p < j.Parts.toNat) : (splitS g j s).getD p noP = cutS g j s (p : Int) := by
 simp [splitS, List.getD, hp]
theorem flat_all {n : Int} {l : List GMsg} (hs : l.Pairwise fun a b => a.To < b.To) (hr : ∀ m ∈ l, 0 ≤ m.To ∧ m.To < n) : ((List.range n.toNat).flatMap fun (v : Nat) => l.filter fun m => ieq m.To (v : Int)) = l := by
 refine sorted_ext (lt := fun a b : GMsg => a.To < b.To) (fun a b h => by omega) ?_ hs fun m => ?_
 · refine List.pairwise_flatMap.2 ⟨fun v _ => hs.filter _, ?_⟩
   refine List.pairwise_lt_range.imp fun {a b} hab x hx y hy => ?_
   have h1 := ieq_iff.1 (List.mem_filter.1 hx).2
   have h2 := ieq_iff.1 (List.mem_filter.1 hy).2
   omega
 · simp only [List.mem_flatMap, List.mem_filter, ieq_iff, List.mem_range]
   constructor
   · rintro ⟨v, hv, hm, e⟩; exact hm
   · intro hm
     obtain ⟨h0, h1⟩ := hr m hm
     obtain ⟨v, hv⟩ := Int.eq_ofNat_of_zero_le h0
     exact ⟨v, by omega, hm, hv⟩
theorem list_getD {α : Type} (d : α) (l : List α) {n : Nat} (h : l.length = n) : (List.range n).map (fun v => l.getD v d) = l := by
 apply List.ext_getElem?
 intro i
 rw [List.getElem?_map]
 by_cases hi : i < n
 · rw [List.getElem?_range hi]
   simp [List.getD, h, hi]
 · rw [List.getElem?_eq_none (by simp; omega), List.getElem?_eq_none (by omega)]; rfl
theorem join_split {g : GGraph} {j : GJob} {s : GState} (h : stRight g j s = true) : joinS g j (splitS g j s) = s := by
 obtain ⟨hc, s1, s2, s3, s4, s5⟩ := stRight_ok h
 obtain ⟨hg, p1, p2, p3, p4, p5, p6, p7, p8⟩ := jcheck_ok hc
 obtain ⟨g1, g2, _, _⟩ := gcheck_ok hg
 obtain ⟨q1, q2⟩ := inSt_ok s5
 have hpt : ∀ v, partAt (splitS g j s) j v = cutS g j s ((v % j.Parts.toNat : Nat) : Int) := fun v => by
  unfold partAt
  exact split_getD (Nat.mod_lt _ (by omega))
 have hslot : ∀ v, v < g.N.toNat → (vertsS g j ((v % j.Parts.toNat : Nat) : Int))[v / j.Parts.toNat]? = some v := fun v hv =>
  (slot_verts (n := g.N.toNat) (parts := j.Parts.toNat) (by omega) (by omega) (by omega) hv).2
 have e0 : (splitS g j s).getD 0 noP = cutS g j s 0 := split_getD (by omega)
 have e1 : ((List.range g.N.toNat).map fun v => (partAt (splitS g j s) j v).Vals.getD (v / j.Parts.toNat) 0) = s.Vals := by
  rw [← list_getD 0 s.Vals (n := g.N.toNat) (by omega)]
  refine List.map_congr_left fun v hv => ?_
  rw [hpt, cutS]
  simp only [List.getD, List.getElem?_map, hslot v (List.mem_range.1 hv), Option.map_some, Option.getD_some]
 have e2 : ((List.range g.N.toNat).map fun v => (partAt (splitS g j s) j v).Rest.getD (v / j.Parts.toNat) false) = s.Rest := by
  rw [← list_getD false s.Rest (n := g.N.toNat) (by omega)]
  refine List.map_congr_left fun v hv => ?_
  rw [hpt, cutS]
  simp only [List.getD, List.getElem?_map, hslot v (List.mem_range.1 hv), Option.map_some, Option.getD_some]
 have e3 : ((List.range g.N.toNat).flatMap fun (v : Nat) => (partAt (splitS g j s) j v).In.filter fun m => ieq m.To (v : Int)) = s.In := by
  conv => rhs; rw [← flat_all q1 (fun m hm => by have := q2 m hm; omega : ∀ m ∈ s.In, 0 ≤ m.To ∧ m.To < g.N)]
  rw [List.flatMap_def, List.flatMap_def]
  congr 1
  refine List.map_congr_left fun v hv => ?_
  rw [hpt, cutS, List.filter_filter]
  refine List.filter_congr fun m hm => ?_
  rw [Bool.eq_iff_iff, Bool.and_eq_true, ieq_iff, ieq_iff]
  constructor
  · exact fun q => q.1
  · intro q
    obtain ⟨k, hk⟩ := Int.eq_ofNat_of_zero_le (show 0 ≤ j.Parts by omega)
    refine ⟨q, ?_⟩
    rw [q, hk]; simp
 rw [joinS, e0, e1, e2, e3]; rfl
theorem join_back {g : GGraph} {j : GJob} {s : GState} (h : stRight g j s = true) : joinR g j (splitS g j s) = (s, 0) := by
 obtain ⟨hc, s1, s2, s3, s4, s5⟩ := stRight_ok h
 obtain ⟨hg, p1, p2, p3, p4, p5, p6, p7, p8⟩ := jcheck_ok hc
 have e0 : (splitS g j s).getD 0 noP = cutS g j s 0 := split_getD (by omega)
 have e1 : ieq (((splitS g j s).length : Nat) : Int) j.Parts = true := ieq_iff.2 (by simp [splitS]; omega)
 have e2 : okAll g j ((splitS g j s).getD 0 noP).Step 0 (splitS g j s) = true := by
  rw [e0, splitS, List.range_eq_range']
  exact split_okAll h j.Parts.toNat 0 (by omega)
 rw [joinR, hc, cond_true, e1, cond_true, e2, cond_true, join_split h]
structure goodS (s : GState) : Prop where
 nice : niceS s
 lin : s.In.length ≤ 80
 lre : s.Rest.length ≤ 24
 lva : s.Vals.length ≤ 24
theorem foldC_ok (p : Int) : ∀ (r : List GMsg) (c : GMsg) (d w : List GMsg), foldC p r c d = .inr w → i64 c.V → (∀ x ∈ r, i64 x.V) → (∀ x ∈ d, i64 x.V) → w.length ≤ d.length + r.length + 1 ∧ ∀ x ∈ w, i64 x.V
 | [], c, d, w, h, hc, _, hd => by
  injection h with h
  subst h
  refine ⟨by simp, fun x hx => ?_⟩
  rcases List.mem_append.1 hx with hx | hx
  · exact hd x hx
  · rw [List.mem_singleton.1 hx]; exact hc
 | x :: r, c, d, w, h, hc, hr, hd => by
  rw [foldC] at h
  have hx := hr x List.mem_cons_self
  have hr' := fun y hy => hr y (List.mem_cons_of_mem _ hy)
  cases h1 : ieq c.To x.To
  · rw [h1, cond_false] at h
    have := foldC_ok p r x (d ++ [c]) w h hx hr' (fun y hy => by
     rcases List.mem_append.1 hy with hy | hy
     · exact hd y hy
     · rw [List.mem_singleton.1 hy]; exact hc)
    rw [List.length_append] at this
    simp only [List.length_singleton] at this
    exact ⟨by simp only [List.length_cons]; omega, this.2⟩
  · rw [h1, cond_true] at h
    cases h2 : ieq (foldS p c.V x.V).2 0
    · rw [h2] at h; cases h
    · rw [h2, cond_true] at h
      have := foldC_ok p r _ d w h (foldS_i64 hc hx) hr' hd
      exact ⟨by simp only [List.length_cons]; omega, this.2⟩
theorem boxS_ok {p : Int} {l : List GMsg} (hl : ∀ x ∈ l, i64 x.V) : (boxS p l).1.length ≤ l.length ∧ ∀ x ∈ (boxS p l).1, i64 x.V := by
 have hn : ∀ x ∈ ([] : List GMsg), i64 x.V := fun x hx => absurd hx List.not_mem_nil
 have hs : ∀ x ∈ sortM l, i64 x.V := fun x hx => hl x ((sortM_perm l).mem_iff.1 hx)
 have hsl := sortM_len l
 rw [boxS]
 cases pbad p
 · rw [cond_false]
   generalize sortM l = m at *
   cases m with
   | nil => exact ⟨Nat.zero_le _, hn⟩
   | cons x r =>
    rw [foldO]
    cases hq : foldC p r x [] with
    | inl e => exact ⟨Nat.zero_le _, hn⟩
    | inr w =>
     have := foldC_ok p r x [] w hq (hs x List.mem_cons_self) (fun y hy => hs y (List.mem_cons_of_mem _ hy)) hn
     simp only [List.length_cons, List.length_nil] at hsl this
     exact ⟨by show w.length ≤ _; omega, this.2⟩
 · exact ⟨Nat.zero_le _, hn⟩
theorem step_ok {g : GGraph} {j : GJob} {s : GState} (h : ieq (stepS g j s).2 0 = true) : ieq (jcheck g j) 0 = true ∧ stRight g j s = true ∧ ieq s.Step 40 = false ∧
 ∃ w, stepA g j s (List.range g.N.toNat) [] [] [] = .inr w ∧ ieq (boxS j.Prog w.2.2).2 0 = true ∧ (stepS g j s).1 = GState.mk (s.Step + 1) w.1 w.2.1 (boxS j.Prog w.2.2).1 := by
 rw [stepS] at h ⊢
 cases hc : ieq (jcheck g j) 0
 · rw [hc, cond_false] at h
   have h' : ieq (jcheck g j) 0 = true := h
   rw [hc] at h'; cases h'
 · rw [hc] at h
   cases hr : stRight g j s
   · rw [hr] at h; cases h
   · rw [hr] at h
     cases h40 : ieq s.Step 40
     · rw [h40] at h
       simp only [cond_true, cond_false] at h ⊢
       cases hA : stepA g j s (List.range g.N.toNat) [] [] [] with
       | inl e =>
        rw [hA] at h
        have he : ieq e 0 = true := h
        exfalso
        have hno : ∀ (l : List Nat) a b c e, stepA g j s l a b c = .inl e → ieq e 0 = false := by
         intro l
         induction l with
         | nil => intro a b c e h; cases h
         | cons v l ih =>
          intro a b c e h
          rw [stepA] at h
          cases hq : ieq (oneS g j s v).2.2.2 0
          · rw [hq] at h
            injection h with h
            rw [← h]; exact hq
          · rw [hq] at h; exact ih _ _ _ _ h
        rw [hno _ _ _ _ _ hA] at he; cases he
       | inr w =>
        rw [hA, stepB] at h
        rw [stepB]
        cases hb : ieq (boxS j.Prog w.2.2).2 0
        · rw [hb, cond_false] at h
          have h' : ieq (boxS j.Prog w.2.2).2 0 = true := h
          rw [hb] at h'; cases h'
        · exact ⟨trivial, trivial, trivial, w, rfl, hb, rfl⟩
     · rw [h40] at h; cases h
theorem step_good {g : GGraph} {j : GJob} {s : GState} (hg : goodS s) (h : ieq (stepS g j s).2 0 = true) : goodS (stepS g j s).1 ∧ (stepS g j s).1.Step = s.Step + 1 := by
 obtain ⟨hc, hr, h40, w, hA, hb, he⟩ := step_ok h
 obtain ⟨hgc, _⟩ := jcheck_ok hc
 obtain ⟨g1, g2, g3, _⟩ := gcheck_ok hgc
 rw [List.range_eq_range'] at hA
 have kw := stepA_keep hg.nice g.N.toNat 0 [] [] [] (keep0 g) w hA
 have hwl := keep_len kw g3
 obtain ⟨b1, b2⟩ := boxS_ok (p := j.Prog) kw.vc
 rw [he]
 refine ⟨⟨⟨kw.va, b2⟩, ?_, ?_, ?_⟩, rfl⟩
 · show (boxS j.Prog w.2.2).1.length ≤ 80; omega
 · show w.2.1.length ≤ 24; rw [kw.lb]; omega
 · show w.1.length ≤ 24; rw [kw.la]; omega
noncomputable def hn113 : Hint := { H 113 with nt := 7, prot := 0 }
def F113_res (r4 : Bool) : Res := ⟨[(.one (.im (.lit (.bool r4))))], []⟩
def F113 (K : Nat) (a3 : GGraph) : Option (Bool) :=
 some (igt (nlen (len a3.Edges)) 200)
theorem F113_ok (K : Nat) (a3 : GGraph) (r : Bool) (hF : F113 K a3 = some r) : Evt E H 113 [.agg (eGGraph a3)] (F113_res r) := by
 rw [F113] at hF
 obtain rfl := sj hF
 have pz : HA hn113 [.int (nl a3.Edges) (nl a3.Edges)] := ⟨rfl, trivial⟩
 exact fpC hn113 (r := F113_res (igt (nlen (len a3.Edges)) 200)) pz
noncomputable def hn125 : Hint := { H 125 with nt := 19, prot := 0 }
def F125_res (r12 : Bool) : Res := ⟨[(.one (.im (.lit (.bool r12))))], []⟩
def F125 (K : Nat) (a8 : GState) : Option (Bool) :=
 bif (ilt 100 (nlen (len a8.Vals))) then
  (some true)
 else
 bif (ilt 100 (nlen (len a8.Rest))) then
  (some true)
 else
 some (igt (nlen (len a8.In)) 300)
theorem F125_ok (K : Nat) (a8 : GState) (r : Bool) (hF : F125 K a8 = some r) : Evt E H 125 [.agg (eGState a8)] (F125_res r) := by
 rw [F125] at hF
 refine cond_some hF (fun h9 hF => ?_) (fun h9 hF => ?_)
 ·
  obtain rfl := sj hF
  have pz : HA hn125 [.int (nl a8.Vals) (nl a8.Vals), (bf (igt (nl a8.Vals) 100)), (bf (igt (nl a8.Vals) 100)), (bf (igt (nl a8.Vals) 100)), (bf (igt (nl a8.Vals) 100)), (tt (igt (nl a8.Vals) 100)), bt, bt, bt, bt, (tt true)] := ⟨rfl, (bA (igt_eq h9)), (bA (igt_eq h9)), (bA (igt_eq h9)), (bA (igt_eq h9)), (igt_eq h9), br, br, br, br, rfl, trivial⟩
  exact fpC hn125 (r := F125_res true) pz
 have pq11 : PQ hn125 fun l => (.int (nl a8.Vals) (nl a8.Vals) :: (bg (igt (nl a8.Vals) 100)) :: (bg (igt (nl a8.Vals) 100)) :: (bg (igt (nl a8.Vals) 100)) :: .int (nl a8.Rest) (nl a8.Rest) :: (bg (igt (nl a8.Vals) 100)) :: (ff (igt (nl a8.Vals) 100)) :: l) := fun z => ⟨rfl, (bB (igt_eq h9)), (bB (igt_eq h9)), (bB (igt_eq h9)), rfl, (bB (igt_eq h9)), (igt_eq h9), z⟩
 refine cond_some hF (fun h10 hF => ?_) (fun h10 hF => ?_)
 ·
  obtain rfl := sj hF
  have pz : HA hn125 [(bf (igt (nl a8.Rest) 100)), (bf (igt (nl a8.Rest) 100)), (bf (igt (nl a8.Rest) 100)), (bf (igt (nl a8.Rest) 100)), (tt (igt (nl a8.Rest) 100))] := ⟨(bA (igt_eq h10)), (bA (igt_eq h10)), (bA (igt_eq h10)), (bA (igt_eq h10)), (igt_eq h10), trivial⟩
  exact fpC hn125 (r := F125_res true) (pq11 pz)
 obtain rfl := sj hF
 have pz : HA hn125 [(bg (igt (nl a8.Rest) 100)), (bg (igt (nl a8.Rest) 100)), (bg (igt (nl a8.Rest) 100)), .int (nl a8.In) (nl a8.In), (bg (igt (nl a8.Rest) 100)), (ff (igt (nl a8.Rest) 100))] := ⟨(bB (igt_eq h10)), (bB (igt_eq h10)), (bB (igt_eq h10)), rfl, (bB (igt_eq h10)), (igt_eq h10), trivial⟩
 exact fpC hn125 (r := F125_res (igt (nlen (len a8.In)) 300)) (pq11 pz)
noncomputable def hn126 : Hint := { H 126 with nt := 44, prot := 0 }
noncomputable def c126_0 : Code := loopOf E 126 0
noncomputable def c126_1 : Code := loopOf E 126 1
def F126_res (r1 : Bool) : Res := ⟨[(.one (.im (.lit (.bool r1))))], []⟩
def F126_l0_0 (K : Nat) (a1 : GJob) (a2 : GState) : Nat → Int → Option ((Unit) ⊕ (Unit))
 | 0, _ => none
 | k + 1, v3 =>
  bif (ilt v3 (nlen (len a2.Vals))) then
   (bif (ieq a1.Prog 5) then
    (bif (inr v3 (len a2.Vals)) then
    (elAt a2.Vals v3).bind fun x4 =>
    bif (ilt x4 0) then
     (some (.inl ()))
    else
    F126_l0_0 K a1 a2 k (wadd .i64 v3 1)
    else none)
   else
   some (.inr ()))
  else
  some (.inr ())
def F126_l0_0_S (a1 : GJob) (a2 : GState) (v3 : Int) : TS := .on [128, 129, 130, 131, 132, 192, 193, 194, 195, 196, 320, 321] [(128, ⟨(.box 64 4), 0, nob⟩), (129, ⟨.im, 0, (.lit (.int .i64 a1.Prog))⟩), (130, ⟨.im, 0, (.lit (.int .i64 a1.Source))⟩), (131, ⟨.im, 0, (.lit (.int .i64 a1.Limit))⟩), (132, ⟨.im, 0, (.lit (.int .i64 a1.Parts))⟩), (192, ⟨(.box 74 4), 0, nob⟩), (193, ⟨.im, 0, (.lit (.int .i64 a2.Step))⟩), (194, ⟨.im, 0, (.sl (len a2.Vals) (flat (eInt .i64) a2.Vals))⟩), (195, ⟨.im, 0, (.sl (len a2.Rest) (flat eBool a2.Rest))⟩), (196, ⟨.im, 0, (.sl (len a2.In) (flat eGMsg a2.In))⟩), (320, ⟨.one, 0, nob⟩), (321, ⟨.im, 0, (.lit (.int .i64 v3))⟩)]
def F126_l0_0_X0 (a1 : GJob) (a2 : GState) (w3 : Unit) : TS := .on [256, 257] [(256, ⟨.one, 0, nob⟩), (257, ⟨.im, 0, (.lit (.bool false))⟩)]
def F126_l0_0_X1 (a1 : GJob) (a2 : GState) (w3 : Unit) : TS := .on [128, 129, 130, 131, 132, 192, 193, 194, 195, 196] [(128, ⟨(.box 64 4), 0, nob⟩), (129, ⟨.im, 0, (.lit (.int .i64 a1.Prog))⟩), (130, ⟨.im, 0, (.lit (.int .i64 a1.Source))⟩), (131, ⟨.im, 0, (.lit (.int .i64 a1.Limit))⟩), (132, ⟨.im, 0, (.lit (.int .i64 a1.Parts))⟩), (192, ⟨(.box 74 4), 0, nob⟩), (193, ⟨.im, 0, (.lit (.int .i64 a2.Step))⟩), (194, ⟨.im, 0, (.sl (len a2.Vals) (flat (eInt .i64) a2.Vals))⟩), (195, ⟨.im, 0, (.sl (len a2.Rest) (flat eBool a2.Rest))⟩), (196, ⟨.im, 0, (.sl (len a2.In) (flat eGMsg a2.In))⟩)]
theorem F126_l0_0_ok (K : Nat) (a1 : GJob) (a2 : GState) : ∀ (k : Nat) (v3 : Int) (r : (Unit) ⊕ (Unit)), F126_l0_0 K a1 a2 k v3 = some r → (Sum.elim (fun w => LoopEv E H hn126 0 c126_0 (F126_l0_0_S a1 a2 v3) .ret (F126_l0_0_X0 a1 a2 w)) (fun w => LoopEv E H hn126 0 c126_0 (F126_l0_0_S a1 a2 v3) (.exit 0) (F126_l0_0_X1 a1 a2 w))) r := by
 intro k
 induction k with
 | zero => intro v3 r hF; cases hF
 | succ k ih =>
  intro v3 r hF
  rw [F126_l0_0] at hF
  refine cond_some hF (fun h4 hF => ?_) (fun h4 hF => ?_)
  ·
   have q10 : PQ hn126 fun l => (.int (nl a2.Vals) (nl a2.Vals) :: (bh (ilt v3 (nl a2.Vals))) :: (bh (ilt v3 (nl a2.Vals))) :: (bh (ilt v3 (nl a2.Vals))) :: (tt (ilt v3 (nl a2.Vals))) :: l) := fun z => ⟨rfl, (bC h4), (bC h4), (bC h4), h4, z⟩
   refine cond_some hF (fun h5 hF => ?_) (fun h5 hF => ?_)
   ·
    refine cond_some hF (fun h6 hF => ?_) (fun _ hF => nomatch hF)
    refine bind_some hF (fun x7 h8 hF => ?_)
    have q11 : PQ hn126 fun l => ((tt (ieq a1.Prog 5)) :: (tt (inr v3 (len a2.Vals))) :: .sub (flat (eInt .i64) a2.Vals) (nidx v3 1) 1 [(i6 x7)] :: l) := fun z => ⟨h5, h6, ⟨rfl, sub_flat0 (eInt_len _) h8 1 (by decide)⟩, z⟩
    refine cond_some hF (fun h9 hF => ?_) (fun h9 hF => ?_)
    ·
     obtain rfl := sj hF
     have pz : HA hn126 [(tt (ilt x7 0))] := ⟨h9, trivial⟩
     exact lE hn126 0 c126_0 (F126_l0_0_S a1 a2 v3) (F126_l0_0_X0 a1 a2 ()) .ret (q10 (q11 pz))
    have pz : HA hn126 [(ff (ilt x7 0)), .int (wadd .i64 v3 1) (wadd .i64 v3 1)] := ⟨h9, rfl, trivial⟩
    have h0 := ih _ _ hF
    have hn := lN hn126 0 c126_0 (F126_l0_0_S a1 a2 v3) (F126_l0_0_S a1 a2 (wadd .i64 v3 1)) (q10 (q11 pz))
    cases r with
    | inl w => exact hn _ _ h0
    | inr w => exact hn _ _ h0
   obtain rfl := sj hF
   have pz : HA hn126 [(ff (ieq a1.Prog 5))] := ⟨h5, trivial⟩
   exact lE hn126 0 c126_0 (F126_l0_0_S a1 a2 v3) (F126_l0_0_X1 a1 a2 ()) (.exit 0) (q10 pz)
  obtain rfl := sj hF
  have pz : HA hn126 [.int (nl a2.Vals) (nl a2.Vals), (bk (ilt v3 (nl a2.Vals))), (bk (ilt v3 (nl a2.Vals))), (bk (ilt v3 (nl a2.Vals))), (ff (ilt v3 (nl a2.Vals))), (ff false)] := ⟨rfl, (bC h4), (bC h4), (bC h4), h4, rfl, trivial⟩
  exact lE hn126 0 c126_0 (F126_l0_0_S a1 a2 v3) (F126_l0_0_X1 a1 a2 ()) (.exit 0) pz
def F126_l1_1 (K : Nat) (a1 : GJob) (a2 : GState) : Nat → Int → Option ((Unit) ⊕ (Unit))
 | 0, _ => none
 | k + 1, v3 =>
  bif (ilt v3 (nlen (len a2.In))) then
   (bif (ieq a1.Prog 5) then
    (bif (inr v3 (len a2.In)) then
    (elAt a2.In v3).bind fun x4 =>
    bif (ilt x4.V 0) then
     (some (.inl ()))
    else
    F126_l1_1 K a1 a2 k (wadd .i64 v3 1)
    else none)
   else
   some (.inr ()))
  else
  some (.inr ())
def F126_l1_1_S (a1 : GJob) (a2 : GState) (v3 : Int) : TS := .on [128, 129, 130, 131, 132, 192, 193, 194, 195, 196, 384, 385] [(128, ⟨(.box 64 4), 0, nob⟩), (129, ⟨.im, 0, (.lit (.int .i64 a1.Prog))⟩), (130, ⟨.im, 0, (.lit (.int .i64 a1.Source))⟩), (131, ⟨.im, 0, (.lit (.int .i64 a1.Limit))⟩), (132, ⟨.im, 0, (.lit (.int .i64 a1.Parts))⟩), (192, ⟨(.box 74 4), 0, nob⟩), (193, ⟨.im, 0, (.lit (.int .i64 a2.Step))⟩), (194, ⟨.im, 0, (.sl (len a2.Vals) (flat (eInt .i64) a2.Vals))⟩), (195, ⟨.im, 0, (.sl (len a2.Rest) (flat eBool a2.Rest))⟩), (196, ⟨.im, 0, (.sl (len a2.In) (flat eGMsg a2.In))⟩), (384, ⟨.one, 0, nob⟩), (385, ⟨.im, 0, (.lit (.int .i64 v3))⟩)]
def F126_l1_1_X0 (a1 : GJob) (a2 : GState) (w3 : Unit) : TS := .on [256, 257] [(256, ⟨.one, 0, nob⟩), (257, ⟨.im, 0, (.lit (.bool false))⟩)]
def F126_l1_1_X1 (a1 : GJob) (a2 : GState) (w3 : Unit) : TS := .on [] []
theorem F126_l1_1_ok (K : Nat) (a1 : GJob) (a2 : GState) : ∀ (k : Nat) (v3 : Int) (r : (Unit) ⊕ (Unit)), F126_l1_1 K a1 a2 k v3 = some r → (Sum.elim (fun w => LoopEv E H hn126 2 c126_1 (F126_l1_1_S a1 a2 v3) .ret (F126_l1_1_X0 a1 a2 w)) (fun w => LoopEv E H hn126 2 c126_1 (F126_l1_1_S a1 a2 v3) (.exit 2) (F126_l1_1_X1 a1 a2 w))) r := by
 intro k
 induction k with
 | zero => intro v3 r hF; cases hF
 | succ k ih =>
  intro v3 r hF
  rw [F126_l1_1] at hF
  refine cond_some hF (fun h4 hF => ?_) (fun h4 hF => ?_)
  ·
   have q10 : PQ hn126 fun l => (.int (nl a2.In) (nl a2.In) :: (bh (ilt v3 (nl a2.In))) :: (bh (ilt v3 (nl a2.In))) :: (bh (ilt v3 (nl a2.In))) :: (tt (ilt v3 (nl a2.In))) :: l) := fun z => ⟨rfl, (bC h4), (bC h4), (bC h4), h4, z⟩
   refine cond_some hF (fun h5 hF => ?_) (fun h5 hF => ?_)
   ·
    refine cond_some hF (fun h6 hF => ?_) (fun _ hF => nomatch hF)
    refine bind_some hF (fun x7 h8 hF => ?_)
    have q11 : PQ hn126 fun l => ((tt (ieq a1.Prog 5)) :: (tt (inr v3 (len a2.In))) :: .sub (flat eGMsg a2.In) (nadd (nidx v3 2) 1) 1 [(i6 x7.V)] :: l) := fun z => ⟨h5, h6, ⟨rfl, sub_flat eGMsg_len h8 1 1 (by decide)⟩, z⟩
    refine cond_some hF (fun h9 hF => ?_) (fun h9 hF => ?_)
    ·
     obtain rfl := sj hF
     have pz : HA hn126 [(tt (ilt x7.V 0))] := ⟨h9, trivial⟩
     exact lE hn126 2 c126_1 (F126_l1_1_S a1 a2 v3) (F126_l1_1_X0 a1 a2 ()) .ret (q10 (q11 pz))
    have pz : HA hn126 [(ff (ilt x7.V 0)), .int (wadd .i64 v3 1) (wadd .i64 v3 1)] := ⟨h9, rfl, trivial⟩
    have h0 := ih _ _ hF
    have hn := lN hn126 2 c126_1 (F126_l1_1_S a1 a2 v3) (F126_l1_1_S a1 a2 (wadd .i64 v3 1)) (q10 (q11 pz))
    cases r with
    | inl w => exact hn _ _ h0
    | inr w => exact hn _ _ h0
   obtain rfl := sj hF
   have pz : HA hn126 [(ff (ieq a1.Prog 5))] := ⟨h5, trivial⟩
   exact lE hn126 2 c126_1 (F126_l1_1_S a1 a2 v3) (F126_l1_1_X1 a1 a2 ()) (.exit 2) (q10 pz)
  obtain rfl := sj hF
  have pz : HA hn126 [.int (nl a2.In) (nl a2.In), (bk (ilt v3 (nl a2.In))), (bk (ilt v3 (nl a2.In))), (bk (ilt v3 (nl a2.In))), (ff (ilt v3 (nl a2.In))), (ff false)] := ⟨rfl, (bC h4), (bC h4), (bC h4), h4, rfl, trivial⟩
  exact lE hn126 2 c126_1 (F126_l1_1_S a1 a2 v3) (F126_l1_1_X1 a1 a2 ()) (.exit 2) pz
def F126 (K : Nat) (a1 : GJob) (a2 : GState) : Option (Bool) :=
 (F126_l0_0 K a1 a2 K 0).bind fun y3 =>
 Sum.elim (fun w4 =>
  some false)
  (fun w5 =>
  (F126_l1_1 K a1 a2 K 0).bind fun y6 =>
  Sum.elim (fun w7 =>
   some false)
   (fun w8 =>
   some true) y6) y3
theorem F126_ok (K : Nat) (a1 : GJob) (a2 : GState) (r : Bool) (hF : F126 K a1 a2 = some r) : Evt E H 126 [.agg (eGJob a1), .agg (eGState a2)] (F126_res r) := by
 rw [F126] at hF
 refine bind_some hF (fun y4 h3 hF => ?_)
 refine sum_some hF (fun w5 hx hF => ?_) (fun w6 hx hF => ?_)
 ·
  subst hx
  obtain rfl := sj hF
  have pz : HA hn126 [.loop 0 c126_0 (F126_l0_0_S a1 a2 0) .ret (F126_l0_0_X0 a1 a2 w5)] := ⟨(F126_l0_0_ok K a1 a2 K 0 _ h3), trivial⟩
  exact fpC hn126 (r := F126_res false) pz
 subst hx
 refine bind_some hF (fun y8 h7 hF => ?_)
 refine sum_some hF (fun w9 hx hF => ?_) (fun w10 hx hF => ?_)
 ·
  subst hx
  obtain rfl := sj hF
  have pz : HA hn126 [.loop 0 c126_0 (F126_l0_0_S a1 a2 0) (.exit 0) (F126_l0_0_X1 a1 a2 w6), .loop 2 c126_1 (F126_l1_1_S a1 a2 0) .ret (F126_l1_1_X0 a1 a2 w9)] := ⟨(F126_l0_0_ok K a1 a2 K 0 _ h3), (F126_l1_1_ok K a1 a2 K 0 _ h7), trivial⟩
  exact fpC hn126 (r := F126_res false) pz
 subst hx
 obtain rfl := sj hF
 have pz : HA hn126 [.loop 0 c126_0 (F126_l0_0_S a1 a2 0) (.exit 0) (F126_l0_0_X1 a1 a2 w6), .loop 2 c126_1 (F126_l1_1_S a1 a2 0) (.exit 2) (F126_l1_1_X1 a1 a2 w10)] := ⟨(F126_l0_0_ok K a1 a2 K 0 _ h3), (F126_l1_1_ok K a1 a2 K 0 _ h7), trivial⟩
 exact fpC hn126 (r := F126_res true) pz
theorem many_flat : ∀ (ls : List (List GMsg)), (∀ l ∈ ls, l.length ≤ 100) → ls.flatten.length ≤ ls.length * 100
 | [], _ => by simp
 | l :: ls, h => by
  have h1 := h l List.mem_cons_self
  have h2 := many_flat ls fun x hx => h x (List.mem_cons_of_mem _ hx)
  rw [List.flatten_cons, List.length_append, List.length_cons]; omega
def oneP (g : GGraph) (j : GJob) (x : GPart) (i v : Nat) : Int × List GMsg × Bool × Int :=
 bif x.Rest.getD i false && !(atS x.In (v : Int)).2 then (x.Vals.getD i 0, [], true, 0)
 else turnS g j x.Step (v : Int) (x.Vals.getD i 0) (atS x.In (v : Int)).1 (atS x.In (v : Int)).2
def doA (g : GGraph) (j : GJob) (x : GPart) : List Nat → Nat → List Int → List Bool → List GMsg → Int ⊕ Tri
 | [], _, a, b, c => .inr (a, b, c)
 | v :: l, i, a, b, c => bif ieq (oneP g j x i v).2.2.2 0 then doA g j x l (i + 1) (a ++ [(oneP g j x i v).1]) (b ++ [(oneP g j x i v).2.2.1]) (c ++ (oneP g j x i v).2.1) else .inl (oneP g j x i v).2.2.2
def toS (j : GJob) (c : List GMsg) (q : Int) : List GMsg := c.filter fun m => ieq (homeS j m.To) q
def tellS (j : GJob) (c : List GMsg) : List Nat → List (List GMsg) → Int ⊕ List (List GMsg)
 | [], d => .inr d
 | q :: l, d => bif ieq (boxS j.Prog (toS j c (q : Int))).2 0 then tellS j c l (d ++ [(boxS j.Prog (toS j c (q : Int))).1]) else .inl (boxS j.Prog (toS j c (q : Int))).2
abbrev Did := GPart × List (List GMsg) × Int
def doC (x : GPart) (w : Tri) : Int ⊕ List (List GMsg) → Did
 | .inl e => (zeroP, [], e)
 | .inr t => (GPart.mk x.P (x.Step + 1) w.1 w.2.1 [], t, 0)
def doB (j : GJob) (x : GPart) : Int ⊕ Tri → Did
 | .inl e => (zeroP, [], e)
 | .inr w => doC x w (tellS j w.2.2 (List.range j.Parts.toNat) [])
def doS (g : GGraph) (j : GJob) (x : GPart) : Did :=
 bif ieq (jcheck g j) 0 then (bif partRight g j x then (bif ieq x.Step 40 then (zeroP, [], 6) else doB j x (doA g j x (vertsS g j x.P) 0 [] [] [])) else (zeroP, [], 1)) else (zeroP, [], jcheck g j)
def niceP (x : GPart) : Prop := (∀ v ∈ x.Vals, i64 v) ∧ (∀ m ∈ x.In, i64 m.V)
theorem onep_i64 {g : GGraph} {j : GJob} {x : GPart} (hn : niceP x) {i v : Nat} : i64 (oneP g j x i v).1 ∧ ∀ m ∈ (oneP g j x i v).2.1, i64 m.V := by
 have h0 : i64 0 := by unfold i64; omega
 have hx : i64 (x.Vals.getD i 0) := by
  rw [List.getD_eq_getElem?_getD]
  cases hq : x.Vals[i]? with
  | none => exact h0
  | some y => exact hn.1 y (List.mem_of_getElem? hq)
 rw [oneP]
 cases x.Rest.getD i false && !(atS x.In (v : Int)).2
 · exact turn_i64 hx (atS_i64 hn.2)
 · exact ⟨hx, fun m hm => absurd hm (List.not_mem_nil)⟩
theorem onep_outs {g : GGraph} {j : GJob} {x : GPart} {i v : Nat} : (oneP g j x i v).2.1.length ≤ 80 ∧ ∀ m ∈ (oneP g j x i v).2.1, 0 ≤ m.To ∧ m.To < g.N := by
 rw [oneP]
 cases x.Rest.getD i false && !(atS x.In (v : Int)).2
 · exact ⟨turn_len, turn_To⟩
 · exact ⟨Nat.zero_le _, fun m hm => absurd hm (List.not_mem_nil)⟩
structure keepP (g : GGraph) (i : Nat) (a : List Int) (b : List Bool) (c : List GMsg) : Prop where
 la : a.length = i
 lb : b.length = i
 lc : c.length ≤ 80 * i
 va : ∀ v ∈ a, i64 v
 vc : ∀ m ∈ c, i64 m.V
 vt : ∀ m ∈ c, 0 ≤ m.To ∧ m.To < g.N
theorem keepP0 (g : GGraph) : keepP g 0 [] [] [] := ⟨rfl, rfl, Nat.zero_le _, fun v hv => absurd hv (List.not_mem_nil), fun m hm => absurd hm (List.not_mem_nil), fun m hm => absurd hm (List.not_mem_nil)⟩
theorem keepP_next {g : GGraph} {j : GJob} {x : GPart} (hn : niceP x) {i : Nat} (v : Nat) {a : List Int} {b : List Bool} {c : List GMsg} (h : keepP g i a b c) :
 keepP g (i + 1) (a ++ [(oneP g j x i v).1]) (b ++ [(oneP g j x i v).2.2.1]) (c ++ (oneP g j x i v).2.1) := by
 obtain ⟨o1, o2⟩ := onep_i64 (g := g) (j := j) hn (i := i) (v := v)
 obtain ⟨o3, o4⟩ := onep_outs (g := g) (j := j) (x := x) (i := i) (v := v)
 refine ⟨by simp [h.la], by simp [h.lb], ?_, fun v hv => ?_, fun m hm => ?_, fun m hm => ?_⟩
 · have h3 := h.lc
   rw [List.length_append]; omega
 · rcases List.mem_append.1 hv with hv | hv
   · exact h.va v hv
   · rw [List.mem_singleton.1 hv]; exact o1
 · rcases List.mem_append.1 hm with hm | hm
   · exact h.vc m hm
   · exact o2 m hm
 · rcases List.mem_append.1 hm with hm | hm
   · exact h.vt m hm
   · exact o4 m hm
theorem doA_keep {g : GGraph} {j : GJob} {x : GPart} (hn : niceP x) : ∀ (l : List Nat) (i : Nat) (a : List Int) (b : List Bool) (c : List GMsg), keepP g i a b c → ∀ w, doA g j x l i a b c = .inr w → keepP g (i + l.length) w.1 w.2.1 w.2.2 := by
 intro l
 induction l with
 | nil => intro i a b c h w hw; injection hw with hw; subst hw; exact h
 | cons v l ih =>
  intro i a b c h w hw
  rw [doA] at hw
  cases hq : ieq (oneP g j x i v).2.2.2 0
  · rw [hq] at hw; cases hw
  · rw [hq] at hw
    have := ih (i + 1) _ _ _ (keepP_next hn v h) w hw
    rwa [show i + 1 + l.length = i + (l.length + 1) by omega] at this
theorem toS_app (j : GJob) (c d : List GMsg) (q : Int) : toS j (c ++ d) q = toS j c q ++ toS j d q := List.filter_append _ _
theorem toS_len (j : GJob) (c : List GMsg) (q : Int) : (toS j c q).length ≤ c.length := List.length_filter_le _ _
theorem toS_mem {j : GJob} {c : List GMsg} {q : Int} {m : GMsg} (h : m ∈ toS j c q) : m ∈ c ∧ homeS j m.To = q := by
 obtain ⟨a, b⟩ := List.mem_filter.1 h
 exact ⟨a, ieq_iff.1 b⟩
noncomputable def hn116 : Hint := { H 116 with nt := 160, prot := 0 }
noncomputable def c116_0 : Code := loopOf E 116 0
noncomputable def c116_1 : Code := loopOf E 116 1
noncomputable def c116_2 : Code := loopOf E 116 2
def F116_res (r1 : GPart × List (List GMsg) × Int) : Res := ⟨[(.agg [(.im (.lit (.int .i64 r1.1.P))), (.im (.lit (.int .i64 r1.1.Step))), (.own 2 (.sl (len r1.1.Vals) (flat (eInt .i64) r1.1.Vals))), (.own 4 (.sl (len r1.1.Rest) (flat eBool r1.1.Rest))), (.own 130 (.sl (len r1.1.In) (flat eGMsg r1.1.In)))]), (.one (.own 40 (.sl (len r1.2.1) (flat (eSl eGMsg) r1.2.1)))), (.one (.im (.lit (.int .i64 r1.2.2))))], []⟩
def F116_l1_1 (K : Nat) (v1 : Int) (v2 : List GEdge) (v3 : Int) (v4 : Int) (v5 : Int) (v6 : Int) (v7 : Int) (v8 : Int) (v9 : List Int) (v10 : List Bool) (v11 : List GMsg) (v12 : List Int) (v13 : List Bool) (v14 : Int) (v15 : Bool) (v16 : List GMsg) (v17 : Int) : Nat → List GMsg → List GMsg → List GMsg → List GMsg → List GMsg → List GMsg → Int → Option (List GMsg × List GMsg × List GMsg × List GMsg × List GMsg × List GMsg)
 | 0, _, _, _, _, _, _, _ => none
 | k + 1, v18, v19, v20, v21, v22, v23, v24 =>
  bif (ilt v24 (nlen (len v16))) then
   (bif (inr v24 (len v16)) then
   (elAt v16 v24).bind fun x25 =>
   (F75 K (GJob.mk v3 v4 v5 v6) x25.To).bind fun r26 =>
   bif (ieq r26 0) then
    (bif (apok (len v18) 1 16) then
    F116_l1_1 K v1 v2 v3 v4 v5 v6 v7 v8 v9 v10 v11 v12 v13 v14 v15 v16 v17 k (appL v18 [x25]) v19 v20 v21 v22 v23 (wadd .i64 v24 1)
    else none)
   else
   bif (ieq r26 1) then
    (bif (apok (len v19) 1 16) then
    F116_l1_1 K v1 v2 v3 v4 v5 v6 v7 v8 v9 v10 v11 v12 v13 v14 v15 v16 v17 k v18 (appL v19 [x25]) v20 v21 v22 v23 (wadd .i64 v24 1)
    else none)
   else
   bif (ieq r26 2) then
    (bif (apok (len v20) 1 16) then
    F116_l1_1 K v1 v2 v3 v4 v5 v6 v7 v8 v9 v10 v11 v12 v13 v14 v15 v16 v17 k v18 v19 (appL v20 [x25]) v21 v22 v23 (wadd .i64 v24 1)
    else none)
   else
   bif (ieq r26 3) then
    (bif (apok (len v21) 1 16) then
    F116_l1_1 K v1 v2 v3 v4 v5 v6 v7 v8 v9 v10 v11 v12 v13 v14 v15 v16 v17 k v18 v19 v20 (appL v21 [x25]) v22 v23 (wadd .i64 v24 1)
    else none)
   else
   bif (ieq r26 4) then
    (bif (apok (len v22) 1 16) then
    F116_l1_1 K v1 v2 v3 v4 v5 v6 v7 v8 v9 v10 v11 v12 v13 v14 v15 v16 v17 k v18 v19 v20 v21 (appL v22 [x25]) v23 (wadd .i64 v24 1)
    else none)
   else
   bif (ieq r26 5) then
   bif (apok (len v23) 1 16) then
   F116_l1_1 K v1 v2 v3 v4 v5 v6 v7 v8 v9 v10 v11 v12 v13 v14 v15 v16 v17 k v18 v19 v20 v21 v22 (appL v23 [x25]) (wadd .i64 v24 1)
   else none
   else none
   else none)
  else
  some (v18, (v19, (v20, (v21, (v22, v23)))))
def F116_l1_1_S (v1 : Int) (v2 : List GEdge) (v3 : Int) (v4 : Int) (v5 : Int) (v6 : Int) (v7 : Int) (v8 : Int) (v9 : List Int) (v10 : List Bool) (v11 : List GMsg) (v12 : List Int) (v13 : List Bool) (v14 : Int) (v15 : Bool) (v16 : List GMsg) (v17 : Int) (v18 : List GMsg) (v19 : List GMsg) (v20 : List GMsg) (v21 : List GMsg) (v22 : List GMsg) (v23 : List GMsg) (v24 : Int) : TS := .on [192, 193, 194, 256, 257, 258, 259, 260, 320, 321, 322, 323, 324, 325, 384, 385, 386, 387, 388, 389, 640, 641, 642, 643, 644, 645, 704, 705, 706, 707, 708, 709, 710, 832, 833, 1088, 1089, 1216, 1217, 3328, 3392, 3393, 3456, 3457, 3520, 3521, 6592, 6593, 6656, 6657, 6720, 6721] [(192, ⟨(.box 62 2), 0, nob⟩), (193, ⟨.im, 0, (.lit (.int .i64 v1))⟩), (194, ⟨.im, 0, (.sl (len v2) (flat eGEdge v2))⟩), (256, ⟨(.box 64 4), 0, nob⟩), (257, ⟨.im, 0, (.lit (.int .i64 v3))⟩), (258, ⟨.im, 0, (.lit (.int .i64 v4))⟩), (259, ⟨.im, 0, (.lit (.int .i64 v5))⟩), (260, ⟨.im, 0, (.lit (.int .i64 v6))⟩), (320, ⟨(.box 42 5), 0, nob⟩), (321, ⟨.im, 0, (.lit (.int .i64 v7))⟩), (322, ⟨.im, 0, (.lit (.int .i64 v8))⟩), (323, ⟨.im, 0, (.sl (len v9) (flat (eInt .i64) v9))⟩), (324, ⟨.im, 0, (.sl (len v10) (flat eBool v10))⟩), (325, ⟨.im, 0, (.sl (len v11) (flat eGMsg v11))⟩), (384, ⟨(.box 42 5), 0, nob⟩), (385, ⟨.im, 0, (.lit (.int .i64 0))⟩), (386, ⟨.im, 0, (.lit (.int .i64 0))⟩), (387, ⟨(.own 2), 0, (.sl 0 [])⟩), (388, ⟨(.own 4), 0, (.sl 0 [])⟩), (389, ⟨(.own 130), 0, (.sl 0 [])⟩), (640, ⟨(.box 42 5), 0, nob⟩), (641, ⟨.im, 0, (.lit (.int .i64 v7))⟩), (642, ⟨.im, 0, (.lit (.int .i64 (wadd .i64 v8 1)))⟩), (643, ⟨(.own 2), 0, (.sl (len v12) (flat (eInt .i64) v12))⟩), (644, ⟨(.own 4), 0, (.sl (len v13) (flat eBool v13))⟩), (645, ⟨(.own 130), 0, (.sl 0 [])⟩), (704, ⟨(.box 188 6), 0, nob⟩), (705, ⟨(.own 130), 0, (.sl (len v18) (flat eGMsg v18))⟩), (706, ⟨(.own 130), 0, (.sl (len v19) (flat eGMsg v19))⟩), (707, ⟨(.own 130), 0, (.sl (len v20) (flat eGMsg v20))⟩), (708, ⟨(.own 130), 0, (.sl (len v21) (flat eGMsg v21))⟩), (709, ⟨(.own 130), 0, (.sl (len v22) (flat eGMsg v22))⟩), (710, ⟨(.own 130), 0, (.sl (len v23) (flat eGMsg v23))⟩), (832, ⟨.one, 0, nob⟩), (833, ⟨.im, 0, (.lit (.int .i64 v14))⟩), (1088, ⟨.one, 0, nob⟩), (1089, ⟨.im, 0, (.lit (.bool v15))⟩), (1216, ⟨.one, 0, nob⟩), (1217, ⟨(.own 130), 0, (.sl (len v16) (flat eGMsg v16))⟩), (3328, ⟨(.ad 5 0 2), 0, nob⟩), (3392, ⟨.one, 0, nob⟩), (3393, ⟨.im, 0, (.sl (len v9) (flat (eInt .i64) v9))⟩), (3456, ⟨.one, 0, nob⟩), (3457, ⟨.im, 0, (.lit (.int .i64 (nlen (len v9))))⟩), (3520, ⟨.one, 0, nob⟩), (3521, ⟨.im, 0, (.lit (.int .i64 v17))⟩), (6592, ⟨.one, 0, nob⟩), (6593, ⟨(.vw 1217 0), 0, nob⟩), (6656, ⟨.one, 0, nob⟩), (6657, ⟨.im, 0, (.lit (.int .i64 (nlen (len v16))))⟩), (6720, ⟨.one, 0, nob⟩), (6721, ⟨.im, 0, (.lit (.int .i64 v24))⟩)]
def F116_l1_1_X0 (v1 : Int) (v2 : List GEdge) (v3 : Int) (v4 : Int) (v5 : Int) (v6 : Int) (v7 : Int) (v8 : Int) (v9 : List Int) (v10 : List Bool) (v11 : List GMsg) (v12 : List Int) (v13 : List Bool) (v14 : Int) (v15 : Bool) (v16 : List GMsg) (v17 : Int) (w18 : List GMsg × List GMsg × List GMsg × List GMsg × List GMsg × List GMsg) : TS := .on [192, 193, 194, 256, 257, 258, 259, 260, 320, 321, 322, 323, 324, 325, 384, 385, 386, 387, 388, 389, 640, 641, 642, 643, 644, 645, 704, 705, 706, 707, 708, 709, 710, 832, 833, 1088, 1089, 3328, 3392, 3393, 3456, 3457, 3520, 3521] [(192, ⟨(.box 62 2), 0, nob⟩), (193, ⟨.im, 0, (.lit (.int .i64 v1))⟩), (194, ⟨.im, 0, (.sl (len v2) (flat eGEdge v2))⟩), (256, ⟨(.box 64 4), 0, nob⟩), (257, ⟨.im, 0, (.lit (.int .i64 v3))⟩), (258, ⟨.im, 0, (.lit (.int .i64 v4))⟩), (259, ⟨.im, 0, (.lit (.int .i64 v5))⟩), (260, ⟨.im, 0, (.lit (.int .i64 v6))⟩), (320, ⟨(.box 42 5), 0, nob⟩), (321, ⟨.im, 0, (.lit (.int .i64 v7))⟩), (322, ⟨.im, 0, (.lit (.int .i64 v8))⟩), (323, ⟨.im, 0, (.sl (len v9) (flat (eInt .i64) v9))⟩), (324, ⟨.im, 0, (.sl (len v10) (flat eBool v10))⟩), (325, ⟨.im, 0, (.sl (len v11) (flat eGMsg v11))⟩), (384, ⟨(.box 42 5), 0, nob⟩), (385, ⟨.im, 0, (.lit (.int .i64 0))⟩), (386, ⟨.im, 0, (.lit (.int .i64 0))⟩), (387, ⟨(.own 2), 0, (.sl 0 [])⟩), (388, ⟨(.own 4), 0, (.sl 0 [])⟩), (389, ⟨(.own 130), 0, (.sl 0 [])⟩), (640, ⟨(.box 42 5), 0, nob⟩), (641, ⟨.im, 0, (.lit (.int .i64 v7))⟩), (642, ⟨.im, 0, (.lit (.int .i64 (wadd .i64 v8 1)))⟩), (643, ⟨(.own 2), 0, (.sl (len v12) (flat (eInt .i64) v12))⟩), (644, ⟨(.own 4), 0, (.sl (len v13) (flat eBool v13))⟩), (645, ⟨(.own 130), 0, (.sl 0 [])⟩), (704, ⟨(.box 188 6), 0, nob⟩), (705, ⟨(.own 130), 0, (.sl (len w18.1) (flat eGMsg w18.1))⟩), (706, ⟨(.own 130), 0, (.sl (len w18.2.1) (flat eGMsg w18.2.1))⟩), (707, ⟨(.own 130), 0, (.sl (len w18.2.2.1) (flat eGMsg w18.2.2.1))⟩), (708, ⟨(.own 130), 0, (.sl (len w18.2.2.2.1) (flat eGMsg w18.2.2.2.1))⟩), (709, ⟨(.own 130), 0, (.sl (len w18.2.2.2.2.1) (flat eGMsg w18.2.2.2.2.1))⟩), (710, ⟨(.own 130), 0, (.sl (len w18.2.2.2.2.2) (flat eGMsg w18.2.2.2.2.2))⟩), (832, ⟨.one, 0, nob⟩), (833, ⟨.im, 0, (.lit (.int .i64 v14))⟩), (1088, ⟨.one, 0, nob⟩), (1089, ⟨.im, 0, (.lit (.bool v15))⟩), (3328, ⟨(.ad 5 0 2), 0, nob⟩), (3392, ⟨.one, 0, nob⟩), (3393, ⟨.im, 0, (.sl (len v9) (flat (eInt .i64) v9))⟩), (3456, ⟨.one, 0, nob⟩), (3457, ⟨.im, 0, (.lit (.int .i64 (nlen (len v9))))⟩), (3520, ⟨.one, 0, nob⟩), (3521, ⟨.im, 0, (.lit (.int .i64 v17))⟩)]
theorem F116_l1_1_ok (K : Nat) (v1 : Int) (v2 : List GEdge) (v3 : Int) (v4 : Int) (v5 : Int) (v6 : Int) (v7 : Int) (v8 : Int) (v9 : List Int) (v10 : List Bool) (v11 : List GMsg) (v12 : List Int) (v13 : List Bool) (v14 : Int) (v15 : Bool) (v16 : List GMsg) (v17 : Int) : ∀ (k : Nat) (v18 : List GMsg) (v19 : List GMsg) (v20 : List GMsg) (v21 : List GMsg) (v22 : List GMsg) (v23 : List GMsg) (v24 : Int) (r : List GMsg × List GMsg × List GMsg × List GMsg × List GMsg × List GMsg), F116_l1_1 K v1 v2 v3 v4 v5 v6 v7 v8 v9 v10 v11 v12 v13 v14 v15 v16 v17 k v18 v19 v20 v21 v22 v23 v24 = some r → LoopEv E H hn116 2 c116_1 (F116_l1_1_S v1 v2 v3 v4 v5 v6 v7 v8 v9 v10 v11 v12 v13 v14 v15 v16 v17 v18 v19 v20 v21 v22 v23 v24) (.exit 2) (F116_l1_1_X0 v1 v2 v3 v4 v5 v6 v7 v8 v9 v10 v11 v12 v13 v14 v15 v16 v17 r) := by
 intro k
 induction k with
 | zero => intro v18 v19 v20 v21 v22 v23 v24 r hF; cases hF
 | succ k ih =>
  intro v18 v19 v20 v21 v22 v23 v24 r hF
  rw [F116_l1_1] at hF
  refine cond_some hF (fun h25 hF => ?_) (fun h25 hF => ?_)
  ·
   refine cond_some hF (fun h26 hF => ?_) (fun _ hF => nomatch hF)
   refine bind_some hF (fun x27 h28 hF => ?_)
   refine bind_some hF (fun r29 h30 hF => ?_)
   have q43 : PQ hn116 fun l => ((tt (ilt v24 (nl v16))) :: (tt (inr v24 (len v16))) :: .sub (flat eGMsg v16) (nidx v24 2) 2 [(i6 x27.To), (i6 x27.V)] :: .call 75 [.agg (eGJob (GJob.mk v3 v4 v5 v6)), .one (i6 x27.To)] (F75_res r29) :: (ff (leadsAny (Res.mk [(.one (.im (i6 r29)))] []))) :: l) := fun z => ⟨h25, h26, ⟨rfl, sub_flat0 eGMsg_len h28 2 (by decide)⟩, (F75_ok K (GJob.mk v3 v4 v5 v6) x27.To _ h30), lk, z⟩
   refine cond_some hF (fun h31 hF => ?_) (fun h31 hF => ?_)
   ·
    refine cond_some hF (fun h32 hF => ?_) (fun _ hF => nomatch hF)
    have pz : HA hn116 [(tt (ieq r29 0)), (tt (leqm [(i6 x27.To), (i6 x27.V)] 1 2)), (tt (apok (len v18) 1 16)), .sl (nadd (len v18) 1) (lapp (flat eGMsg v18) [(i6 x27.To), (i6 x27.V)]) (len (α := GMsg) (appL v18 [x27])) (flat eGMsg (appL v18 [x27])), (tt (ieq r29 0)), .int (wadd .i64 v24 1) (wadd .i64 v24 1)] := ⟨h31, rfl, h32, (app_ok (enc := eGMsg) (v18 : List GMsg) [x27]), h31, rfl, trivial⟩
    have h0 := ih _ _ _ _ _ _ _ _ hF
    have hn := lN hn116 2 c116_1 (F116_l1_1_S v1 v2 v3 v4 v5 v6 v7 v8 v9 v10 v11 v12 v13 v14 v15 v16 v17 v18 v19 v20 v21 v22 v23 v24) (F116_l1_1_S v1 v2 v3 v4 v5 v6 v7 v8 v9 v10 v11 v12 v13 v14 v15 v16 v17 (appL v18 [x27]) v19 v20 v21 v22 v23 (wadd .i64 v24 1)) (q43 pz)
    exact hn _ _ h0
   refine cond_some hF (fun h33 hF => ?_) (fun h33 hF => ?_)
   ·
    refine cond_some hF (fun h34 hF => ?_) (fun _ hF => nomatch hF)
    have pz : HA hn116 [(ff (ieq r29 0)), (tt (ieq r29 1)), (tt (leqm [(i6 x27.To), (i6 x27.V)] 1 2)), (tt (apok (len v19) 1 16)), .sl (nadd (len v19) 1) (lapp (flat eGMsg v19) [(i6 x27.To), (i6 x27.V)]) (len (α := GMsg) (appL v19 [x27])) (flat eGMsg (appL v19 [x27])), (ff (ieq r29 0)), (tt (ieq r29 1)), .int (wadd .i64 v24 1) (wadd .i64 v24 1)] := ⟨h31, h33, rfl, h34, (app_ok (enc := eGMsg) (v19 : List GMsg) [x27]), h31, h33, rfl, trivial⟩
    have h0 := ih _ _ _ _ _ _ _ _ hF
    have hn := lN hn116 2 c116_1 (F116_l1_1_S v1 v2 v3 v4 v5 v6 v7 v8 v9 v10 v11 v12 v13 v14 v15 v16 v17 v18 v19 v20 v21 v22 v23 v24) (F116_l1_1_S v1 v2 v3 v4 v5 v6 v7 v8 v9 v10 v11 v12 v13 v14 v15 v16 v17 v18 (appL v19 [x27]) v20 v21 v22 v23 (wadd .i64 v24 1)) (q43 pz)
    exact hn _ _ h0
   refine cond_some hF (fun h35 hF => ?_) (fun h35 hF => ?_)
   ·
    refine cond_some hF (fun h36 hF => ?_) (fun _ hF => nomatch hF)
    have pz : HA hn116 [(ff (ieq r29 0)), (ff (ieq r29 1)), (tt (ieq r29 2)), (tt (leqm [(i6 x27.To), (i6 x27.V)] 1 2)), (tt (apok (len v20) 1 16)), .sl (nadd (len v20) 1) (lapp (flat eGMsg v20) [(i6 x27.To), (i6 x27.V)]) (len (α := GMsg) (appL v20 [x27])) (flat eGMsg (appL v20 [x27])), (ff (ieq r29 0)), (ff (ieq r29 1)), (tt (ieq r29 2)), .int (wadd .i64 v24 1) (wadd .i64 v24 1)] := ⟨h31, h33, h35, rfl, h36, (app_ok (enc := eGMsg) (v20 : List GMsg) [x27]), h31, h33, h35, rfl, trivial⟩
    have h0 := ih _ _ _ _ _ _ _ _ hF
    have hn := lN hn116 2 c116_1 (F116_l1_1_S v1 v2 v3 v4 v5 v6 v7 v8 v9 v10 v11 v12 v13 v14 v15 v16 v17 v18 v19 v20 v21 v22 v23 v24) (F116_l1_1_S v1 v2 v3 v4 v5 v6 v7 v8 v9 v10 v11 v12 v13 v14 v15 v16 v17 v18 v19 (appL v20 [x27]) v21 v22 v23 (wadd .i64 v24 1)) (q43 pz)
    exact hn _ _ h0
   have q44 : PQ hn116 fun l => ((ff (ieq r29 0)) :: (ff (ieq r29 1)) :: (ff (ieq r29 2)) :: l) := fun z => ⟨h31, h33, h35, z⟩
   refine cond_some hF (fun h37 hF => ?_) (fun h37 hF => ?_)
   ·
    refine cond_some hF (fun h38 hF => ?_) (fun _ hF => nomatch hF)
    have pz : HA hn116 [(tt (ieq r29 3)), (tt (leqm [(i6 x27.To), (i6 x27.V)] 1 2)), (tt (apok (len v21) 1 16)), .sl (nadd (len v21) 1) (lapp (flat eGMsg v21) [(i6 x27.To), (i6 x27.V)]) (len (α := GMsg) (appL v21 [x27])) (flat eGMsg (appL v21 [x27])), (ff (ieq r29 0)), (ff (ieq r29 1)), (ff (ieq r29 2)), (tt (ieq r29 3)), .int (wadd .i64 v24 1) (wadd .i64 v24 1)] := ⟨h37, rfl, h38, (app_ok (enc := eGMsg) (v21 : List GMsg) [x27]), h31, h33, h35, h37, rfl, trivial⟩
    have h0 := ih _ _ _ _ _ _ _ _ hF
    have hn := lN hn116 2 c116_1 (F116_l1_1_S v1 v2 v3 v4 v5 v6 v7 v8 v9 v10 v11 v12 v13 v14 v15 v16 v17 v18 v19 v20 v21 v22 v23 v24) (F116_l1_1_S v1 v2 v3 v4 v5 v6 v7 v8 v9 v10 v11 v12 v13 v14 v15 v16 v17 v18 v19 v20 (appL v21 [x27]) v22 v23 (wadd .i64 v24 1)) (q43 (q44 pz))
    exact hn _ _ h0
   refine cond_some hF (fun h39 hF => ?_) (fun h39 hF => ?_)
   ·
    refine cond_some hF (fun h40 hF => ?_) (fun _ hF => nomatch hF)
    have pz : HA hn116 [(ff (ieq r29 3)), (tt (ieq r29 4)), (tt (leqm [(i6 x27.To), (i6 x27.V)] 1 2)), (tt (apok (len v22) 1 16)), .sl (nadd (len v22) 1) (lapp (flat eGMsg v22) [(i6 x27.To), (i6 x27.V)]) (len (α := GMsg) (appL v22 [x27])) (flat eGMsg (appL v22 [x27])), (ff (ieq r29 0)), (ff (ieq r29 1)), (ff (ieq r29 2)), (ff (ieq r29 3)), (tt (ieq r29 4)), .int (wadd .i64 v24 1) (wadd .i64 v24 1)] := ⟨h37, h39, rfl, h40, (app_ok (enc := eGMsg) (v22 : List GMsg) [x27]), h31, h33, h35, h37, h39, rfl, trivial⟩
    have h0 := ih _ _ _ _ _ _ _ _ hF
    have hn := lN hn116 2 c116_1 (F116_l1_1_S v1 v2 v3 v4 v5 v6 v7 v8 v9 v10 v11 v12 v13 v14 v15 v16 v17 v18 v19 v20 v21 v22 v23 v24) (F116_l1_1_S v1 v2 v3 v4 v5 v6 v7 v8 v9 v10 v11 v12 v13 v14 v15 v16 v17 v18 v19 v20 v21 (appL v22 [x27]) v23 (wadd .i64 v24 1)) (q43 (q44 pz))
    exact hn _ _ h0
   refine cond_some hF (fun h41 hF => ?_) (fun _ hF => nomatch hF)
   refine cond_some hF (fun h42 hF => ?_) (fun _ hF => nomatch hF)
   have pz : HA hn116 [(ff (ieq r29 3)), (ff (ieq r29 4)), (tt (ieq r29 5)), (tt (leqm [(i6 x27.To), (i6 x27.V)] 1 2)), (tt (apok (len v23) 1 16)), .sl (nadd (len v23) 1) (lapp (flat eGMsg v23) [(i6 x27.To), (i6 x27.V)]) (len (α := GMsg) (appL v23 [x27])) (flat eGMsg (appL v23 [x27])), (ff (ieq r29 0)), (ff (ieq r29 1)), (ff (ieq r29 2)), (ff (ieq r29 3)), (ff (ieq r29 4)), (tt (ieq r29 5)), .int (wadd .i64 v24 1) (wadd .i64 v24 1)] := ⟨h37, h39, h41, rfl, h42, (app_ok (enc := eGMsg) (v23 : List GMsg) [x27]), h31, h33, h35, h37, h39, h41, rfl, trivial⟩
   have h0 := ih _ _ _ _ _ _ _ _ hF
   have hn := lN hn116 2 c116_1 (F116_l1_1_S v1 v2 v3 v4 v5 v6 v7 v8 v9 v10 v11 v12 v13 v14 v15 v16 v17 v18 v19 v20 v21 v22 v23 v24) (F116_l1_1_S v1 v2 v3 v4 v5 v6 v7 v8 v9 v10 v11 v12 v13 v14 v15 v16 v17 v18 v19 v20 v21 v22 (appL v23 [x27]) (wadd .i64 v24 1)) (q43 (q44 pz))
   exact hn _ _ h0
  obtain rfl := sj hF
  have pz : HA hn116 [(ff (ilt v24 (nl v16)))] := ⟨h25, trivial⟩
  exact lE hn116 2 c116_1 (F116_l1_1_S v1 v2 v3 v4 v5 v6 v7 v8 v9 v10 v11 v12 v13 v14 v15 v16 v17 v18 v19 v20 v21 v22 v23 v24) (F116_l1_1_X0 v1 v2 v3 v4 v5 v6 v7 v8 v9 v10 v11 v12 v13 v14 v15 v16 v17 (v18, (v19, (v20, (v21, (v22, v23)))))) (.exit 2) pz
def F116_l0_0 (K : Nat) (v1 : Int) (v2 : List GEdge) (v3 : Int) (v4 : Int) (v5 : Int) (v6 : Int) (v7 : Int) (v8 : Int) (v9 : List Int) (v10 : List Bool) (v11 : List GMsg) : Nat → List Int → List Bool → List GMsg → List GMsg → List GMsg → List GMsg → List GMsg → List GMsg → Int → Option ((Int) ⊕ (List Int × List Bool × List GMsg × List GMsg × List GMsg × List GMsg × List GMsg × List GMsg))
 | 0, _, _, _, _, _, _, _, _, _ => none
 | k + 1, v12, v13, v14, v15, v16, v17, v18, v19, v20 =>
  bif (ilt v20 (nlen (len v9))) then
   (bif (inr v20 (len v9)) then
   (elAt v9 v20).bind fun x21 =>
   (F149 K v11 (wadd .i64 v7 (wmul .i64 v20 v6))).bind fun r22 =>
   bif (inr v20 (len v10)) then
   (elAt v10 v20).bind fun x23 =>
   bif x23 then
    (bif r22.2 then
     ((F99 K (GGraph.mk v1 v2) (GJob.mk v3 v4 v5 v6) v8 (wadd .i64 v7 (wmul .i64 v20 v6)) x21 r22.1 r22.2).bind fun r24 =>
     bif (ieq r24.2.2.2 0) then
      ((F116_l1_1 K v1 v2 v3 v4 v5 v6 v7 v8 v9 v10 v11 v12 v13 r24.1 r24.2.2.1 r24.2.1 v20 K v14 v15 v16 v17 v18 v19 0).bind fun w25 =>
      bif (apok (len v12) 1 8) then
      bif (apok (len v13) 1 1) then
      F116_l0_0 K v1 v2 v3 v4 v5 v6 v7 v8 v9 v10 v11 k (appL v12 [r24.1]) (appL v13 [r24.2.2.1]) w25.1 w25.2.1 w25.2.2.1 w25.2.2.2.1 w25.2.2.2.2.1 w25.2.2.2.2.2 (wadd .i64 v20 1)
      else none
      else none)
     else
     some (.inl r24.2.2.2))
    else
    bif (apok (len v12) 1 8) then
    bif (apok (len v13) 1 1) then
    F116_l0_0 K v1 v2 v3 v4 v5 v6 v7 v8 v9 v10 v11 k (appL v12 [x21]) (appL v13 [true]) v14 v15 v16 v17 v18 v19 (wadd .i64 v20 1)
    else none
    else none)
   else
   (F99 K (GGraph.mk v1 v2) (GJob.mk v3 v4 v5 v6) v8 (wadd .i64 v7 (wmul .i64 v20 v6)) x21 r22.1 r22.2).bind fun r26 =>
   bif (ieq r26.2.2.2 0) then
    ((F116_l1_1 K v1 v2 v3 v4 v5 v6 v7 v8 v9 v10 v11 v12 v13 r26.1 r26.2.2.1 r26.2.1 v20 K v14 v15 v16 v17 v18 v19 0).bind fun w27 =>
    bif (apok (len v12) 1 8) then
    bif (apok (len v13) 1 1) then
    F116_l0_0 K v1 v2 v3 v4 v5 v6 v7 v8 v9 v10 v11 k (appL v12 [r26.1]) (appL v13 [r26.2.2.1]) w27.1 w27.2.1 w27.2.2.1 w27.2.2.2.1 w27.2.2.2.2.1 w27.2.2.2.2.2 (wadd .i64 v20 1)
    else none
    else none)
   else
   some (.inl r26.2.2.2)
   else none
   else none)
  else
  some (.inr (v12, (v13, (v14, (v15, (v16, (v17, (v18, v19))))))))
def F116_l0_0_S (v1 : Int) (v2 : List GEdge) (v3 : Int) (v4 : Int) (v5 : Int) (v6 : Int) (v7 : Int) (v8 : Int) (v9 : List Int) (v10 : List Bool) (v11 : List GMsg) (v12 : List Int) (v13 : List Bool) (v14 : List GMsg) (v15 : List GMsg) (v16 : List GMsg) (v17 : List GMsg) (v18 : List GMsg) (v19 : List GMsg) (v20 : Int) : TS := .on [192, 193, 194, 256, 257, 258, 259, 260, 320, 321, 322, 323, 324, 325, 384, 385, 386, 387, 388, 389, 640, 641, 642, 643, 644, 645, 704, 705, 706, 707, 708, 709, 710, 3328, 3392, 3393, 3456, 3457, 3520, 3521] [(192, ⟨(.box 62 2), 0, nob⟩), (193, ⟨.im, 0, (.lit (.int .i64 v1))⟩), (194, ⟨.im, 0, (.sl (len v2) (flat eGEdge v2))⟩), (256, ⟨(.box 64 4), 0, nob⟩), (257, ⟨.im, 0, (.lit (.int .i64 v3))⟩), (258, ⟨.im, 0, (.lit (.int .i64 v4))⟩), (259, ⟨.im, 0, (.lit (.int .i64 v5))⟩), (260, ⟨.im, 0, (.lit (.int .i64 v6))⟩), (320, ⟨(.box 42 5), 0, nob⟩), (321, ⟨.im, 0, (.lit (.int .i64 v7))⟩), (322, ⟨.im, 0, (.lit (.int .i64 v8))⟩), (323, ⟨.im, 0, (.sl (len v9) (flat (eInt .i64) v9))⟩), (324, ⟨.im, 0, (.sl (len v10) (flat eBool v10))⟩), (325, ⟨.im, 0, (.sl (len v11) (flat eGMsg v11))⟩), (384, ⟨(.box 42 5), 0, nob⟩), (385, ⟨.im, 0, (.lit (.int .i64 0))⟩), (386, ⟨.im, 0, (.lit (.int .i64 0))⟩), (387, ⟨(.own 2), 0, (.sl 0 [])⟩), (388, ⟨(.own 4), 0, (.sl 0 [])⟩), (389, ⟨(.own 130), 0, (.sl 0 [])⟩), (640, ⟨(.box 42 5), 0, nob⟩), (641, ⟨.im, 0, (.lit (.int .i64 v7))⟩), (642, ⟨.im, 0, (.lit (.int .i64 (wadd .i64 v8 1)))⟩), (643, ⟨(.own 2), 0, (.sl (len v12) (flat (eInt .i64) v12))⟩), (644, ⟨(.own 4), 0, (.sl (len v13) (flat eBool v13))⟩), (645, ⟨(.own 130), 0, (.sl 0 [])⟩), (704, ⟨(.box 188 6), 0, nob⟩), (705, ⟨(.own 130), 0, (.sl (len v14) (flat eGMsg v14))⟩), (706, ⟨(.own 130), 0, (.sl (len v15) (flat eGMsg v15))⟩), (707, ⟨(.own 130), 0, (.sl (len v16) (flat eGMsg v16))⟩), (708, ⟨(.own 130), 0, (.sl (len v17) (flat eGMsg v17))⟩), (709, ⟨(.own 130), 0, (.sl (len v18) (flat eGMsg v18))⟩), (710, ⟨(.own 130), 0, (.sl (len v19) (flat eGMsg v19))⟩), (3328, ⟨(.ad 5 0 2), 0, nob⟩), (3392, ⟨.one, 0, nob⟩), (3393, ⟨.im, 0, (.sl (len v9) (flat (eInt .i64) v9))⟩), (3456, ⟨.one, 0, nob⟩), (3457, ⟨.im, 0, (.lit (.int .i64 (nlen (len v9))))⟩), (3520, ⟨.one, 0, nob⟩), (3521, ⟨.im, 0, (.lit (.int .i64 v20))⟩)]
def F116_l0_0_X0 (v1 : Int) (v2 : List GEdge) (v3 : Int) (v4 : Int) (v5 : Int) (v6 : Int) (v7 : Int) (v8 : Int) (v9 : List Int) (v10 : List Bool) (v11 : List GMsg) (w12 : Int) : TS := .on [384, 385, 386, 387, 388, 389, 448, 449, 512, 513] [(384, ⟨(.box 42 5), 0, nob⟩), (385, ⟨.im, 0, (.lit (.int .i64 0))⟩), (386, ⟨.im, 0, (.lit (.int .i64 0))⟩), (387, ⟨(.own 2), 0, (.sl 0 [])⟩), (388, ⟨(.own 4), 0, (.sl 0 [])⟩), (389, ⟨(.own 130), 0, (.sl 0 [])⟩), (448, ⟨.one, 0, nob⟩), (449, ⟨(.own 40), 0, (.sl 0 [])⟩), (512, ⟨.one, 0, nob⟩), (513, ⟨.im, 0, (.lit (.int .i64 w12))⟩)]
def F116_l0_0_X1 (v1 : Int) (v2 : List GEdge) (v3 : Int) (v4 : Int) (v5 : Int) (v6 : Int) (v7 : Int) (v8 : Int) (v9 : List Int) (v10 : List Bool) (v11 : List GMsg) (w12 : List Int × List Bool × List GMsg × List GMsg × List GMsg × List GMsg × List GMsg × List GMsg) : TS := .on [256, 257, 258, 259, 260, 384, 385, 386, 387, 388, 389, 640, 641, 642, 643, 644, 645, 704, 705, 706, 707, 708, 709, 710] [(256, ⟨(.box 64 4), 0, nob⟩), (257, ⟨.im, 0, (.lit (.int .i64 v3))⟩), (258, ⟨.im, 0, (.lit (.int .i64 v4))⟩), (259, ⟨.im, 0, (.lit (.int .i64 v5))⟩), (260, ⟨.im, 0, (.lit (.int .i64 v6))⟩), (384, ⟨(.box 42 5), 0, nob⟩), (385, ⟨.im, 0, (.lit (.int .i64 0))⟩), (386, ⟨.im, 0, (.lit (.int .i64 0))⟩), (387, ⟨(.own 2), 0, (.sl 0 [])⟩), (388, ⟨(.own 4), 0, (.sl 0 [])⟩), (389, ⟨(.own 130), 0, (.sl 0 [])⟩), (640, ⟨(.box 42 5), 0, nob⟩), (641, ⟨.im, 0, (.lit (.int .i64 v7))⟩), (642, ⟨.im, 0, (.lit (.int .i64 (wadd .i64 v8 1)))⟩), (643, ⟨(.own 2), 0, (.sl (len w12.1) (flat (eInt .i64) w12.1))⟩), (644, ⟨(.own 4), 0, (.sl (len w12.2.1) (flat eBool w12.2.1))⟩), (645, ⟨(.own 130), 0, (.sl 0 [])⟩), (704, ⟨(.box 188 6), 0, nob⟩), (705, ⟨(.own 130), 0, (.sl (len w12.2.2.1) (flat eGMsg w12.2.2.1))⟩), (706, ⟨(.own 130), 0, (.sl (len w12.2.2.2.1) (flat eGMsg w12.2.2.2.1))⟩), (707, ⟨(.own 130), 0, (.sl (len w12.2.2.2.2.1) (flat eGMsg w12.2.2.2.2.1))⟩), (708, ⟨(.own 130), 0, (.sl (len w12.2.2.2.2.2.1) (flat eGMsg w12.2.2.2.2.2.1))⟩), (709, ⟨(.own 130), 0, (.sl (len w12.2.2.2.2.2.2.1) (flat eGMsg w12.2.2.2.2.2.2.1))⟩), (710, ⟨(.own 130), 0, (.sl (len w12.2.2.2.2.2.2.2) (flat eGMsg w12.2.2.2.2.2.2.2))⟩)]
theorem F116_l0_0_ok (K : Nat) (v1 : Int) (v2 : List GEdge) (v3 : Int) (v4 : Int) (v5 : Int) (v6 : Int) (v7 : Int) (v8 : Int) (v9 : List Int) (v10 : List Bool) (v11 : List GMsg) : ∀ (k : Nat) (v12 : List Int) (v13 : List Bool) (v14 : List GMsg) (v15 : List GMsg) (v16 : List GMsg) (v17 : List GMsg) (v18 : List GMsg) (v19 : List GMsg) (v20 : Int) (r : (Int) ⊕ (List Int × List Bool × List GMsg × List GMsg × List GMsg × List GMsg × List GMsg × List GMsg)), F116_l0_0 K v1 v2 v3 v4 v5 v6 v7 v8 v9 v10 v11 k v12 v13 v14 v15 v16 v17 v18 v19 v20 = some r → (Sum.elim (fun w => LoopEv E H hn116 0 c116_0 (F116_l0_0_S v1 v2 v3 v4 v5 v6 v7 v8 v9 v10 v11 v12 v13 v14 v15 v16 v17 v18 v19 v20) .ret (F116_l0_0_X0 v1 v2 v3 v4 v5 v6 v7 v8 v9 v10 v11 w)) (fun w => LoopEv E H hn116 0 c116_0 (F116_l0_0_S v1 v2 v3 v4 v5 v6 v7 v8 v9 v10 v11 v12 v13 v14 v15 v16 v17 v18 v19 v20) (.exit 0) (F116_l0_0_X1 v1 v2 v3 v4 v5 v6 v7 v8 v9 v10 v11 w))) r := by
 intro k
 induction k with
 | zero => intro v12 v13 v14 v15 v16 v17 v18 v19 v20 r hF; cases hF
 | succ k ih =>
  intro v12 v13 v14 v15 v16 v17 v18 v19 v20 r hF
  rw [F116_l0_0] at hF
  refine cond_some hF (fun h21 hF => ?_) (fun h21 hF => ?_)
  ·
   refine cond_some hF (fun h22 hF => ?_) (fun _ hF => nomatch hF)
   refine bind_some hF (fun x23 h24 hF => ?_)
   refine bind_some hF (fun r25 h26 hF => ?_)
   refine cond_some hF (fun h27 hF => ?_) (fun _ hF => nomatch hF)
   refine bind_some hF (fun x28 h29 hF => ?_)
   have q48 : PQ hn116 fun l => ((tt (ilt v20 (nl v9))) :: (tt (inr v20 (len v9))) :: .sub (flat (eInt .i64) v9) (nidx v20 1) 1 [(i6 x23)] :: .int (wmul .i64 v20 v6) (wmul .i64 v20 v6) :: .int (wadd .i64 v7 (wmul .i64 v20 v6)) (wadd .i64 v7 (wmul .i64 v20 v6)) :: .call 149 [.one (.sl (len v11) (flat eGMsg v11)), .one (i6 (wadd .i64 v7 (wmul .i64 v20 v6)))] (F149_res r25) :: (ff (leadsAny (Res.mk [(.one (.im (i6 r25.1))), (.one (.im (.lit (.bool r25.2))))] []))) :: (tt (inr v20 (len v10))) :: .sub (flat eBool v10) (nidx v20 1) 1 [(.lit (.bool x28))] :: l) := fun z => ⟨h21, h22, ⟨rfl, sub_flat0 (eInt_len _) h24 1 (by decide)⟩, rfl, rfl, (F149_ok K v11 (wadd .i64 v7 (wmul .i64 v20 v6)) _ h26), lk, h27, ⟨rfl, sub_flat0 eBool_len h29 1 (by decide)⟩, z⟩
   refine cond_some hF (fun h30 hF => ?_) (fun h30 hF => ?_)
   ·
    refine cond_some hF (fun h31 hF => ?_) (fun h31 hF => ?_)
    ·
     refine bind_some hF (fun r32 h33 hF => ?_)
     have q49 : PQ hn116 fun l => ((bg (bnot x28)) :: (ff (bnot x28)) :: (tt r25.2) :: .call 99 [.agg (eGGraph (GGraph.mk v1 v2)), .agg (eGJob (GJob.mk v3 v4 v5 v6)), .one (i6 v8), .one (i6 (wadd .i64 v7 (wmul .i64 v20 v6))), .one (i6 x23), .one (i6 r25.1), .one (.lit (.bool r25.2))] (F99_res r32) :: (ff (leadsAny (Res.mk [(.one (.im (i6 r32.1))), (.one (.own 130 (.sl (len r32.2.1) (flat eGMsg r32.2.1)))), (.one (.im (.lit (.bool r32.2.2.1)))), (.one (.im (i6 r32.2.2.2)))] []))) :: l) := fun z => ⟨(bB (bnot_t h30)), (bnot_t h30), h31, (F99_ok K (GGraph.mk v1 v2) (GJob.mk v3 v4 v5 v6) v8 (wadd .i64 v7 (wmul .i64 v20 v6)) x23 r25.1 r25.2 _ h33), lk, z⟩
     refine cond_some hF (fun h34 hF => ?_) (fun h34 hF => ?_)
     ·
      refine bind_some hF (fun w36 h35 hF => ?_)
      refine cond_some hF (fun h37 hF => ?_) (fun _ hF => nomatch hF)
      refine cond_some hF (fun h38 hF => ?_) (fun _ hF => nomatch hF)
      have pz : HA hn116 [(ff (ine r32.2.2.2 0)), .int (nl r32.2.1) (nl r32.2.1), .loop 2 c116_1 (F116_l1_1_S v1 v2 v3 v4 v5 v6 v7 v8 v9 v10 v11 v12 v13 r32.1 r32.2.2.1 r32.2.1 v20 v14 v15 v16 v17 v18 v19 0) (.exit 2) (F116_l1_1_X0 v1 v2 v3 v4 v5 v6 v7 v8 v9 v10 v11 v12 v13 r32.1 r32.2.2.1 r32.2.1 v20 w36), (tt (leqm [(i6 r32.1)] 1 1)), (tt (apok (len v12) 1 8)), .sl (nadd (len v12) 1) (lapp (flat (eInt .i64) v12) [(i6 r32.1)]) (len (α := Int) (appL v12 [r32.1])) (flat (eInt .i64) (appL v12 [r32.1])), (tt (leqm [(.lit (.bool r32.2.2.1))] 1 1)), (tt (apok (len v13) 1 1)), .sl (nadd (len v13) 1) (lapp (flat eBool v13) [(.lit (.bool r32.2.2.1))]) (len (α := Bool) (appL v13 [r32.2.2.1])) (flat eBool (appL v13 [r32.2.2.1])), .int (wadd .i64 v20 1) (wadd .i64 v20 1)] := ⟨(ine_t h34), rfl, (F116_l1_1_ok K v1 v2 v3 v4 v5 v6 v7 v8 v9 v10 v11 v12 v13 r32.1 r32.2.2.1 r32.2.1 v20 K v14 v15 v16 v17 v18 v19 0 _ h35), rfl, h37, (app_ok (enc := (eInt .i64)) (v12 : List Int) [r32.1]), rfl, h38, (app_ok (enc := eBool) (v13 : List Bool) [r32.2.2.1]), rfl, trivial⟩
      have h0 := ih _ _ _ _ _ _ _ _ _ _ hF
      have hn := lN hn116 0 c116_0 (F116_l0_0_S v1 v2 v3 v4 v5 v6 v7 v8 v9 v10 v11 v12 v13 v14 v15 v16 v17 v18 v19 v20) (F116_l0_0_S v1 v2 v3 v4 v5 v6 v7 v8 v9 v10 v11 (appL v12 [r32.1]) (appL v13 [r32.2.2.1]) w36.1 w36.2.1 w36.2.2.1 w36.2.2.2.1 w36.2.2.2.2.1 w36.2.2.2.2.2 (wadd .i64 v20 1)) (q48 (q49 pz))
      cases r with
      | inl w => exact hn _ _ h0
      | inr w => exact hn _ _ h0
     obtain rfl := sj hF
     have pz : HA hn116 [(tt (ine r32.2.2.2 0))] := ⟨(ine_f h34), trivial⟩
     exact lE hn116 0 c116_0 (F116_l0_0_S v1 v2 v3 v4 v5 v6 v7 v8 v9 v10 v11 v12 v13 v14 v15 v16 v17 v18 v19 v20) (F116_l0_0_X0 v1 v2 v3 v4 v5 v6 v7 v8 v9 v10 v11 r32.2.2.2) .ret (q48 (q49 pz))
    refine cond_some hF (fun h39 hF => ?_) (fun _ hF => nomatch hF)
    refine cond_some hF (fun h40 hF => ?_) (fun _ hF => nomatch hF)
    have pz : HA hn116 [(bg (bnot x28)), (ff (bnot x28)), (ff r25.2), (tt (leqm [(i6 x23)] 1 1)), (tt (apok (len v12) 1 8)), .sl (nadd (len v12) 1) (lapp (flat (eInt .i64) v12) [(i6 x23)]) (len (α := Int) (appL v12 [x23])) (flat (eInt .i64) (appL v12 [x23])), (tt (leqm [(.lit (.bool true))] 1 1)), (tt (apok (len v13) 1 1)), .sl (nadd (len v13) 1) (lapp (flat eBool v13) [(.lit (.bool true))]) (len (α := Bool) (appL v13 [true])) (flat eBool (appL v13 [true])), .int (wadd .i64 v20 1) (wadd .i64 v20 1)] := ⟨(bB (bnot_t h30)), (bnot_t h30), h31, rfl, h39, (app_ok (enc := (eInt .i64)) (v12 : List Int) [x23]), rfl, h40, (app_ok (enc := eBool) (v13 : List Bool) [true]), rfl, trivial⟩
    have h0 := ih _ _ _ _ _ _ _ _ _ _ hF
    have hn := lN hn116 0 c116_0 (F116_l0_0_S v1 v2 v3 v4 v5 v6 v7 v8 v9 v10 v11 v12 v13 v14 v15 v16 v17 v18 v19 v20) (F116_l0_0_S v1 v2 v3 v4 v5 v6 v7 v8 v9 v10 v11 (appL v12 [x23]) (appL v13 [true]) v14 v15 v16 v17 v18 v19 (wadd .i64 v20 1)) (q48 pz)
    cases r with
    | inl w => exact hn _ _ h0
    | inr w => exact hn _ _ h0
   refine bind_some hF (fun r41 h42 hF => ?_)
   have q50 : PQ hn116 fun l => ((bf (bnot x28)) :: (tt (bnot x28)) :: (tt true) :: .call 99 [.agg (eGGraph (GGraph.mk v1 v2)), .agg (eGJob (GJob.mk v3 v4 v5 v6)), .one (i6 v8), .one (i6 (wadd .i64 v7 (wmul .i64 v20 v6))), .one (i6 x23), .one (i6 r25.1), .one (.lit (.bool r25.2))] (F99_res r41) :: (ff (leadsAny (Res.mk [(.one (.im (i6 r41.1))), (.one (.own 130 (.sl (len r41.2.1) (flat eGMsg r41.2.1)))), (.one (.im (.lit (.bool r41.2.2.1)))), (.one (.im (i6 r41.2.2.2)))] []))) :: l) := fun z => ⟨(bA (bnot_f h30)), (bnot_f h30), rfl, (F99_ok K (GGraph.mk v1 v2) (GJob.mk v3 v4 v5 v6) v8 (wadd .i64 v7 (wmul .i64 v20 v6)) x23 r25.1 r25.2 _ h42), lk, z⟩
   refine cond_some hF (fun h43 hF => ?_) (fun h43 hF => ?_)
   ·
    refine bind_some hF (fun w45 h44 hF => ?_)
    refine cond_some hF (fun h46 hF => ?_) (fun _ hF => nomatch hF)
    refine cond_some hF (fun h47 hF => ?_) (fun _ hF => nomatch hF)
    have pz : HA hn116 [(ff (ine r41.2.2.2 0)), .int (nl r41.2.1) (nl r41.2.1), .loop 2 c116_1 (F116_l1_1_S v1 v2 v3 v4 v5 v6 v7 v8 v9 v10 v11 v12 v13 r41.1 r41.2.2.1 r41.2.1 v20 v14 v15 v16 v17 v18 v19 0) (.exit 2) (F116_l1_1_X0 v1 v2 v3 v4 v5 v6 v7 v8 v9 v10 v11 v12 v13 r41.1 r41.2.2.1 r41.2.1 v20 w45), (tt (leqm [(i6 r41.1)] 1 1)), (tt (apok (len v12) 1 8)), .sl (nadd (len v12) 1) (lapp (flat (eInt .i64) v12) [(i6 r41.1)]) (len (α := Int) (appL v12 [r41.1])) (flat (eInt .i64) (appL v12 [r41.1])), (tt (leqm [(.lit (.bool r41.2.2.1))] 1 1)), (tt (apok (len v13) 1 1)), .sl (nadd (len v13) 1) (lapp (flat eBool v13) [(.lit (.bool r41.2.2.1))]) (len (α := Bool) (appL v13 [r41.2.2.1])) (flat eBool (appL v13 [r41.2.2.1])), .int (wadd .i64 v20 1) (wadd .i64 v20 1)] := ⟨(ine_t h43), rfl, (F116_l1_1_ok K v1 v2 v3 v4 v5 v6 v7 v8 v9 v10 v11 v12 v13 r41.1 r41.2.2.1 r41.2.1 v20 K v14 v15 v16 v17 v18 v19 0 _ h44), rfl, h46, (app_ok (enc := (eInt .i64)) (v12 : List Int) [r41.1]), rfl, h47, (app_ok (enc := eBool) (v13 : List Bool) [r41.2.2.1]), rfl, trivial⟩
    have h0 := ih _ _ _ _ _ _ _ _ _ _ hF
    have hn := lN hn116 0 c116_0 (F116_l0_0_S v1 v2 v3 v4 v5 v6 v7 v8 v9 v10 v11 v12 v13 v14 v15 v16 v17 v18 v19 v20) (F116_l0_0_S v1 v2 v3 v4 v5 v6 v7 v8 v9 v10 v11 (appL v12 [r41.1]) (appL v13 [r41.2.2.1]) w45.1 w45.2.1 w45.2.2.1 w45.2.2.2.1 w45.2.2.2.2.1 w45.2.2.2.2.2 (wadd .i64 v20 1)) (q48 (q50 pz))
    cases r with
    | inl w => exact hn _ _ h0
    | inr w => exact hn _ _ h0
   obtain rfl := sj hF
   have pz : HA hn116 [(tt (ine r41.2.2.2 0))] := ⟨(ine_f h43), trivial⟩
   exact lE hn116 0 c116_0 (F116_l0_0_S v1 v2 v3 v4 v5 v6 v7 v8 v9 v10 v11 v12 v13 v14 v15 v16 v17 v18 v19 v20) (F116_l0_0_X0 v1 v2 v3 v4 v5 v6 v7 v8 v9 v10 v11 r41.2.2.2) .ret (q48 (q50 pz))
  obtain rfl := sj hF
  have pz : HA hn116 [(ff (ilt v20 (nl v9)))] := ⟨h21, trivial⟩
  exact lE hn116 0 c116_0 (F116_l0_0_S v1 v2 v3 v4 v5 v6 v7 v8 v9 v10 v11 v12 v13 v14 v15 v16 v17 v18 v19 v20) (F116_l0_0_X1 v1 v2 v3 v4 v5 v6 v7 v8 v9 v10 v11 (v12, (v13, (v14, (v15, (v16, (v17, (v18, v19)))))))) (.exit 0) pz
def F116_l2_2 (K : Nat) (v1 : Int) (v2 : Int) (v3 : Int) (v4 : Int) (v5 : Int) (v6 : Int) (v7 : List Int) (v8 : List Bool) (v9 : List GMsg) (v10 : List GMsg) (v11 : List GMsg) (v12 : List GMsg) (v13 : List GMsg) (v14 : List GMsg) : Nat → List (List GMsg) → Int → Option ((Int) ⊕ (List (List GMsg)))
 | 0, _, _ => none
 | k + 1, v15, v16 =>
  bif (ilt v16 v4) then
   (bif (ieq v16 0) then
    ((F150 K v1 v9).bind fun r17 =>
    bif (ieq r17.2 0) then
     (bif (apok (len v15) 1 24) then
     F116_l2_2 K v1 v2 v3 v4 v5 v6 v7 v8 v9 v10 v11 v12 v13 v14 k (appL v15 [r17.1]) (wadd .i64 v16 1)
     else none)
    else
    some (.inl r17.2))
   else
   bif (ieq v16 1) then
    ((F150 K v1 v10).bind fun r18 =>
    bif (ieq r18.2 0) then
     (bif (apok (len v15) 1 24) then
     F116_l2_2 K v1 v2 v3 v4 v5 v6 v7 v8 v9 v10 v11 v12 v13 v14 k (appL v15 [r18.1]) (wadd .i64 v16 1)
     else none)
    else
    some (.inl r18.2))
   else
   bif (ieq v16 2) then
    ((F150 K v1 v11).bind fun r19 =>
    bif (ieq r19.2 0) then
     (bif (apok (len v15) 1 24) then
     F116_l2_2 K v1 v2 v3 v4 v5 v6 v7 v8 v9 v10 v11 v12 v13 v14 k (appL v15 [r19.1]) (wadd .i64 v16 1)
     else none)
    else
    some (.inl r19.2))
   else
   bif (ieq v16 3) then
    ((F150 K v1 v12).bind fun r20 =>
    bif (ieq r20.2 0) then
     (bif (apok (len v15) 1 24) then
     F116_l2_2 K v1 v2 v3 v4 v5 v6 v7 v8 v9 v10 v11 v12 v13 v14 k (appL v15 [r20.1]) (wadd .i64 v16 1)
     else none)
    else
    some (.inl r20.2))
   else
   bif (ieq v16 4) then
    ((F150 K v1 v13).bind fun r21 =>
    bif (ieq r21.2 0) then
     (bif (apok (len v15) 1 24) then
     F116_l2_2 K v1 v2 v3 v4 v5 v6 v7 v8 v9 v10 v11 v12 v13 v14 k (appL v15 [r21.1]) (wadd .i64 v16 1)
     else none)
    else
    some (.inl r21.2))
   else
   bif (ieq v16 5) then
   (F150 K v1 v14).bind fun r22 =>
   bif (ieq r22.2 0) then
    (bif (apok (len v15) 1 24) then
    F116_l2_2 K v1 v2 v3 v4 v5 v6 v7 v8 v9 v10 v11 v12 v13 v14 k (appL v15 [r22.1]) (wadd .i64 v16 1)
    else none)
   else
   some (.inl r22.2)
   else none)
  else
  some (.inr v15)
def F116_l2_2_S (v1 : Int) (v2 : Int) (v3 : Int) (v4 : Int) (v5 : Int) (v6 : Int) (v7 : List Int) (v8 : List Bool) (v9 : List GMsg) (v10 : List GMsg) (v11 : List GMsg) (v12 : List GMsg) (v13 : List GMsg) (v14 : List GMsg) (v15 : List (List GMsg)) (v16 : Int) : TS := .on [256, 257, 258, 259, 260, 384, 385, 386, 387, 388, 389, 640, 641, 642, 643, 644, 645, 704, 705, 706, 707, 708, 709, 710, 1600, 1601, 8704, 8705, 8768, 8769] [(256, ⟨(.box 64 4), 0, nob⟩), (257, ⟨.im, 0, (.lit (.int .i64 v1))⟩), (258, ⟨.im, 0, (.lit (.int .i64 v2))⟩), (259, ⟨.im, 0, (.lit (.int .i64 v3))⟩), (260, ⟨.im, 0, (.lit (.int .i64 v4))⟩), (384, ⟨(.box 42 5), 0, nob⟩), (385, ⟨.im, 0, (.lit (.int .i64 0))⟩), (386, ⟨.im, 0, (.lit (.int .i64 0))⟩), (387, ⟨(.own 2), 0, (.sl 0 [])⟩), (388, ⟨(.own 4), 0, (.sl 0 [])⟩), (389, ⟨(.own 130), 0, (.sl 0 [])⟩), (640, ⟨(.box 42 5), 0, nob⟩), (641, ⟨.im, 0, (.lit (.int .i64 v5))⟩), (642, ⟨.im, 0, (.lit (.int .i64 v6))⟩), (643, ⟨(.own 2), 0, (.sl (len v7) (flat (eInt .i64) v7))⟩), (644, ⟨(.own 4), 0, (.sl (len v8) (flat eBool v8))⟩), (645, ⟨(.own 130), 0, (.sl 0 [])⟩), (704, ⟨(.box 188 6), 0, nob⟩), (705, ⟨(.own 130), 0, (.sl (len v9) (flat eGMsg v9))⟩), (706, ⟨(.own 130), 0, (.sl (len v10) (flat eGMsg v10))⟩), (707, ⟨(.own 130), 0, (.sl (len v11) (flat eGMsg v11))⟩), (708, ⟨(.own 130), 0, (.sl (len v12) (flat eGMsg v12))⟩), (709, ⟨(.own 130), 0, (.sl (len v13) (flat eGMsg v13))⟩), (710, ⟨(.own 130), 0, (.sl (len v14) (flat eGMsg v14))⟩), (1600, ⟨.one, 0, nob⟩), (1601, ⟨(.own 40), 0, (.sl (len v15) (flat (eSl eGMsg) v15))⟩), (8704, ⟨.one, 0, nob⟩), (8705, ⟨.im, 0, (.lit (.int .i64 v4))⟩), (8768, ⟨.one, 0, nob⟩), (8769, ⟨.im, 0, (.lit (.int .i64 v16))⟩)]
def F116_l2_2_X0 (v1 : Int) (v2 : Int) (v3 : Int) (v4 : Int) (v5 : Int) (v6 : Int) (v7 : List Int) (v8 : List Bool) (v9 : List GMsg) (v10 : List GMsg) (v11 : List GMsg) (v12 : List GMsg) (v13 : List GMsg) (v14 : List GMsg) (w15 : Int) : TS := .on [384, 385, 386, 387, 388, 389, 448, 449, 512, 513] [(384, ⟨(.box 42 5), 0, nob⟩), (385, ⟨.im, 0, (.lit (.int .i64 0))⟩), (386, ⟨.im, 0, (.lit (.int .i64 0))⟩), (387, ⟨(.own 2), 0, (.sl 0 [])⟩), (388, ⟨(.own 4), 0, (.sl 0 [])⟩), (389, ⟨(.own 130), 0, (.sl 0 [])⟩), (448, ⟨.one, 0, nob⟩), (449, ⟨(.own 40), 0, (.sl 0 [])⟩), (512, ⟨.one, 0, nob⟩), (513, ⟨.im, 0, (.lit (.int .i64 w15))⟩)]
def F116_l2_2_X1 (v1 : Int) (v2 : Int) (v3 : Int) (v4 : Int) (v5 : Int) (v6 : Int) (v7 : List Int) (v8 : List Bool) (v9 : List GMsg) (v10 : List GMsg) (v11 : List GMsg) (v12 : List GMsg) (v13 : List GMsg) (v14 : List GMsg) (w15 : List (List GMsg)) : TS := .on [384, 385, 386, 387, 388, 389, 640, 641, 642, 643, 644, 645, 1600, 1601] [(384, ⟨(.box 42 5), 0, nob⟩), (385, ⟨.im, 0, (.lit (.int .i64 0))⟩), (386, ⟨.im, 0, (.lit (.int .i64 0))⟩), (387, ⟨(.own 2), 0, (.sl 0 [])⟩), (388, ⟨(.own 4), 0, (.sl 0 [])⟩), (389, ⟨(.own 130), 0, (.sl 0 [])⟩), (640, ⟨(.box 42 5), 0, nob⟩), (641, ⟨.im, 0, (.lit (.int .i64 v5))⟩), (642, ⟨.im, 0, (.lit (.int .i64 v6))⟩), (643, ⟨(.own 2), 0, (.sl (len v7) (flat (eInt .i64) v7))⟩), (644, ⟨(.own 4), 0, (.sl (len v8) (flat eBool v8))⟩), (645, ⟨(.own 130), 0, (.sl 0 [])⟩), (1600, ⟨.one, 0, nob⟩), (1601, ⟨(.own 40), 0, (.sl (len w15) (flat (eSl eGMsg) w15))⟩)]
theorem F116_l2_2_ok (K : Nat) (v1 : Int) (v2 : Int) (v3 : Int) (v4 : Int) (v5 : Int) (v6 : Int) (v7 : List Int) (v8 : List Bool) (v9 : List GMsg) (v10 : List GMsg) (v11 : List GMsg) (v12 : List GMsg) (v13 : List GMsg) (v14 : List GMsg) : ∀ (k : Nat) (v15 : List (List GMsg)) (v16 : Int) (r : (Int) ⊕ (List (List GMsg))), F116_l2_2 K v1 v2 v3 v4 v5 v6 v7 v8 v9 v10 v11 v12 v13 v14 k v15 v16 = some r → (Sum.elim (fun w => LoopEv E H hn116 4 c116_2 (F116_l2_2_S v1 v2 v3 v4 v5 v6 v7 v8 v9 v10 v11 v12 v13 v14 v15 v16) .ret (F116_l2_2_X0 v1 v2 v3 v4 v5 v6 v7 v8 v9 v10 v11 v12 v13 v14 w)) (fun w => LoopEv E H hn116 4 c116_2 (F116_l2_2_S v1 v2 v3 v4 v5 v6 v7 v8 v9 v10 v11 v12 v13 v14 v15 v16) (.exit 4) (F116_l2_2_X1 v1 v2 v3 v4 v5 v6 v7 v8 v9 v10 v11 v12 v13 v14 w))) r := by
 intro k
 induction k with
 | zero => intro v15 v16 r hF; cases hF
 | succ k ih =>
  intro v15 v16 r hF
  rw [F116_l2_2] at hF
  refine cond_some hF (fun h17 hF => ?_) (fun h17 hF => ?_)
  ·
   refine cond_some hF (fun h18 hF => ?_) (fun h18 hF => ?_)
   ·
    refine bind_some hF (fun r19 h20 hF => ?_)
    have q48 : PQ hn116 fun l => ((tt (ilt v16 v4)) :: (tt (ieq v16 0)) :: .call 150 [.one (i6 v1), .one (.sl (len v9) (flat eGMsg v9))] (F150_res r19) :: (ff (leadsAny (Res.mk [(.one (.own 130 (.sl (len r19.1) (flat eGMsg r19.1)))), (.one (.im (i6 r19.2)))] []))) :: l) := fun z => ⟨h17, h18, (F150_ok K v1 v9 _ h20), lk, z⟩
    refine cond_some hF (fun h21 hF => ?_) (fun h21 hF => ?_)
    ·
     refine cond_some hF (fun h22 hF => ?_) (fun _ hF => nomatch hF)
     have pz : HA hn116 [(ff (ine r19.2 0)), (tt (leqm [(.sl (len r19.1) (flat eGMsg r19.1))] 1 1)), (tt (apok (len v15) 1 24)), .sl (nadd (len v15) 1) (lapp (flat (eSl eGMsg) v15) [(.sl (len r19.1) (flat eGMsg r19.1))]) (len (α := List GMsg) (appL v15 [r19.1])) (flat (eSl eGMsg) (appL v15 [r19.1])), .int (wadd .i64 v16 1) (wadd .i64 v16 1)] := ⟨(ine_t h21), rfl, h22, (app_ok (enc := (eSl eGMsg)) (v15 : List (List GMsg)) [r19.1]), rfl, trivial⟩
     have h0 := ih _ _ _ hF
     have hn := lN hn116 4 c116_2 (F116_l2_2_S v1 v2 v3 v4 v5 v6 v7 v8 v9 v10 v11 v12 v13 v14 v15 v16) (F116_l2_2_S v1 v2 v3 v4 v5 v6 v7 v8 v9 v10 v11 v12 v13 v14 (appL v15 [r19.1]) (wadd .i64 v16 1)) (q48 pz)
     cases r with
     | inl w => exact hn _ _ h0
     | inr w => exact hn _ _ h0
    obtain rfl := sj hF
    have pz : HA hn116 [(tt (ine r19.2 0))] := ⟨(ine_f h21), trivial⟩
    exact lE hn116 4 c116_2 (F116_l2_2_S v1 v2 v3 v4 v5 v6 v7 v8 v9 v10 v11 v12 v13 v14 v15 v16) (F116_l2_2_X0 v1 v2 v3 v4 v5 v6 v7 v8 v9 v10 v11 v12 v13 v14 r19.2) .ret (q48 pz)
   refine cond_some hF (fun h23 hF => ?_) (fun h23 hF => ?_)
   ·
    refine bind_some hF (fun r24 h25 hF => ?_)
    have q49 : PQ hn116 fun l => ((tt (ilt v16 v4)) :: (ff (ieq v16 0)) :: (tt (ieq v16 1)) :: .call 150 [.one (i6 v1), .one (.sl (len v10) (flat eGMsg v10))] (F150_res r24) :: (ff (leadsAny (Res.mk [(.one (.own 130 (.sl (len r24.1) (flat eGMsg r24.1)))), (.one (.im (i6 r24.2)))] []))) :: l) := fun z => ⟨h17, h18, h23, (F150_ok K v1 v10 _ h25), lk, z⟩
    refine cond_some hF (fun h26 hF => ?_) (fun h26 hF => ?_)
    ·
     refine cond_some hF (fun h27 hF => ?_) (fun _ hF => nomatch hF)
     have pz : HA hn116 [(ff (ine r24.2 0)), (tt (leqm [(.sl (len r24.1) (flat eGMsg r24.1))] 1 1)), (tt (apok (len v15) 1 24)), .sl (nadd (len v15) 1) (lapp (flat (eSl eGMsg) v15) [(.sl (len r24.1) (flat eGMsg r24.1))]) (len (α := List GMsg) (appL v15 [r24.1])) (flat (eSl eGMsg) (appL v15 [r24.1])), .int (wadd .i64 v16 1) (wadd .i64 v16 1)] := ⟨(ine_t h26), rfl, h27, (app_ok (enc := (eSl eGMsg)) (v15 : List (List GMsg)) [r24.1]), rfl, trivial⟩
     have h0 := ih _ _ _ hF
     have hn := lN hn116 4 c116_2 (F116_l2_2_S v1 v2 v3 v4 v5 v6 v7 v8 v9 v10 v11 v12 v13 v14 v15 v16) (F116_l2_2_S v1 v2 v3 v4 v5 v6 v7 v8 v9 v10 v11 v12 v13 v14 (appL v15 [r24.1]) (wadd .i64 v16 1)) (q49 pz)
     cases r with
     | inl w => exact hn _ _ h0
     | inr w => exact hn _ _ h0
    obtain rfl := sj hF
    have pz : HA hn116 [(tt (ine r24.2 0))] := ⟨(ine_f h26), trivial⟩
    exact lE hn116 4 c116_2 (F116_l2_2_S v1 v2 v3 v4 v5 v6 v7 v8 v9 v10 v11 v12 v13 v14 v15 v16) (F116_l2_2_X0 v1 v2 v3 v4 v5 v6 v7 v8 v9 v10 v11 v12 v13 v14 r24.2) .ret (q49 pz)
   have q50 : PQ hn116 fun l => ((tt (ilt v16 v4)) :: (ff (ieq v16 0)) :: (ff (ieq v16 1)) :: l) := fun z => ⟨h17, h18, h23, z⟩
   refine cond_some hF (fun h28 hF => ?_) (fun h28 hF => ?_)
   ·
    refine bind_some hF (fun r29 h30 hF => ?_)
    have q51 : PQ hn116 fun l => ((tt (ieq v16 2)) :: .call 150 [.one (i6 v1), .one (.sl (len v11) (flat eGMsg v11))] (F150_res r29) :: (ff (leadsAny (Res.mk [(.one (.own 130 (.sl (len r29.1) (flat eGMsg r29.1)))), (.one (.im (i6 r29.2)))] []))) :: l) := fun z => ⟨h28, (F150_ok K v1 v11 _ h30), lk, z⟩
    refine cond_some hF (fun h31 hF => ?_) (fun h31 hF => ?_)
    ·
     refine cond_some hF (fun h32 hF => ?_) (fun _ hF => nomatch hF)
     have pz : HA hn116 [(ff (ine r29.2 0)), (tt (leqm [(.sl (len r29.1) (flat eGMsg r29.1))] 1 1)), (tt (apok (len v15) 1 24)), .sl (nadd (len v15) 1) (lapp (flat (eSl eGMsg) v15) [(.sl (len r29.1) (flat eGMsg r29.1))]) (len (α := List GMsg) (appL v15 [r29.1])) (flat (eSl eGMsg) (appL v15 [r29.1])), .int (wadd .i64 v16 1) (wadd .i64 v16 1)] := ⟨(ine_t h31), rfl, h32, (app_ok (enc := (eSl eGMsg)) (v15 : List (List GMsg)) [r29.1]), rfl, trivial⟩
     have h0 := ih _ _ _ hF
     have hn := lN hn116 4 c116_2 (F116_l2_2_S v1 v2 v3 v4 v5 v6 v7 v8 v9 v10 v11 v12 v13 v14 v15 v16) (F116_l2_2_S v1 v2 v3 v4 v5 v6 v7 v8 v9 v10 v11 v12 v13 v14 (appL v15 [r29.1]) (wadd .i64 v16 1)) (q50 (q51 pz))
     cases r with
     | inl w => exact hn _ _ h0
     | inr w => exact hn _ _ h0
    obtain rfl := sj hF
    have pz : HA hn116 [(tt (ine r29.2 0))] := ⟨(ine_f h31), trivial⟩
    exact lE hn116 4 c116_2 (F116_l2_2_S v1 v2 v3 v4 v5 v6 v7 v8 v9 v10 v11 v12 v13 v14 v15 v16) (F116_l2_2_X0 v1 v2 v3 v4 v5 v6 v7 v8 v9 v10 v11 v12 v13 v14 r29.2) .ret (q50 (q51 pz))
   refine cond_some hF (fun h33 hF => ?_) (fun h33 hF => ?_)
   ·
    refine bind_some hF (fun r34 h35 hF => ?_)
    have q52 : PQ hn116 fun l => ((ff (ieq v16 2)) :: (tt (ieq v16 3)) :: .call 150 [.one (i6 v1), .one (.sl (len v12) (flat eGMsg v12))] (F150_res r34) :: (ff (leadsAny (Res.mk [(.one (.own 130 (.sl (len r34.1) (flat eGMsg r34.1)))), (.one (.im (i6 r34.2)))] []))) :: l) := fun z => ⟨h28, h33, (F150_ok K v1 v12 _ h35), lk, z⟩
    refine cond_some hF (fun h36 hF => ?_) (fun h36 hF => ?_)
    ·
     refine cond_some hF (fun h37 hF => ?_) (fun _ hF => nomatch hF)
     have pz : HA hn116 [(ff (ine r34.2 0)), (tt (leqm [(.sl (len r34.1) (flat eGMsg r34.1))] 1 1)), (tt (apok (len v15) 1 24)), .sl (nadd (len v15) 1) (lapp (flat (eSl eGMsg) v15) [(.sl (len r34.1) (flat eGMsg r34.1))]) (len (α := List GMsg) (appL v15 [r34.1])) (flat (eSl eGMsg) (appL v15 [r34.1])), .int (wadd .i64 v16 1) (wadd .i64 v16 1)] := ⟨(ine_t h36), rfl, h37, (app_ok (enc := (eSl eGMsg)) (v15 : List (List GMsg)) [r34.1]), rfl, trivial⟩
     have h0 := ih _ _ _ hF
     have hn := lN hn116 4 c116_2 (F116_l2_2_S v1 v2 v3 v4 v5 v6 v7 v8 v9 v10 v11 v12 v13 v14 v15 v16) (F116_l2_2_S v1 v2 v3 v4 v5 v6 v7 v8 v9 v10 v11 v12 v13 v14 (appL v15 [r34.1]) (wadd .i64 v16 1)) (q50 (q52 pz))
     cases r with
     | inl w => exact hn _ _ h0
     | inr w => exact hn _ _ h0
    obtain rfl := sj hF
    have pz : HA hn116 [(tt (ine r34.2 0))] := ⟨(ine_f h36), trivial⟩
    exact lE hn116 4 c116_2 (F116_l2_2_S v1 v2 v3 v4 v5 v6 v7 v8 v9 v10 v11 v12 v13 v14 v15 v16) (F116_l2_2_X0 v1 v2 v3 v4 v5 v6 v7 v8 v9 v10 v11 v12 v13 v14 r34.2) .ret (q50 (q52 pz))
   refine cond_some hF (fun h38 hF => ?_) (fun h38 hF => ?_)
   ·
    refine bind_some hF (fun r39 h40 hF => ?_)
    have q53 : PQ hn116 fun l => ((ff (ieq v16 2)) :: (ff (ieq v16 3)) :: (tt (ieq v16 4)) :: .call 150 [.one (i6 v1), .one (.sl (len v13) (flat eGMsg v13))] (F150_res r39) :: (ff (leadsAny (Res.mk [(.one (.own 130 (.sl (len r39.1) (flat eGMsg r39.1)))), (.one (.im (i6 r39.2)))] []))) :: l) := fun z => ⟨h28, h33, h38, (F150_ok K v1 v13 _ h40), lk, z⟩
    refine cond_some hF (fun h41 hF => ?_) (fun h41 hF => ?_)
    ·
     refine cond_some hF (fun h42 hF => ?_) (fun _ hF => nomatch hF)
     have pz : HA hn116 [(ff (ine r39.2 0)), (tt (leqm [(.sl (len r39.1) (flat eGMsg r39.1))] 1 1)), (tt (apok (len v15) 1 24)), .sl (nadd (len v15) 1) (lapp (flat (eSl eGMsg) v15) [(.sl (len r39.1) (flat eGMsg r39.1))]) (len (α := List GMsg) (appL v15 [r39.1])) (flat (eSl eGMsg) (appL v15 [r39.1])), .int (wadd .i64 v16 1) (wadd .i64 v16 1)] := ⟨(ine_t h41), rfl, h42, (app_ok (enc := (eSl eGMsg)) (v15 : List (List GMsg)) [r39.1]), rfl, trivial⟩
     have h0 := ih _ _ _ hF
     have hn := lN hn116 4 c116_2 (F116_l2_2_S v1 v2 v3 v4 v5 v6 v7 v8 v9 v10 v11 v12 v13 v14 v15 v16) (F116_l2_2_S v1 v2 v3 v4 v5 v6 v7 v8 v9 v10 v11 v12 v13 v14 (appL v15 [r39.1]) (wadd .i64 v16 1)) (q50 (q53 pz))
     cases r with
     | inl w => exact hn _ _ h0
     | inr w => exact hn _ _ h0
    obtain rfl := sj hF
    have pz : HA hn116 [(tt (ine r39.2 0))] := ⟨(ine_f h41), trivial⟩
    exact lE hn116 4 c116_2 (F116_l2_2_S v1 v2 v3 v4 v5 v6 v7 v8 v9 v10 v11 v12 v13 v14 v15 v16) (F116_l2_2_X0 v1 v2 v3 v4 v5 v6 v7 v8 v9 v10 v11 v12 v13 v14 r39.2) .ret (q50 (q53 pz))
   refine cond_some hF (fun h43 hF => ?_) (fun _ hF => nomatch hF)
   refine bind_some hF (fun r44 h45 hF => ?_)
   have q54 : PQ hn116 fun l => ((ff (ieq v16 2)) :: (ff (ieq v16 3)) :: (ff (ieq v16 4)) :: (tt (ieq v16 5)) :: .call 150 [.one (i6 v1), .one (.sl (len v14) (flat eGMsg v14))] (F150_res r44) :: (ff (leadsAny (Res.mk [(.one (.own 130 (.sl (len r44.1) (flat eGMsg r44.1)))), (.one (.im (i6 r44.2)))] []))) :: l) := fun z => ⟨h28, h33, h38, h43, (F150_ok K v1 v14 _ h45), lk, z⟩
   refine cond_some hF (fun h46 hF => ?_) (fun h46 hF => ?_)
   ·
    refine cond_some hF (fun h47 hF => ?_) (fun _ hF => nomatch hF)
    have pz : HA hn116 [(ff (ine r44.2 0)), (tt (leqm [(.sl (len r44.1) (flat eGMsg r44.1))] 1 1)), (tt (apok (len v15) 1 24)), .sl (nadd (len v15) 1) (lapp (flat (eSl eGMsg) v15) [(.sl (len r44.1) (flat eGMsg r44.1))]) (len (α := List GMsg) (appL v15 [r44.1])) (flat (eSl eGMsg) (appL v15 [r44.1])), .int (wadd .i64 v16 1) (wadd .i64 v16 1)] := ⟨(ine_t h46), rfl, h47, (app_ok (enc := (eSl eGMsg)) (v15 : List (List GMsg)) [r44.1]), rfl, trivial⟩
    have h0 := ih _ _ _ hF
    have hn := lN hn116 4 c116_2 (F116_l2_2_S v1 v2 v3 v4 v5 v6 v7 v8 v9 v10 v11 v12 v13 v14 v15 v16) (F116_l2_2_S v1 v2 v3 v4 v5 v6 v7 v8 v9 v10 v11 v12 v13 v14 (appL v15 [r44.1]) (wadd .i64 v16 1)) (q50 (q54 pz))
    cases r with
    | inl w => exact hn _ _ h0
    | inr w => exact hn _ _ h0
   obtain rfl := sj hF
   have pz : HA hn116 [(tt (ine r44.2 0))] := ⟨(ine_f h46), trivial⟩
   exact lE hn116 4 c116_2 (F116_l2_2_S v1 v2 v3 v4 v5 v6 v7 v8 v9 v10 v11 v12 v13 v14 v15 v16) (F116_l2_2_X0 v1 v2 v3 v4 v5 v6 v7 v8 v9 v10 v11 v12 v13 v14 r44.2) .ret (q50 (q54 pz))
  obtain rfl := sj hF
  have pz : HA hn116 [(ff (ilt v16 v4))] := ⟨h17, trivial⟩
  exact lE hn116 4 c116_2 (F116_l2_2_S v1 v2 v3 v4 v5 v6 v7 v8 v9 v10 v11 v12 v13 v14 v15 v16) (F116_l2_2_X1 v1 v2 v3 v4 v5 v6 v7 v8 v9 v10 v11 v12 v13 v14 v15) (.exit 4) pz
def F116 (K : Nat) (a1 : GGraph) (a2 : GJob) (a3 : GPart) : Option (GPart × List (List GMsg) × Int) :=
 (F94 K a1 a2).bind fun r4 =>
 bif (ieq r4 0) then
  ((F80 K a1 a2 a3).bind fun r5 =>
  bif r5 then
   (bif (ieq a3.Step 40) then
    (some ((GPart.mk 0 0 [] [] []), ([], 6)))
   else
   (F116_l0_0 K a1.N a1.Edges a2.Prog a2.Source a2.Limit a2.Parts a3.P a3.Step a3.Vals a3.Rest a3.In K [] [] [] [] [] [] [] [] 0).bind fun y6 =>
   Sum.elim (fun w7 =>
    some ((GPart.mk 0 0 [] [] []), ([], w7)))
    (fun w8 =>
    (F116_l2_2 K a2.Prog a2.Source a2.Limit a2.Parts a3.P (wadd .i64 a3.Step 1) w8.1 w8.2.1 w8.2.2.1 w8.2.2.2.1 w8.2.2.2.2.1 w8.2.2.2.2.2.1 w8.2.2.2.2.2.2.1 w8.2.2.2.2.2.2.2 K [] 0).bind fun y9 =>
    Sum.elim (fun w10 =>
     some ((GPart.mk 0 0 [] [] []), ([], w10)))
     (fun w11 =>
     some ((GPart.mk a3.P (wadd .i64 a3.Step 1) w8.1 w8.2.1 []), (w11, 0))) y9) y6)
  else
  some ((GPart.mk 0 0 [] [] []), ([], 1)))
 else
 some ((GPart.mk 0 0 [] [] []), ([], r4))
theorem F116_ok (K : Nat) (a1 : GGraph) (a2 : GJob) (a3 : GPart) (r : GPart × List (List GMsg) × Int) (hF : F116 K a1 a2 a3 = some r) : Evt E H 116 [.agg (eGGraph a1), .agg (eGJob a2), .agg (eGPart a3)] (F116_res r) := by
 rw [F116] at hF
 refine bind_some hF (fun r4 h5 hF => ?_)
 refine cond_some hF (fun h6 hF => ?_) (fun h6 hF => ?_)
 ·
  refine bind_some hF (fun r7 h8 hF => ?_)
  have q19 : PQ hn116 fun l => (.call 94 [.agg (eGGraph a1), .agg (eGJob a2)] (F94_res r4) :: (ff (leadsAny (Res.mk [(.one (.im (i6 r4)))] []))) :: (ff (ine r4 0)) :: .call 80 [.agg (eGGraph a1), .agg (eGJob a2), .agg (eGPart a3)] (F80_res r7) :: (ff (leadsAny (Res.mk [(.one (.im (.lit (.bool r7))))] []))) :: l) := fun z => ⟨(F94_ok K a1 a2 _ h5), lk, (ine_t h6), (F80_ok K a1 a2 a3 _ h8), lk, z⟩
  refine cond_some hF (fun h9 hF => ?_) (fun h9 hF => ?_)
  ·
   refine cond_some hF (fun h10 hF => ?_) (fun h10 hF => ?_)
   ·
    obtain rfl := sj hF
    have pz : HA hn116 [(ff (bnot r7)), (tt (ieq a3.Step 40))] := ⟨(bnot_t h9), h10, trivial⟩
    exact fpC hn116 (r := F116_res ((GPart.mk 0 0 [] [] []), ([], 6))) (q19 pz)
   have q20 : PQ hn116 fun l => ((ff (bnot r7)) :: (ff (ieq a3.Step 40)) :: .int (wadd .i64 a3.Step 1) (wadd .i64 a3.Step 1) :: .int (nl a3.Vals) (nl a3.Vals) :: l) := fun z => ⟨(bnot_t h9), h10, rfl, rfl, z⟩
   refine bind_some hF (fun y12 h11 hF => ?_)
   refine sum_some hF (fun w13 hx hF => ?_) (fun w14 hx hF => ?_)
   ·
    subst hx
    obtain rfl := sj hF
    have pz : HA hn116 [.loop 0 c116_0 (F116_l0_0_S a1.N a1.Edges a2.Prog a2.Source a2.Limit a2.Parts a3.P a3.Step a3.Vals a3.Rest a3.In [] [] [] [] [] [] [] [] 0) .ret (F116_l0_0_X0 a1.N a1.Edges a2.Prog a2.Source a2.Limit a2.Parts a3.P a3.Step a3.Vals a3.Rest a3.In w13)] := ⟨(F116_l0_0_ok K a1.N a1.Edges a2.Prog a2.Source a2.Limit a2.Parts a3.P a3.Step a3.Vals a3.Rest a3.In K [] [] [] [] [] [] [] [] 0 _ h11), trivial⟩
    exact fpC hn116 (r := F116_res ((GPart.mk 0 0 [] [] []), ([], w13))) (q19 (q20 pz))
   subst hx
   refine bind_some hF (fun y16 h15 hF => ?_)
   refine sum_some hF (fun w17 hx hF => ?_) (fun w18 hx hF => ?_)
   ·
    subst hx
    obtain rfl := sj hF
    have pz : HA hn116 [.loop 0 c116_0 (F116_l0_0_S a1.N a1.Edges a2.Prog a2.Source a2.Limit a2.Parts a3.P a3.Step a3.Vals a3.Rest a3.In [] [] [] [] [] [] [] [] 0) (.exit 0) (F116_l0_0_X1 a1.N a1.Edges a2.Prog a2.Source a2.Limit a2.Parts a3.P a3.Step a3.Vals a3.Rest a3.In w14), .loop 4 c116_2 (F116_l2_2_S a2.Prog a2.Source a2.Limit a2.Parts a3.P (wadd .i64 a3.Step 1) w14.1 w14.2.1 w14.2.2.1 w14.2.2.2.1 w14.2.2.2.2.1 w14.2.2.2.2.2.1 w14.2.2.2.2.2.2.1 w14.2.2.2.2.2.2.2 [] 0) .ret (F116_l2_2_X0 a2.Prog a2.Source a2.Limit a2.Parts a3.P (wadd .i64 a3.Step 1) w14.1 w14.2.1 w14.2.2.1 w14.2.2.2.1 w14.2.2.2.2.1 w14.2.2.2.2.2.1 w14.2.2.2.2.2.2.1 w14.2.2.2.2.2.2.2 w17)] := ⟨(F116_l0_0_ok K a1.N a1.Edges a2.Prog a2.Source a2.Limit a2.Parts a3.P a3.Step a3.Vals a3.Rest a3.In K [] [] [] [] [] [] [] [] 0 _ h11), (F116_l2_2_ok K a2.Prog a2.Source a2.Limit a2.Parts a3.P (wadd .i64 a3.Step 1) w14.1 w14.2.1 w14.2.2.1 w14.2.2.2.1 w14.2.2.2.2.1 w14.2.2.2.2.2.1 w14.2.2.2.2.2.2.1 w14.2.2.2.2.2.2.2 K [] 0 _ h15), trivial⟩
    exact fpC hn116 (r := F116_res ((GPart.mk 0 0 [] [] []), ([], w17))) (q19 (q20 pz))
   subst hx
   obtain rfl := sj hF
   have pz : HA hn116 [.loop 0 c116_0 (F116_l0_0_S a1.N a1.Edges a2.Prog a2.Source a2.Limit a2.Parts a3.P a3.Step a3.Vals a3.Rest a3.In [] [] [] [] [] [] [] [] 0) (.exit 0) (F116_l0_0_X1 a1.N a1.Edges a2.Prog a2.Source a2.Limit a2.Parts a3.P a3.Step a3.Vals a3.Rest a3.In w14), .loop 4 c116_2 (F116_l2_2_S a2.Prog a2.Source a2.Limit a2.Parts a3.P (wadd .i64 a3.Step 1) w14.1 w14.2.1 w14.2.2.1 w14.2.2.2.1 w14.2.2.2.2.1 w14.2.2.2.2.2.1 w14.2.2.2.2.2.2.1 w14.2.2.2.2.2.2.2 [] 0) (.exit 4) (F116_l2_2_X1 a2.Prog a2.Source a2.Limit a2.Parts a3.P (wadd .i64 a3.Step 1) w14.1 w14.2.1 w14.2.2.1 w14.2.2.2.1 w14.2.2.2.2.1 w14.2.2.2.2.2.1 w14.2.2.2.2.2.2.1 w14.2.2.2.2.2.2.2 w18)] := ⟨(F116_l0_0_ok K a1.N a1.Edges a2.Prog a2.Source a2.Limit a2.Parts a3.P a3.Step a3.Vals a3.Rest a3.In K [] [] [] [] [] [] [] [] 0 _ h11), (F116_l2_2_ok K a2.Prog a2.Source a2.Limit a2.Parts a3.P (wadd .i64 a3.Step 1) w14.1 w14.2.1 w14.2.2.1 w14.2.2.2.1 w14.2.2.2.2.1 w14.2.2.2.2.2.1 w14.2.2.2.2.2.2.1 w14.2.2.2.2.2.2.2 K [] 0 _ h15), trivial⟩
   exact fpC hn116 (r := F116_res ((GPart.mk a3.P (wadd .i64 a3.Step 1) w14.1 w14.2.1 []), (w18, 0))) (q19 (q20 pz))
  obtain rfl := sj hF
  have pz : HA hn116 [(tt (bnot r7))] := ⟨(bnot_f h9), trivial⟩
  exact fpC hn116 (r := F116_res ((GPart.mk 0 0 [] [] []), ([], 1))) (q19 pz)
 obtain rfl := sj hF
 have pz : HA hn116 [.call 94 [.agg (eGGraph a1), .agg (eGJob a2)] (F94_res r4), (ff (leadsAny (Res.mk [(.one (.im (i6 r4)))] []))), (tt (ine r4 0))] := ⟨(F94_ok K a1 a2 _ h5), lk, (ine_f h6), trivial⟩
 exact fpC hn116 (r := F116_res ((GPart.mk 0 0 [] [] []), ([], r4))) pz
abbrev B6 := List GMsg × List GMsg × List GMsg × List GMsg × List GMsg × List GMsg
abbrev S8 := List Int × List Bool × B6
def boxes (j : GJob) (c : List GMsg) : B6 := (toS j c 0, toS j c 1, toS j c 2, toS j c 3, toS j c 4, toS j c 5)
theorem toS_one (j : GJob) (m : GMsg) (q : Int) : toS j [m] q = bif ieq (homeS j m.To) q then [m] else [] := by
 rw [toS, List.filter_cons]
 cases ieq (homeS j m.To) q <;> rfl
def stA (K : Nat) (j : GJob) (m : GMsg) (s : B6) (c : B6 → Option B6) : Option B6 :=
 (F75 K j m.To).bind fun r =>
 bif (ieq r 0) then (bif (apok (len s.1) 1 16) then c (appL s.1 [m], s.2.1, s.2.2.1, s.2.2.2.1, s.2.2.2.2.1, s.2.2.2.2.2) else none) else
 bif (ieq r 1) then (bif (apok (len s.2.1) 1 16) then c (s.1, appL s.2.1 [m], s.2.2.1, s.2.2.2.1, s.2.2.2.2.1, s.2.2.2.2.2) else none) else
 bif (ieq r 2) then (bif (apok (len s.2.2.1) 1 16) then c (s.1, s.2.1, appL s.2.2.1 [m], s.2.2.2.1, s.2.2.2.2.1, s.2.2.2.2.2) else none) else
 bif (ieq r 3) then (bif (apok (len s.2.2.2.1) 1 16) then c (s.1, s.2.1, s.2.2.1, appL s.2.2.2.1 [m], s.2.2.2.2.1, s.2.2.2.2.2) else none) else
 bif (ieq r 4) then (bif (apok (len s.2.2.2.2.1) 1 16) then c (s.1, s.2.1, s.2.2.1, s.2.2.2.1, appL s.2.2.2.2.1 [m], s.2.2.2.2.2) else none) else
 bif (ieq r 5) then bif (apok (len s.2.2.2.2.2) 1 16) then c (s.1, s.2.1, s.2.2.1, s.2.2.2.1, s.2.2.2.2.1, appL s.2.2.2.2.2 [m]) else none else none
theorem route_step {K : Nat} (j : GJob) (m : GMsg) (c : List GMsg) (hl : c.length ≤ 3000) (h0 : 0 ≤ homeS j m.To) (h5 : homeS j m.To ≤ 5) (k : B6 → Option B6) : stA K j m (boxes j c) k = k (boxes j (c ++ [m])) := by
 have ap : ∀ q : Int, apok (len (toS j c q)) 1 16 = true := fun q => by
  have := toS_len j c q
  exact decide_eq_true ⟨by show (toS j c q).length + 1 ≤ _; omega, by show ((toS j c q).length + 1) * 16 ≤ _; omega⟩
 rw [stA, F75_spec, Option.bind_some, boxes, boxes]
 simp only [toS_app, toS_one, ap, cond_true]
 generalize homeS j m.To = q at *
 rcases (by omega : q = 0 ∨ q = 1 ∨ q = 2 ∨ q = 3 ∨ q = 4 ∨ q = 5) with rfl | rfl | rfl | rfl | rfl | rfl <;> simp [ieq, appL]
theorem route_go {K : Nat} (j : GJob) : ∀ (l : List GMsg) (c : List GMsg), c.length + l.length ≤ 3000 → (∀ m ∈ l, 0 ≤ homeS j m.To ∧ homeS j m.To ≤ 5) → goL (stA K j) (fun s => some s) l (boxes j c) = some (boxes j (c ++ l)) := by
 intro l
 induction l with
 | nil => intro c _ _; rw [goL, List.append_nil]
 | cons m l ih =>
  intro c hl hh
  simp only [List.length_cons] at hl
  obtain ⟨h0, h5⟩ := hh m List.mem_cons_self
  rw [goL, route_step j m c (by omega) h0 h5, ih (c ++ [m]) (by simp only [List.length_append, List.length_singleton]; omega) (fun y hy => hh y (List.mem_cons_of_mem _ hy)), List.append_assoc]; rfl
theorem route {K : Nat} (g : GGraph) (j : GJob) (x : GPart) (a : List Int) (b : List Bool) (v : Int) (r : Bool) (l : List GMsg) (i : Int) (c : List GMsg) (hl : c.length + l.length ≤ 3000) (hK : l.length < K) (hh : ∀ m ∈ l, 0 ≤ homeS j m.To ∧ homeS j m.To ≤ 5) :
 F116_l1_1 K g.N g.Edges j.Prog j.Source j.Limit j.Parts x.P x.Step x.Vals x.Rest x.In a b v r l i K (toS j c 0) (toS j c 1) (toS j c 2) (toS j c 3) (toS j c 4) (toS j c 5) 0 = some (boxes j (c ++ l)) := by
 have h := scanL (l := l) (L := fun k (s : B6) p => F116_l1_1 K g.N g.Edges j.Prog j.Source j.Limit j.Parts x.P x.Step x.Vals x.Rest x.In a b v r l i k s.1 s.2.1 s.2.2.1 s.2.2.2.1 s.2.2.2.2.1 s.2.2.2.2.2 p) (stA K j) (fun s => some s) (fun k s p _ => rfl) (by omega) (K := K) hK (boxes j c)
 rw [route_go j l c hl hh] at h
 exact h
def st116 (K : Nat) (g : GGraph) (j : GJob) (x : GPart) (i : Nat) (y : Int) (s : S8) (c : S8 → Option (Int ⊕ S8)) : Option (Int ⊕ S8) :=
 (F149 K x.In (wadd .i64 x.P (wmul .i64 (i : Int) j.Parts))).bind fun r6057 =>
 bif (inr (i : Int) (len x.Rest)) then
 (elAt x.Rest (i : Int)).bind fun x6060 =>
 bif x6060 then
  (bif r6057.2 then
   ((F99 K g j x.Step (wadd .i64 x.P (wmul .i64 (i : Int) j.Parts)) y r6057.1 r6057.2).bind fun r6064 =>
   bif (ieq r6064.2.2.2 0) then
    ((F116_l1_1 K g.N g.Edges j.Prog j.Source j.Limit j.Parts x.P x.Step x.Vals x.Rest x.In s.1 s.2.1 r6064.1 r6064.2.2.1 r6064.2.1 (i : Int) K s.2.2.1 s.2.2.2.1 s.2.2.2.2.1 s.2.2.2.2.2.1 s.2.2.2.2.2.2.1 s.2.2.2.2.2.2.2 0).bind fun w6149 =>
    bif (apok (len s.1) 1 8) then
    bif (apok (len s.2.1) 1 1) then
    c (appL s.1 [r6064.1], appL s.2.1 [r6064.2.2.1], w6149)
    else none
    else none)
   else
   some (.inl r6064.2.2.2))
  else
  bif (apok (len s.1) 1 8) then
  bif (apok (len s.2.1) 1 1) then
  c (appL s.1 [y], appL s.2.1 [true], s.2.2)
  else none
  else none)
 else
 (F99 K g j x.Step (wadd .i64 x.P (wmul .i64 (i : Int) j.Parts)) y r6057.1 r6057.2).bind fun r6160 =>
 bif (ieq r6160.2.2.2 0) then
  ((F116_l1_1 K g.N g.Edges j.Prog j.Source j.Limit j.Parts x.P x.Step x.Vals x.Rest x.In s.1 s.2.1 r6160.1 r6160.2.2.1 r6160.2.1 (i : Int) K s.2.2.1 s.2.2.2.1 s.2.2.2.2.1 s.2.2.2.2.2.1 s.2.2.2.2.2.2.1 s.2.2.2.2.2.2.2 0).bind fun w6193 =>
  bif (apok (len s.1) 1 8) then
  bif (apok (len s.2.1) 1 1) then
  c (appL s.1 [r6160.1], appL s.2.1 [r6160.2.2.1], w6193)
  else none
  else none)
 else
 some (.inl r6160.2.2.2)
 else none
theorem progL_get (n m : Nat) : ∀ (k v i : Nat) (h : i < (progL k n m v).length), (progL k n m v)[i] = v + i * m := by
 intro k
 induction k with
 | zero => intro v i h; exact absurd h (Nat.not_lt_zero _)
 | succ k ih =>
  intro v i h
  by_cases hv : v < n
  · have e : progL (k + 1) n m v = v :: progL k n m (v + m) := by rw [progL, if_pos hv]
    simp only [e] at h ⊢
    cases i with
    | zero => simp
    | succ i =>
     have h' : i < (progL k n m (v + m)).length := by simpa using h
     rw [List.getElem_cons_succ, ih (v + m) i h', Nat.succ_mul]; omega
  · have e : progL (k + 1) n m v = [] := by rw [progL, if_neg hv]
    simp only [e, List.length_nil] at h
    exact absurd h (Nat.not_lt_zero _)
theorem verts_at {g : GGraph} {j : GJob} (h1 : 1 ≤ j.Parts) (h6 : j.Parts ≤ 6) (hn : g.N ≤ 24) {p : Int} (hp : 0 ≤ p ∧ p < j.Parts) (i : Nat) (h : i < (vertsS g j p).length) : (((vertsS g j p)[i] : Nat) : Int) = p + (i : Int) * j.Parts := by
 obtain ⟨q, rfl⟩ := Int.eq_ofNat_of_zero_le hp.1
 have e : vertsS g j (q : Int) = progL 30 g.N.toNat j.Parts.toNat q := (prog_verts (by omega) (by omega) (by omega) (by omega)).symm
 simp only [e] at h ⊢
 rw [progL_get]
 have : ((j.Parts.toNat : Nat) : Int) = j.Parts := by omega
 rw [Int.natCast_add, Int.natCast_mul, this]
def boxT (j : GJob) : Int ⊕ Tri → Int ⊕ S8
 | .inl e => .inl e
 | .inr w => .inr (w.1, w.2.1, boxes j w.2.2)
theorem home_in {j : GJob} (h1 : 1 ≤ j.Parts) (h6 : j.Parts ≤ 6) {v : Int} (h0 : 0 ≤ v) : homeS j v = v % j.Parts ∧ 0 ≤ homeS j v ∧ homeS j v ≤ 5 := by
 have hm0 : 0 ≤ v % j.Parts := Int.emod_nonneg _ (by omega)
 have hm1 : v % j.Parts < j.Parts := Int.emod_lt_of_pos _ (by omega)
 have e : homeS j v = v % j.Parts := by rw [homeS, ilt_f.2 h0, ilt_f.2 h1, ilt_f.2 h6]; rfl
 rw [e]; exact ⟨rfl, hm0, by omega⟩
theorem go116 {K : Nat} (hK : 3000 ≤ K) (g : GGraph) (j : GJob) (x : GPart) (hR : partRight g j x = true) (hn : niceP x) (hin : x.In.length ≤ 300) : ∀ (n i : Nat) (a : List Int) (b : List Bool) (c : List GMsg), i + n = x.Vals.length → keepP g i a b c →
 goI (st116 K g j x) (fun s => some (.inr s)) i (x.Vals.drop i) (a, b, boxes j c) = some (boxT j (doA g j x ((vertsS g j x.P).drop i) i a b c)) := by
 obtain ⟨hc, p1, p2, p3, p4, p5, p6, _⟩ := partRight_ok hR
 obtain ⟨hg, _, _, _, _, _, _, p7, p8⟩ := jcheck_ok hc
 obtain ⟨g1, g2, g3, _⟩ := gcheck_ok hg
 have hvl := verts_len g j g2 x.P
 rw [countS] at p5 p6
 intro n
 induction n with
 | zero =>
  intro i a b c hi _
  have e1 : x.Vals.drop i = [] := List.drop_eq_nil_of_le (by omega)
  have e2 : (vertsS g j x.P).drop i = [] := List.drop_eq_nil_of_le (by omega)
  rw [e1, e2]; rfl
 | succ n ih =>
  intro i a b c hi h
  have hlc := h.lc
  obtain ⟨v, hv⟩ : ∃ v, (vertsS g j x.P)[i]'(by omega) = v := ⟨_, rfl⟩
  have hat0 := verts_at p7 p8 g2 ⟨p1, p2⟩ i (by omega)
  rw [hv] at hat0
  have hd2 : (vertsS g j x.P).drop i = v :: (vertsS g j x.P).drop (i + 1) := by rw [List.drop_eq_getElem_cons (by omega : i < (vertsS g j x.P).length), hv]
  have hvm : v ∈ vertsS g j x.P := hv ▸ List.getElem_mem _
  have hvn := ((mem_verts p7).1 hvm).1
  have hd1 : x.Vals.drop i = x.Vals.getD i 0 :: x.Vals.drop (i + 1) := by
   rw [List.drop_eq_getElem_cons (by omega : i < x.Vals.length), List.getD_eq_getElem?_getD, List.getElem?_eq_getElem (by omega : i < x.Vals.length)]; rfl
  have hv0 : 0 ≤ (i : Int) * j.Parts := Int.mul_nonneg (by omega) (by omega)
  have e1 : wmul .i64 (i : Int) j.Parts = (i : Int) * j.Parts := wmul_ok (by unfold i64; omega)
  have e2 : wadd .i64 x.P ((i : Int) * j.Parts) = (v : Int) := by rw [wadd_i64 (by unfold i64; omega)]; omega
  have hnx := keepP_next (j := j) hn v h
  obtain ⟨la, lb, _, _, _, _⟩ := h
  obtain ⟨o3, o4⟩ := onep_outs (g := g) (j := j) (x := x) (i := i) (v := v)
  obtain ⟨r1, r2⟩ := elAt_get (l := x.Rest) (i := i) (by omega) false
  have a1 : apok (len a) 1 8 = true := decide_eq_true ⟨by show a.length + 1 ≤ _; omega, by show (a.length + 1) * 8 ≤ _; omega⟩
  have a2 : apok (len b) 1 1 = true := decide_eq_true ⟨by show b.length + 1 ≤ _; omega, by show (b.length + 1) * 1 ≤ _; omega⟩
  have hx : i64 (x.Vals.getD i 0) := by
   rw [List.getD_eq_getElem?_getD]
   cases hq : x.Vals[i]? with
   | none => show i64 0; unfold i64; omega
   | some y => exact hn.1 y (List.mem_of_getElem? hq)
  have hat := atS_i64 (l := x.In) (v := (v : Int)) hn.2
  have nx := ih (i + 1) _ _ _ (by omega) hnx
  have f99 := F99_spec (K := K) (by omega) g j x.Step (v : Int) (atS x.In (v : Int)).2 hx hat
  have hro := fun (aa : List Int) (bb : List Bool) (vv : Int) (rr : Bool) => route (K := K) g j x aa bb vv rr (oneP g j x i v).2.1 (i : Int) c (by omega) (by omega) (fun m hm => (home_in p7 p8 (o4 m hm).1).2)
  rw [hd1, hd2, goI, st116, doA, e1, e2, F149_spec x.In (v : Int) (by omega) (by omega), r1, r2]
  simp only [cond_true, Option.bind_some, f99, a1, a2]
  have eb : ∀ c, (boxes j c).1 = toS j c 0 ∧ (boxes j c).2.1 = toS j c 1 ∧ (boxes j c).2.2.1 = toS j c 2 ∧ (boxes j c).2.2.2.1 = toS j c 3 ∧ (boxes j c).2.2.2.2.1 = toS j c 4 ∧ (boxes j c).2.2.2.2.2 = toS j c 5 := fun c => ⟨rfl, rfl, rfl, rfl, rfl, rfl⟩
  obtain ⟨q0, q1, q2, q3, q4, q5⟩ := eb c
  rw [q0, q1, q2, q3, q4, q5]
  cases hs : (atS x.In (v : Int)).2
  · cases hy : x.Rest.getD i false
    · have hT : oneP g j x i v = turnS g j x.Step (v : Int) (x.Vals.getD i 0) (atS x.In (v : Int)).1 false := by rw [oneP, hy, hs]; rfl
      rw [hT] at nx hro ⊢
      simp only [cond_false, cond_true, hro, Option.bind_some]
      cases ieq (turnS g j x.Step (v : Int) (x.Vals.getD i 0) (atS x.In (v : Int)).1 false).2.2.2 0
      · rfl
      · exact nx
    · have hT : oneP g j x i v = (x.Vals.getD i 0, [], true, 0) := by rw [oneP, hy, hs]; rfl
      rw [hT] at nx ⊢
      simp only [List.append_nil] at nx ⊢
      exact nx
  · have hT : oneP g j x i v = turnS g j x.Step (v : Int) (x.Vals.getD i 0) (atS x.In (v : Int)).1 true := by rw [oneP, hs, Bool.not_true, Bool.and_false]; rfl
    rw [hT] at nx hro ⊢
    simp only [cond_false, cond_true, hro, Option.bind_some]
    cases x.Rest.getD i false <;> cases ieq (turnS g j x.Step (v : Int) (x.Vals.getD i 0) (atS x.In (v : Int)).1 true).2.2.2 0 <;> first | rfl | exact nx
def st116b (K : Nat) (j : GJob) (s : B6) (q : Nat) (d : List (List GMsg)) (c : List (List GMsg) → Option (Int ⊕ List (List GMsg))) : Option (Int ⊕ List (List GMsg)) :=
 bif (ieq (q : Int) 0) then ((F150 K j.Prog s.1).bind fun r => bif (ieq r.2 0) then (bif (apok (len d) 1 24) then c (appL d [r.1]) else none) else some (.inl r.2)) else
 bif (ieq (q : Int) 1) then ((F150 K j.Prog s.2.1).bind fun r => bif (ieq r.2 0) then (bif (apok (len d) 1 24) then c (appL d [r.1]) else none) else some (.inl r.2)) else
 bif (ieq (q : Int) 2) then ((F150 K j.Prog s.2.2.1).bind fun r => bif (ieq r.2 0) then (bif (apok (len d) 1 24) then c (appL d [r.1]) else none) else some (.inl r.2)) else
 bif (ieq (q : Int) 3) then ((F150 K j.Prog s.2.2.2.1).bind fun r => bif (ieq r.2 0) then (bif (apok (len d) 1 24) then c (appL d [r.1]) else none) else some (.inl r.2)) else
 bif (ieq (q : Int) 4) then ((F150 K j.Prog s.2.2.2.2.1).bind fun r => bif (ieq r.2 0) then (bif (apok (len d) 1 24) then c (appL d [r.1]) else none) else some (.inl r.2)) else
 bif (ieq (q : Int) 5) then (F150 K j.Prog s.2.2.2.2.2).bind fun r => bif (ieq r.2 0) then (bif (apok (len d) 1 24) then c (appL d [r.1]) else none) else some (.inl r.2) else none
theorem tell_step {K : Nat} (hK : 3000 ≤ K) (j : GJob) (c : List GMsg) (hl : c.length ≤ 2000) (hv : ∀ m ∈ c, i64 m.V) (q : Nat) (hq : q < 6) (d : List (List GMsg)) (hd : d.length ≤ 6) (k : List (List GMsg) → Option (Int ⊕ List (List GMsg))) :
 st116b K j (boxes j c) q d k = bif ieq (boxS j.Prog (toS j c (q : Int))).2 0 then k (d ++ [(boxS j.Prog (toS j c (q : Int))).1]) else some (.inl (boxS j.Prog (toS j c (q : Int))).2) := by
 have ap : apok (len d) 1 24 = true := decide_eq_true ⟨by show d.length + 1 ≤ _; omega, by show (d.length + 1) * 24 ≤ _; omega⟩
 have hlen := fun q => toS_len j c q
 have f := fun (q : Int) => F150_spec (K := K) j.Prog (toS j c q) (fun m hm => hv m (toS_mem hm).1) (by have := hlen q; omega) (by have := hlen q; omega)
 rw [st116b, boxes]
 simp only [f, Option.bind_some, ap, cond_true]
 rcases (by omega : q = 0 ∨ q = 1 ∨ q = 2 ∨ q = 3 ∨ q = 4 ∨ q = 5) with rfl | rfl | rfl | rfl | rfl | rfl <;> rfl
theorem go116b {K : Nat} (hK : 3000 ≤ K) (j : GJob) (c : List GMsg) (hl : c.length ≤ 2000) (hv : ∀ m ∈ c, i64 m.V) : ∀ (l : List Nat) (d : List (List GMsg)), (∀ q ∈ l, q < 6) → d.length + l.length ≤ 6 →
 goL (st116b K j (boxes j c)) (fun d => some (.inr d)) l d = some (tellS j c l d) := by
 intro l
 induction l with
 | nil => intro d _ _; rfl
 | cons q l ih =>
  intro d hq hd
  simp only [List.length_cons] at hd
  rw [goL, tell_step hK j c hl hv q (hq q List.mem_cons_self) d (by omega), tellS, ih _ (fun y hy => hq y (List.mem_cons_of_mem _ hy)) (by simp only [List.length_append, List.length_singleton]; omega)]
  cases ieq (boxS j.Prog (toS j c (q : Int))).2 0 <;> rfl
theorem F116_spec {K : Nat} (hK : 3000 ≤ K) (g : GGraph) (j : GJob) (x : GPart) (hn : niceP x) (hin : x.In.length ≤ 300) (hp : i64 x.P) : F116 K g j x = some (doS g j x) := by
 rw [F116, F94_spec (by omega), F80_spec (by omega) g j x (by omega) (by omega) hp, Option.bind_some, Option.bind_some, doS]
 cases hc : ieq (jcheck g j) 0
 · rfl
 · cases hR : partRight g j x
   · rfl
   · cases h40 : ieq x.Step 40
     · obtain ⟨_, p1, p2, p3, p4, p5, p6, _⟩ := partRight_ok hR
       obtain ⟨hg, _, _, _, _, _, _, p7, p8⟩ := jcheck_ok hc
       obtain ⟨g1, g2, g3, _⟩ := gcheck_ok hg
       have hvl := verts_len g j g2 x.P
       rw [countS] at p5 p6
       have h := scanI (l := x.Vals) (L := fun k (s : S8) i => F116_l0_0 K g.N g.Edges j.Prog j.Source j.Limit j.Parts x.P x.Step x.Vals x.Rest x.In k s.1 s.2.1 s.2.2.1 s.2.2.2.1 s.2.2.2.2.1 s.2.2.2.2.2.1 s.2.2.2.2.2.2.1 s.2.2.2.2.2.2.2 i) (st116 K g j x) (fun s => some (.inr s)) (fun k s i _ => rfl) (by omega) K ([], [], boxes j []) 0 (by omega) (by omega)
       have h' : F116_l0_0 K g.N g.Edges j.Prog j.Source j.Limit j.Parts x.P x.Step x.Vals x.Rest x.In K [] [] [] [] [] [] [] [] 0 = some (boxT j (doA g j x (vertsS g j x.P) 0 [] [] [])) := by
        rw [show F116_l0_0 K g.N g.Edges j.Prog j.Source j.Limit j.Parts x.P x.Step x.Vals x.Rest x.In K [] [] [] [] [] [] [] [] 0 = _ from h]
        have := go116 hK g j x hR hn hin x.Vals.length 0 [] [] [] (by omega) (keepP0 g)
        rwa [List.drop_zero] at this
       simp only [cond_true, cond_false, h', Option.bind_some]
       cases hA : doA g j x (vertsS g j x.P) 0 [] [] [] with
       | inl e => rfl
       | inr w =>
        have kw := doA_keep hn _ 0 [] [] [] (keepP0 g) w hA
        have hwl := kw.lc
        have hw : wadd .i64 x.Step 1 = x.Step + 1 := wadd_i64 (by unfold i64; omega)
        have t := scanN (N := j.Parts) (L := fun k d i => F116_l2_2 K j.Prog j.Source j.Limit j.Parts x.P (x.Step + 1) w.1 w.2.1 (toS j w.2.2 0) (toS j w.2.2 1) (toS j w.2.2 2) (toS j w.2.2 3) (toS j w.2.2 4) (toS j w.2.2 5) k d i) (fun q d c => st116b K j (boxes j w.2.2) q d c) (fun d => some (.inr d)) (fun k d i _ => rfl) (by omega) (K := K) (by omega) []
        have t' : F116_l2_2 K j.Prog j.Source j.Limit j.Parts x.P (x.Step + 1) w.1 w.2.1 (toS j w.2.2 0) (toS j w.2.2 1) (toS j w.2.2 2) (toS j w.2.2 3) (toS j w.2.2 4) (toS j w.2.2 5) K [] 0 = some (tellS j w.2.2 (List.range j.Parts.toNat) []) := by
         rw [show F116_l2_2 K j.Prog j.Source j.Limit j.Parts x.P (x.Step + 1) w.1 w.2.1 (toS j w.2.2 0) (toS j w.2.2 1) (toS j w.2.2 2) (toS j w.2.2 3) (toS j w.2.2 4) (toS j w.2.2 5) K [] 0 = _ from t]
         exact go116b hK j w.2.2 (by omega) kw.vc _ [] (fun q hq => by have := List.mem_range.1 hq; omega) (by rw [List.length_range]; simp only [List.length_nil]; omega)
        simp only [boxT, Sum.elim_inr, boxes, hw, t', Option.bind_some, doB]
        cases tellS j w.2.2 (List.range j.Parts.toNat) [] <;> rfl
     · rfl
theorem inSt_mk {n : Int} : ∀ {l : List GMsg} {v : Int}, l.Pairwise (fun a b => a.To < b.To) → (∀ m ∈ l, v < m.To ∧ m.To < n) → inSt n v l = true
 | [], v, _, _ => rfl
 | m :: l, v, hp, hm => by
  obtain ⟨a, b⟩ := List.pairwise_cons.1 hp
  have h1 := hm m List.mem_cons_self
  rw [inSt, ilt_iff.2 h1.1, ilt_iff.2 h1.2]
  exact inSt_mk b fun x hx => ⟨a x hx, (hm x (List.mem_cons_of_mem _ hx)).2⟩
theorem stRight_mk {g : GGraph} {j : GJob} {s : GState} (hc : ieq (jcheck g j) 0 = true) (h0 : 0 ≤ s.Step) (h40 : s.Step ≤ 40) (hv : (s.Vals.length : Int) = g.N) (hr : (s.Rest.length : Int) = g.N) (hi : inSt g.N (-1) s.In = true) : stRight g j s = true := by
 rw [stRight, hc, ile_iff.2 h0, ile_iff.2 h40, ieq_iff.2 hv, ieq_iff.2 hr, hi]; rfl
theorem stepA_To {g : GGraph} {j : GJob} {s : GState} : ∀ (l : List Nat) (a : List Int) (b : List Bool) (c : List GMsg) (w : Tri), (∀ m ∈ c, 0 ≤ m.To ∧ m.To < g.N) → stepA g j s l a b c = .inr w → ∀ m ∈ w.2.2, 0 ≤ m.To ∧ m.To < g.N := by
 intro l
 induction l with
 | nil => intro a b c w h hw; injection hw with hw; subst hw; exact h
 | cons v l ih =>
  intro a b c w h hw
  rw [stepA] at hw
  cases hq : ieq (oneS g j s v).2.2.2 0
  · rw [hq] at hw; cases hw
  · rw [hq] at hw
    refine ih _ _ _ w (fun m hm => ?_) hw
    rcases List.mem_append.1 hm with hm | hm
    · exact h m hm
    · rw [oneS] at hm
      cases hz : s.Rest.getD v false && !(atS s.In (v : Int)).2
      · rw [hz] at hm; exact turn_To m hm
      · rw [hz] at hm; exact absurd hm List.not_mem_nil
theorem step_right {g : GGraph} {j : GJob} {s : GState} (hg : goodS s) (h : ieq (stepS g j s).2 0 = true) : stRight g j (stepS g j s).1 = true := by
 obtain ⟨hc, hr, h40, w, hA, hb, he⟩ := step_ok h
 obtain ⟨_, s1, s2, _⟩ := stRight_ok hr
 obtain ⟨hgc, _⟩ := jcheck_ok hc
 obtain ⟨g1, g2, g3, _⟩ := gcheck_ok hgc
 have ht := stepA_To _ [] [] [] w (fun m hm => absurd hm List.not_mem_nil) hA
 rw [List.range_eq_range'] at hA
 have kw := stepA_keep hg.nice g.N.toNat 0 [] [] [] (keep0 g) w hA
 have h1 := kw.la
 have h2 := kw.lb
 have hs := ieq_f.1 h40
 obtain ⟨r1, r2⟩ := boxS_rise (p := j.Prog) (l := w.2.2)
 rw [he]
 refine stRight_mk hc (show 0 ≤ s.Step + 1 by omega) (show s.Step + 1 ≤ 40 by omega) (show (w.1.length : Int) = _ by omega) (show (w.2.1.length : Int) = _ by omega) (inSt_mk r1 fun m hm => ?_)
 obtain ⟨u, hu, e⟩ := r2 m hm
 have := ht u hu
 omega
def fitsS (j : GJob) (s : GState) : Prop := j.Prog = 5 → (∀ v ∈ s.Vals, 0 ≤ v) ∧ ∀ m ∈ s.In, 0 ≤ m.V
theorem one_err {g : GGraph} {j : GJob} {s : GState} (hr : stRight g j s = true) {v : Nat} (hv : (v : Int) < g.N) : ieq (oneS g j s v).2.2.2 0 = true ∨ (oneS g j s v).2.2.2 = 8 := by
 obtain ⟨hc, s1, s2, _⟩ := stRight_ok hr
 have hs : ∀ (b : Bool) (w : Int) (o : Option (List GMsg)), ieq (sendO b w o).2.2.2 0 = true ∨ (sendO b w o).2.2.2 = 8 := fun b w o => match o with | none => .inr rfl | some _ => .inl rfl
 rw [oneS]
 cases s.Rest.getD v false && !(atS s.In (v : Int)).2
 · rw [cond_false, turnS, hc, ilt_f.2 (show (0 : Int) ≤ (v : Int) by omega), ile_f.2 hv, ilt_f.2 s1, ilt_f.2 s2]
   simp only [cond_true, cond_false]
   cases ieq j.Prog 5
   · rw [cond_false, moveS]
     cases turnM j.Prog j.Source s.Step (v : Int) (s.Vals.getD v 0) (turnV j.Prog (s.Vals.getD v 0) (atS s.In (v : Int)).1 (atS s.In (v : Int)).2)
     · exact .inl rfl
     · exact hs _ _ _
   · rw [cond_true, rankS]
     cases (rankW s.Step (s.Vals.getD v 0) (atS s.In (v : Int)).1 (atS s.In (v : Int)).2).2
     · exact .inr rfl
     · cases ile 10 s.Step
       · exact hs _ _ _
       · exact .inl rfl
 · exact .inl rfl
theorem ratio_nn {v n d : Int} (hv : 0 ≤ v) (hn : 0 ≤ n) : 0 ≤ (ratioS v n d).1 := by
 rw [ratioS]
 cases h1 : ilt d 1
 · have h1' := ilt_f.1 h1
   rw [cond_false, mulS]
   cases fitsB (v * n)
   · exact Int.le_refl 0
   · exact Int.tdiv_nonneg (Int.mul_nonneg hv hn) (by omega)
 · exact Int.le_refl 0
theorem sendA_nn {val many : Int} (hv : 0 ≤ val) : ∀ {l : List GEdge} {s r : List GMsg}, (∀ m ∈ s, 0 ≤ m.V) → sendA 5 val many l s = some r → ∀ m ∈ r, 0 ≤ m.V
 | [], s, r, hs, h => by injection h with h; subst h; exact hs
 | e :: l, s, r, hs, h => by
  rw [sendA] at h
  cases hq : (sendS 5 val e many).2
  · rw [hq] at h; cases h
  · rw [hq, cond_true] at h
    refine sendA_nn hv (fun m hm => ?_) h
    rcases List.mem_append.1 hm with hm | hm
    · exact hs m hm
    · rw [List.mem_singleton.1 hm]; exact ratio_nn hv (by omega)
theorem one_nn {g : GGraph} {j : GJob} {s : GState} (hf : fitsS j s) {v : Nat} : ∀ m ∈ (oneS g j s v).2.1, nneg j.Prog m := by
 intro m hm h5
 obtain ⟨f1, f2⟩ := hf h5
 have hval : 0 ≤ s.Vals.getD v 0 := by
  rw [List.getD_eq_getElem?_getD]
  cases hq : s.Vals[v]? with
  | none => exact Int.le_refl 0
  | some y => exact f1 y (List.mem_of_getElem? hq)
 have hgot : 0 ≤ (atS s.In (v : Int)).1 := by
  rw [atS]
  cases hq : s.In.find? fun m => ieq m.To (v : Int) with
  | none => exact Int.le_refl 0
  | some m => exact f2 m (List.mem_of_find?_eq_some hq)
 rw [oneS] at hm
 cases hz : s.Rest.getD v false && !(atS s.In (v : Int)).2
 · rw [hz, cond_false] at hm
   have hw : 0 ≤ (rankW s.Step (s.Vals.getD v 0) (atS s.In (v : Int)).1 (atS s.In (v : Int)).2).1 := by
    rw [rankW]
    cases ilt 0 s.Step
    · exact hval
    · rw [cond_true, sumS]
      have hg2 : 0 ≤ (bif (atS s.In (v : Int)).2 then (atS s.In (v : Int)).1 else 0) := by
       cases (atS s.In (v : Int)).2
       · exact Int.le_refl 0
       · exact hgot
      have := ratio_nn (d := 100) hg2 (show (0 : Int) ≤ 85 by omega)
      cases (ratioS (bif (atS s.In (v : Int)).2 then (atS s.In (v : Int)).1 else 0) 85 100).2
      · exact Int.le_refl 0
      · rw [cond_true, addS]
        cases fitsB (150000 + (ratioS (bif (atS s.In (v : Int)).2 then (atS s.In (v : Int)).1 else 0) 85 100).1)
        · exact Int.le_refl 0
        · show 0 ≤ 150000 + _; omega
   have hno : ∀ {e : Int}, m ∈ ((0, [], false, e) : Int × List GMsg × Bool × Int).2.1 → 0 ≤ m.V := fun h => absurd h List.not_mem_nil
   rw [turnS] at hm
   cases hc : ieq (jcheck g j) 0
   · rw [hc] at hm; exact hno hm
   · cases h1 : ilt (v : Int) 0
     · cases h2 : ile g.N (v : Int)
       · cases h3 : ilt s.Step 0
         · cases h4 : ilt 40 s.Step
           · rw [hc, h1, h2, h3, h4, ieq_iff.2 h5] at hm
             simp only [cond_true, cond_false, rankS] at hm
             cases hw2 : (rankW s.Step (s.Vals.getD v 0) (atS s.In (v : Int)).1 (atS s.In (v : Int)).2).2
             · rw [hw2] at hm; exact hno hm
             · cases h10 : ile 10 s.Step
               · rw [hw2, h10] at hm
                 simp only [cond_true, cond_false] at hm
                 generalize (rankW s.Step (s.Vals.getD v 0) (atS s.In (v : Int)).1 (atS s.In (v : Int)).2).1 = w at hm hw
                 cases hq : sendA 5 w (manyO g (v : Int)) (outs g (v : Int)) [] with
                 | none => rw [hq] at hm; exact absurd hm List.not_mem_nil
                 | some r => rw [hq] at hm; exact sendA_nn hw (fun m hm => absurd hm List.not_mem_nil) hq m hm
               · rw [hw2, h10] at hm; exact absurd hm List.not_mem_nil
           · rw [hc, h1, h2, h3, h4] at hm; exact hno hm
         · rw [hc, h1, h2, h3] at hm; exact hno hm
       · rw [hc, h1, h2] at hm; exact hno hm
     · rw [hc, h1] at hm; exact hno hm
 · rw [hz] at hm; exact absurd hm List.not_mem_nil
theorem stepA_cases {g : GGraph} {j : GJob} {s : GState} : ∀ (l : List Nat) (a : List Int) (b : List Bool) (c : List GMsg),
 ((∀ v ∈ l, ieq (oneS g j s v).2.2.2 0 = true) ∧ stepA g j s l a b c = .inr (a ++ l.map (fun v => (oneS g j s v).1), b ++ l.map (fun v => (oneS g j s v).2.2.1), c ++ l.flatMap fun v => (oneS g j s v).2.1)) ∨
 ∃ v ∈ l, ieq (oneS g j s v).2.2.2 0 = false ∧ stepA g j s l a b c = .inl (oneS g j s v).2.2.2 := by
 intro l
 induction l with
 | nil => intro a b c; exact .inl ⟨fun v hv => absurd hv List.not_mem_nil, by simp [stepA]⟩
 | cons v l ih =>
  intro a b c
  rw [stepA]
  cases hq : ieq (oneS g j s v).2.2.2 0
  · exact .inr ⟨v, List.mem_cons_self, hq, rfl⟩
  · rw [cond_true]
    rcases ih (a ++ [(oneS g j s v).1]) (b ++ [(oneS g j s v).2.2.1]) (c ++ (oneS g j s v).2.1) with ⟨h1, h2⟩ | ⟨u, h1, h2, h3⟩
    · refine .inl ⟨fun u hu => ?_, by rw [h2]; simp⟩
      rcases List.mem_cons.1 hu with rfl | hu
      · exact hq
      · exact h1 u hu
    · exact .inr ⟨u, List.mem_cons_of_mem _ h1, h2, h3⟩
theorem doA_eq {g : GGraph} {j : GJob} {s : GState} {x : GPart} : ∀ (l : List Nat) (i : Nat) (a : List Int) (b : List Bool) (c : List GMsg), (∀ k (h : k < l.length), oneP g j x (i + k) l[k] = oneS g j s l[k]) → doA g j x l i a b c = stepA g j s l a b c := by
 intro l
 induction l with
 | nil => intro i a b c _; rfl
 | cons v l ih =>
  intro i a b c h
  have h0 : oneP g j x i v = oneS g j s v := h 0 (Nat.zero_lt_succ _)
  rw [doA, stepA, h0, ih (i + 1) _ _ _ fun k hk => by
   have := h (k + 1) (by simpa using hk)
   rw [show i + 1 + k = i + (k + 1) by omega]
   simpa using this]
theorem getD_map {α β : Type} (f : α → β) (l : List α) (d : β) {k : Nat} (h : k < l.length) : (l.map f).getD k d = f l[k] := by
 rw [List.getD_eq_getElem?_getD, List.getElem?_map, List.getElem?_eq_getElem h]; rfl
theorem oneP_cut {g : GGraph} {j : GJob} {s : GState} (hp : 1 ≤ j.Parts) (p : Int) {k : Nat} (h : k < (vertsS g j p).length) : oneP g j (cutS g j s p) k (vertsS g j p)[k] = oneS g j s (vertsS g j p)[k] := by
 obtain ⟨v, hv⟩ : ∃ v, (vertsS g j p)[k] = v := ⟨_, rfl⟩
 have hm := (mem_verts hp).1 (List.getElem_mem h)
 rw [hv] at hm ⊢
 have e1 : (cutS g j s p).Rest.getD k false = s.Rest.getD v false := by rw [← hv]; exact getD_map _ _ _ h
 have e2 : (cutS g j s p).Vals.getD k 0 = s.Vals.getD v 0 := by rw [← hv]; exact getD_map _ _ _ h
 have e3 : atS (cutS g j s p).In (v : Int) = atS s.In (v : Int) := by
  have : (fun m : GMsg => decide (ieq (m.To % j.Parts) p = true ∧ ieq m.To (v : Int) = true)) = fun m => ieq m.To (v : Int) := by
   funext m
   cases hq : ieq m.To (v : Int)
   · exact decide_eq_false fun h => by cases h.2
   · have := ieq_iff.1 hq
     exact decide_eq_true ⟨by rw [this]; exact ieq_iff.2 hm.2, rfl⟩
  rw [atS, atS, cutS]
  dsimp only
  rw [List.find?_filter, this]
 rw [oneP, oneS, e1, e2, e3]; rfl
def sent (g : GGraph) (j : GJob) (s : GState) (v : Nat) : List GMsg := (oneS g j s v).2.1
def cW (g : GGraph) (j : GJob) (s : GState) : List GMsg := (List.range g.N.toNat).flatMap (sent g j s)
def cP (g : GGraph) (j : GJob) (s : GState) (p : Int) : List GMsg := (vertsS g j p).flatMap (sent g j s)
theorem step_vertex {g : GGraph} {j : GJob} {s : GState} (hr : stRight g j s = true) (h40 : ieq s.Step 40 = false) {v : Nat} (hv : (v : Int) < g.N) (he : ieq (oneS g j s v).2.2.2 0 = false) : (stepS g j s).2 = 8 := by
 obtain ⟨hc, _⟩ := stRight_ok hr
 rw [stepS, hc, hr, h40]
 simp only [cond_true, cond_false]
 rcases stepA_cases (g := g) (j := j) (s := s) (List.range g.N.toNat) [] [] [] with ⟨h1, _⟩ | ⟨u, h1, h2, h3⟩
 · have := h1 v (List.mem_range.2 (by omega))
   rw [he] at this; cases this
 · rw [h3]
   show (oneS g j s u).2.2.2 = 8
   rcases one_err hr (v := u) (by have := List.mem_range.1 h1; omega) with q | q
   · rw [q] at h2; cases h2
   · exact q
theorem step_all {g : GGraph} {j : GJob} {s : GState} (hr : stRight g j s = true) (h40 : ieq s.Step 40 = false) (hf : fitsS j s) (h : ∀ v : Nat, (v : Int) < g.N → ieq (oneS g j s v).2.2.2 0 = true) :
 ((stepS g j s).2 = 8 ∧ ∃ t, acc j.Prog t (cW g j s) = some none) ∨ ∃ w, stepS g j s = (GState.mk (s.Step + 1) ((List.range g.N.toNat).map fun v => (oneS g j s v).1) ((List.range g.N.toNat).map fun v => (oneS g j s v).2.2.1) w, 0) ∧
  w.Pairwise (fun a b => a.To < b.To) ∧ (∀ t, acc j.Prog t (cW g j s) ≠ some none) ∧ ∀ m, m ∈ w ↔ acc j.Prog m.To (cW g j s) = some (some m.V) := by
 obtain ⟨hc, _⟩ := stRight_ok hr
 obtain ⟨_, p1, p2, _⟩ := jcheck_ok hc
 have hb : pbad j.Prog = false := by rw [pbad, ilt_f.2 p1, ilt_f.2 p2]; rfl
 have hn : ∀ m ∈ cW g j s, nneg j.Prog m := fun m hm => by
  obtain ⟨v, _, hv⟩ := List.mem_flatMap.1 hm
  exact one_nn hf m hv
 rw [stepS, hc, hr, h40]
 simp only [cond_true, cond_false]
 rcases stepA_cases (g := g) (j := j) (s := s) (List.range g.N.toNat) [] [] [] with ⟨h1, h2⟩ | ⟨u, h1, h2, h3⟩
 · simp only [List.nil_append] at h2
   rw [h2, stepB]
   rcases boxS_acc hb hn with ⟨q1, q2⟩ | ⟨w, q1, q2, q3, q4⟩
   · left
     refine ⟨?_, q2⟩
     have : boxS j.Prog ((List.range g.N.toNat).flatMap fun v => (oneS g j s v).2.1) = ([], 8) := q1
     dsimp only
     rw [this]; rfl
   · right
     have : boxS j.Prog ((List.range g.N.toNat).flatMap fun v => (oneS g j s v).2.1) = (w, 0) := q1
     dsimp only
     rw [this]
     exact ⟨w, rfl, q2, q3, q4⟩
 · have := h u (by have := List.mem_range.1 h1; omega)
   rw [h2] at this; cases this
theorem acc_sub {p t : Int} (hb : pbad p = false) {a b l : List GMsg} (h : (a ++ b).Perm l) (ha : acc p t a = some none) : acc p t l = some none := by
 rw [← acc_perm p t hb h, acc_app p t hb, ha, accM_bad']
theorem cP_sub (g : GGraph) (j : GJob) (s : GState) (p : Int) : ∃ b, (cP g j s p ++ b).Perm (cW g j s) := by
 have h := List.filter_append_perm (fun v => ieq ((v % j.Parts.toNat : Nat) : Int) p) (List.range g.N.toNat)
 have h2 := h.flatMap_right (sent g j s)
 rw [List.flatMap_append] at h2
 exact ⟨_, h2⟩
theorem toS_sub (j : GJob) (c : List GMsg) (q : Int) : ∃ b, (toS j c q ++ b).Perm c := ⟨_, List.filter_append_perm _ c⟩
theorem bad_sub {g : GGraph} {j : GJob} {s : GState} (hb : pbad j.Prog = false) {p q t : Int} (h : acc j.Prog t (toS j (cP g j s p) q) = some none) : acc j.Prog t (cW g j s) = some none := by
 obtain ⟨b1, h1⟩ := toS_sub j (cP g j s p) q
 obtain ⟨b2, h2⟩ := cP_sub g j s p
 exact acc_sub hb h2 (acc_sub hb h1 h)
theorem do_part {g : GGraph} {j : GJob} {s : GState} (hr : stRight g j s = true) (h40 : ieq s.Step 40 = false) (hf : fitsS j s) {p : Nat} (hp : (p : Int) < j.Parts) :
 (doS g j (cutS g j s (p : Int)) = (zeroP, [], 8) ∧ (stepS g j s).2 = 8) ∨
 ((∀ v ∈ vertsS g j (p : Int), ieq (oneS g j s v).2.2.2 0 = true) ∧ (∀ q < j.Parts.toNat, ieq (boxS j.Prog (toS j (cP g j s (p : Int)) (q : Int))).2 0 = true) ∧
  doS g j (cutS g j s (p : Int)) = (GPart.mk (p : Int) (s.Step + 1) ((vertsS g j (p : Int)).map fun v => (oneS g j s v).1) ((vertsS g j (p : Int)).map fun v => (oneS g j s v).2.2.1) [],
   (List.range j.Parts.toNat).map (fun (q : Nat) => (boxS j.Prog (toS j (cP g j s (p : Int)) (q : Int))).1), 0)) := by
 obtain ⟨hc, _⟩ := stRight_ok hr
 obtain ⟨hg, p1, p2, _, _, _, _, p7, p8⟩ := jcheck_ok hc
 have hb : pbad j.Prog = false := by rw [pbad, ilt_f.2 p1, ilt_f.2 p2]; rfl
 have hmem : ∀ v ∈ vertsS g j (p : Int), (v : Int) < g.N := fun v hv => ((mem_verts p7).1 hv).1
 have hdo : doA g j (cutS g j s (p : Int)) (vertsS g j (p : Int)) 0 [] [] [] = stepA g j s (vertsS g j (p : Int)) [] [] [] :=
  doA_eq _ 0 [] [] [] fun k hk => by rw [Nat.zero_add]; exact oneP_cut p7 _ hk
 have hn : ∀ q, ∀ m ∈ toS j (cP g j s (p : Int)) q, nneg j.Prog m := fun q m hm => by
  obtain ⟨v, _, hv⟩ := List.mem_flatMap.1 (toS_mem hm).1
  exact one_nn hf m hv
 have e40 : ieq (cutS g j s (p : Int)).Step 40 = false := h40
 have eP : (cutS g j s (p : Int)).P = (p : Int) := rfl
 rw [doS, hc, cut_right hr hp, e40, eP, hdo]
 simp only [cond_true, cond_false]
 rcases stepA_cases (g := g) (j := j) (s := s) (vertsS g j (p : Int)) [] [] [] with ⟨h1, h2⟩ | ⟨u, h1, h2, h3⟩
 · simp only [List.nil_append] at h2
   rw [h2, doB]
   dsimp only
   have hall : ∀ q : Nat, (boxS j.Prog (toS j (cP g j s (p : Int)) (q : Int)) = ([], 8) ∧ (stepS g j s).2 = 8) ∨ ieq (boxS j.Prog (toS j (cP g j s (p : Int)) (q : Int))).2 0 = true := fun q => by
    rcases boxS_acc hb (hn (q : Int)) with ⟨q1, t, q2⟩ | ⟨w, q1, _⟩
    · left
      refine ⟨q1, ?_⟩
      by_cases hv : ∀ v : Nat, (v : Int) < g.N → ieq (oneS g j s v).2.2.2 0 = true
      · rcases step_all hr h40 hf hv with ⟨a, _⟩ | ⟨w, _, _, a, _⟩
        · exact a
        · exact absurd (bad_sub hb q2) (a t)
      · have : ∃ v : Nat, (v : Int) < g.N ∧ ieq (oneS g j s v).2.2.2 0 = false := by
         apply Classical.byContradiction
         intro hno
         apply hv
         intro v hvN
         cases hq : ieq (oneS g j s v).2.2.2 0
         · exact absurd ⟨v, hvN, hq⟩ hno
         · rfl
        obtain ⟨v, a1, a2⟩ := this
        exact step_vertex hr h40 a1 a2
    · right; rw [q1]; rfl
   have hc' : ((vertsS g j (p : Int)).flatMap fun v => (oneS g j s v).2.1) = cP g j s (p : Int) := rfl
   rw [hc']
   have htell : ∀ (l : List Nat) (d : List (List GMsg)), (tellS j (cP g j s (p : Int)) l d = .inl 8 ∧ (stepS g j s).2 = 8) ∨
    ((∀ q ∈ l, ieq (boxS j.Prog (toS j (cP g j s (p : Int)) (q : Int))).2 0 = true) ∧ tellS j (cP g j s (p : Int)) l d = .inr (d ++ l.map fun (q : Nat) => (boxS j.Prog (toS j (cP g j s (p : Int)) (q : Int))).1)) := by
    intro l
    induction l with
    | nil => intro d; exact .inr ⟨fun q hq => absurd hq List.not_mem_nil, by simp [tellS]⟩
    | cons q l ih =>
     intro d
     rw [tellS]
     rcases hall q with ⟨a1, a2⟩ | a1
     · left; rw [a1]; exact ⟨rfl, a2⟩
     · rw [a1, cond_true]
       rcases ih (d ++ [(boxS j.Prog (toS j (cP g j s (p : Int)) (q : Int))).1]) with b | ⟨b1, b2⟩
       · exact .inl b
       · refine .inr ⟨fun y hy => ?_, by rw [b2]; simp⟩
         rcases List.mem_cons.1 hy with rfl | hy
         · exact a1
         · exact b1 y hy
   rcases htell (List.range j.Parts.toNat) [] with ⟨a1, a2⟩ | ⟨a1, a2⟩
   · left; rw [a1]; exact ⟨rfl, a2⟩
   · right
     rw [a2, List.nil_append]
     exact ⟨h1, fun q hq => a1 q (List.mem_range.2 hq), rfl⟩
 · left
   have hu := hmem u h1
   have h8 := step_vertex hr h40 hu h2
   have e8 : (oneS g j s u).2.2.2 = 8 := by
    rcases one_err hr hu with q | q
    · rw [q] at h2; cases h2
    · exact q
   rw [h3, e8]
   exact ⟨rfl, h8⟩
theorem parts_perm : ∀ P < 7, 0 < P → ∀ n < 25, ((List.range P).flatMap fun p => (List.range n).filter fun v => v % P == p).isPerm (List.range n) = true := by decide +kernel
theorem verts_all {g : GGraph} {j : GJob} (h1 : 1 ≤ j.Parts) (h6 : j.Parts ≤ 6) (hn : g.N ≤ 24) : ((List.range j.Parts.toNat).flatMap fun (p : Nat) => vertsS g j (p : Int)).Perm (List.range g.N.toNat) := by
 have h := List.isPerm_iff.1 (parts_perm j.Parts.toNat (by omega) (by omega) g.N.toNat (by omega))
 have e : (fun (p : Nat) => vertsS g j (p : Int)) = fun p => (List.range g.N.toNat).filter fun v => v % j.Parts.toNat == p := by
  funext p
  rw [vertsS, vertsN]
  refine List.filter_congr fun v _ => ?_
  rw [Bool.eq_iff_iff, ieq_iff, beq_iff_eq]; omega
 rw [e]; exact h
theorem flat_toS {g : GGraph} {j : GJob} (s : GState) (h1 : 1 ≤ j.Parts) (h6 : j.Parts ≤ 6) (hn : g.N ≤ 24) (q : Int) : ((List.range j.Parts.toNat).flatMap fun (p : Nat) => toS j (cP g j s (p : Int)) q).Perm (toS j (cW g j s) q) := by
 have h := ((verts_all (g := g) h1 h6 hn).flatMap_right (sent g j s)).filter fun m => ieq (homeS j m.To) q
 rw [List.flatMap_assoc, List.filter_flatMap] at h
 exact h
theorem acc_nn {p t : Int} : ∀ {l : List GMsg} {v : Int}, (∀ m ∈ l, nneg p m) → acc p t l = some (some v) → p = 5 → 0 ≤ v
 | [], v, _, h, _ => nomatch h
 | m :: l, v, hl, h, h5 => by
  have hm := hl m List.mem_cons_self h5
  have ih := fun v => acc_nn (p := p) (t := t) (l := l) (v := v) fun x hx => hl x (List.mem_cons_of_mem _ hx)
  have h' : accM p (accOne t m) (acc p t l) = some (some v) := h
  rw [accOne] at h'
  split at h'
  · cases hq : acc p t l with
    | none =>
     rw [hq] at h'
     have : m.V = v := by simpa [accM] using h'
     omega
    | some y =>
     rw [hq] at h'
     cases y with
     | none => cases h'
     | some b =>
      have h2 : opS p m.V b = some v := by simpa [accM] using h'
      rw [opS, if_pos h5] at h2
      split at h2
      · rename_i h3
        have : m.V + b = v := by simpa using h2
        omega
      · cases h2
  · exact ih v h' h5
def insS (g : GGraph) (j : GJob) (s : GState) (q : Int) : List (List GMsg) := (List.range j.Parts.toNat).map fun (p : Nat) => (boxS j.Prog (toS j (cP g j s (p : Int)) q)).1
theorem cP_nn {g : GGraph} {j : GJob} {s : GState} (hf : fitsS j s) {p q : Int} : ∀ m ∈ toS j (cP g j s p) q, nneg j.Prog m := fun m hm => by
 obtain ⟨v, _, hv⟩ := List.mem_flatMap.1 (toS_mem hm).1
 exact one_nn hf m hv
theorem box_nn {p : Int} (hb : pbad p = false) {l : List GMsg} (hn : ∀ m ∈ l, nneg p m) : ∀ m ∈ (boxS p l).1, nneg p m := fun m hm h5 => by
 rcases boxS_acc hb hn with ⟨q1, _⟩ | ⟨w, q1, _, _, q4⟩
 · rw [q1] at hm; exact absurd hm List.not_mem_nil
 · rw [q1] at hm
   exact acc_nn hn ((q4 m).1 hm) h5
theorem acc_boxes {g : GGraph} {j : GJob} {s : GState} (hb : pbad j.Prog = false) (hf : fitsS j s) {q : Int} (t : Int) : ∀ (ps : List Nat), (∀ p ∈ ps, ieq (boxS j.Prog (toS j (cP g j s (p : Int)) q)).2 0 = true) →
 acc j.Prog t (ps.map fun (p : Nat) => (boxS j.Prog (toS j (cP g j s (p : Int)) q)).1).flatten = acc j.Prog t (ps.flatMap fun (p : Nat) => toS j (cP g j s (p : Int)) q)
 | [], _ => rfl
 | p :: ps, h => by
  rw [List.map_cons, List.flatten_cons, List.flatMap_cons, acc_app _ _ hb, acc_app _ _ hb, acc_boxes hb hf t ps fun x hx => h x (List.mem_cons_of_mem _ hx)]
  congr 1
  have hp := h p List.mem_cons_self
  rcases boxS_acc hb (cP_nn (g := g) hf (p := (p : Int)) (q := q)) with ⟨q1, _⟩ | ⟨w, q1, q2, q3, q4⟩
  · rw [q1] at hp; cases hp
  · rw [q1]; exact acc_box q2 q3 q4 t
theorem sent_To {g : GGraph} {j : GJob} {s : GState} {v : Nat} : ∀ m ∈ sent g j s v, 0 ≤ m.To ∧ m.To < g.N := fun m hm => by
 rw [sent, oneS] at hm
 cases hz : s.Rest.getD v false && !(atS s.In (v : Int)).2
 · rw [hz] at hm; exact turn_To m hm
 · rw [hz] at hm; exact absurd hm List.not_mem_nil
def didP (g : GGraph) (j : GJob) (s : GState) (q : Int) (w : List GMsg) : GPart := GPart.mk q (s.Step + 1) ((vertsS g j q).map fun v => (oneS g j s v).1) ((vertsS g j q).map fun v => (oneS g j s v).2.2.1) w
theorem take_part {g : GGraph} {j : GJob} {s : GState} (hr : stRight g j s = true) (h40 : ieq s.Step 40 = false) (hf : fitsS j s) {q : Nat} (hq : (q : Int) < j.Parts)
 (hB : ∀ p < j.Parts.toNat, ieq (boxS j.Prog (toS j (cP g j s (p : Int)) (q : Int))).2 0 = true) :
 (takeS g j (didP g j s (q : Int) []) (insS g j s (q : Int)).flatten = (zeroP, 8) ∧ ∃ t, acc j.Prog t (toS j (cW g j s) (q : Int)) = some none) ∨
 ∃ w, takeS g j (didP g j s (q : Int) []) (insS g j s (q : Int)).flatten = (didP g j s (q : Int) w, 0) ∧ w.Pairwise (fun a b => a.To < b.To) ∧ (∀ t, acc j.Prog t (toS j (cW g j s) (q : Int)) ≠ some none) ∧
  ∀ m, m ∈ w ↔ acc j.Prog m.To (toS j (cW g j s) (q : Int)) = some (some m.V) := by
 obtain ⟨hc, s1, s2, _⟩ := stRight_ok hr
 obtain ⟨hg, p1, p2, _, _, _, _, p7, p8⟩ := jcheck_ok hc
 obtain ⟨g1, g2, _⟩ := gcheck_ok hg
 have hb : pbad j.Prog = false := by rw [pbad, ilt_f.2 p1, ilt_f.2 p2]; rfl
 have hs := ieq_f.1 h40
 have hR : partRight g j (didP g j s (q : Int) []) = true := by
  rw [didP, partRight]
  simp only [hc, ile_iff.2 (show (0 : Int) ≤ (q : Int) by omega), ilt_iff.2 hq, ile_iff.2 (show 0 ≤ s.Step + 1 by omega), ile_iff.2 (show s.Step + 1 ≤ 40 by omega), inOkS, Bool.true_and, Bool.and_true, List.length_map]
  rw [countS, ieq_refl]; rfl
 have hI : ieq (nlen (len (didP g j s (q : Int) []).In)) 0 = true := rfl
 have hmem : ∀ m ∈ (insS g j s (q : Int)).flatten, nneg j.Prog m ∧ 0 ≤ m.To ∧ m.To < g.N ∧ m.To % j.Parts = (q : Int) := fun m hm => by
  obtain ⟨l, hl, hm⟩ := List.mem_flatten.1 hm
  obtain ⟨p, _, rfl⟩ := List.mem_map.1 hl
  obtain ⟨u, hu, e⟩ := (boxS_rise (p := j.Prog) (l := toS j (cP g j s (p : Int)) (q : Int))).2 m hm
  obtain ⟨u1, u2⟩ := toS_mem hu
  obtain ⟨v, _, hv⟩ := List.mem_flatMap.1 u1
  have ht := sent_To u hv
  have := (home_in p7 p8 ht.1).1
  exact ⟨box_nn hb (cP_nn hf) m hm, by omega, by omega, by rw [← e]; omega⟩
 have hO : takeOk g.N j.Parts (didP g j s (q : Int) []).P (insS g j s (q : Int)).flatten = true := by
  rw [takeOk, List.all_eq_true]
  intro m hm
  obtain ⟨_, a1, a2, a3⟩ := hmem m hm
  rw [ile_iff.2 a1, ilt_iff.2 a2, ieq_iff.2 (show m.To % j.Parts = (didP g j s (q : Int) []).P from a3)]; rfl
 have hacc : ∀ t, acc j.Prog t (insS g j s (q : Int)).flatten = acc j.Prog t (toS j (cW g j s) (q : Int)) := fun t => by
  rw [insS, acc_boxes hb hf t _ fun p hp => hB p (List.mem_range.1 hp)]
  exact acc_perm _ t hb (flat_toS s p7 p8 g2 _)
 rw [takeS, hc, hR, hI, hO, takeB]
 simp only [cond_true]
 rcases boxS_acc hb (fun m hm => (hmem m hm).1) with ⟨q1, t, q2⟩ | ⟨w, q1, q2, q3, q4⟩
 · left; rw [q1]; exact ⟨rfl, t, by rw [← hacc]; exact q2⟩
 · right
   rw [q1]
   exact ⟨w, rfl, q2, fun t => by rw [← hacc]; exact q3 t, fun m => by rw [← hacc]; exact q4 m⟩
theorem all_good {g : GGraph} {j : GJob} {s : GState} (hr : stRight g j s = true) (h40 : ieq s.Step 40 = false) (hf : fitsS j s)
 (hv : ∀ p < j.Parts.toNat, ∀ v ∈ vertsS g j (p : Int), ieq (oneS g j s v).2.2.2 0 = true)
 (hT : ∀ q < j.Parts.toNat, ∃ w, takeS g j (didP g j s (q : Int) []) (insS g j s (q : Int)).flatten = (didP g j s (q : Int) w, 0) ∧ w.Pairwise (fun a b => a.To < b.To) ∧ (∀ t, acc j.Prog t (toS j (cW g j s) (q : Int)) ≠ some none) ∧
  ∀ m, m ∈ w ↔ acc j.Prog m.To (toS j (cW g j s) (q : Int)) = some (some m.V)) :
 (stepS g j s).2 = 0 ∧ ∀ q < j.Parts.toNat, takeS g j (didP g j s (q : Int) []) (insS g j s (q : Int)).flatten = (cutS g j (stepS g j s).1 (q : Int), 0) := by
 obtain ⟨hc, s1, s2, _⟩ := stRight_ok hr
 obtain ⟨hg, p1, p2, _, _, _, _, p7, p8⟩ := jcheck_ok hc
 obtain ⟨g1, g2, _⟩ := gcheck_ok hg
 have hall : ∀ v : Nat, (v : Int) < g.N → ieq (oneS g j s v).2.2.2 0 = true := fun v hvN => by
  have hm0 : 0 ≤ (v : Int) % j.Parts := Int.emod_nonneg _ (by omega)
  have hm1 : (v : Int) % j.Parts < j.Parts := Int.emod_lt_of_pos _ (by omega)
  have := hv ((v : Int) % j.Parts).toNat (by omega) v
  rw [show (((v : Int) % j.Parts).toNat : Int) = (v : Int) % j.Parts by omega] at this
  exact this ((mem_verts p7).2 ⟨hvN, rfl⟩)
 have hcW : ∀ m ∈ cW g j s, 0 ≤ m.To ∧ m.To < g.N := fun m hm => by
  obtain ⟨v, _, hv⟩ := List.mem_flatMap.1 hm
  exact sent_To m hv
 have htoS : ∀ t (q : Nat), homeS j t = (q : Int) → acc j.Prog t (toS j (cW g j s) (q : Int)) = acc j.Prog t (cW g j s) := fun t q hq =>
  acc_filter _ t _ (fun m hm => ieq_iff.2 (by rw [hm]; exact hq)) _
 have hno : ∀ t, acc j.Prog t (cW g j s) ≠ some none := fun t ht => by
  obtain ⟨m, hm, rfl⟩ := acc_some j.Prog t (l := cW g j s) (by rw [ht]; simp)
  obtain ⟨h0, h1, h2⟩ := home_in p7 p8 (hcW m hm).1
  have hlt : homeS j m.To < j.Parts := by rw [h0]; exact Int.emod_lt_of_pos _ (by omega)
  obtain ⟨w, _, _, a, _⟩ := hT (homeS j m.To).toNat (by omega)
  refine a m.To ?_
  rw [htoS m.To (homeS j m.To).toNat (by omega)]; exact ht
 rcases step_all hr h40 hf hall with ⟨_, t, ht⟩ | ⟨w, hstep, hw1, _, hw2⟩
 · exact absurd ht (hno t)
 · refine ⟨by rw [hstep], fun q hq => ?_⟩
   obtain ⟨wq, hq1, hq2, _, hq4⟩ := hT q hq
   rw [hq1, hstep]
   congr 1
   have hmap : ∀ {α : Type} (f : Nat → α) (d : α), ((vertsS g j (q : Int)).map fun v => ((List.range g.N.toNat).map f).getD v d) = (vertsS g j (q : Int)).map f := fun f d => by
    refine List.map_congr_left fun v hv => ?_
    have := ((mem_verts p7).1 hv).1
    rw [getD_map f (List.range g.N.toNat) d (show v < (List.range g.N.toNat).length by rw [List.length_range]; omega), List.getElem_range]
   have hIn : wq = w.filter fun m => ieq (m.To % j.Parts) (q : Int) := by
    refine sorted_ext (lt := fun a b : GMsg => a.To < b.To) (fun a b h => by omega) hq2 (hw1.filter _) fun m => ?_
    rw [hq4, List.mem_filter, hw2]
    by_cases hh : homeS j m.To = (q : Int)
    · rw [htoS _ _ hh]
      constructor
      · intro h
        refine ⟨h, ieq_iff.2 ?_⟩
        obtain ⟨u, hu, e⟩ := acc_some j.Prog m.To (l := cW g j s) (by rw [h]; simp)
        have := (home_in p7 p8 (v := m.To) (by rw [← e]; exact (hcW u hu).1)).1
        omega
      · exact fun h => h.1
    · constructor
      · intro h
        obtain ⟨u, hu, e⟩ := acc_some j.Prog m.To (l := toS j (cW g j s) (q : Int)) (by rw [h]; simp)
        exact absurd (by rw [← e]; exact (toS_mem hu).2) hh
      · rintro ⟨h1, h2⟩
        obtain ⟨u, hu, e⟩ := acc_some j.Prog m.To (l := cW g j s) (by rw [h1]; simp)
        have := (home_in p7 p8 (v := m.To) (by rw [← e]; exact (hcW u hu).1)).1
        have := ieq_iff.1 h2
        exact absurd (by omega) hh
   rw [didP, cutS, hmap, hmap, hIn]
def wideS8 (s : GState) : Bool := ilt 100 (nlen (len s.Vals)) || (ilt 100 (nlen (len s.Rest)) || ilt 300 (nlen (len s.In)))
theorem F125_spec (K : Nat) (s : GState) : F125 K s = some (wideS8 s) := by
 have : igt (nlen (len s.In)) 300 = ilt 300 (nlen (len s.In)) := rfl
 rw [F125, this, wideS8]
 cases ilt 100 (nlen (len s.Vals)) <;> cases ilt 100 (nlen (len s.Rest)) <;> rfl
theorem wideS8_f {s : GState} (h : wideS8 s = false) : s.Vals.length ≤ 100 ∧ s.Rest.length ≤ 100 ∧ s.In.length ≤ 300 := by
 simp only [wideS8, Bool.or_eq_false_iff, ilt_f, nlen, len] at h
 omega
noncomputable def hn40 : Hint := { H 40 with nt := 187, prot := 0 }
noncomputable def c40_0 : Code := loopOf E 40 0
noncomputable def c40_1 : Code := loopOf E 40 1
noncomputable def c40_2 : Code := loopOf E 40 2
def F40_res (r1 : Bool) : Res := ⟨[(.one (.im (.lit (.bool r1))))], []⟩
def F40_l1_1 (K : Nat) (a0 : GGraph) (a1 : GJob) (r2 : GState × Int) (r3 : List GPart × Int) (v4 : List GPart) (v5 : Int) (r6 : GPart × List (List GMsg) × Int) : Nat → Int → List (List GMsg) → List (List GMsg) → List (List GMsg) → List (List GMsg) → List (List GMsg) → List (List GMsg) → Option (List (List GMsg) × List (List GMsg) × List (List GMsg) × List (List GMsg) × List (List GMsg) × List (List GMsg))
 | 0, _, _, _, _, _, _, _ => none
 | k + 1, v7, v8, v9, v10, v11, v12, v13 =>
  bif (ilt v7 a1.Parts) then
   (bif (inr v7 (nint a1.Parts)) then
   bif (ieq v7 0) then
    (bif (lle 1 (nint a1.Parts)) then
    bif (inr v7 (len r6.2.1)) then
    (elAt r6.2.1 v7).bind fun x14 =>
    bif (apok (len v8) 1 24) then
    F40_l1_1 K a0 a1 r2 r3 v4 v5 r6 k (wadd .i64 v7 1) (appL v8 [x14]) v9 v10 v11 v12 v13
    else none
    else none
    else none)
   else
   bif (ieq v7 1) then
    (bif (lle 2 (nint a1.Parts)) then
    bif (inr v7 (len r6.2.1)) then
    (elAt r6.2.1 v7).bind fun x15 =>
    bif (apok (len v9) 1 24) then
    F40_l1_1 K a0 a1 r2 r3 v4 v5 r6 k (wadd .i64 v7 1) v8 (appL v9 [x15]) v10 v11 v12 v13
    else none
    else none
    else none)
   else
   bif (ieq v7 2) then
    (bif (lle 3 (nint a1.Parts)) then
    bif (inr v7 (len r6.2.1)) then
    (elAt r6.2.1 v7).bind fun x16 =>
    bif (apok (len v10) 1 24) then
    F40_l1_1 K a0 a1 r2 r3 v4 v5 r6 k (wadd .i64 v7 1) v8 v9 (appL v10 [x16]) v11 v12 v13
    else none
    else none
    else none)
   else
   bif (ieq v7 3) then
    (bif (lle 4 (nint a1.Parts)) then
    bif (inr v7 (len r6.2.1)) then
    (elAt r6.2.1 v7).bind fun x17 =>
    bif (apok (len v11) 1 24) then
    F40_l1_1 K a0 a1 r2 r3 v4 v5 r6 k (wadd .i64 v7 1) v8 v9 v10 (appL v11 [x17]) v12 v13
    else none
    else none
    else none)
   else
   bif (ieq v7 4) then
    (bif (lle 5 (nint a1.Parts)) then
    bif (inr v7 (len r6.2.1)) then
    (elAt r6.2.1 v7).bind fun x18 =>
    bif (apok (len v12) 1 24) then
    F40_l1_1 K a0 a1 r2 r3 v4 v5 r6 k (wadd .i64 v7 1) v8 v9 v10 v11 (appL v12 [x18]) v13
    else none
    else none
    else none)
   else
   bif (ieq v7 5) then
   bif (lle 6 (nint a1.Parts)) then
   bif (inr v7 (len r6.2.1)) then
   (elAt r6.2.1 v7).bind fun x19 =>
   bif (apok (len v13) 1 24) then
   F40_l1_1 K a0 a1 r2 r3 v4 v5 r6 k (wadd .i64 v7 1) v8 v9 v10 v11 v12 (appL v13 [x19])
   else none
   else none
   else none
   else none
   else none)
  else
  some (v8, (v9, (v10, (v11, (v12, v13)))))
def F40_l1_1_S (a0 : GGraph) (a1 : GJob) (r2 : GState × Int) (r3 : List GPart × Int) (v4 : List GPart) (v5 : Int) (r6 : GPart × List (List GMsg) × Int) (v7 : Int) (v8 : List (List GMsg)) (v9 : List (List GMsg)) (v10 : List (List GMsg)) (v11 : List (List GMsg)) (v12 : List (List GMsg)) (v13 : List (List GMsg)) : TS := .on [192, 193, 194, 256, 257, 258, 259, 260, 448, 449, 450, 451, 452, 512, 513, 576, 577, 704, 705, 768, 832, 833, 960, 961, 1088, 1089, 4736, 4737, 4738, 4739, 4740, 4741, 4742] [(192, ⟨(.box 62 2), 0, nob⟩), (193, ⟨.im, 0, (.lit (.int .i64 a0.N))⟩), (194, ⟨.im, 0, (.sl (len a0.Edges) (flat eGEdge a0.Edges))⟩), (256, ⟨(.box 64 4), 0, nob⟩), (257, ⟨.im, 0, (.lit (.int .i64 a1.Prog))⟩), (258, ⟨.im, 0, (.lit (.int .i64 a1.Source))⟩), (259, ⟨.im, 0, (.lit (.int .i64 a1.Limit))⟩), (260, ⟨.im, 0, (.lit (.int .i64 a1.Parts))⟩), (448, ⟨(.box 74 4), 0, nob⟩), (449, ⟨.im, 0, (.lit (.int .i64 r2.1.Step))⟩), (450, ⟨(.own 2), 0, (.sl (len r2.1.Vals) (flat (eInt .i64) r2.1.Vals))⟩), (451, ⟨(.own 4), 0, (.sl (len r2.1.Rest) (flat eBool r2.1.Rest))⟩), (452, ⟨(.own 130), 0, (.sl (len r2.1.In) (flat eGMsg r2.1.In))⟩), (512, ⟨.one, 0, nob⟩), (513, ⟨.im, 0, (.lit (.int .i64 r2.2))⟩), (576, ⟨.one, 0, nob⟩), (577, ⟨(.own 42), 0, (.sl (len r3.1) (flat eGPart r3.1))⟩), (704, ⟨.one, 0, nob⟩), (705, ⟨(.own 42), 0, (.sl (len (α := GPart) (appL v4 [r6.1])) (flat eGPart (appL v4 [r6.1])))⟩), (768, ⟨(.sb 74 0), 0, (.sl (nint a1.Parts) [])⟩), (832, ⟨.one, 0, nob⟩), (833, ⟨.im, 0, (.lit (.int .i64 v5))⟩), (960, ⟨.one, 0, nob⟩), (961, ⟨(.own 40), 0, (.sl (len r6.2.1) (flat (eSl eGMsg) r6.2.1))⟩), (1088, ⟨.one, 0, nob⟩), (1089, ⟨.im, 0, (.lit (.int .i64 v7))⟩), (4736, ⟨(.box 107 6), 0, (.sl (nint a1.Parts) [])⟩), (4737, ⟨(.own 40), 0, (.sl (len v8) (flat (eSl eGMsg) v8))⟩), (4738, ⟨(.own 40), 0, (.sl (len v9) (flat (eSl eGMsg) v9))⟩), (4739, ⟨(.own 40), 0, (.sl (len v10) (flat (eSl eGMsg) v10))⟩), (4740, ⟨(.own 40), 0, (.sl (len v11) (flat (eSl eGMsg) v11))⟩), (4741, ⟨(.own 40), 0, (.sl (len v12) (flat (eSl eGMsg) v12))⟩), (4742, ⟨(.own 40), 0, (.sl (len v13) (flat (eSl eGMsg) v13))⟩)]
def F40_l1_1_X0 (a0 : GGraph) (a1 : GJob) (r2 : GState × Int) (r3 : List GPart × Int) (v4 : List GPart) (v5 : Int) (r6 : GPart × List (List GMsg) × Int) (w7 : List (List GMsg) × List (List GMsg) × List (List GMsg) × List (List GMsg) × List (List GMsg) × List (List GMsg)) : TS := .on [192, 193, 194, 256, 257, 258, 259, 260, 448, 449, 450, 451, 452, 512, 513, 576, 577, 704, 705, 768, 832, 833, 4736, 4737, 4738, 4739, 4740, 4741, 4742] [(192, ⟨(.box 62 2), 0, nob⟩), (193, ⟨.im, 0, (.lit (.int .i64 a0.N))⟩), (194, ⟨.im, 0, (.sl (len a0.Edges) (flat eGEdge a0.Edges))⟩), (256, ⟨(.box 64 4), 0, nob⟩), (257, ⟨.im, 0, (.lit (.int .i64 a1.Prog))⟩), (258, ⟨.im, 0, (.lit (.int .i64 a1.Source))⟩), (259, ⟨.im, 0, (.lit (.int .i64 a1.Limit))⟩), (260, ⟨.im, 0, (.lit (.int .i64 a1.Parts))⟩), (448, ⟨(.box 74 4), 0, nob⟩), (449, ⟨.im, 0, (.lit (.int .i64 r2.1.Step))⟩), (450, ⟨(.own 2), 0, (.sl (len r2.1.Vals) (flat (eInt .i64) r2.1.Vals))⟩), (451, ⟨(.own 4), 0, (.sl (len r2.1.Rest) (flat eBool r2.1.Rest))⟩), (452, ⟨(.own 130), 0, (.sl (len r2.1.In) (flat eGMsg r2.1.In))⟩), (512, ⟨.one, 0, nob⟩), (513, ⟨.im, 0, (.lit (.int .i64 r2.2))⟩), (576, ⟨.one, 0, nob⟩), (577, ⟨(.own 42), 0, (.sl (len r3.1) (flat eGPart r3.1))⟩), (704, ⟨.one, 0, nob⟩), (705, ⟨(.own 42), 0, (.sl (len (α := GPart) (appL v4 [r6.1])) (flat eGPart (appL v4 [r6.1])))⟩), (768, ⟨(.sb 74 0), 0, (.sl (nint a1.Parts) [])⟩), (832, ⟨.one, 0, nob⟩), (833, ⟨.im, 0, (.lit (.int .i64 v5))⟩), (4736, ⟨(.box 107 6), 0, (.sl (nint a1.Parts) [])⟩), (4737, ⟨(.own 40), 0, (.sl (len w7.1) (flat (eSl eGMsg) w7.1))⟩), (4738, ⟨(.own 40), 0, (.sl (len w7.2.1) (flat (eSl eGMsg) w7.2.1))⟩), (4739, ⟨(.own 40), 0, (.sl (len w7.2.2.1) (flat (eSl eGMsg) w7.2.2.1))⟩), (4740, ⟨(.own 40), 0, (.sl (len w7.2.2.2.1) (flat (eSl eGMsg) w7.2.2.2.1))⟩), (4741, ⟨(.own 40), 0, (.sl (len w7.2.2.2.2.1) (flat (eSl eGMsg) w7.2.2.2.2.1))⟩), (4742, ⟨(.own 40), 0, (.sl (len w7.2.2.2.2.2) (flat (eSl eGMsg) w7.2.2.2.2.2))⟩)]
theorem F40_l1_1_ok (K : Nat) (a0 : GGraph) (a1 : GJob) (r2 : GState × Int) (r3 : List GPart × Int) (v4 : List GPart) (v5 : Int) (r6 : GPart × List (List GMsg) × Int) : ∀ (k : Nat) (v7 : Int) (v8 : List (List GMsg)) (v9 : List (List GMsg)) (v10 : List (List GMsg)) (v11 : List (List GMsg)) (v12 : List (List GMsg)) (v13 : List (List GMsg)) (r : List (List GMsg) × List (List GMsg) × List (List GMsg) × List (List GMsg) × List (List GMsg) × List (List GMsg)), F40_l1_1 K a0 a1 r2 r3 v4 v5 r6 k v7 v8 v9 v10 v11 v12 v13 = some r → LoopEv E H hn40 2 c40_1 (F40_l1_1_S a0 a1 r2 r3 v4 v5 r6 v7 v8 v9 v10 v11 v12 v13) (.exit 2) (F40_l1_1_X0 a0 a1 r2 r3 v4 v5 r6 r) := by
 intro k
 induction k with
 | zero => intro v7 v8 v9 v10 v11 v12 v13 r hF; cases hF
 | succ k ih =>
  intro v7 v8 v9 v10 v11 v12 v13 r hF
  rw [F40_l1_1] at hF
  refine cond_some hF (fun h14 hF => ?_) (fun h14 hF => ?_)
  ·
   refine cond_some hF (fun h15 hF => ?_) (fun _ hF => nomatch hF)
   refine cond_some hF (fun h16 hF => ?_) (fun h16 hF => ?_)
   ·
    refine cond_some hF (fun h17 hF => ?_) (fun _ hF => nomatch hF)
    refine cond_some hF (fun h18 hF => ?_) (fun _ hF => nomatch hF)
    refine bind_some hF (fun x19 h20 hF => ?_)
    refine cond_some hF (fun h21 hF => ?_) (fun _ hF => nomatch hF)
    have pz : HA hn40 [(tt (ilt v7 a1.Parts)), (tt (inr v7 (nint a1.Parts))), (tt (ieq v7 0)), (tt (lle 1 (nint a1.Parts))), (tt (inr v7 (len r6.2.1))), .sub (flat (eSl eGMsg) r6.2.1) (nidx v7 1) 1 [(.sl (len x19) (flat eGMsg x19))], (tt (leqm [(.sl (len x19) (flat eGMsg x19))] 1 1)), (tt (apok (len v8) 1 24)), .sl (nadd (len v8) 1) (lapp (flat (eSl eGMsg) v8) [(.sl (len x19) (flat eGMsg x19))]) (len (α := List GMsg) (appL v8 [x19])) (flat (eSl eGMsg) (appL v8 [x19])), (tt (inr v7 (nint a1.Parts))), (tt (ieq v7 0)), (tt (lle 1 (nint a1.Parts))), .int (wadd .i64 v7 1) (wadd .i64 v7 1)] := ⟨h14, h15, h16, h17, h18, ⟨rfl, sub_flat0 (eSl_len _) h20 1 (by decide)⟩, rfl, h21, (app_ok (enc := (eSl eGMsg)) (v8 : List (List GMsg)) [x19]), h15, h16, h17, rfl, trivial⟩
    have h0 := ih _ _ _ _ _ _ _ _ hF
    have hn := lN hn40 2 c40_1 (F40_l1_1_S a0 a1 r2 r3 v4 v5 r6 v7 v8 v9 v10 v11 v12 v13) (F40_l1_1_S a0 a1 r2 r3 v4 v5 r6 (wadd .i64 v7 1) (appL v8 [x19]) v9 v10 v11 v12 v13) pz
    exact hn _ _ h0
   have q52 : PQ hn40 fun l => ((tt (ilt v7 a1.Parts)) :: (tt (inr v7 (nint a1.Parts))) :: (ff (ieq v7 0)) :: l) := fun z => ⟨h14, h15, h16, z⟩
   refine cond_some hF (fun h22 hF => ?_) (fun h22 hF => ?_)
   ·
    refine cond_some hF (fun h23 hF => ?_) (fun _ hF => nomatch hF)
    refine cond_some hF (fun h24 hF => ?_) (fun _ hF => nomatch hF)
    refine bind_some hF (fun x25 h26 hF => ?_)
    refine cond_some hF (fun h27 hF => ?_) (fun _ hF => nomatch hF)
    have pz : HA hn40 [(tt (ieq v7 1)), (tt (lle 2 (nint a1.Parts))), (tt (inr v7 (len r6.2.1))), .sub (flat (eSl eGMsg) r6.2.1) (nidx v7 1) 1 [(.sl (len x25) (flat eGMsg x25))], (tt (leqm [(.sl (len x25) (flat eGMsg x25))] 1 1)), (tt (apok (len v9) 1 24)), .sl (nadd (len v9) 1) (lapp (flat (eSl eGMsg) v9) [(.sl (len x25) (flat eGMsg x25))]) (len (α := List GMsg) (appL v9 [x25])) (flat (eSl eGMsg) (appL v9 [x25])), (tt (inr v7 (nint a1.Parts))), (ff (ieq v7 0)), (tt (ieq v7 1)), (tt (lle 2 (nint a1.Parts))), .int (wadd .i64 v7 1) (wadd .i64 v7 1)] := ⟨h22, h23, h24, ⟨rfl, sub_flat0 (eSl_len _) h26 1 (by decide)⟩, rfl, h27, (app_ok (enc := (eSl eGMsg)) (v9 : List (List GMsg)) [x25]), h15, h16, h22, h23, rfl, trivial⟩
    have h0 := ih _ _ _ _ _ _ _ _ hF
    have hn := lN hn40 2 c40_1 (F40_l1_1_S a0 a1 r2 r3 v4 v5 r6 v7 v8 v9 v10 v11 v12 v13) (F40_l1_1_S a0 a1 r2 r3 v4 v5 r6 (wadd .i64 v7 1) v8 (appL v9 [x25]) v10 v11 v12 v13) (q52 pz)
    exact hn _ _ h0
   refine cond_some hF (fun h28 hF => ?_) (fun h28 hF => ?_)
   ·
    refine cond_some hF (fun h29 hF => ?_) (fun _ hF => nomatch hF)
    refine cond_some hF (fun h30 hF => ?_) (fun _ hF => nomatch hF)
    refine bind_some hF (fun x31 h32 hF => ?_)
    refine cond_some hF (fun h33 hF => ?_) (fun _ hF => nomatch hF)
    have pz : HA hn40 [(ff (ieq v7 1)), (tt (ieq v7 2)), (tt (lle 3 (nint a1.Parts))), (tt (inr v7 (len r6.2.1))), .sub (flat (eSl eGMsg) r6.2.1) (nidx v7 1) 1 [(.sl (len x31) (flat eGMsg x31))], (tt (leqm [(.sl (len x31) (flat eGMsg x31))] 1 1)), (tt (apok (len v10) 1 24)), .sl (nadd (len v10) 1) (lapp (flat (eSl eGMsg) v10) [(.sl (len x31) (flat eGMsg x31))]) (len (α := List GMsg) (appL v10 [x31])) (flat (eSl eGMsg) (appL v10 [x31])), (tt (inr v7 (nint a1.Parts))), (ff (ieq v7 0)), (ff (ieq v7 1)), (tt (ieq v7 2)), (tt (lle 3 (nint a1.Parts))), .int (wadd .i64 v7 1) (wadd .i64 v7 1)] := ⟨h22, h28, h29, h30, ⟨rfl, sub_flat0 (eSl_len _) h32 1 (by decide)⟩, rfl, h33, (app_ok (enc := (eSl eGMsg)) (v10 : List (List GMsg)) [x31]), h15, h16, h22, h28, h29, rfl, trivial⟩
    have h0 := ih _ _ _ _ _ _ _ _ hF
    have hn := lN hn40 2 c40_1 (F40_l1_1_S a0 a1 r2 r3 v4 v5 r6 v7 v8 v9 v10 v11 v12 v13) (F40_l1_1_S a0 a1 r2 r3 v4 v5 r6 (wadd .i64 v7 1) v8 v9 (appL v10 [x31]) v11 v12 v13) (q52 pz)
    exact hn _ _ h0
   refine cond_some hF (fun h34 hF => ?_) (fun h34 hF => ?_)
   ·
    refine cond_some hF (fun h35 hF => ?_) (fun _ hF => nomatch hF)
    refine cond_some hF (fun h36 hF => ?_) (fun _ hF => nomatch hF)
    refine bind_some hF (fun x37 h38 hF => ?_)
    refine cond_some hF (fun h39 hF => ?_) (fun _ hF => nomatch hF)
    have pz : HA hn40 [(ff (ieq v7 1)), (ff (ieq v7 2)), (tt (ieq v7 3)), (tt (lle 4 (nint a1.Parts))), (tt (inr v7 (len r6.2.1))), .sub (flat (eSl eGMsg) r6.2.1) (nidx v7 1) 1 [(.sl (len x37) (flat eGMsg x37))], (tt (leqm [(.sl (len x37) (flat eGMsg x37))] 1 1)), (tt (apok (len v11) 1 24)), .sl (nadd (len v11) 1) (lapp (flat (eSl eGMsg) v11) [(.sl (len x37) (flat eGMsg x37))]) (len (α := List GMsg) (appL v11 [x37])) (flat (eSl eGMsg) (appL v11 [x37])), (tt (inr v7 (nint a1.Parts))), (ff (ieq v7 0)), (ff (ieq v7 1)), (ff (ieq v7 2)), (tt (ieq v7 3)), (tt (lle 4 (nint a1.Parts))), .int (wadd .i64 v7 1) (wadd .i64 v7 1)] := ⟨h22, h28, h34, h35, h36, ⟨rfl, sub_flat0 (eSl_len _) h38 1 (by decide)⟩, rfl, h39, (app_ok (enc := (eSl eGMsg)) (v11 : List (List GMsg)) [x37]), h15, h16, h22, h28, h34, h35, rfl, trivial⟩
    have h0 := ih _ _ _ _ _ _ _ _ hF
    have hn := lN hn40 2 c40_1 (F40_l1_1_S a0 a1 r2 r3 v4 v5 r6 v7 v8 v9 v10 v11 v12 v13) (F40_l1_1_S a0 a1 r2 r3 v4 v5 r6 (wadd .i64 v7 1) v8 v9 v10 (appL v11 [x37]) v12 v13) (q52 pz)
    exact hn _ _ h0
   have q53 : PQ hn40 fun l => ((ff (ieq v7 1)) :: (ff (ieq v7 2)) :: (ff (ieq v7 3)) :: l) := fun z => ⟨h22, h28, h34, z⟩
   refine cond_some hF (fun h40 hF => ?_) (fun h40 hF => ?_)
   ·
    refine cond_some hF (fun h41 hF => ?_) (fun _ hF => nomatch hF)
    refine cond_some hF (fun h42 hF => ?_) (fun _ hF => nomatch hF)
    refine bind_some hF (fun x43 h44 hF => ?_)
    refine cond_some hF (fun h45 hF => ?_) (fun _ hF => nomatch hF)
    have pz : HA hn40 [(tt (ieq v7 4)), (tt (lle 5 (nint a1.Parts))), (tt (inr v7 (len r6.2.1))), .sub (flat (eSl eGMsg) r6.2.1) (nidx v7 1) 1 [(.sl (len x43) (flat eGMsg x43))], (tt (leqm [(.sl (len x43) (flat eGMsg x43))] 1 1)), (tt (apok (len v12) 1 24)), .sl (nadd (len v12) 1) (lapp (flat (eSl eGMsg) v12) [(.sl (len x43) (flat eGMsg x43))]) (len (α := List GMsg) (appL v12 [x43])) (flat (eSl eGMsg) (appL v12 [x43])), (tt (inr v7 (nint a1.Parts))), (ff (ieq v7 0)), (ff (ieq v7 1)), (ff (ieq v7 2)), (ff (ieq v7 3)), (tt (ieq v7 4)), (tt (lle 5 (nint a1.Parts))), .int (wadd .i64 v7 1) (wadd .i64 v7 1)] := ⟨h40, h41, h42, ⟨rfl, sub_flat0 (eSl_len _) h44 1 (by decide)⟩, rfl, h45, (app_ok (enc := (eSl eGMsg)) (v12 : List (List GMsg)) [x43]), h15, h16, h22, h28, h34, h40, h41, rfl, trivial⟩
    have h0 := ih _ _ _ _ _ _ _ _ hF
    have hn := lN hn40 2 c40_1 (F40_l1_1_S a0 a1 r2 r3 v4 v5 r6 v7 v8 v9 v10 v11 v12 v13) (F40_l1_1_S a0 a1 r2 r3 v4 v5 r6 (wadd .i64 v7 1) v8 v9 v10 v11 (appL v12 [x43]) v13) (q52 (q53 pz))
    exact hn _ _ h0
   refine cond_some hF (fun h46 hF => ?_) (fun _ hF => nomatch hF)
   refine cond_some hF (fun h47 hF => ?_) (fun _ hF => nomatch hF)
   refine cond_some hF (fun h48 hF => ?_) (fun _ hF => nomatch hF)
   refine bind_some hF (fun x49 h50 hF => ?_)
   refine cond_some hF (fun h51 hF => ?_) (fun _ hF => nomatch hF)
   have pz : HA hn40 [(ff (ieq v7 4)), (tt (ieq v7 5)), (tt (lle 6 (nint a1.Parts))), (tt (inr v7 (len r6.2.1))), .sub (flat (eSl eGMsg) r6.2.1) (nidx v7 1) 1 [(.sl (len x49) (flat eGMsg x49))], (tt (leqm [(.sl (len x49) (flat eGMsg x49))] 1 1)), (tt (apok (len v13) 1 24)), .sl (nadd (len v13) 1) (lapp (flat (eSl eGMsg) v13) [(.sl (len x49) (flat eGMsg x49))]) (len (α := List GMsg) (appL v13 [x49])) (flat (eSl eGMsg) (appL v13 [x49])), (tt (inr v7 (nint a1.Parts))), (ff (ieq v7 0)), (ff (ieq v7 1)), (ff (ieq v7 2)), (ff (ieq v7 3)), (ff (ieq v7 4)), (tt (ieq v7 5)), (tt (lle 6 (nint a1.Parts))), .int (wadd .i64 v7 1) (wadd .i64 v7 1)] := ⟨h40, h46, h47, h48, ⟨rfl, sub_flat0 (eSl_len _) h50 1 (by decide)⟩, rfl, h51, (app_ok (enc := (eSl eGMsg)) (v13 : List (List GMsg)) [x49]), h15, h16, h22, h28, h34, h40, h46, h47, rfl, trivial⟩
   have h0 := ih _ _ _ _ _ _ _ _ hF
   have hn := lN hn40 2 c40_1 (F40_l1_1_S a0 a1 r2 r3 v4 v5 r6 v7 v8 v9 v10 v11 v12 v13) (F40_l1_1_S a0 a1 r2 r3 v4 v5 r6 (wadd .i64 v7 1) v8 v9 v10 v11 v12 (appL v13 [x49])) (q52 (q53 pz))
   exact hn _ _ h0
  obtain rfl := sj hF
  have pz : HA hn40 [(ff (ilt v7 a1.Parts))] := ⟨h14, trivial⟩
  exact lE hn40 2 c40_1 (F40_l1_1_S a0 a1 r2 r3 v4 v5 r6 v7 v8 v9 v10 v11 v12 v13) (F40_l1_1_X0 a0 a1 r2 r3 v4 v5 r6 (v8, (v9, (v10, (v11, (v12, v13)))))) (.exit 2) pz
def F40_l0_0 (K : Nat) (a0 : GGraph) (a1 : GJob) (r2 : GState × Int) (r3 : List GPart × Int) : Nat → List GPart → Int → List (List GMsg) → List (List GMsg) → List (List GMsg) → List (List GMsg) → List (List GMsg) → List (List GMsg) → Option ((Bool) ⊕ (List GPart × List (List GMsg) × List (List GMsg) × List (List GMsg) × List (List GMsg) × List (List GMsg) × List (List GMsg)))
 | 0, _, _, _, _, _, _, _, _ => none
 | k + 1, v4, v5, v6, v7, v8, v9, v10, v11 =>
  bif (ilt v5 (nlen (len r3.1))) then
   (bif (inr v5 (len r3.1)) then
   (elAt r3.1 v5).bind fun x12 =>
   (F116 K a0 a1 x12).bind fun r13 =>
   bif (ieq r13.2.2 0) then
    (bif (ieq (nlen (len r13.2.1)) a1.Parts) then
     (bif (apok (len v4) 1 88) then
     (F40_l1_1 K a0 a1 r2 r3 v4 v5 r13 K 0 v6 v7 v8 v9 v10 v11).bind fun w14 =>
     F40_l0_0 K a0 a1 r2 r3 k (appL v4 [r13.1]) (wadd .i64 v5 1) w14.1 w14.2.1 w14.2.2.1 w14.2.2.2.1 w14.2.2.2.2.1 w14.2.2.2.2.2
     else none)
    else
    some (.inl false))
   else
   bif (ieq r13.2.2 8) then
    (bif (ieq r2.2 8) then
     (some (.inl true))
    else
    some (.inl false))
   else
   some (.inl false)
   else none)
  else
  some (.inr (v4, (v6, (v7, (v8, (v9, (v10, v11)))))))
def F40_l0_0_S (a0 : GGraph) (a1 : GJob) (r2 : GState × Int) (r3 : List GPart × Int) (v4 : List GPart) (v5 : Int) (v6 : List (List GMsg)) (v7 : List (List GMsg)) (v8 : List (List GMsg)) (v9 : List (List GMsg)) (v10 : List (List GMsg)) (v11 : List (List GMsg)) : TS := .on [192, 193, 194, 256, 257, 258, 259, 260, 448, 449, 450, 451, 452, 512, 513, 576, 577, 704, 705, 768, 832, 833, 4736, 4737, 4738, 4739, 4740, 4741, 4742] [(192, ⟨(.box 62 2), 0, nob⟩), (193, ⟨.im, 0, (.lit (.int .i64 a0.N))⟩), (194, ⟨.im, 0, (.sl (len a0.Edges) (flat eGEdge a0.Edges))⟩), (256, ⟨(.box 64 4), 0, nob⟩), (257, ⟨.im, 0, (.lit (.int .i64 a1.Prog))⟩), (258, ⟨.im, 0, (.lit (.int .i64 a1.Source))⟩), (259, ⟨.im, 0, (.lit (.int .i64 a1.Limit))⟩), (260, ⟨.im, 0, (.lit (.int .i64 a1.Parts))⟩), (448, ⟨(.box 74 4), 0, nob⟩), (449, ⟨.im, 0, (.lit (.int .i64 r2.1.Step))⟩), (450, ⟨(.own 2), 0, (.sl (len r2.1.Vals) (flat (eInt .i64) r2.1.Vals))⟩), (451, ⟨(.own 4), 0, (.sl (len r2.1.Rest) (flat eBool r2.1.Rest))⟩), (452, ⟨(.own 130), 0, (.sl (len r2.1.In) (flat eGMsg r2.1.In))⟩), (512, ⟨.one, 0, nob⟩), (513, ⟨.im, 0, (.lit (.int .i64 r2.2))⟩), (576, ⟨.one, 0, nob⟩), (577, ⟨(.own 42), 0, (.sl (len r3.1) (flat eGPart r3.1))⟩), (704, ⟨.one, 0, nob⟩), (705, ⟨(.own 42), 0, (.sl (len v4) (flat eGPart v4))⟩), (768, ⟨(.sb 74 0), 0, (.sl (nint a1.Parts) [])⟩), (832, ⟨.one, 0, nob⟩), (833, ⟨.im, 0, (.lit (.int .i64 v5))⟩), (4736, ⟨(.box 107 6), 0, (.sl (nint a1.Parts) [])⟩), (4737, ⟨(.own 40), 0, (.sl (len v6) (flat (eSl eGMsg) v6))⟩), (4738, ⟨(.own 40), 0, (.sl (len v7) (flat (eSl eGMsg) v7))⟩), (4739, ⟨(.own 40), 0, (.sl (len v8) (flat (eSl eGMsg) v8))⟩), (4740, ⟨(.own 40), 0, (.sl (len v9) (flat (eSl eGMsg) v9))⟩), (4741, ⟨(.own 40), 0, (.sl (len v10) (flat (eSl eGMsg) v10))⟩), (4742, ⟨(.own 40), 0, (.sl (len v11) (flat (eSl eGMsg) v11))⟩)]
def F40_l0_0_X0 (a0 : GGraph) (a1 : GJob) (r2 : GState × Int) (r3 : List GPart × Int) (w4 : Bool) : TS := .on [384, 385] [(384, ⟨.one, 0, nob⟩), (385, ⟨.im, 0, (.lit (.bool w4))⟩)]
def F40_l0_0_X1 (a0 : GGraph) (a1 : GJob) (r2 : GState × Int) (r3 : List GPart × Int) (w4 : List GPart × List (List GMsg) × List (List GMsg) × List (List GMsg) × List (List GMsg) × List (List GMsg) × List (List GMsg)) : TS := .on [192, 193, 194, 256, 257, 258, 259, 260, 448, 449, 450, 451, 452, 512, 513, 704, 705, 768, 4736, 4737, 4738, 4739, 4740, 4741, 4742] [(192, ⟨(.box 62 2), 0, nob⟩), (193, ⟨.im, 0, (.lit (.int .i64 a0.N))⟩), (194, ⟨.im, 0, (.sl (len a0.Edges) (flat eGEdge a0.Edges))⟩), (256, ⟨(.box 64 4), 0, nob⟩), (257, ⟨.im, 0, (.lit (.int .i64 a1.Prog))⟩), (258, ⟨.im, 0, (.lit (.int .i64 a1.Source))⟩), (259, ⟨.im, 0, (.lit (.int .i64 a1.Limit))⟩), (260, ⟨.im, 0, (.lit (.int .i64 a1.Parts))⟩), (448, ⟨(.box 74 4), 0, nob⟩), (449, ⟨.im, 0, (.lit (.int .i64 r2.1.Step))⟩), (450, ⟨(.own 2), 0, (.sl (len r2.1.Vals) (flat (eInt .i64) r2.1.Vals))⟩), (451, ⟨(.own 4), 0, (.sl (len r2.1.Rest) (flat eBool r2.1.Rest))⟩), (452, ⟨(.own 130), 0, (.sl (len r2.1.In) (flat eGMsg r2.1.In))⟩), (512, ⟨.one, 0, nob⟩), (513, ⟨.im, 0, (.lit (.int .i64 r2.2))⟩), (704, ⟨.one, 0, nob⟩), (705, ⟨(.own 42), 0, (.sl (len w4.1) (flat eGPart w4.1))⟩), (768, ⟨(.sb 74 0), 0, (.sl (nint a1.Parts) [])⟩), (4736, ⟨(.box 107 6), 0, (.sl (nint a1.Parts) [])⟩), (4737, ⟨(.own 40), 0, (.sl (len w4.2.1) (flat (eSl eGMsg) w4.2.1))⟩), (4738, ⟨(.own 40), 0, (.sl (len w4.2.2.1) (flat (eSl eGMsg) w4.2.2.1))⟩), (4739, ⟨(.own 40), 0, (.sl (len w4.2.2.2.1) (flat (eSl eGMsg) w4.2.2.2.1))⟩), (4740, ⟨(.own 40), 0, (.sl (len w4.2.2.2.2.1) (flat (eSl eGMsg) w4.2.2.2.2.1))⟩), (4741, ⟨(.own 40), 0, (.sl (len w4.2.2.2.2.2.1) (flat (eSl eGMsg) w4.2.2.2.2.2.1))⟩), (4742, ⟨(.own 40), 0, (.sl (len w4.2.2.2.2.2.2) (flat (eSl eGMsg) w4.2.2.2.2.2.2))⟩)]
theorem F40_l0_0_ok (K : Nat) (a0 : GGraph) (a1 : GJob) (r2 : GState × Int) (r3 : List GPart × Int) : ∀ (k : Nat) (v4 : List GPart) (v5 : Int) (v6 : List (List GMsg)) (v7 : List (List GMsg)) (v8 : List (List GMsg)) (v9 : List (List GMsg)) (v10 : List (List GMsg)) (v11 : List (List GMsg)) (r : (Bool) ⊕ (List GPart × List (List GMsg) × List (List GMsg) × List (List GMsg) × List (List GMsg) × List (List GMsg) × List (List GMsg))), F40_l0_0 K a0 a1 r2 r3 k v4 v5 v6 v7 v8 v9 v10 v11 = some r → (Sum.elim (fun w => LoopEv E H hn40 0 c40_0 (F40_l0_0_S a0 a1 r2 r3 v4 v5 v6 v7 v8 v9 v10 v11) .ret (F40_l0_0_X0 a0 a1 r2 r3 w)) (fun w => LoopEv E H hn40 0 c40_0 (F40_l0_0_S a0 a1 r2 r3 v4 v5 v6 v7 v8 v9 v10 v11) (.exit 0) (F40_l0_0_X1 a0 a1 r2 r3 w))) r := by
 intro k
 induction k with
 | zero => intro v4 v5 v6 v7 v8 v9 v10 v11 r hF; cases hF
 | succ k ih =>
  intro v4 v5 v6 v7 v8 v9 v10 v11 r hF
  rw [F40_l0_0] at hF
  refine cond_some hF (fun h12 hF => ?_) (fun h12 hF => ?_)
  ·
   refine cond_some hF (fun h13 hF => ?_) (fun _ hF => nomatch hF)
   refine bind_some hF (fun x14 h15 hF => ?_)
   refine bind_some hF (fun r16 h17 hF => ?_)
   have q25 : PQ hn40 fun l => (.int (nl r3.1) (nl r3.1) :: (tt (ilt v5 (nl r3.1))) :: (tt (inr v5 (len r3.1))) :: .sub (flat eGPart r3.1) (nidx v5 5) 5 [(i6 x14.P), (i6 x14.Step), (.sl (len x14.Vals) (flat (eInt .i64) x14.Vals)), (.sl (len x14.Rest) (flat eBool x14.Rest)), (.sl (len x14.In) (flat eGMsg x14.In))] :: .call 116 [.agg (eGGraph a0), .agg (eGJob a1), .agg (eGPart x14)] (F116_res r16) :: l) := fun z => ⟨rfl, h12, h13, ⟨rfl, sub_flat0 eGPart_len h15 5 (by decide)⟩, (F116_ok K a0 a1 x14 _ h17), z⟩
   refine cond_some hF (fun h18 hF => ?_) (fun h18 hF => ?_)
   ·
    refine cond_some hF (fun h19 hF => ?_) (fun h19 hF => ?_)
    ·
     refine cond_some hF (fun h20 hF => ?_) (fun _ hF => nomatch hF)
     refine bind_some hF (fun w22 h21 hF => ?_)
     have pz : HA hn40 [(ff (ine r16.2.2 0)), .int (nl r16.2.1) (nl r16.2.1), (ff (ine (nl r16.2.1) a1.Parts)), (tt (leqm [(i6 r16.1.P), (i6 r16.1.Step), (.sl (len r16.1.Vals) (flat (eInt .i64) r16.1.Vals)), (.sl (len r16.1.Rest) (flat eBool r16.1.Rest)), (.sl (len r16.1.In) (flat eGMsg r16.1.In))] 1 5)), (tt (apok (len v4) 1 88)), .sl (nadd (len v4) 1) (lapp (flat eGPart v4) [(i6 r16.1.P), (i6 r16.1.Step), (.sl (len r16.1.Vals) (flat (eInt .i64) r16.1.Vals)), (.sl (len r16.1.Rest) (flat eBool r16.1.Rest)), (.sl (len r16.1.In) (flat eGMsg r16.1.In))]) (len (α := GPart) (appL v4 [r16.1])) (flat eGPart (appL v4 [r16.1])), .loop 2 c40_1 (F40_l1_1_S a0 a1 r2 r3 v4 v5 r16 0 v6 v7 v8 v9 v10 v11) (.exit 2) (F40_l1_1_X0 a0 a1 r2 r3 v4 v5 r16 w22), .int (wadd .i64 v5 1) (wadd .i64 v5 1)] := ⟨(ine_t h18), rfl, (ine_t h19), rfl, h20, (app_ok (enc := eGPart) (v4 : List GPart) [r16.1]), (F40_l1_1_ok K a0 a1 r2 r3 v4 v5 r16 K 0 v6 v7 v8 v9 v10 v11 _ h21), rfl, trivial⟩
     have h0 := ih _ _ _ _ _ _ _ _ _ hF
     have hn := lN hn40 0 c40_0 (F40_l0_0_S a0 a1 r2 r3 v4 v5 v6 v7 v8 v9 v10 v11) (F40_l0_0_S a0 a1 r2 r3 (appL v4 [r16.1]) (wadd .i64 v5 1) w22.1 w22.2.1 w22.2.2.1 w22.2.2.2.1 w22.2.2.2.2.1 w22.2.2.2.2.2) (q25 pz)
     cases r with
     | inl w => exact hn _ _ h0
     | inr w => exact hn _ _ h0
    obtain rfl := sj hF
    have pz : HA hn40 [(ff (ine r16.2.2 0)), .int (nl r16.2.1) (nl r16.2.1), (tt (ine (nl r16.2.1) a1.Parts))] := ⟨(ine_t h18), rfl, (ine_f h19), trivial⟩
    exact lE hn40 0 c40_0 (F40_l0_0_S a0 a1 r2 r3 v4 v5 v6 v7 v8 v9 v10 v11) (F40_l0_0_X0 a0 a1 r2 r3 false) .ret (q25 pz)
   refine cond_some hF (fun h23 hF => ?_) (fun h23 hF => ?_)
   ·
    have q26 : PQ hn40 fun l => ((tt (ine r16.2.2 0)) :: (bh (ieq r16.2.2 8)) :: (bh (ieq r16.2.2 8)) :: (tt (ieq r16.2.2 8)) :: l) := fun z => ⟨(ine_f h18), (bC h23), (bC h23), h23, z⟩
    refine cond_some hF (fun h24 hF => ?_) (fun h24 hF => ?_)
    ·
     obtain rfl := sj hF
     have pz : HA hn40 [(bh (ieq r2.2 8)), .call 115 [] (Res.mk [(.one (.im (.lit (.bool true))))] []), (ff (leadsAny (Res.mk [(.one (.im (.lit (.bool true))))] []))), (tt (ieq r2.2 8))] := ⟨(bC h24), knows115, lk, h24, trivial⟩
     exact lE hn40 0 c40_0 (F40_l0_0_S a0 a1 r2 r3 v4 v5 v6 v7 v8 v9 v10 v11) (F40_l0_0_X0 a0 a1 r2 r3 true) .ret (q25 (q26 pz))
    obtain rfl := sj hF
    have pz : HA hn40 [(bk (ieq r2.2 8)), (ff (ieq r2.2 8))] := ⟨(bC h24), h24, trivial⟩
    exact lE hn40 0 c40_0 (F40_l0_0_S a0 a1 r2 r3 v4 v5 v6 v7 v8 v9 v10 v11) (F40_l0_0_X0 a0 a1 r2 r3 false) .ret (q25 (q26 pz))
   obtain rfl := sj hF
   have pz : HA hn40 [(tt (ine r16.2.2 0)), (bk (ieq r16.2.2 8)), (bk (ieq r16.2.2 8)), (ff (ieq r16.2.2 8)), (bk false), (ff false)] := ⟨(ine_f h18), (bC h23), (bC h23), h23, (bC rfl), rfl, trivial⟩
   exact lE hn40 0 c40_0 (F40_l0_0_S a0 a1 r2 r3 v4 v5 v6 v7 v8 v9 v10 v11) (F40_l0_0_X0 a0 a1 r2 r3 false) .ret (q25 pz)
  obtain rfl := sj hF
  have pz : HA hn40 [.int (nl r3.1) (nl r3.1), (ff (ilt v5 (nl r3.1)))] := ⟨rfl, h12, trivial⟩
  exact lE hn40 0 c40_0 (F40_l0_0_S a0 a1 r2 r3 v4 v5 v6 v7 v8 v9 v10 v11) (F40_l0_0_X1 a0 a1 r2 r3 (v4, (v6, (v7, (v8, (v9, (v10, v11))))))) (.exit 0) pz
def F40_l2_2 (K : Nat) (a0 : GGraph) (a1 : GJob) (r2 : GState × Int) (w3 : List GPart × List (List GMsg) × List (List GMsg) × List (List GMsg) × List (List GMsg) × List (List GMsg) × List (List GMsg)) : Nat → List GPart → Int → Option ((Bool) ⊕ (List GPart))
 | 0, _, _ => none
 | k + 1, v4, v5 =>
  bif (ilt v5 (nlen (len w3.1))) then
   (bif (inr v5 (len w3.1)) then
   (elAt w3.1 v5).bind fun x6 =>
   bif (inr v5 (nint a1.Parts)) then
   bif (ieq v5 0) then
    (bif (lle 1 (nint a1.Parts)) then
    (F121 K a0 a1 x6 w3.2.1).bind fun r7 =>
    bif (ieq r7.2 0) then
     (bif (apok (len v4) 1 88) then
     F40_l2_2 K a0 a1 r2 w3 k (appL v4 [r7.1]) (wadd .i64 v5 1)
     else none)
    else
    bif (ieq r7.2 8) then
     (bif (ieq r2.2 8) then
      (some (.inl true))
     else
     some (.inl false))
    else
    some (.inl false)
    else none)
   else
   bif (ieq v5 1) then
    (bif (lle 2 (nint a1.Parts)) then
    (F121 K a0 a1 x6 w3.2.2.1).bind fun r8 =>
    bif (ieq r8.2 0) then
     (bif (apok (len v4) 1 88) then
     F40_l2_2 K a0 a1 r2 w3 k (appL v4 [r8.1]) (wadd .i64 v5 1)
     else none)
    else
    bif (ieq r8.2 8) then
     (bif (ieq r2.2 8) then
      (some (.inl true))
     else
     some (.inl false))
    else
    some (.inl false)
    else none)
   else
   bif (ieq v5 2) then
    (bif (lle 3 (nint a1.Parts)) then
    (F121 K a0 a1 x6 w3.2.2.2.1).bind fun r9 =>
    bif (ieq r9.2 0) then
     (bif (apok (len v4) 1 88) then
     F40_l2_2 K a0 a1 r2 w3 k (appL v4 [r9.1]) (wadd .i64 v5 1)
     else none)
    else
    bif (ieq r9.2 8) then
     (bif (ieq r2.2 8) then
      (some (.inl true))
     else
     some (.inl false))
    else
    some (.inl false)
    else none)
   else
   bif (ieq v5 3) then
    (bif (lle 4 (nint a1.Parts)) then
    (F121 K a0 a1 x6 w3.2.2.2.2.1).bind fun r10 =>
    bif (ieq r10.2 0) then
     (bif (apok (len v4) 1 88) then
     F40_l2_2 K a0 a1 r2 w3 k (appL v4 [r10.1]) (wadd .i64 v5 1)
     else none)
    else
    bif (ieq r10.2 8) then
     (bif (ieq r2.2 8) then
      (some (.inl true))
     else
     some (.inl false))
    else
    some (.inl false)
    else none)
   else
   bif (ieq v5 4) then
    (bif (lle 5 (nint a1.Parts)) then
    (F121 K a0 a1 x6 w3.2.2.2.2.2.1).bind fun r11 =>
    bif (ieq r11.2 0) then
     (bif (apok (len v4) 1 88) then
     F40_l2_2 K a0 a1 r2 w3 k (appL v4 [r11.1]) (wadd .i64 v5 1)
     else none)
    else
    bif (ieq r11.2 8) then
     (bif (ieq r2.2 8) then
      (some (.inl true))
     else
     some (.inl false))
    else
    some (.inl false)
    else none)
   else
   bif (ieq v5 5) then
   bif (lle 6 (nint a1.Parts)) then
   (F121 K a0 a1 x6 w3.2.2.2.2.2.2).bind fun r12 =>
   bif (ieq r12.2 0) then
    (bif (apok (len v4) 1 88) then
    F40_l2_2 K a0 a1 r2 w3 k (appL v4 [r12.1]) (wadd .i64 v5 1)
    else none)
   else
   bif (ieq r12.2 8) then
    (bif (ieq r2.2 8) then
     (some (.inl true))
    else
    some (.inl false))
   else
   some (.inl false)
   else none
   else none
   else none
   else none)
  else
  some (.inr v4)
def F40_l2_2_S (a0 : GGraph) (a1 : GJob) (r2 : GState × Int) (w3 : List GPart × List (List GMsg) × List (List GMsg) × List (List GMsg) × List (List GMsg) × List (List GMsg) × List (List GMsg)) (v4 : List GPart) (v5 : Int) : TS := .on [192, 193, 194, 256, 257, 258, 259, 260, 448, 449, 450, 451, 452, 512, 513, 704, 705, 768, 1152, 1153, 1216, 1217, 4736, 4737, 4738, 4739, 4740, 4741, 4742] [(192, ⟨(.box 62 2), 0, nob⟩), (193, ⟨.im, 0, (.lit (.int .i64 a0.N))⟩), (194, ⟨.im, 0, (.sl (len a0.Edges) (flat eGEdge a0.Edges))⟩), (256, ⟨(.box 64 4), 0, nob⟩), (257, ⟨.im, 0, (.lit (.int .i64 a1.Prog))⟩), (258, ⟨.im, 0, (.lit (.int .i64 a1.Source))⟩), (259, ⟨.im, 0, (.lit (.int .i64 a1.Limit))⟩), (260, ⟨.im, 0, (.lit (.int .i64 a1.Parts))⟩), (448, ⟨(.box 74 4), 0, nob⟩), (449, ⟨.im, 0, (.lit (.int .i64 r2.1.Step))⟩), (450, ⟨(.own 2), 0, (.sl (len r2.1.Vals) (flat (eInt .i64) r2.1.Vals))⟩), (451, ⟨(.own 4), 0, (.sl (len r2.1.Rest) (flat eBool r2.1.Rest))⟩), (452, ⟨(.own 130), 0, (.sl (len r2.1.In) (flat eGMsg r2.1.In))⟩), (512, ⟨.one, 0, nob⟩), (513, ⟨.im, 0, (.lit (.int .i64 r2.2))⟩), (704, ⟨.one, 0, nob⟩), (705, ⟨(.own 42), 0, (.sl (len w3.1) (flat eGPart w3.1))⟩), (768, ⟨(.sb 74 0), 0, (.sl (nint a1.Parts) [])⟩), (1152, ⟨.one, 0, nob⟩), (1153, ⟨(.own 42), 0, (.sl (len v4) (flat eGPart v4))⟩), (1216, ⟨.one, 0, nob⟩), (1217, ⟨.im, 0, (.lit (.int .i64 v5))⟩), (4736, ⟨(.box 107 6), 0, (.sl (nint a1.Parts) [])⟩), (4737, ⟨(.own 40), 0, (.sl (len w3.2.1) (flat (eSl eGMsg) w3.2.1))⟩), (4738, ⟨(.own 40), 0, (.sl (len w3.2.2.1) (flat (eSl eGMsg) w3.2.2.1))⟩), (4739, ⟨(.own 40), 0, (.sl (len w3.2.2.2.1) (flat (eSl eGMsg) w3.2.2.2.1))⟩), (4740, ⟨(.own 40), 0, (.sl (len w3.2.2.2.2.1) (flat (eSl eGMsg) w3.2.2.2.2.1))⟩), (4741, ⟨(.own 40), 0, (.sl (len w3.2.2.2.2.2.1) (flat (eSl eGMsg) w3.2.2.2.2.2.1))⟩), (4742, ⟨(.own 40), 0, (.sl (len w3.2.2.2.2.2.2) (flat (eSl eGMsg) w3.2.2.2.2.2.2))⟩)]
def F40_l2_2_X0 (a0 : GGraph) (a1 : GJob) (r2 : GState × Int) (w3 : List GPart × List (List GMsg) × List (List GMsg) × List (List GMsg) × List (List GMsg) × List (List GMsg) × List (List GMsg)) (w4 : Bool) : TS := .on [384, 385] [(384, ⟨.one, 0, nob⟩), (385, ⟨.im, 0, (.lit (.bool w4))⟩)]
def F40_l2_2_X1 (a0 : GGraph) (a1 : GJob) (r2 : GState × Int) (w3 : List GPart × List (List GMsg) × List (List GMsg) × List (List GMsg) × List (List GMsg) × List (List GMsg) × List (List GMsg)) (w4 : List GPart) : TS := .on [192, 193, 194, 256, 257, 258, 259, 260, 448, 449, 450, 451, 452, 512, 513, 1152, 1153] [(192, ⟨(.box 62 2), 0, nob⟩), (193, ⟨.im, 0, (.lit (.int .i64 a0.N))⟩), (194, ⟨.im, 0, (.sl (len a0.Edges) (flat eGEdge a0.Edges))⟩), (256, ⟨(.box 64 4), 0, nob⟩), (257, ⟨.im, 0, (.lit (.int .i64 a1.Prog))⟩), (258, ⟨.im, 0, (.lit (.int .i64 a1.Source))⟩), (259, ⟨.im, 0, (.lit (.int .i64 a1.Limit))⟩), (260, ⟨.im, 0, (.lit (.int .i64 a1.Parts))⟩), (448, ⟨(.box 74 4), 0, nob⟩), (449, ⟨.im, 0, (.lit (.int .i64 r2.1.Step))⟩), (450, ⟨(.own 2), 0, (.sl (len r2.1.Vals) (flat (eInt .i64) r2.1.Vals))⟩), (451, ⟨(.own 4), 0, (.sl (len r2.1.Rest) (flat eBool r2.1.Rest))⟩), (452, ⟨(.own 130), 0, (.sl (len r2.1.In) (flat eGMsg r2.1.In))⟩), (512, ⟨.one, 0, nob⟩), (513, ⟨.im, 0, (.lit (.int .i64 r2.2))⟩), (1152, ⟨.one, 0, nob⟩), (1153, ⟨(.own 42), 0, (.sl (len w4) (flat eGPart w4))⟩)]
theorem F40_l2_2_ok (K : Nat) (a0 : GGraph) (a1 : GJob) (r2 : GState × Int) (w3 : List GPart × List (List GMsg) × List (List GMsg) × List (List GMsg) × List (List GMsg) × List (List GMsg) × List (List GMsg)) : ∀ (k : Nat) (v4 : List GPart) (v5 : Int) (r : (Bool) ⊕ (List GPart)), F40_l2_2 K a0 a1 r2 w3 k v4 v5 = some r → (Sum.elim (fun w => LoopEv E H hn40 4 c40_2 (F40_l2_2_S a0 a1 r2 w3 v4 v5) .ret (F40_l2_2_X0 a0 a1 r2 w3 w)) (fun w => LoopEv E H hn40 4 c40_2 (F40_l2_2_S a0 a1 r2 w3 v4 v5) (.exit 4) (F40_l2_2_X1 a0 a1 r2 w3 w))) r := by
 intro k
 induction k with
 | zero => intro v4 v5 r hF; cases hF
 | succ k ih =>
  intro v4 v5 r hF
  rw [F40_l2_2] at hF
  refine cond_some hF (fun h6 hF => ?_) (fun h6 hF => ?_)
  ·
   refine cond_some hF (fun h7 hF => ?_) (fun _ hF => nomatch hF)
   refine bind_some hF (fun x8 h9 hF => ?_)
   refine cond_some hF (fun h10 hF => ?_) (fun _ hF => nomatch hF)
   have q59 : PQ hn40 fun l => (.int (nl w3.1) (nl w3.1) :: (tt (ilt v5 (nl w3.1))) :: (tt (inr v5 (len w3.1))) :: .sub (flat eGPart w3.1) (nidx v5 5) 5 [(i6 x8.P), (i6 x8.Step), (.sl (len x8.Vals) (flat (eInt .i64) x8.Vals)), (.sl (len x8.Rest) (flat eBool x8.Rest)), (.sl (len x8.In) (flat eGMsg x8.In))] :: (tt (inr v5 (nint a1.Parts))) :: l) := fun z => ⟨rfl, h6, h7, ⟨rfl, sub_flat0 eGPart_len h9 5 (by decide)⟩, h10, z⟩
   refine cond_some hF (fun h11 hF => ?_) (fun h11 hF => ?_)
   ·
    refine cond_some hF (fun h12 hF => ?_) (fun _ hF => nomatch hF)
    refine bind_some hF (fun r13 h14 hF => ?_)
    have q60 : PQ hn40 fun l => ((tt (ieq v5 0)) :: (tt (lle 1 (nint a1.Parts))) :: .call 121 [.agg (eGGraph a0), .agg (eGJob a1), .agg (eGPart x8), .one (.sl (len w3.2.1) (flat (eSl eGMsg) w3.2.1))] (F121_res r13) :: (ff (leadsAny (Res.mk [(.agg [(.im (i6 r13.1.P)), (.im (i6 r13.1.Step)), (.own 2 (.sl (len r13.1.Vals) (flat (eInt .i64) r13.1.Vals))), (.own 4 (.sl (len r13.1.Rest) (flat eBool r13.1.Rest))), (.own 130 (.sl (len r13.1.In) (flat eGMsg r13.1.In)))]), (.one (.im (i6 r13.2)))] []))) :: l) := fun z => ⟨h11, h12, (F121_ok K a0 a1 x8 w3.2.1 _ h14), lk, z⟩
    refine cond_some hF (fun h15 hF => ?_) (fun h15 hF => ?_)
    ·
     refine cond_some hF (fun h16 hF => ?_) (fun _ hF => nomatch hF)
     have pz : HA hn40 [(ff (ine r13.2 0)), (tt (leqm [(i6 r13.1.P), (i6 r13.1.Step), (.sl (len r13.1.Vals) (flat (eInt .i64) r13.1.Vals)), (.sl (len r13.1.Rest) (flat eBool r13.1.Rest)), (.sl (len r13.1.In) (flat eGMsg r13.1.In))] 1 5)), (tt (apok (len v4) 1 88)), .sl (nadd (len v4) 1) (lapp (flat eGPart v4) [(i6 r13.1.P), (i6 r13.1.Step), (.sl (len r13.1.Vals) (flat (eInt .i64) r13.1.Vals)), (.sl (len r13.1.Rest) (flat eBool r13.1.Rest)), (.sl (len r13.1.In) (flat eGMsg r13.1.In))]) (len (α := GPart) (appL v4 [r13.1])) (flat eGPart (appL v4 [r13.1])), .int (wadd .i64 v5 1) (wadd .i64 v5 1)] := ⟨(ine_t h15), rfl, h16, (app_ok (enc := eGPart) (v4 : List GPart) [r13.1]), rfl, trivial⟩
     have h0 := ih _ _ _ hF
     have hn := lN hn40 4 c40_2 (F40_l2_2_S a0 a1 r2 w3 v4 v5) (F40_l2_2_S a0 a1 r2 w3 (appL v4 [r13.1]) (wadd .i64 v5 1)) (q59 (q60 pz))
     cases r with
     | inl w => exact hn _ _ h0
     | inr w => exact hn _ _ h0
    refine cond_some hF (fun h17 hF => ?_) (fun h17 hF => ?_)
    ·
     have q61 : PQ hn40 fun l => ((tt (ine r13.2 0)) :: (bh (ieq r13.2 8)) :: (bh (ieq r13.2 8)) :: (tt (ieq r13.2 8)) :: l) := fun z => ⟨(ine_f h15), (bC h17), (bC h17), h17, z⟩
     refine cond_some hF (fun h18 hF => ?_) (fun h18 hF => ?_)
     ·
      obtain rfl := sj hF
      have pz : HA hn40 [(bh (ieq r2.2 8)), .call 115 [] (Res.mk [(.one (.im (.lit (.bool true))))] []), (ff (leadsAny (Res.mk [(.one (.im (.lit (.bool true))))] []))), (tt (ieq r2.2 8))] := ⟨(bC h18), knows115, lk, h18, trivial⟩
      exact lE hn40 4 c40_2 (F40_l2_2_S a0 a1 r2 w3 v4 v5) (F40_l2_2_X0 a0 a1 r2 w3 true) .ret (q59 (q60 (q61 pz)))
     obtain rfl := sj hF
     have pz : HA hn40 [(bk (ieq r2.2 8)), (ff (ieq r2.2 8))] := ⟨(bC h18), h18, trivial⟩
     exact lE hn40 4 c40_2 (F40_l2_2_S a0 a1 r2 w3 v4 v5) (F40_l2_2_X0 a0 a1 r2 w3 false) .ret (q59 (q60 (q61 pz)))
    obtain rfl := sj hF
    have pz : HA hn40 [(tt (ine r13.2 0)), (bk (ieq r13.2 8)), (bk (ieq r13.2 8)), (ff (ieq r13.2 8)), (bk false), (ff false)] := ⟨(ine_f h15), (bC h17), (bC h17), h17, (bC rfl), rfl, trivial⟩
    exact lE hn40 4 c40_2 (F40_l2_2_S a0 a1 r2 w3 v4 v5) (F40_l2_2_X0 a0 a1 r2 w3 false) .ret (q59 (q60 pz))
   refine cond_some hF (fun h19 hF => ?_) (fun h19 hF => ?_)
   ·
    refine cond_some hF (fun h20 hF => ?_) (fun _ hF => nomatch hF)
    refine bind_some hF (fun r21 h22 hF => ?_)
    have q62 : PQ hn40 fun l => ((ff (ieq v5 0)) :: (tt (ieq v5 1)) :: (tt (lle 2 (nint a1.Parts))) :: .call 121 [.agg (eGGraph a0), .agg (eGJob a1), .agg (eGPart x8), .one (.sl (len w3.2.2.1) (flat (eSl eGMsg) w3.2.2.1))] (F121_res r21) :: (ff (leadsAny (Res.mk [(.agg [(.im (i6 r21.1.P)), (.im (i6 r21.1.Step)), (.own 2 (.sl (len r21.1.Vals) (flat (eInt .i64) r21.1.Vals))), (.own 4 (.sl (len r21.1.Rest) (flat eBool r21.1.Rest))), (.own 130 (.sl (len r21.1.In) (flat eGMsg r21.1.In)))]), (.one (.im (i6 r21.2)))] []))) :: l) := fun z => ⟨h11, h19, h20, (F121_ok K a0 a1 x8 w3.2.2.1 _ h22), lk, z⟩
    refine cond_some hF (fun h23 hF => ?_) (fun h23 hF => ?_)
    ·
     refine cond_some hF (fun h24 hF => ?_) (fun _ hF => nomatch hF)
     have pz : HA hn40 [(ff (ine r21.2 0)), (tt (leqm [(i6 r21.1.P), (i6 r21.1.Step), (.sl (len r21.1.Vals) (flat (eInt .i64) r21.1.Vals)), (.sl (len r21.1.Rest) (flat eBool r21.1.Rest)), (.sl (len r21.1.In) (flat eGMsg r21.1.In))] 1 5)), (tt (apok (len v4) 1 88)), .sl (nadd (len v4) 1) (lapp (flat eGPart v4) [(i6 r21.1.P), (i6 r21.1.Step), (.sl (len r21.1.Vals) (flat (eInt .i64) r21.1.Vals)), (.sl (len r21.1.Rest) (flat eBool r21.1.Rest)), (.sl (len r21.1.In) (flat eGMsg r21.1.In))]) (len (α := GPart) (appL v4 [r21.1])) (flat eGPart (appL v4 [r21.1])), .int (wadd .i64 v5 1) (wadd .i64 v5 1)] := ⟨(ine_t h23), rfl, h24, (app_ok (enc := eGPart) (v4 : List GPart) [r21.1]), rfl, trivial⟩
     have h0 := ih _ _ _ hF
     have hn := lN hn40 4 c40_2 (F40_l2_2_S a0 a1 r2 w3 v4 v5) (F40_l2_2_S a0 a1 r2 w3 (appL v4 [r21.1]) (wadd .i64 v5 1)) (q59 (q62 pz))
     cases r with
     | inl w => exact hn _ _ h0
     | inr w => exact hn _ _ h0
    refine cond_some hF (fun h25 hF => ?_) (fun h25 hF => ?_)
    ·
     have q63 : PQ hn40 fun l => ((tt (ine r21.2 0)) :: (bh (ieq r21.2 8)) :: (bh (ieq r21.2 8)) :: (tt (ieq r21.2 8)) :: l) := fun z => ⟨(ine_f h23), (bC h25), (bC h25), h25, z⟩
     refine cond_some hF (fun h26 hF => ?_) (fun h26 hF => ?_)
     ·
      obtain rfl := sj hF
      have pz : HA hn40 [(bh (ieq r2.2 8)), .call 115 [] (Res.mk [(.one (.im (.lit (.bool true))))] []), (ff (leadsAny (Res.mk [(.one (.im (.lit (.bool true))))] []))), (tt (ieq r2.2 8))] := ⟨(bC h26), knows115, lk, h26, trivial⟩
      exact lE hn40 4 c40_2 (F40_l2_2_S a0 a1 r2 w3 v4 v5) (F40_l2_2_X0 a0 a1 r2 w3 true) .ret (q59 (q62 (q63 pz)))
     obtain rfl := sj hF
     have pz : HA hn40 [(bk (ieq r2.2 8)), (ff (ieq r2.2 8))] := ⟨(bC h26), h26, trivial⟩
     exact lE hn40 4 c40_2 (F40_l2_2_S a0 a1 r2 w3 v4 v5) (F40_l2_2_X0 a0 a1 r2 w3 false) .ret (q59 (q62 (q63 pz)))
    obtain rfl := sj hF
    have pz : HA hn40 [(tt (ine r21.2 0)), (bk (ieq r21.2 8)), (bk (ieq r21.2 8)), (ff (ieq r21.2 8)), (bk false), (ff false)] := ⟨(ine_f h23), (bC h25), (bC h25), h25, (bC rfl), rfl, trivial⟩
    exact lE hn40 4 c40_2 (F40_l2_2_S a0 a1 r2 w3 v4 v5) (F40_l2_2_X0 a0 a1 r2 w3 false) .ret (q59 (q62 pz))
   refine cond_some hF (fun h27 hF => ?_) (fun h27 hF => ?_)
   ·
    refine cond_some hF (fun h28 hF => ?_) (fun _ hF => nomatch hF)
    refine bind_some hF (fun r29 h30 hF => ?_)
    have q64 : PQ hn40 fun l => ((ff (ieq v5 0)) :: (ff (ieq v5 1)) :: (tt (ieq v5 2)) :: (tt (lle 3 (nint a1.Parts))) :: .call 121 [.agg (eGGraph a0), .agg (eGJob a1), .agg (eGPart x8), .one (.sl (len w3.2.2.2.1) (flat (eSl eGMsg) w3.2.2.2.1))] (F121_res r29) :: (ff (leadsAny (Res.mk [(.agg [(.im (i6 r29.1.P)), (.im (i6 r29.1.Step)), (.own 2 (.sl (len r29.1.Vals) (flat (eInt .i64) r29.1.Vals))), (.own 4 (.sl (len r29.1.Rest) (flat eBool r29.1.Rest))), (.own 130 (.sl (len r29.1.In) (flat eGMsg r29.1.In)))]), (.one (.im (i6 r29.2)))] []))) :: l) := fun z => ⟨h11, h19, h27, h28, (F121_ok K a0 a1 x8 w3.2.2.2.1 _ h30), lk, z⟩
    refine cond_some hF (fun h31 hF => ?_) (fun h31 hF => ?_)
    ·
     refine cond_some hF (fun h32 hF => ?_) (fun _ hF => nomatch hF)
     have pz : HA hn40 [(ff (ine r29.2 0)), (tt (leqm [(i6 r29.1.P), (i6 r29.1.Step), (.sl (len r29.1.Vals) (flat (eInt .i64) r29.1.Vals)), (.sl (len r29.1.Rest) (flat eBool r29.1.Rest)), (.sl (len r29.1.In) (flat eGMsg r29.1.In))] 1 5)), (tt (apok (len v4) 1 88)), .sl (nadd (len v4) 1) (lapp (flat eGPart v4) [(i6 r29.1.P), (i6 r29.1.Step), (.sl (len r29.1.Vals) (flat (eInt .i64) r29.1.Vals)), (.sl (len r29.1.Rest) (flat eBool r29.1.Rest)), (.sl (len r29.1.In) (flat eGMsg r29.1.In))]) (len (α := GPart) (appL v4 [r29.1])) (flat eGPart (appL v4 [r29.1])), .int (wadd .i64 v5 1) (wadd .i64 v5 1)] := ⟨(ine_t h31), rfl, h32, (app_ok (enc := eGPart) (v4 : List GPart) [r29.1]), rfl, trivial⟩
     have h0 := ih _ _ _ hF
     have hn := lN hn40 4 c40_2 (F40_l2_2_S a0 a1 r2 w3 v4 v5) (F40_l2_2_S a0 a1 r2 w3 (appL v4 [r29.1]) (wadd .i64 v5 1)) (q59 (q64 pz))
     cases r with
     | inl w => exact hn _ _ h0
     | inr w => exact hn _ _ h0
    refine cond_some hF (fun h33 hF => ?_) (fun h33 hF => ?_)
    ·
     have q65 : PQ hn40 fun l => ((tt (ine r29.2 0)) :: (bh (ieq r29.2 8)) :: (bh (ieq r29.2 8)) :: (tt (ieq r29.2 8)) :: l) := fun z => ⟨(ine_f h31), (bC h33), (bC h33), h33, z⟩
     refine cond_some hF (fun h34 hF => ?_) (fun h34 hF => ?_)
     ·
      obtain rfl := sj hF
      have pz : HA hn40 [(bh (ieq r2.2 8)), .call 115 [] (Res.mk [(.one (.im (.lit (.bool true))))] []), (ff (leadsAny (Res.mk [(.one (.im (.lit (.bool true))))] []))), (tt (ieq r2.2 8))] := ⟨(bC h34), knows115, lk, h34, trivial⟩
      exact lE hn40 4 c40_2 (F40_l2_2_S a0 a1 r2 w3 v4 v5) (F40_l2_2_X0 a0 a1 r2 w3 true) .ret (q59 (q64 (q65 pz)))
     obtain rfl := sj hF
     have pz : HA hn40 [(bk (ieq r2.2 8)), (ff (ieq r2.2 8))] := ⟨(bC h34), h34, trivial⟩
     exact lE hn40 4 c40_2 (F40_l2_2_S a0 a1 r2 w3 v4 v5) (F40_l2_2_X0 a0 a1 r2 w3 false) .ret (q59 (q64 (q65 pz)))
    obtain rfl := sj hF
    have pz : HA hn40 [(tt (ine r29.2 0)), (bk (ieq r29.2 8)), (bk (ieq r29.2 8)), (ff (ieq r29.2 8)), (bk false), (ff false)] := ⟨(ine_f h31), (bC h33), (bC h33), h33, (bC rfl), rfl, trivial⟩
    exact lE hn40 4 c40_2 (F40_l2_2_S a0 a1 r2 w3 v4 v5) (F40_l2_2_X0 a0 a1 r2 w3 false) .ret (q59 (q64 pz))
   have q66 : PQ hn40 fun l => ((ff (ieq v5 0)) :: (ff (ieq v5 1)) :: (ff (ieq v5 2)) :: l) := fun z => ⟨h11, h19, h27, z⟩
   refine cond_some hF (fun h35 hF => ?_) (fun h35 hF => ?_)
   ·
    refine cond_some hF (fun h36 hF => ?_) (fun _ hF => nomatch hF)
    refine bind_some hF (fun r37 h38 hF => ?_)
    have q67 : PQ hn40 fun l => ((tt (ieq v5 3)) :: (tt (lle 4 (nint a1.Parts))) :: .call 121 [.agg (eGGraph a0), .agg (eGJob a1), .agg (eGPart x8), .one (.sl (len w3.2.2.2.2.1) (flat (eSl eGMsg) w3.2.2.2.2.1))] (F121_res r37) :: (ff (leadsAny (Res.mk [(.agg [(.im (i6 r37.1.P)), (.im (i6 r37.1.Step)), (.own 2 (.sl (len r37.1.Vals) (flat (eInt .i64) r37.1.Vals))), (.own 4 (.sl (len r37.1.Rest) (flat eBool r37.1.Rest))), (.own 130 (.sl (len r37.1.In) (flat eGMsg r37.1.In)))]), (.one (.im (i6 r37.2)))] []))) :: l) := fun z => ⟨h35, h36, (F121_ok K a0 a1 x8 w3.2.2.2.2.1 _ h38), lk, z⟩
    refine cond_some hF (fun h39 hF => ?_) (fun h39 hF => ?_)
    ·
     refine cond_some hF (fun h40 hF => ?_) (fun _ hF => nomatch hF)
     have pz : HA hn40 [(ff (ine r37.2 0)), (tt (leqm [(i6 r37.1.P), (i6 r37.1.Step), (.sl (len r37.1.Vals) (flat (eInt .i64) r37.1.Vals)), (.sl (len r37.1.Rest) (flat eBool r37.1.Rest)), (.sl (len r37.1.In) (flat eGMsg r37.1.In))] 1 5)), (tt (apok (len v4) 1 88)), .sl (nadd (len v4) 1) (lapp (flat eGPart v4) [(i6 r37.1.P), (i6 r37.1.Step), (.sl (len r37.1.Vals) (flat (eInt .i64) r37.1.Vals)), (.sl (len r37.1.Rest) (flat eBool r37.1.Rest)), (.sl (len r37.1.In) (flat eGMsg r37.1.In))]) (len (α := GPart) (appL v4 [r37.1])) (flat eGPart (appL v4 [r37.1])), .int (wadd .i64 v5 1) (wadd .i64 v5 1)] := ⟨(ine_t h39), rfl, h40, (app_ok (enc := eGPart) (v4 : List GPart) [r37.1]), rfl, trivial⟩
     have h0 := ih _ _ _ hF
     have hn := lN hn40 4 c40_2 (F40_l2_2_S a0 a1 r2 w3 v4 v5) (F40_l2_2_S a0 a1 r2 w3 (appL v4 [r37.1]) (wadd .i64 v5 1)) (q59 (q66 (q67 pz)))
     cases r with
     | inl w => exact hn _ _ h0
     | inr w => exact hn _ _ h0
    refine cond_some hF (fun h41 hF => ?_) (fun h41 hF => ?_)
    ·
     have q68 : PQ hn40 fun l => ((tt (ine r37.2 0)) :: (bh (ieq r37.2 8)) :: (bh (ieq r37.2 8)) :: (tt (ieq r37.2 8)) :: l) := fun z => ⟨(ine_f h39), (bC h41), (bC h41), h41, z⟩
     refine cond_some hF (fun h42 hF => ?_) (fun h42 hF => ?_)
     ·
      obtain rfl := sj hF
      have pz : HA hn40 [(bh (ieq r2.2 8)), .call 115 [] (Res.mk [(.one (.im (.lit (.bool true))))] []), (ff (leadsAny (Res.mk [(.one (.im (.lit (.bool true))))] []))), (tt (ieq r2.2 8))] := ⟨(bC h42), knows115, lk, h42, trivial⟩
      exact lE hn40 4 c40_2 (F40_l2_2_S a0 a1 r2 w3 v4 v5) (F40_l2_2_X0 a0 a1 r2 w3 true) .ret (q59 (q66 (q67 (q68 pz))))
     obtain rfl := sj hF
     have pz : HA hn40 [(bk (ieq r2.2 8)), (ff (ieq r2.2 8))] := ⟨(bC h42), h42, trivial⟩
     exact lE hn40 4 c40_2 (F40_l2_2_S a0 a1 r2 w3 v4 v5) (F40_l2_2_X0 a0 a1 r2 w3 false) .ret (q59 (q66 (q67 (q68 pz))))
    obtain rfl := sj hF
    have pz : HA hn40 [(tt (ine r37.2 0)), (bk (ieq r37.2 8)), (bk (ieq r37.2 8)), (ff (ieq r37.2 8)), (bk false), (ff false)] := ⟨(ine_f h39), (bC h41), (bC h41), h41, (bC rfl), rfl, trivial⟩
    exact lE hn40 4 c40_2 (F40_l2_2_S a0 a1 r2 w3 v4 v5) (F40_l2_2_X0 a0 a1 r2 w3 false) .ret (q59 (q66 (q67 pz)))
   refine cond_some hF (fun h43 hF => ?_) (fun h43 hF => ?_)
   ·
    refine cond_some hF (fun h44 hF => ?_) (fun _ hF => nomatch hF)
    refine bind_some hF (fun r45 h46 hF => ?_)
    have q69 : PQ hn40 fun l => ((ff (ieq v5 3)) :: (tt (ieq v5 4)) :: (tt (lle 5 (nint a1.Parts))) :: .call 121 [.agg (eGGraph a0), .agg (eGJob a1), .agg (eGPart x8), .one (.sl (len w3.2.2.2.2.2.1) (flat (eSl eGMsg) w3.2.2.2.2.2.1))] (F121_res r45) :: (ff (leadsAny (Res.mk [(.agg [(.im (i6 r45.1.P)), (.im (i6 r45.1.Step)), (.own 2 (.sl (len r45.1.Vals) (flat (eInt .i64) r45.1.Vals))), (.own 4 (.sl (len r45.1.Rest) (flat eBool r45.1.Rest))), (.own 130 (.sl (len r45.1.In) (flat eGMsg r45.1.In)))]), (.one (.im (i6 r45.2)))] []))) :: l) := fun z => ⟨h35, h43, h44, (F121_ok K a0 a1 x8 w3.2.2.2.2.2.1 _ h46), lk, z⟩
    refine cond_some hF (fun h47 hF => ?_) (fun h47 hF => ?_)
    ·
     refine cond_some hF (fun h48 hF => ?_) (fun _ hF => nomatch hF)
     have pz : HA hn40 [(ff (ine r45.2 0)), (tt (leqm [(i6 r45.1.P), (i6 r45.1.Step), (.sl (len r45.1.Vals) (flat (eInt .i64) r45.1.Vals)), (.sl (len r45.1.Rest) (flat eBool r45.1.Rest)), (.sl (len r45.1.In) (flat eGMsg r45.1.In))] 1 5)), (tt (apok (len v4) 1 88)), .sl (nadd (len v4) 1) (lapp (flat eGPart v4) [(i6 r45.1.P), (i6 r45.1.Step), (.sl (len r45.1.Vals) (flat (eInt .i64) r45.1.Vals)), (.sl (len r45.1.Rest) (flat eBool r45.1.Rest)), (.sl (len r45.1.In) (flat eGMsg r45.1.In))]) (len (α := GPart) (appL v4 [r45.1])) (flat eGPart (appL v4 [r45.1])), .int (wadd .i64 v5 1) (wadd .i64 v5 1)] := ⟨(ine_t h47), rfl, h48, (app_ok (enc := eGPart) (v4 : List GPart) [r45.1]), rfl, trivial⟩
     have h0 := ih _ _ _ hF
     have hn := lN hn40 4 c40_2 (F40_l2_2_S a0 a1 r2 w3 v4 v5) (F40_l2_2_S a0 a1 r2 w3 (appL v4 [r45.1]) (wadd .i64 v5 1)) (q59 (q66 (q69 pz)))
     cases r with
     | inl w => exact hn _ _ h0
     | inr w => exact hn _ _ h0
    refine cond_some hF (fun h49 hF => ?_) (fun h49 hF => ?_)
    ·
     have q70 : PQ hn40 fun l => ((tt (ine r45.2 0)) :: (bh (ieq r45.2 8)) :: (bh (ieq r45.2 8)) :: (tt (ieq r45.2 8)) :: l) := fun z => ⟨(ine_f h47), (bC h49), (bC h49), h49, z⟩
     refine cond_some hF (fun h50 hF => ?_) (fun h50 hF => ?_)
     ·
      obtain rfl := sj hF
      have pz : HA hn40 [(bh (ieq r2.2 8)), .call 115 [] (Res.mk [(.one (.im (.lit (.bool true))))] []), (ff (leadsAny (Res.mk [(.one (.im (.lit (.bool true))))] []))), (tt (ieq r2.2 8))] := ⟨(bC h50), knows115, lk, h50, trivial⟩
      exact lE hn40 4 c40_2 (F40_l2_2_S a0 a1 r2 w3 v4 v5) (F40_l2_2_X0 a0 a1 r2 w3 true) .ret (q59 (q66 (q69 (q70 pz))))
     obtain rfl := sj hF
     have pz : HA hn40 [(bk (ieq r2.2 8)), (ff (ieq r2.2 8))] := ⟨(bC h50), h50, trivial⟩
     exact lE hn40 4 c40_2 (F40_l2_2_S a0 a1 r2 w3 v4 v5) (F40_l2_2_X0 a0 a1 r2 w3 false) .ret (q59 (q66 (q69 (q70 pz))))
    obtain rfl := sj hF
    have pz : HA hn40 [(tt (ine r45.2 0)), (bk (ieq r45.2 8)), (bk (ieq r45.2 8)), (ff (ieq r45.2 8)), (bk false), (ff false)] := ⟨(ine_f h47), (bC h49), (bC h49), h49, (bC rfl), rfl, trivial⟩
    exact lE hn40 4 c40_2 (F40_l2_2_S a0 a1 r2 w3 v4 v5) (F40_l2_2_X0 a0 a1 r2 w3 false) .ret (q59 (q66 (q69 pz)))
   refine cond_some hF (fun h51 hF => ?_) (fun _ hF => nomatch hF)
   refine cond_some hF (fun h52 hF => ?_) (fun _ hF => nomatch hF)
   refine bind_some hF (fun r53 h54 hF => ?_)
   have q71 : PQ hn40 fun l => ((ff (ieq v5 3)) :: (ff (ieq v5 4)) :: (tt (ieq v5 5)) :: (tt (lle 6 (nint a1.Parts))) :: .call 121 [.agg (eGGraph a0), .agg (eGJob a1), .agg (eGPart x8), .one (.sl (len w3.2.2.2.2.2.2) (flat (eSl eGMsg) w3.2.2.2.2.2.2))] (F121_res r53) :: (ff (leadsAny (Res.mk [(.agg [(.im (i6 r53.1.P)), (.im (i6 r53.1.Step)), (.own 2 (.sl (len r53.1.Vals) (flat (eInt .i64) r53.1.Vals))), (.own 4 (.sl (len r53.1.Rest) (flat eBool r53.1.Rest))), (.own 130 (.sl (len r53.1.In) (flat eGMsg r53.1.In)))]), (.one (.im (i6 r53.2)))] []))) :: l) := fun z => ⟨h35, h43, h51, h52, (F121_ok K a0 a1 x8 w3.2.2.2.2.2.2 _ h54), lk, z⟩
   refine cond_some hF (fun h55 hF => ?_) (fun h55 hF => ?_)
   ·
    refine cond_some hF (fun h56 hF => ?_) (fun _ hF => nomatch hF)
    have pz : HA hn40 [(ff (ine r53.2 0)), (tt (leqm [(i6 r53.1.P), (i6 r53.1.Step), (.sl (len r53.1.Vals) (flat (eInt .i64) r53.1.Vals)), (.sl (len r53.1.Rest) (flat eBool r53.1.Rest)), (.sl (len r53.1.In) (flat eGMsg r53.1.In))] 1 5)), (tt (apok (len v4) 1 88)), .sl (nadd (len v4) 1) (lapp (flat eGPart v4) [(i6 r53.1.P), (i6 r53.1.Step), (.sl (len r53.1.Vals) (flat (eInt .i64) r53.1.Vals)), (.sl (len r53.1.Rest) (flat eBool r53.1.Rest)), (.sl (len r53.1.In) (flat eGMsg r53.1.In))]) (len (α := GPart) (appL v4 [r53.1])) (flat eGPart (appL v4 [r53.1])), .int (wadd .i64 v5 1) (wadd .i64 v5 1)] := ⟨(ine_t h55), rfl, h56, (app_ok (enc := eGPart) (v4 : List GPart) [r53.1]), rfl, trivial⟩
    have h0 := ih _ _ _ hF
    have hn := lN hn40 4 c40_2 (F40_l2_2_S a0 a1 r2 w3 v4 v5) (F40_l2_2_S a0 a1 r2 w3 (appL v4 [r53.1]) (wadd .i64 v5 1)) (q59 (q66 (q71 pz)))
    cases r with
    | inl w => exact hn _ _ h0
    | inr w => exact hn _ _ h0
   refine cond_some hF (fun h57 hF => ?_) (fun h57 hF => ?_)
   ·
    have q72 : PQ hn40 fun l => ((tt (ine r53.2 0)) :: (bh (ieq r53.2 8)) :: (bh (ieq r53.2 8)) :: (tt (ieq r53.2 8)) :: l) := fun z => ⟨(ine_f h55), (bC h57), (bC h57), h57, z⟩
    refine cond_some hF (fun h58 hF => ?_) (fun h58 hF => ?_)
    ·
     obtain rfl := sj hF
     have pz : HA hn40 [(bh (ieq r2.2 8)), .call 115 [] (Res.mk [(.one (.im (.lit (.bool true))))] []), (ff (leadsAny (Res.mk [(.one (.im (.lit (.bool true))))] []))), (tt (ieq r2.2 8))] := ⟨(bC h58), knows115, lk, h58, trivial⟩
     exact lE hn40 4 c40_2 (F40_l2_2_S a0 a1 r2 w3 v4 v5) (F40_l2_2_X0 a0 a1 r2 w3 true) .ret (q59 (q66 (q71 (q72 pz))))
    obtain rfl := sj hF
    have pz : HA hn40 [(bk (ieq r2.2 8)), (ff (ieq r2.2 8))] := ⟨(bC h58), h58, trivial⟩
    exact lE hn40 4 c40_2 (F40_l2_2_S a0 a1 r2 w3 v4 v5) (F40_l2_2_X0 a0 a1 r2 w3 false) .ret (q59 (q66 (q71 (q72 pz))))
   obtain rfl := sj hF
   have pz : HA hn40 [(tt (ine r53.2 0)), (bk (ieq r53.2 8)), (bk (ieq r53.2 8)), (ff (ieq r53.2 8)), (bk false), (ff false)] := ⟨(ine_f h55), (bC h57), (bC h57), h57, (bC rfl), rfl, trivial⟩
   exact lE hn40 4 c40_2 (F40_l2_2_S a0 a1 r2 w3 v4 v5) (F40_l2_2_X0 a0 a1 r2 w3 false) .ret (q59 (q66 (q71 pz)))
  obtain rfl := sj hF
  have pz : HA hn40 [.int (nl w3.1) (nl w3.1), (ff (ilt v5 (nl w3.1)))] := ⟨rfl, h6, trivial⟩
  exact lE hn40 4 c40_2 (F40_l2_2_S a0 a1 r2 w3 v4 v5) (F40_l2_2_X1 a0 a1 r2 w3 v4) (.exit 4) pz
def F40 (K : Nat) (a0 : GGraph) (a1 : GJob) (a2 : GState) : Option (Bool) :=
 (F113 K a0).bind fun r5 =>
 bif r5 then
  (some true)
 else
 (F125 K a2).bind fun r13 =>
 bif r13 then
  (some true)
 else
 (F88 K a0 a1 a2).bind fun r3 =>
 bif r3 then
  (bif (ieq a2.Step 40) then
   (some true)
  else
  (F126 K a1 a2).bind fun r4 =>
  bif r4 then
   ((F112 K a0 a1 a2).bind fun r6 =>
   (F83 K a0 a1 a2).bind fun r7 =>
   bif (ieq r7.2 0) then
    (bif (ieq (nlen (len r7.1)) a1.Parts) then
     (bif (mkbx a1.Parts a1.Parts) then
     (F40_l0_0 K a0 a1 r6 r7 K [] 0 [] [] [] [] [] []).bind fun y8 =>
     Sum.elim (fun w9 =>
      some w9)
      (fun w10 =>
      (F40_l2_2 K a0 a1 r6 w10 K [] 0).bind fun y11 =>
      Sum.elim (fun w12 =>
       some w12)
       (fun w14 =>
       (F85 K a0 a1 w14).bind fun r15 =>
       bif (ieq r6.2 0) then
        (bif (ieq r15.2 0) then
         ((F87 K r15.1 r6.1).bind fun r16 =>
         bif r16 then
          (some true)
         else
         some false)
        else
        some false)
       else
       some false) y11) y8
     else none)
    else
    some false)
   else
   some false)
  else
  some true)
 else
 some true
theorem F40_ok (K : Nat) (a0 : GGraph) (a1 : GJob) (a2 : GState) (r : Bool) (hF : F40 K a0 a1 a2 = some r) : Evt E H 40 [.agg (eGGraph a0), .agg (eGJob a1), .agg (eGState a2)] (F40_res r) := by
 rw [F40] at hF
 refine bind_some hF (fun r5 h6 hF => ?_)
 refine cond_some hF (fun h7 hF => ?_) (fun h7 hF => ?_)
 ·
  obtain rfl := sj hF
  have pz : HA hn40 [.call 113 [.agg (eGGraph a0)] (F113_res r5), (ff (leadsAny (Res.mk [(.one (.im (.lit (.bool r5))))] []))), (bf r5), (bf r5), (tt r5), bt, bt, bt, bt, bt, (tt true), bt, bt, bt, (tt true), bt, bt, bt, bt, (tt true), (tt true), .call 115 [] (Res.mk [(.one (.im (.lit (.bool true))))] []), (ff (leadsAny (Res.mk [(.one (.im (.lit (.bool true))))] [])))] := ⟨(F113_ok K a0 _ h6), lk, (bA h7), (bA h7), h7, br, br, br, br, br, rfl, br, br, br, rfl, br, br, br, br, rfl, rfl, knows115, lk, trivial⟩
  exact fpC hn40 (r := F40_res true) pz
 refine bind_some hF (fun r13 h14 hF => ?_)
 have q38 : PQ hn40 fun l => (.call 113 [.agg (eGGraph a0)] (F113_res r5) :: (ff (leadsAny (Res.mk [(.one (.im (.lit (.bool r5))))] []))) :: (bg r5) :: (bg r5) :: .call 125 [.agg (eGState a2)] (F125_res r13) :: (ff (leadsAny (Res.mk [(.one (.im (.lit (.bool r13))))] []))) :: (ff r5) :: l) := fun z => ⟨(F113_ok K a0 _ h6), lk, (bB h7), (bB h7), (F125_ok K a2 _ h14), lk, h7, z⟩
 refine cond_some hF (fun h15 hF => ?_) (fun h15 hF => ?_)
 ·
  obtain rfl := sj hF
  have pz : HA hn40 [(bf r13), (bf r13), (bf r13), (bf r13), (bf r13), (tt r13), bt, bt, bt, (tt true), bt, bt, bt, bt, (tt true), (tt true), .call 115 [] (Res.mk [(.one (.im (.lit (.bool true))))] []), (ff (leadsAny (Res.mk [(.one (.im (.lit (.bool true))))] [])))] := ⟨(bA h15), (bA h15), (bA h15), (bA h15), (bA h15), h15, br, br, br, rfl, br, br, br, br, rfl, rfl, knows115, lk, trivial⟩
  exact fpC hn40 (r := F40_res true) (q38 pz)
 refine bind_some hF (fun r3 h4 hF => ?_)
 have q39 : PQ hn40 fun l => ((bg r13) :: (bg r13) :: (bg r13) :: (bg r13) :: .call 88 [.agg (eGGraph a0), .agg (eGJob a1), .agg (eGState a2)] (F88_res r3) :: (ff (leadsAny (Res.mk [(.one (.im (.lit (.bool r3))))] []))) :: (bg r13) :: (ff r13) :: l) := fun z => ⟨(bB h15), (bB h15), (bB h15), (bB h15), (F88_ok K a0 a1 a2 _ h4), lk, (bB h15), h15, z⟩
 refine cond_some hF (fun h8 hF => ?_) (fun h8 hF => ?_)
 ·
  have q40 : PQ hn40 fun l => ((bg (bnot r3)) :: (bg (bnot r3)) :: (bg (bnot r3)) :: (ff (bnot r3)) :: l) := fun z => ⟨(bB (bnot_t h8)), (bB (bnot_t h8)), (bB (bnot_t h8)), (bnot_t h8), z⟩
  refine cond_some hF (fun h9 hF => ?_) (fun h9 hF => ?_)
  ·
   obtain rfl := sj hF
   have pz : HA hn40 [(bf (ieq a2.Step 40)), (bf (ieq a2.Step 40)), (bf (ieq a2.Step 40)), (bf (ieq a2.Step 40)), (tt (ieq a2.Step 40)), (tt true), .call 115 [] (Res.mk [(.one (.im (.lit (.bool true))))] []), (ff (leadsAny (Res.mk [(.one (.im (.lit (.bool true))))] [])))] := ⟨(bA h9), (bA h9), (bA h9), (bA h9), h9, rfl, knows115, lk, trivial⟩
   exact fpC hn40 (r := F40_res true) (q38 (q39 (q40 pz)))
  refine bind_some hF (fun r10 h11 hF => ?_)
  have q41 : PQ hn40 fun l => ((bg (ieq a2.Step 40)) :: (bg (ieq a2.Step 40)) :: (bg (ieq a2.Step 40)) :: .call 126 [.agg (eGJob a1), .agg (eGState a2)] (F126_res r10) :: (ff (leadsAny (Res.mk [(.one (.im (.lit (.bool r10))))] []))) :: (bg (ieq a2.Step 40)) :: (ff (ieq a2.Step 40)) :: l) := fun z => ⟨(bB h9), (bB h9), (bB h9), (F126_ok K a1 a2 _ h11), lk, (bB h9), h9, z⟩
  refine cond_some hF (fun h12 hF => ?_) (fun h12 hF => ?_)
  ·
   refine bind_some hF (fun r16 h17 hF => ?_)
   refine bind_some hF (fun r18 h19 hF => ?_)
   have q42 : PQ hn40 fun l => ((ff (bnot r10)) :: .call 112 [.agg (eGGraph a0), .agg (eGJob a1), .agg (eGState a2)] (F112_res r16) :: (ff (leadsAny (Res.mk [(.agg [(.im (i6 r16.1.Step)), (.own 2 (.sl (len r16.1.Vals) (flat (eInt .i64) r16.1.Vals))), (.own 4 (.sl (len r16.1.Rest) (flat eBool r16.1.Rest))), (.own 130 (.sl (len r16.1.In) (flat eGMsg r16.1.In)))]), (.one (.im (i6 r16.2)))] []))) :: .call 83 [.agg (eGGraph a0), .agg (eGJob a1), .agg (eGState a2)] (F83_res r18) :: l) := fun z => ⟨(bnot_t h12), (F112_ok K a0 a1 a2 _ h17), lk, (F83_ok K a0 a1 a2 _ h19), z⟩
   refine cond_some hF (fun h20 hF => ?_) (fun h20 hF => ?_)
   ·
    have q43 : PQ hn40 fun l => ((bg (ine r18.2 0)) :: (bg (ine r18.2 0)) :: .int (nl r18.1) (nl r18.1) :: (bg (ine r18.2 0)) :: (bg (ine r18.2 0)) :: (bg (ine r18.2 0)) :: (ff (ine r18.2 0)) :: l) := fun z => ⟨(bB (ine_t h20)), (bB (ine_t h20)), rfl, (bB (ine_t h20)), (bB (ine_t h20)), (bB (ine_t h20)), (ine_t h20), z⟩
    refine cond_some hF (fun h21 hF => ?_) (fun h21 hF => ?_)
    ·
     refine cond_some hF (fun h22 hF => ?_) (fun _ hF => nomatch hF)
     refine bind_some hF (fun y24 h23 hF => ?_)
     refine sum_some hF (fun w25 hx hF => ?_) (fun w26 hx hF => ?_)
     ·
      subst hx
      obtain rfl := sj hF
      have pz : HA hn40 [(ff (ine (nl r18.1) a1.Parts)), (tt (mkbx a1.Parts a1.Parts)), .loop 0 c40_0 (F40_l0_0_S a0 a1 r16 r18 [] 0 [] [] [] [] [] []) .ret (F40_l0_0_X0 a0 a1 r16 r18 w25)] := ⟨(ine_t h21), h22, (F40_l0_0_ok K a0 a1 r16 r18 K [] 0 [] [] [] [] [] [] _ h23), trivial⟩
      exact fpC hn40 (r := F40_res w25) (q38 (q39 (q40 (q41 (q42 (q43 pz))))))
     subst hx
     have q44 : PQ hn40 fun l => ((ff (ine (nl r18.1) a1.Parts)) :: (tt (mkbx a1.Parts a1.Parts)) :: .loop 0 c40_0 (F40_l0_0_S a0 a1 r16 r18 [] 0 [] [] [] [] [] []) (.exit 0) (F40_l0_0_X1 a0 a1 r16 r18 w26) :: l) := fun z => ⟨(ine_t h21), h22, (F40_l0_0_ok K a0 a1 r16 r18 K [] 0 [] [] [] [] [] [] _ h23), z⟩
     refine bind_some hF (fun y28 h27 hF => ?_)
     refine sum_some hF (fun w29 hx hF => ?_) (fun w30 hx hF => ?_)
     ·
      subst hx
      obtain rfl := sj hF
      have pz : HA hn40 [.loop 4 c40_2 (F40_l2_2_S a0 a1 r16 w26 [] 0) .ret (F40_l2_2_X0 a0 a1 r16 w26 w29)] := ⟨(F40_l2_2_ok K a0 a1 r16 w26 K [] 0 _ h27), trivial⟩
      exact fpC hn40 (r := F40_res w29) (q38 (q39 (q40 (q41 (q42 (q43 (q44 pz)))))))
     subst hx
     refine bind_some hF (fun r31 h32 hF => ?_)
     have q45 : PQ hn40 fun l => (.loop 4 c40_2 (F40_l2_2_S a0 a1 r16 w26 [] 0) (.exit 4) (F40_l2_2_X1 a0 a1 r16 w26 w30) :: .call 85 [.agg (eGGraph a0), .agg (eGJob a1), .one (.sl (len w30) (flat eGPart w30))] (F85_res r31) :: (ff (leadsAny (Res.mk [(.agg [(.im (i6 r31.1.Step)), (.own 2 (.sl (len r31.1.Vals) (flat (eInt .i64) r31.1.Vals))), (.own 4 (.sl (len r31.1.Rest) (flat eBool r31.1.Rest))), (.own 130 (.sl (len r31.1.In) (flat eGMsg r31.1.In)))]), (.one (.im (i6 r31.2)))] []))) :: l) := fun z => ⟨(F40_l2_2_ok K a0 a1 r16 w26 K [] 0 _ h27), (F85_ok K a0 a1 w30 _ h32), lk, z⟩
     refine cond_some hF (fun h33 hF => ?_) (fun h33 hF => ?_)
     ·
      have q46 : PQ hn40 fun l => ((bh (ieq r16.2 0)) :: (bh (ieq r16.2 0)) :: (tt (ieq r16.2 0)) :: l) := fun z => ⟨(bC h33), (bC h33), h33, z⟩
      refine cond_some hF (fun h34 hF => ?_) (fun h34 hF => ?_)
      ·
       refine bind_some hF (fun r35 h36 hF => ?_)
       have q47 : PQ hn40 fun l => ((bh (ieq r31.2 0)) :: (bh (ieq r31.2 0)) :: (bh (ieq r31.2 0)) :: .call 87 [.agg (eGState r31.1), .agg (eGState r16.1)] (F87_res r35) :: (ff (leadsAny (Res.mk [(.one (.im (.lit (.bool r35))))] []))) :: (tt (ieq r31.2 0)) :: l) := fun z => ⟨(bC h34), (bC h34), (bC h34), (F87_ok K r31.1 r16.1 _ h36), lk, h34, z⟩
       refine cond_some hF (fun h37 hF => ?_) (fun h37 hF => ?_)
       ·
        obtain rfl := sj hF
        have pz : HA hn40 [(bh r35), .call 115 [] (Res.mk [(.one (.im (.lit (.bool true))))] []), (ff (leadsAny (Res.mk [(.one (.im (.lit (.bool true))))] []))), (tt r35)] := ⟨(bC h37), knows115, lk, h37, trivial⟩
        exact fpC hn40 (r := F40_res true) (q38 (q39 (q40 (q41 (q42 (q43 (q44 (q45 (q46 (q47 pz))))))))))
       obtain rfl := sj hF
       have pz : HA hn40 [(bk r35), (ff r35)] := ⟨(bC h37), h37, trivial⟩
       exact fpC hn40 (r := F40_res false) (q38 (q39 (q40 (q41 (q42 (q43 (q44 (q45 (q46 (q47 pz))))))))))
      obtain rfl := sj hF
      have pz : HA hn40 [(bk (ieq r31.2 0)), (bk (ieq r31.2 0)), (bk (ieq r31.2 0)), (ff (ieq r31.2 0)), (bk false), (ff false)] := ⟨(bC h34), (bC h34), (bC h34), h34, (bC rfl), rfl, trivial⟩
      exact fpC hn40 (r := F40_res false) (q38 (q39 (q40 (q41 (q42 (q43 (q44 (q45 (q46 pz)))))))))
     obtain rfl := sj hF
     have pz : HA hn40 [(bk (ieq r16.2 0)), (bk (ieq r16.2 0)), (ff (ieq r16.2 0)), (bk false), (bk false), (bk false), (ff false), (bk false), (ff false)] := ⟨(bC h33), (bC h33), h33, (bC rfl), (bC rfl), (bC rfl), rfl, (bC rfl), rfl, trivial⟩
     exact fpC hn40 (r := F40_res false) (q38 (q39 (q40 (q41 (q42 (q43 (q44 (q45 pz))))))))
    obtain rfl := sj hF
    have pz : HA hn40 [(tt (ine (nl r18.1) a1.Parts))] := ⟨(ine_f h21), trivial⟩
    exact fpC hn40 (r := F40_res false) (q38 (q39 (q40 (q41 (q42 (q43 pz))))))
   obtain rfl := sj hF
   have pz : HA hn40 [(bf (ine r18.2 0)), (bf (ine r18.2 0)), (bf (ine r18.2 0)), (bf (ine r18.2 0)), (bf (ine r18.2 0)), (tt (ine r18.2 0)), (tt true)] := ⟨(bA (ine_f h20)), (bA (ine_f h20)), (bA (ine_f h20)), (bA (ine_f h20)), (bA (ine_f h20)), (ine_f h20), rfl, trivial⟩
   exact fpC hn40 (r := F40_res false) (q38 (q39 (q40 (q41 (q42 pz)))))
  obtain rfl := sj hF
  have pz : HA hn40 [(tt (bnot r10)), .call 115 [] (Res.mk [(.one (.im (.lit (.bool true))))] []), (ff (leadsAny (Res.mk [(.one (.im (.lit (.bool true))))] [])))] := ⟨(bnot_f h12), knows115, lk, trivial⟩
  exact fpC hn40 (r := F40_res true) (q38 (q39 (q40 (q41 pz))))
 obtain rfl := sj hF
 have pz : HA hn40 [(bf (bnot r3)), (bf (bnot r3)), (bf (bnot r3)), (tt (bnot r3)), bt, bt, bt, bt, (tt true), (tt true), .call 115 [] (Res.mk [(.one (.im (.lit (.bool true))))] []), (ff (leadsAny (Res.mk [(.one (.im (.lit (.bool true))))] [])))] := ⟨(bA (bnot_f h8)), (bA (bnot_f h8)), (bA (bnot_f h8)), (bnot_f h8), br, br, br, br, rfl, rfl, knows115, lk, trivial⟩
 exact fpC hn40 (r := F40_res true) (q38 (q39 pz))
theorem F126_spec {K : Nat} (j : GJob) (s : GState) (h1 : s.Vals.length < K) (h2 : s.In.length < K) (l1 : s.Vals.length < 1000000) (l2 : s.In.length < 1000000) : F126 K j s = some (bif ieq j.Prog 5 then (s.Vals.all fun v => ile 0 v) && s.In.all fun m => ile 0 m.V else true) := by
 obtain ⟨k, rfl⟩ : ∃ k, K = k + 1 := ⟨K - 1, by omega⟩
 rw [F126]
 cases h5 : ieq j.Prog 5
 · have e1 : F126_l0_0 (k + 1) j s (k + 1) 0 = some (.inr ()) := by
    rw [F126_l0_0, h5]
    cases ilt 0 (nlen (len s.Vals)) <;> rfl
   have e2 : F126_l1_1 (k + 1) j s (k + 1) 0 = some (.inr ()) := by
    rw [F126_l1_1, h5]
    cases ilt 0 (nlen (len s.In)) <;> rfl
   rw [e1, e2]; rfl
 · have e1 : F126_l0_0 (k + 1) j s (k + 1) 0 = some (sumU (s.Vals.all fun v => ile 0 v)) := by
    have h := scanL (l := s.Vals) (L := fun q (_ : Unit) i => F126_l0_0 (k + 1) j s q i) (fun x _ c => bif ilt x 0 then some (.inl ()) else c ()) (fun _ => some (.inr ())) (fun q _ i _ => by
     show F126_l0_0 (k + 1) j s (q + 1) (i : Int) = _
     rw [F126_l0_0, h5]; rfl) (by omega) (K := k + 1) h1 ()
    have hw : ∀ (l : List Int), goL (fun x (_ : Unit) c => bif ilt x 0 then some (.inl ()) else c ()) (fun _ => some (.inr ())) l () = (some (sumU (l.all fun v => ile 0 v)) : Option (Unit ⊕ Unit)) := by
     intro l
     induction l with
     | nil => rfl
     | cons x l ih =>
      rw [goL, ih, ilt_not' x 0, List.all_cons]
      cases ile 0 x <;> rfl
    rw [hw] at h; exact h
   have e2 : F126_l1_1 (k + 1) j s (k + 1) 0 = some (sumU (s.In.all fun m => ile 0 m.V)) := by
    have h := scanL (l := s.In) (L := fun q (_ : Unit) i => F126_l1_1 (k + 1) j s q i) (fun x _ c => bif ilt x.V 0 then some (.inl ()) else c ()) (fun _ => some (.inr ())) (fun q _ i _ => by
     show F126_l1_1 (k + 1) j s (q + 1) (i : Int) = _
     rw [F126_l1_1, h5]; rfl) (by omega) (K := k + 1) h2 ()
    have hw : ∀ (l : List GMsg), goL (fun (x : GMsg) (_ : Unit) c => bif ilt x.V 0 then some (.inl ()) else c ()) (fun _ => some (.inr ())) l () = (some (sumU (l.all fun m => ile 0 m.V)) : Option (Unit ⊕ Unit)) := by
     intro l
     induction l with
     | nil => rfl
     | cons x l ih =>
      rw [goL, ih, ilt_not' x.V 0, List.all_cons]
      cases ile 0 x.V <;> rfl
    rw [hw] at h; exact h
   rw [e1, e2, sumU_bind, sumU_bind]
   cases s.Vals.all fun v => ile 0 v <;> cases s.In.all fun m => ile 0 m.V <;> rfl
theorem fits_of {j : GJob} {s : GState} (h : (bif ieq j.Prog 5 then (s.Vals.all fun v => ile 0 v) && s.In.all fun m => ile 0 m.V else true) = true) : fitsS j s := fun h5 => by
 rw [ieq_iff.2 h5, cond_true, Bool.and_eq_true, List.all_eq_true, List.all_eq_true] at h
 exact ⟨fun v hv => ile_iff.1 (h.1 v hv), fun m hm => ile_iff.1 (h.2 m hm)⟩
abbrev LL := List (List GMsg)
abbrev L6 := LL × LL × LL × LL × LL × LL
def tup (f : Nat → LL) : L6 := (f 0, (f 1, (f 2, (f 3, (f 4, f 5)))))
theorem inner40 {K : Nat} (g : GGraph) (j : GJob) (a : GState × Int) (b : List GPart × Int) (dd : List GPart) (ii : Int) (r : Did) (h1 : 1 ≤ j.Parts) (h6 : j.Parts ≤ 6) (hlen : r.2.1.length = j.Parts.toNat) :
 ∀ (m q k : Nat) (f : Nat → LL), q + m = j.Parts.toNat → m < k → (∀ x, (f x).length + m ≤ 100) →
  F40_l1_1 K g j a b dd ii r k (q : Int) (f 0) (f 1) (f 2) (f 3) (f 4) (f 5) = some (tup fun x => if q ≤ x ∧ x < j.Parts.toNat then f x ++ [r.2.1.getD x []] else f x) := by
 intro m
 induction m with
 | zero =>
  intro q k f hq hk hf
  obtain ⟨k, rfl⟩ : ∃ z, k = z + 1 := ⟨k - 1, by omega⟩
  have e : (fun x => if q ≤ x ∧ x < j.Parts.toNat then f x ++ [r.2.1.getD x []] else f x) = f := by
   funext x; rw [if_neg (by omega)]
  rw [F40_l1_1, ilt_f.2 (by omega : j.Parts ≤ (q : Int)), e]; rfl
 | succ m ih =>
  intro q k f hq hk hf
  obtain ⟨k, rfl⟩ : ∃ z, k = z + 1 := ⟨k - 1, by omega⟩
  have hqP : q < j.Parts.toNat := by omega
  have i1 : inr (q : Int) (nint j.Parts) = true := decide_eq_true ⟨by omega, by show (q : Int) < ((j.Parts.toNat : Nat) : Int); omega⟩
  have i2 : inr (q : Int) (len r.2.1) = true := decide_eq_true ⟨by omega, by show (q : Int) < (r.2.1.length : Int); omega⟩
  have i3 : elAt r.2.1 (q : Int) = some (r.2.1.getD q []) := by rw [elAt_nat, List.getElem?_eq_getElem (by omega), List.getD_eq_getElem?_getD, List.getElem?_eq_getElem (by omega)]; rfl
  have ap : ∀ x, apok (len (f x)) 1 24 = true := fun x => by
   have := hf x
   exact decide_eq_true ⟨by show (f x).length + 1 ≤ _; omega, by show ((f x).length + 1) * 24 ≤ _; omega⟩
  have hle : ∀ n : Nat, n ≤ j.Parts.toNat → lle n (nint j.Parts) = true := fun n hn => (ble_iff _ _).2 hn
  have hw : wadd .i64 (q : Int) 1 = ((q + 1 : Nat) : Int) := wadd_nat (by omega)
  have nx := ih (q + 1) k (fun x => if x = q then f x ++ [r.2.1.getD x []] else f x) (by omega) (by omega) (fun x => by
   have := hf x
   by_cases hx : x = q
   · rw [if_pos hx, List.length_append, List.length_singleton]; omega
   · rw [if_neg hx]; omega)
  have e : (fun x => if q + 1 ≤ x ∧ x < j.Parts.toNat then (fun x => if x = q then f x ++ [r.2.1.getD x []] else f x) x ++ [r.2.1.getD x []] else (fun x => if x = q then f x ++ [r.2.1.getD x []] else f x) x) =
   fun x => if q ≤ x ∧ x < j.Parts.toNat then f x ++ [r.2.1.getD x []] else f x := by
   funext x
   by_cases hx : x = q
   · subst hx
     rw [if_neg (by omega), if_pos ⟨Nat.le_refl _, hqP⟩]
     exact if_pos rfl
   · by_cases h2 : q ≤ x ∧ x < j.Parts.toNat
     · rw [if_pos ⟨by omega, h2.2⟩, if_pos h2]
       dsimp only
       rw [if_neg hx]
     · rw [if_neg (by omega), if_neg h2]
       exact if_neg hx
  rw [e] at nx
  rw [F40_l1_1, ilt_iff.2 (by omega : (q : Int) < j.Parts), i1, i2, i3, hw]
  simp only [cond_true, Option.bind_some, ap]
  rcases (by omega : q = 0 ∨ q = 1 ∨ q = 2 ∨ q = 3 ∨ q = 4 ∨ q = 5) with rfl | rfl | rfl | rfl | rfl | rfl
  · rw [hle 1 (by omega)]; exact nx
  · rw [hle 2 (by omega)]; exact nx
  · rw [hle 3 (by omega)]; exact nx
  · rw [hle 4 (by omega)]; exact nx
  · rw [hle 5 (by omega)]; exact nx
  · rw [hle 6 (by omega)]; exact nx
def dS (g : GGraph) (j : GJob) (s : GState) (p : Nat) : Did := doS g j (cutS g j s (p : Int))
def fN (g : GGraph) (j : GJob) (s : GState) (i x : Nat) : LL := if x < j.Parts.toNat then (List.range i).map (fun p => (dS g j s p).2.1.getD x []) else []
def didL (g : GGraph) (j : GJob) (s : GState) (i : Nat) : List GPart := (List.range i).map fun p => (dS g j s p).1
theorem cut_nice {g : GGraph} {j : GJob} {s : GState} (hn : niceS s) (p : Int) : niceP (cutS g j s p) := by
 have h0 : i64 0 := by unfold i64; omega
 refine ⟨fun v hv => ?_, fun m hm => hn.2 m (List.mem_filter.1 hm).1⟩
 obtain ⟨u, _, rfl⟩ := List.mem_map.1 hv
 rw [List.getD_eq_getElem?_getD]
 cases hq : s.Vals[u]? with
 | none => exact h0
 | some y => exact hn.1 y (List.mem_of_getElem? hq)
theorem outer40 {K : Nat} (hK : 3000 ≤ K) {g : GGraph} {j : GJob} {s : GState} (hr : stRight g j s = true) (h40 : ieq s.Step 40 = false) (hf : fitsS j s) (hn : niceS s) :
 ∀ (m i k : Nat), i + m = j.Parts.toNat → m < k →
  F40_l0_0 K g j (stepS g j s) (splitS g j s, 0) k (didL g j s i) (i : Int) (fN g j s i 0) (fN g j s i 1) (fN g j s i 2) (fN g j s i 3) (fN g j s i 4) (fN g j s i 5) = some (.inl true) ∨
  ((∀ p, i ≤ p → p < j.Parts.toNat → (dS g j s p).2.2 = 0) ∧
   F40_l0_0 K g j (stepS g j s) (splitS g j s, 0) k (didL g j s i) (i : Int) (fN g j s i 0) (fN g j s i 1) (fN g j s i 2) (fN g j s i 3) (fN g j s i 4) (fN g j s i 5) = some (.inr (didL g j s j.Parts.toNat, tup (fN g j s j.Parts.toNat)))) := by
 obtain ⟨hc, _, _, _, _, s5⟩ := stRight_ok hr
 obtain ⟨hg, p1, p2, _, _, _, _, p7, p8⟩ := jcheck_ok hc
 obtain ⟨g1, g2, _⟩ := gcheck_ok hg
 have hIn := inSt_len s5 (by omega)
 have hlen : (splitS g j s).length = j.Parts.toNat := by simp [splitS]
 intro m
 induction m with
 | zero =>
  intro i k hi hk
  obtain ⟨k, rfl⟩ : ∃ z, k = z + 1 := ⟨k - 1, by omega⟩
  have : i = j.Parts.toNat := by omega
  subst this
  refine .inr ⟨fun p h1 h2 => by omega, ?_⟩
  rw [F40_l0_0, ilt_f.2 (by show (((splitS g j s).length : Nat) : Int) ≤ _; omega)]; rfl
 | succ m ih =>
  intro i k hi hk
  obtain ⟨k, rfl⟩ : ∃ z, k = z + 1 := ⟨k - 1, by omega⟩
  have hget : (splitS g j s)[i]? = some (cutS g j s (i : Int)) := by
   rw [splitS, List.getElem?_map, List.getElem?_range (by omega)]; rfl
  have r1 : inr (i : Int) (len (splitS g j s)) = true := decide_eq_true ⟨by omega, by show (i : Int) < (((splitS g j s).length : Nat) : Int); omega⟩
  have r2 : elAt (splitS g j s) (i : Int) = some (cutS g j s (i : Int)) := by rw [elAt_nat]; exact hget
  have hcl : (cutS g j s (i : Int)).In.length ≤ 300 := by
   have : (s.In.filter fun m => ieq (m.To % j.Parts) (i : Int)).length ≤ s.In.length := List.length_filter_le _ _
   show (s.In.filter _).length ≤ 300; omega
  have hD := F116_spec hK g j (cutS g j s (i : Int)) (cut_nice hn _) hcl (show i64 (i : Int) by unfold i64; omega)
  have hDd : doS g j (cutS g j s (i : Int)) = dS g j s i := rfl
  rw [F40_l0_0, ilt_iff.2 (by show (i : Int) < (((splitS g j s).length : Nat) : Int); omega), r1, r2]
  simp only [cond_true, Option.bind_some, hD, hDd]
  rcases do_part hr h40 hf (p := i) (by omega) with ⟨a1, a2⟩ | ⟨_, _, a3⟩
  · left
    have e1 : ieq (dS g j s i).2.2 0 = false := by rw [dS, a1]; rfl
    have e2 : ieq (dS g j s i).2.2 8 = true := by rw [dS, a1]; rfl
    have e3 : ieq (stepS g j s).2 8 = true := by rw [a2]; rfl
    rw [e1, e2, e3]; rfl
  · have e1 : ieq (dS g j s i).2.2 0 = true := by rw [dS, a3]; rfl
    have ho : (dS g j s i).2.1.length = j.Parts.toNat := by rw [dS, a3]; simp
    have e2 : ieq (nlen (len (dS g j s i).2.1)) j.Parts = true := ieq_iff.2 (by show (((dS g j s i).2.1.length : Nat) : Int) = _; omega)
    have hdl : (didL g j s i).length = i := by simp [didL]
    have ap : apok (len (didL g j s i)) 1 88 = true := decide_eq_true ⟨by show (didL g j s i).length + 1 ≤ _; omega, by show ((didL g j s i).length + 1) * 88 ≤ _; omega⟩
    have hfl : ∀ x, (fN g j s i x).length + j.Parts.toNat ≤ 100 := fun x => by
     rw [fN]; split
     · rw [List.length_map, List.length_range]; omega
     · simp; omega
    have hin := inner40 (K := K) g j (stepS g j s) (splitS g j s, 0) (didL g j s i) (i : Int) (dS g j s i) p7 p8 ho j.Parts.toNat 0 K (fN g j s i) (by omega) (by omega) hfl
    have hnx : (fun x => if 0 ≤ x ∧ x < j.Parts.toNat then fN g j s i x ++ [(dS g j s i).2.1.getD x []] else fN g j s i x) = fN g j s (i + 1) := by
     funext x
     by_cases hx : x < j.Parts.toNat
     · rw [if_pos ⟨Nat.zero_le _, hx⟩, fN, if_pos hx, fN, if_pos hx, List.range_succ, List.map_append]; rfl
     · rw [if_neg (fun h => hx h.2), fN, if_neg hx, fN, if_neg hx]
    rw [hnx] at hin
    have hin' : F40_l1_1 K g j (stepS g j s) (splitS g j s, 0) (didL g j s i) (i : Int) (dS g j s i) K 0 (fN g j s i 0) (fN g j s i 1) (fN g j s i 2) (fN g j s i 3) (fN g j s i 4) (fN g j s i 5) = some (tup (fN g j s (i + 1))) := hin
    have hdn : appL (didL g j s i) [(dS g j s i).1] = didL g j s (i + 1) := by rw [didL, didL, List.range_succ, List.map_append]; rfl
    simp only [e1, cond_true, e2, ap, hin', Option.bind_some, hdn, wadd_nat (show i < 4611686018427387904 by omega), tup]
    rcases ih (i + 1) k (by omega) (by omega) with b | ⟨b1, b2⟩
    · exact .inl b
    · refine .inr ⟨fun p hp1 hp2 => ?_, b2⟩
      by_cases hpi : p = i
      · rw [hpi]; exact ieq_iff.1 e1
      · exact b1 p (by omega) hp2
theorem ins_len {g : GGraph} {j : GJob} {s : GState} (h1 : 1 ≤ j.Parts) (h6 : j.Parts ≤ 6) (hN : g.N ≤ 24) (h0 : 1 ≤ g.N) (hn : niceS s) (q : Int) : (insS g j s q).length ≤ 6 ∧ (insS g j s q).flatten.length ≤ 600 ∧ ∀ m ∈ (insS g j s q).flatten, i64 m.V := by
 have hl : (insS g j s q).length ≤ 6 := by rw [insS, List.length_map, List.length_range]; omega
 have hv : ∀ p : Int, ∀ m ∈ toS j (cP g j s p) q, i64 m.V := fun p m hm => by
  obtain ⟨v, _, hv⟩ := List.mem_flatMap.1 (toS_mem hm).1
  exact (one_i64 hn).2 m hv
 have h100 : ∀ l ∈ insS g j s q, l.length ≤ 100 := fun l hl => by
  obtain ⟨p, _, rfl⟩ := List.mem_map.1 hl
  obtain ⟨r1, r2⟩ := boxS_rise (p := j.Prog) (l := toS j (cP g j s (p : Int)) q)
  have := inSt_len (inSt_mk (n := g.N) (v := -1) r1 fun m hm => by
   obtain ⟨u, hu, e⟩ := r2 m hm
   obtain ⟨v, _, hv⟩ := List.mem_flatMap.1 (toS_mem hu).1
   have := sent_To u hv
   omega) (by omega)
  omega
 refine ⟨hl, by have := many_flat _ h100; omega, fun m hm => ?_⟩
 obtain ⟨l, hl, hm⟩ := List.mem_flatten.1 hm
 obtain ⟨p, _, rfl⟩ := List.mem_map.1 hl
 exact (boxS_ok (p := j.Prog) (hv (p : Int))).2 m hm
def tS (g : GGraph) (j : GJob) (s : GState) (q : Nat) : GPart × Int := takeS g j (didP g j s (q : Int) []) (insS g j s (q : Int)).flatten
def goodT (g : GGraph) (j : GJob) (s : GState) (q : Nat) : Prop := ∃ w, takeS g j (didP g j s (q : Int) []) (insS g j s (q : Int)).flatten = (didP g j s (q : Int) w, 0) ∧ w.Pairwise (fun a b => a.To < b.To) ∧ (∀ t, acc j.Prog t (toS j (cW g j s) (q : Int)) ≠ some none) ∧
 ∀ m, m ∈ w ↔ acc j.Prog m.To (toS j (cW g j s) (q : Int)) = some (some m.V)
theorem taker40 {K : Nat} (hK : 3000 ≤ K) {g : GGraph} {j : GJob} {s : GState} (hr : stRight g j s = true) (h40 : ieq s.Step 40 = false) (hf : fitsS j s) (hn : niceS s)
 (hall : ∀ p < j.Parts.toNat, (∀ v ∈ vertsS g j (p : Int), ieq (oneS g j s v).2.2.2 0 = true) ∧ (∀ q < j.Parts.toNat, ieq (boxS j.Prog (toS j (cP g j s (p : Int)) (q : Int))).2 0 = true) ∧
  dS g j s p = (didP g j s (p : Int) [], (List.range j.Parts.toNat).map (fun (q : Nat) => (boxS j.Prog (toS j (cP g j s (p : Int)) (q : Int))).1), 0)) :
 ∀ (m i k : Nat), i + m = j.Parts.toNat → m < k →
  F40_l2_2 K g j (stepS g j s) (didL g j s j.Parts.toNat, tup (fN g j s j.Parts.toNat)) k ((List.range i).map fun q => (tS g j s q).1) (i : Int) = some (.inl true) ∨
  ((∀ q, i ≤ q → q < j.Parts.toNat → goodT g j s q) ∧
   F40_l2_2 K g j (stepS g j s) (didL g j s j.Parts.toNat, tup (fN g j s j.Parts.toNat)) k ((List.range i).map fun q => (tS g j s q).1) (i : Int) = some (.inr ((List.range j.Parts.toNat).map fun q => (tS g j s q).1))) := by
 obtain ⟨hc, _⟩ := stRight_ok hr
 obtain ⟨hg, p1, p2, _, _, _, _, p7, p8⟩ := jcheck_ok hc
 obtain ⟨g1, g2, _⟩ := gcheck_ok hg
 have hb : pbad j.Prog = false := by rw [pbad, ilt_f.2 p1, ilt_f.2 p2]; rfl
 have hlen : (didL g j s j.Parts.toNat).length = j.Parts.toNat := by simp [didL]
 have hvall : ∀ v : Nat, (v : Int) < g.N → ieq (oneS g j s v).2.2.2 0 = true := fun v hvN => by
  have hm0 : 0 ≤ (v : Int) % j.Parts := Int.emod_nonneg _ (by omega)
  have hm1 : (v : Int) % j.Parts < j.Parts := Int.emod_lt_of_pos _ (by omega)
  have := (hall ((v : Int) % j.Parts).toNat (by omega)).1 v
  rw [show (((v : Int) % j.Parts).toNat : Int) = (v : Int) % j.Parts by omega] at this
  exact this ((mem_verts p7).2 ⟨hvN, rfl⟩)
 have hfN : ∀ q : Nat, q < j.Parts.toNat → fN g j s j.Parts.toNat q = insS g j s (q : Int) := fun q hq => by
  rw [fN, if_pos hq, insS]
  refine List.map_congr_left fun p hp => ?_
  rw [(hall p (List.mem_range.1 hp)).2.2]
  dsimp only
  rw [getD_map _ _ _ (show q < (List.range j.Parts.toNat).length by rw [List.length_range]; exact hq), List.getElem_range]
 intro m
 induction m with
 | zero =>
  intro i k hi hk
  obtain ⟨k, rfl⟩ : ∃ z, k = z + 1 := ⟨k - 1, by omega⟩
  have : i = j.Parts.toNat := by omega
  subst this
  refine .inr ⟨fun p h1 h2 => by omega, ?_⟩
  rw [F40_l2_2, ilt_f.2 (by show (((didL g j s j.Parts.toNat).length : Nat) : Int) ≤ _; omega)]; rfl
 | succ m ih =>
  intro i k hi hk
  obtain ⟨k, rfl⟩ : ∃ z, k = z + 1 := ⟨k - 1, by omega⟩
  have hiP : i < j.Parts.toNat := by omega
  have hget : (didL g j s j.Parts.toNat)[i]? = some (didP g j s (i : Int) []) := by
   rw [didL, List.getElem?_map, List.getElem?_range hiP]
   show some (dS g j s i).1 = _
   rw [(hall i hiP).2.2]
  have r1 : inr (i : Int) (len (didL g j s j.Parts.toNat)) = true := decide_eq_true ⟨by omega, by show (i : Int) < (((didL g j s j.Parts.toNat).length : Nat) : Int); omega⟩
  have r2 : elAt (didL g j s j.Parts.toNat) (i : Int) = some (didP g j s (i : Int) []) := by rw [elAt_nat]; exact hget
  have i1 : inr (i : Int) (nint j.Parts) = true := decide_eq_true ⟨by omega, by show (i : Int) < ((j.Parts.toNat : Nat) : Int); omega⟩
  have hle : ∀ n : Nat, n ≤ j.Parts.toNat → lle n (nint j.Parts) = true := fun n hn => (ble_iff _ _).2 hn
  obtain ⟨n1, n2, n3⟩ := ins_len (g := g) p7 p8 g2 g1 hn (i : Int)
  have hvl := verts_len g j g2 (i : Int)
  have hT : F121 K g j (didP g j s (i : Int) []) (fN g j s j.Parts.toNat i) = some (tS g j s i) := by
   rw [hfN i hiP]
   exact F121_spec (by omega) g j _ _ (show i64 (i : Int) by unfold i64; omega) (Nat.zero_le _) (by simp only [didP, List.length_map]; omega) (by simp only [didP, List.length_map]; omega) (by omega) (by omega) (by omega) n3
  have ap : apok (len (α := GPart) ((List.range i).map fun q => (tS g j s q).1)) 1 88 = true := decide_eq_true ⟨by show ((List.range i).map fun q => (tS g j s q).1).length + 1 ≤ _; rw [List.length_map, List.length_range]; omega, by show (((List.range i).map fun q => (tS g j s q).1).length + 1) * 88 ≤ _; rw [List.length_map, List.length_range]; omega⟩
  have hdn : appL ((List.range i).map fun q => (tS g j s q).1) [(tS g j s i).1] = (List.range (i + 1)).map fun q => (tS g j s q).1 := by rw [List.range_succ, List.map_append]; rfl
  have hw : wadd .i64 (i : Int) 1 = ((i + 1 : Nat) : Int) := wadd_nat (by omega)
  have tl : ∀ (X : Option (Bool ⊕ List GPart)), X = (bif ieq (tS g j s i).2 0 then F40_l2_2 K g j (stepS g j s) (didL g j s j.Parts.toNat, tup (fN g j s j.Parts.toNat)) k ((List.range (i + 1)).map fun q => (tS g j s q).1) ((i + 1 : Nat) : Int)
   else bif ieq (tS g j s i).2 8 then (bif ieq (stepS g j s).2 8 then some (.inl true) else some (.inl false)) else some (.inl false)) →
   X = some (.inl true) ∨ ((∀ q, i ≤ q → q < j.Parts.toNat → goodT g j s q) ∧ X = some (.inr ((List.range j.Parts.toNat).map fun q => (tS g j s q).1))) := by
   intro X hX
   rcases take_part hr h40 hf (q := i) (by omega) (fun p hp => (hall p hp).2.1 i hiP) with ⟨a1, t, a2⟩ | a3
   · left
     have e1 : (tS g j s i) = (zeroP, 8) := a1
     have e3 : (stepS g j s).2 = 8 := by
      rcases step_all hr h40 hf hvall with ⟨a, _⟩ | ⟨w, _, _, a, _⟩
      · exact a
      · obtain ⟨b, hbp⟩ := toS_sub j (cW g j s) (i : Int)
        exact absurd (acc_sub hb hbp a2) (a t)
     rw [hX, e1, e3]; rfl
   · have e1 : ieq (tS g j s i).2 0 = true := by
      obtain ⟨w, q1, _⟩ := a3
      rw [tS, q1]; rfl
     rw [e1, cond_true] at hX
     rcases ih (i + 1) k (by omega) (by omega) with b | ⟨b1, b2⟩
     · exact .inl (hX.trans b)
     · refine .inr ⟨fun q hq1 hq2 => ?_, hX.trans b2⟩
       by_cases hqi : q = i
       · rw [hqi]; exact a3
       · exact b1 q (by omega) hq2
  apply tl
  rw [F40_l2_2]
  dsimp only [tup]
  rw [ilt_iff.2 (by show (i : Int) < (((didL g j s j.Parts.toNat).length : Nat) : Int); omega), r1, r2, i1, hw]
  simp only [cond_true, Option.bind_some, ap]
  rcases (by omega : i = 0 ∨ i = 1 ∨ i = 2 ∨ i = 3 ∨ i = 4 ∨ i = 5) with rfl | rfl | rfl | rfl | rfl | rfl
  · rw [hle 1 (by omega), hT]; simp only [Option.bind_some, hdn]; rfl
  · rw [hle 2 (by omega), hT]; simp only [Option.bind_some, hdn]; rfl
  · rw [hle 3 (by omega), hT]; simp only [Option.bind_some, hdn]; rfl
  · rw [hle 4 (by omega), hT]; simp only [Option.bind_some, hdn]; rfl
  · rw [hle 5 (by omega), hT]; simp only [Option.bind_some, hdn]; rfl
  · rw [hle 6 (by omega), hT]; simp only [Option.bind_some, hdn]; rfl
theorem law40 (g : GGraph) (j : GJob) (s : GState) (_ : WGGraph g) (_ : WGJob j) (hs : WGState s) : F40 3000 g j s = some true := by
 generalize hq : 3000 = K
 have hK : 3000 ≤ K := by omega
 have hn := wf_nice hs
 rw [F40, F113, F125_spec, Option.bind_some, Option.bind_some]
 cases igt (nlen (len g.Edges)) 200
 · cases hb : wideS8 s
   · obtain ⟨b1, b2, b3⟩ := wideS8_f hb
     rw [cond_false, cond_false, F88_spec (by omega) g j s (by omega) (by omega), Option.bind_some]
     cases hr : stRight g j s
     · rfl
     · rw [cond_true]
       cases h40 : ieq s.Step 40
       · rw [cond_false, F126_spec j s (by omega) (by omega) (by omega) (by omega), Option.bind_some]
         cases hfit : (bif ieq j.Prog 5 then (s.Vals.all fun v => ile 0 v) && s.In.all fun m => ile 0 m.V else true)
         · rfl
         · have hf := fits_of hfit
           obtain ⟨hc, s1, s2, s3, s4, s5⟩ := stRight_ok hr
           obtain ⟨hg, _, _, _, _, _, _, p7, p8⟩ := jcheck_ok hc
           obtain ⟨g1, g2, _⟩ := gcheck_ok hg
           have hIn := inSt_len s5 (by omega)
           have hgood : goodS s := ⟨hn, by omega, by omega, by omega⟩
           have hsp : splitR g j s = (splitS g j s, 0) := by rw [splitR, hc, hr]; rfl
           have hlen : ieq (nlen (len (splitS g j s))) j.Parts = true := ieq_iff.2 (by show (((splitS g j s).length : Nat) : Int) = _; simp [splitS]; omega)
           have hmk : mkbx j.Parts j.Parts = true := decide_eq_true ⟨by omega, by omega, rfl⟩
           have z : ieq 0 0 = true := rfl
           have f0 : ∀ x, fN g j s 0 x = [] := fun x => by rw [fN]; split <;> rfl
           have d0 : didL g j s 0 = [] := rfl
           have hout := outer40 hK hr h40 hf hn j.Parts.toNat 0 K (by omega) (by omega)
           simp only [f0, d0] at hout
           have n0 : ((0 : Nat) : Int) = 0 := rfl
           rw [n0] at hout
           rw [cond_true, F112_spec (by omega) g j s hn (by omega) (by omega), F83_spec (by omega) g j s (by omega), hsp, Option.bind_some, Option.bind_some]
           simp only [z, hlen, hmk, cond_true]
           rcases hout with h1 | ⟨h1, h2⟩
           · rw [h1]; rfl
           · rw [h2]
             simp only [Option.bind_some, Sum.elim_inr]
             have hall : ∀ p < j.Parts.toNat, (∀ v ∈ vertsS g j (p : Int), ieq (oneS g j s v).2.2.2 0 = true) ∧ (∀ q < j.Parts.toNat, ieq (boxS j.Prog (toS j (cP g j s (p : Int)) (q : Int))).2 0 = true) ∧
              dS g j s p = (didP g j s (p : Int) [], (List.range j.Parts.toNat).map (fun (q : Nat) => (boxS j.Prog (toS j (cP g j s (p : Int)) (q : Int))).1), 0) := fun p hp => by
              rcases do_part hr h40 hf (p := p) (by omega) with ⟨a1, _⟩ | a
              · have := h1 p (Nat.zero_le _) hp
                rw [dS, a1] at this; cases this
              · exact a
             rcases taker40 hK hr h40 hf hn hall j.Parts.toNat 0 K (by omega) (by omega) with h3 | ⟨h3, h4⟩
             · have h3' : F40_l2_2 K g j (stepS g j s) (didL g j s j.Parts.toNat, tup (fN g j s j.Parts.toNat)) K [] 0 = some (.inl true) := h3
               rw [h3']; rfl
             · have h4' : F40_l2_2 K g j (stepS g j s) (didL g j s j.Parts.toNat, tup (fN g j s j.Parts.toNat)) K [] 0 = some (.inr ((List.range j.Parts.toNat).map fun q => (tS g j s q).1)) := h4
               obtain ⟨e0, eT⟩ := all_good hr h40 hf (fun p hp => (hall p hp).1) (fun q hq => h3 q (Nat.zero_le _) hq)
               have e0' : ieq (stepS g j s).2 0 = true := by rw [e0]; rfl
               have hS1 := step_right hgood e0'
               obtain ⟨hg1, _⟩ := step_good hgood e0'
               have hl : ((List.range j.Parts.toNat).map fun q => (tS g j s q).1) = splitS g j (stepS g j s).1 := by
                rw [splitS]
                refine List.map_congr_left fun q hq => ?_
                rw [tS, eT q (List.mem_range.1 hq)]
               have l1 := hg1.lin
               have l2 := hg1.lre
               have l3 := hg1.lva
               have hj := (join_spec (K := K) (by omega) g j (splitS g j (stepS g j s).1) fun x hx => by
                obtain ⟨p, hp, rfl⟩ := List.mem_map.1 hx
                have hp' := List.mem_range.1 hp
                have : ((stepS g j s).1.In.filter fun m => ieq (m.To % j.Parts) (p : Int)).length ≤ (stepS g j s).1.In.length := List.length_filter_le _ _
                exact ⟨by show ((stepS g j s).1.In.filter _).length < 1000; omega, by show -9223372036854775808 ≤ (p : Int) ∧ (p : Int) ≤ 9223372036854775807; omega⟩).1
               rw [join_back hS1] at hj
               have h87 : F87 K (stepS g j s).1 (stepS g j s).1 = some true := same87 _ ⟨⟨by omega, by omega⟩, ⟨by omega, by omega⟩, by omega, by omega⟩
               rw [h4']
               simp only [Option.bind_some, Sum.elim_inr, hl, hj, e0', cond_true, z, h87]
       · rfl
   · rfl
 · rfl
end Go.Proofs.Ytnjanliihnadjaa.Tm

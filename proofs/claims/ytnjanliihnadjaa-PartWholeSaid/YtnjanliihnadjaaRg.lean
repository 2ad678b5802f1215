/- The plain law of PartWhole. Conditions: none. -/
import Derived.Test.YtnjanliihnadjaaRf
import Derived.Test.YtnjanliihnadjaaSr
import Derived.Test.YtnjanliihnadjaaFL20
set_option linter.unusedVariables false
set_option linter.unusedSimpArgs false
namespace Go.Proofs.Ytnjanliihnadjaa.Tm
open Go

theorem splitS_get {g : GGraph} {j : GJob} {s : GState} {i : Nat} {x : GPart} {r : List GPart} (h : (splitS g j s).drop i = x :: r) : i < j.Parts.toNat ∧ x = cutS g j s (i : Int) := by
  obtain ⟨n1, n2, hi⟩ := prev_next h
  have hl : (splitS g j s).length = j.Parts.toNat := by simp [splitS]
  have e : (splitS g j s)[i]? = some x := n1
  rw [splitS, List.getElem?_map, List.getElem?_range (by omega)] at e
  exact ⟨by omega, by simpa using e.symm⟩

theorem F20_first {K : Nat} (hK : 10000 ≤ K) (g : GGraph) (j : GJob) (s : GState) (e0 : Int) (h : stRight g j s = true) (hin : s.In.length ≤ 300) :
    F20_l0_0 K g j s (splitS g j s, e0) K 0 [] 0 = some (.inr (((((splitS g j s).map fun x => x.Vals.length).sum : Nat) : Int), (splitS g j s).map fun x => x.In)) := by
  obtain ⟨hc, s1, s2, s3, s4, s5⟩ := stRight_ok h
  obtain ⟨hg, p1, p2, p3, p4, p5, p6, p7, p8⟩ := jcheck_ok hc
  obtain ⟨g1, g2, _, _⟩ := gcheck_ok hg
  have hl : (splitS g j s).length = j.Parts.toNat := by simp [splitS]
  let step : Nat → GPart → Int × List (List GMsg) → (Int × List (List GMsg) → Option (Unit ⊕ (Int × List (List GMsg)))) → Option (Unit ⊕ (Int × List (List GMsg))) := fun i x st c =>
      (F77 K g j (i : Int)).bind fun r =>
      bif (ieq r (nlen (len x.Vals))) then
        ((F80 K g j x).bind fun r =>
        bif r then
          (bif (apok (len st.2) 1 24) then c (wadd .i64 st.1 (nlen (len x.Vals)), appL st.2 [x.In]) else none)
        else some (.inl ()))
      else some (.inl ())
  let fin : Int × List (List GMsg) → Option (Unit ⊕ (Int × List (List GMsg))) := fun st => some (.inr st)
  have hs := scanI (l := splitS g j s) (L := fun k (st : Int × List (List GMsg)) i => F20_l0_0 K g j s (splitS g j s, e0) k st.1 st.2 i) step fin (fun k s i _ => rfl) (by omega) K (0, []) 0 (by omega) (by omega)
  have hw : ∀ (r : List GPart) (i n : Nat) (a : List (List GMsg)), (splitS g j s).drop i = r → n + 100 * r.length ≤ 10000 → a.length + r.length ≤ 100 → goI step fin i r ((n : Int), a) = some (.inr (((n + (r.map fun x => x.Vals.length).sum : Nat) : Int), a ++ r.map fun x => x.In)) := by
    intro r
    induction r with
    | nil => intro i n a _ _ _; simp [goI, fin]
    | cons x r ih =>
      intro i n a hr hn ha
      simp only [List.length_cons] at hn ha
      obtain ⟨hi, hx⟩ := splitS_get hr
      obtain ⟨_, n2, _⟩ := prev_next hr
      have hpr : partRight g j x = true := by rw [hx]; exact cut_right h (by omega)
      obtain ⟨_, _, _, _, _, v1, _, _⟩ := partRight_ok hpr
      have hxP : x.P = (i : Int) := by rw [hx]; rfl
      have hxl : x.Vals.length ≤ 24 := by
        have := verts_len g j g2 (i : Int)
        rw [hx]; simp [cutS]; exact this
      have hxI : x.In.length ≤ 300 := by
        rw [hx]; exact Nat.le_trans (List.length_filter_le _ _) hin
      have e77 : F77 K g j (i : Int) = some (x.Vals.length : Int) := by
        rw [F77_spec (by omega) g j _ ⟨by omega, by omega⟩, hc, v1, hxP]; rfl
      have e80 : F80 K g j x = some true := by rw [F80_spec (by omega) g j x (by omega) (by omega) ⟨by omega, by omega⟩, hpr]
      have nl : nlen (len x.Vals) = (x.Vals.length : Int) := rfl
      have ap : apok (len a) 1 24 = true := decide_eq_true ⟨by show a.length + 1 ≤ _; omega, by show (a.length + 1) * 24 ≤ _; omega⟩
      have w : wadd .i64 (n : Int) (x.Vals.length : Int) = ((n + x.Vals.length : Nat) : Int) := by
        show IntKind.i64.wrap _ = _
        rw [IntKind.wrap_i64]; omega
      rw [goI]
      show ((F77 K g j (i : Int)).bind fun r' =>
      bif (ieq r' (nlen (len x.Vals))) then
        ((F80 K g j x).bind fun r' =>
        bif r' then
          (bif (apok (len a) 1 24) then goI step fin (i + 1) r (wadd .i64 (n : Int) (nlen (len x.Vals)), appL a [x.In]) else none)
        else some (.inl ()))
      else some (.inl ())) = _
      rw [e77, Option.bind_some, nl, ieq_refl, cond_true, e80, Option.bind_some, cond_true, ap, cond_true, w, ih (i + 1) _ _ n2 (by omega) (by simp [appL]; omega)]
      simp [appL, Nat.add_assoc]
  have := hw (splitS g j s) 0 0 [] rfl (by omega) (by simp; omega)
  rw [List.drop_zero] at hs
  have e : goI step fin 0 (splitS g j s) ((0 : Int), []) = _ := this
  rw [e] at hs
  simpa using hs

theorem F20_second {K : Nat} (hK : 10000 ≤ K) (g : GGraph) (j : GJob) (s : GState) (e0 : Int) (w0 : Int × List (List GMsg)) (h : stRight g j s = true) : F20_l1_1 K g j s (splitS g j s, e0) w0 K 0 = some (.inr ()) := by
  obtain ⟨hc, s1, s2, s3, s4, s5⟩ := stRight_ok h
  obtain ⟨hg, p1, p2, p3, p4, p5, p6, p7, p8⟩ := jcheck_ok hc
  obtain ⟨g1, g2, _, _⟩ := gcheck_ok hg
  have hl : (splitS g j s).length = j.Parts.toNat := by simp [splitS]
  obtain ⟨m, hm⟩ := Int.eq_ofNat_of_zero_le (show 0 ≤ j.Parts by omega)
  have hmt : j.Parts.toNat = m := by omega
  have hok : okAll g j s.Step 0 (splitS g j s) = true := by
    rw [splitS, List.range_eq_range']
    exact split_okAll h j.Parts.toNat 0 (by omega)
  let step : Nat → Unit → (Unit → Option (Unit ⊕ Unit)) → Option (Unit ⊕ Unit) := fun v _ c =>
      (F75 K j (v : Int)).bind fun r =>
      bif (ilt r 0) then (some (.inl ())) else
      bif (ile (nlen (len (splitS g j s))) r) then (some (.inl ())) else
      bif (izero j.Parts) then none else
      bif (inr r (len (splitS g j s))) then
      (elAt (splitS g j s) r).bind fun x4002 =>
      bif (ile (nlen (len x4002.Vals)) (wquo .i64 (v : Int) j.Parts)) then (some (.inl ())) else
      bif (inr (wquo .i64 (v : Int) j.Parts) (len x4002.Vals)) then
      (elAt x4002.Vals (wquo .i64 (v : Int) j.Parts)).bind fun x4006 =>
      bif (inr (v : Int) (len s.Vals)) then
      (elAt s.Vals (v : Int)).bind fun x4009 =>
      bif (ieq x4006 x4009) then c () else some (.inl ())
      else none
      else none
      else none
  have hs := scanN (N := g.N) (L := fun k (_ : Unit) i => F20_l1_1 K g j s (splitS g j s, e0) w0 k i) step (fun _ => some (.inr ())) (fun k s i _ => rfl) (by omega) (K := K) (by omega) ()
  have hw : ∀ (r : List Nat), (∀ v ∈ r, (v : Int) < g.N) → goL step (fun _ => some (.inr ())) r () = some (.inr ()) := by
    intro r
    induction r with
    | nil => intro _; rfl
    | cons v r ih =>
      intro hv
      have hv0 := hv v List.mem_cons_self
      have ja := joinAt hc (show ((splitS g j s).length : Int) = j.Parts by omega) hok hv0
      have hhome : homeS j (v : Int) = ((v % m : Nat) : Int) := by
        rw [homeS, ilt_f.2 (by omega : (0 : Int) ≤ (v : Int)), ilt_f.2 p7, ilt_f.2 p8, hm]; simp
      have hmod := Nat.mod_lt v (show 0 < m by omega)
      have hpt : partAt (splitS g j s) j v = cutS g j s ((v % m : Nat) : Int) := by
        unfold partAt
        rw [hmt]; exact split_getD (by omega)
      have hslot := slot_verts (n := g.N.toNat) (parts := j.Parts.toNat) (by omega) (by omega) (by omega) (v := v) (by omega)
      have hval : (partAt (splitS g j s) j v).Vals.getD (v / j.Parts.toNat) 0 = s.Vals.getD v 0 := by
        rw [hpt, cutS, vertsS]
        rw [hmt] at hslot ⊢
        simp only [List.getD, List.getElem?_map, hslot.2, Option.map_some, Option.getD_some]
      obtain ⟨w1, w2⟩ := getD_at (l := s.Vals) 0 (show v < s.Vals.length by omega)
      have i2 := inr_iff.1 ja.i2
      have r1 := ja.i1; have r2 := ja.e1
      rw [hmt] at r1 r2
      have hq : ile (nlen (len (partAt (splitS g j s) j v).Vals)) ((v / j.Parts.toNat : Nat) : Int) = false := ile_f.2 i2.2
      rw [goL]
      show ((F75 K j (v : Int)).bind fun r' =>
      bif (ilt r' 0) then (some (.inl ())) else
      bif (ile (nlen (len (splitS g j s))) r') then (some (.inl ())) else
      bif (izero j.Parts) then none else
      bif (inr r' (len (splitS g j s))) then
      (elAt (splitS g j s) r').bind fun x4002 =>
      bif (ile (nlen (len x4002.Vals)) (wquo .i64 (v : Int) j.Parts)) then (some (.inl ())) else
      bif (inr (wquo .i64 (v : Int) j.Parts) (len x4002.Vals)) then
      (elAt x4002.Vals (wquo .i64 (v : Int) j.Parts)).bind fun x4006 =>
      bif (inr (v : Int) (len s.Vals)) then
      (elAt s.Vals (v : Int)).bind fun x4009 =>
      bif (ieq x4006 x4009) then goL step (fun _ => some (.inr ())) r () else some (.inl ())
      else none
      else none
      else none) = _
      rw [F75_spec, hhome, Option.bind_some, ilt_f.2 (by omega : (0 : Int) ≤ ((v % m : Nat) : Int)), cond_false, ile_f.2 (by show ((v % m : Nat) : Int) < ((splitS g j s).length : Int); omega), cond_false, ja.z, cond_false,
        r1, cond_true, r2, Option.bind_some, ja.q, hq, cond_false, ja.i2, cond_true, ja.e2, Option.bind_some, w1, cond_true, w2, Option.bind_some, hval, ieq_refl, cond_true]
      exact ih fun x hx => hv x (List.mem_cons_of_mem _ hx)
  rw [hw _ (fun v hv => by have := List.mem_range.1 hv; omega)] at hs
  exact hs

theorem split_sum {g : GGraph} {j : GJob} {s : GState} (h : stRight g j s = true) : ((((splitS g j s).map fun x => x.Vals.length).sum : Nat) : Int) = g.N := by
  obtain ⟨hc, s1, s2, s3, s4, s5⟩ := stRight_ok h
  obtain ⟨hg, p1, p2, p3, p4, p5, p6, p7, p8⟩ := jcheck_ok hc
  obtain ⟨g1, g2, _, _⟩ := gcheck_ok hg
  have e := sum_all j.Parts.toNat (by omega) (by omega) g.N.toNat (by omega)
  have e2 : (splitS g j s).map (fun x => x.Vals.length) = (List.range j.Parts.toNat).map fun p => (g.N.toNat + j.Parts.toNat - 1 - p) / j.Parts.toNat := by
    rw [splitS, List.map_map]
    refine List.map_congr_left fun p hp => ?_
    have hp' := List.mem_range.1 hp
    show ((vertsS g j (p : Int)).map fun v => s.Vals.getD v 0).length = _
    rw [List.length_map, vertsS, vertsN_len (by omega) (by omega) (by omega) hp']
  rw [e2, e]; omega

/-- Parted by classes: all of them together. -/
theorem perm_classes {parts : Int} (hp : 1 ≤ parts) : ∀ (l : List GMsg), (∀ m ∈ l, 0 ≤ m.To) → (((List.range parts.toNat).map fun (p : Nat) => l.filter fun m => ieq (m.To % parts) (p : Int)).flatten).Perm l
  | [], _ => by
    have : ((List.range parts.toNat).map fun (p : Nat) => ([] : List GMsg).filter fun m => ieq (m.To % parts) (p : Int)).flatten = [] := by
      rw [List.flatten_eq_nil_iff]
      intro x hx
      obtain ⟨p, _, rfl⟩ := List.mem_map.1 hx
      rfl
    rw [this]
  | m :: l, h => by
    have ih := perm_classes hp l fun x hx => h x (List.mem_cons_of_mem _ hx)
    have h0 := h m List.mem_cons_self
    have hr : 0 ≤ m.To % parts := Int.emod_nonneg _ (by omega)
    have hr2 : m.To % parts < parts := Int.emod_lt_of_pos _ (by omega)
    obtain ⟨q, hq⟩ := Int.eq_ofNat_of_zero_le hr
    have hqm : q ∈ List.range parts.toNat := List.mem_range.2 (by omega)
    obtain ⟨A, B, hAB⟩ := List.append_of_mem hqm
    have hnd : (List.range parts.toNat).Nodup := List.nodup_range
    rw [hAB] at hnd ih ⊢
    have hA : q ∉ A := fun hc => by
      have := (List.nodup_append.1 hnd).2.2 q hc q List.mem_cons_self
      exact this rfl
    have hB : q ∉ B := fun hc => by
      have := (List.nodup_append.1 hnd).2.1
      exact (List.nodup_cons.1 this).1 hc
    have same : ∀ C : List Nat, q ∉ C → (C.map fun (p : Nat) => (m :: l).filter fun x => ieq (x.To % parts) (p : Int)) = C.map fun (p : Nat) => l.filter fun x => ieq (x.To % parts) (p : Int) := fun C hC => by
      refine List.map_congr_left fun p hp => ?_
      have : ieq (m.To % parts) (p : Int) = false := ieq_f.2 (by
        rw [hq]; intro he
        have : q = p := by omega
        subst this; exact hC hp)
      rw [List.filter_cons, this]; rfl
    have hin : (m :: l).filter (fun x => ieq (x.To % parts) (q : Int)) = m :: l.filter fun x => ieq (x.To % parts) (q : Int) := by
      rw [List.filter_cons, ieq_iff.2 (show m.To % parts = (q : Int) from hq)]; rfl
    rw [List.map_append, List.map_cons, same A hA, same B hB, hin, List.flatten_append, List.flatten_cons, List.cons_append]
    rw [List.map_append, List.map_cons, List.flatten_append, List.flatten_cons] at ih
    exact List.perm_middle.trans (List.Perm.cons m ih)

theorem law20 (g : GGraph) (j : GJob) (s : GState) (_ : WGGraph g) (_ : WGJob j) (hs : WGState s) : F20 10000 g j s = some true := by
  generalize hq : 10000 = K
  have hK : 10000 ≤ K := by omega
  have hK1 : 1000 ≤ K := by omega
  have z0 : ieq 0 0 = true := rfl
  rw [F20, F73, F82_spec, Option.bind_some]
  cases igt (nlen (len g.Edges)) 200
  · rw [cond_false, Option.bind_some]
    cases hb : wideS7 s
    · obtain ⟨b1, b2, b3⟩ := wideS7_f hb
      rw [cond_false, F88_spec hK1 g j s (by omega) (by omega), Option.bind_some]
      cases hr : stRight g j s
      · rfl
      · obtain ⟨hc, s1, s2, s3, s4, s5⟩ := stRight_ok hr
        obtain ⟨hg, p1, p2, p3, p4, p5, p6, p7, p8⟩ := jcheck_ok hc
        obtain ⟨q1, q2⟩ := inSt_ok s5
        have hsp : splitR g j s = (splitS g j s, 0) := by rw [splitR, hc, hr]; rfl
        have hpc : ((splitS g j s).map fun x => x.In).flatten.Perm s.In := by
          have e : (splitS g j s).map (fun x => x.In) = (List.range j.Parts.toNat).map fun (p : Nat) => s.In.filter fun m => ieq (m.To % j.Parts) (p : Int) := by
            rw [splitS, List.map_map]; rfl
          rw [e]
          exact perm_classes p7 s.In fun m hm => by have := q2 m hm; omega
        have hlen := hpc.length_eq
        have hcl : ((splitS g j s).map fun x => x.In).length ≤ 6 := by simp [splitS]; omega
        have f90 : F90 K ((splitS g j s).map fun x => x.In) = some (sortM s.In) := by
          rw [F90_spec _ (by omega) (by omega) (by omega) (by omega), sortM_congr hpc]
        have f91 : F91 K s.In = some (sortM s.In) := F91_spec s.In (by omega) (by omega)
        have f89 : F89 K (sortM s.In) (sortM s.In) = some true := same89 _ (by rw [sortM_len]; omega) (by rw [sortM_len]; omega)
        have f1 := F20_first hK g j s 0 hr b3
        have f2 := fun w => F20_second hK g j s 0 w hr
        rw [cond_true, F83_spec hK1 g j s (by omega), hsp, Option.bind_some]
        simp only [z0, cond_true, f1, f2, Option.bind_some, Sum.elim_inr, split_sum hr, ieq_refl, f90, f91, f89]
    · rfl
  · rfl
end Go.Proofs.Ytnjanliihnadjaa.Tm

/- The plain laws of PartJoins and PartBack. Conditions: none. -/
import Derived.Test.YtnjanliihnadjaaRe
import Derived.Test.YtnjanliihnadjaaRc
import Derived.Test.YtnjanliihnadjaaQd
import Derived.Test.YtnjanliihnadjaaFL18
import Derived.Test.YtnjanliihnadjaaFL19
import Derived.Test.YtnjanliihnadjaaWf
import Derived.OpenShut
set_option linter.unusedVariables false
set_option linter.unusedSimpArgs false
namespace Go.Proofs.Ytnjanliihnadjaa.Tm
open Go

def fitS (K : Nat) (s : GState) : Prop := (s.Vals.length < 1000000 ∧ s.Vals.length < K) ∧ (s.Rest.length < 1000000 ∧ s.Rest.length < K) ∧ s.In.length < 1000000 ∧ s.In.length < K
theorem same87 {K : Nat} (s : GState) (h : fitS K s) : F87 K s s = some true := by
  rw [F87, ieq_refl, same140 s.Vals h.1.1 h.1.2, same141 s.Rest h.2.1.1 h.2.1.2, same89 s.In h.2.2.1 h.2.2.2]; rfl

theorem flat_len_le {α β : Type} (f : α → List β) (c : Nat) : ∀ (l : List α), (∀ x ∈ l, (f x).length ≤ c) → (l.flatMap f).length ≤ c * l.length
  | [], _ => by simp
  | x :: l, h => by
    have := flat_len_le f c l fun y hy => h y (List.mem_cons_of_mem _ hy)
    have := h x List.mem_cons_self
    rw [List.flatMap_cons, List.length_append, List.length_cons, Nat.mul_succ]; omega

theorem join_fit {K : Nat} (hK : 10000 ≤ K) {g : GGraph} {j : GJob} {l : List GPart} (hx : ∀ x ∈ l, x.In.length ≤ 300) : fitS K (joinR g j l).1 := by
  have h0 : fitS K noS := ⟨⟨by simp [noS], by simp [noS]; omega⟩, ⟨by simp [noS], by simp [noS]; omega⟩, by simp [noS], by simp [noS]; omega⟩
  rw [joinR]
  cases hc : ieq (jcheck g j) 0
  · exact h0
  · obtain ⟨hg, p1, p2, p3, p4, p5, p6, p7, p8⟩ := jcheck_ok hc
    obtain ⟨g1, g2, _, _⟩ := gcheck_ok hg
    cases ieq (l.length : Int) j.Parts
    · exact h0
    · cases okAll g j (l.getD 0 noP).Step 0 l
      · exact h0
      · have hfl : ((List.range g.N.toNat).flatMap fun (v : Nat) => (partAt l j v).In.filter fun m => ieq m.To (v : Int)).length ≤ 300 * (List.range g.N.toNat).length := by
          refine flat_len_le _ _ _ fun v _ => Nat.le_trans (List.length_filter_le _ _) ?_
          unfold partAt
          by_cases hlt : v % j.Parts.toNat < l.length
          · have : l.getD (v % j.Parts.toNat) noP ∈ l := by simp [List.getD, hlt]
            exact hx _ this
          · have : l.getD (v % j.Parts.toNat) noP = noP := by simp [List.getD, List.getElem?_eq_none (Nat.le_of_not_lt hlt)]
            rw [this]; simp [noP]
        rw [List.length_range] at hfl
        refine ⟨⟨?_, ?_⟩, ⟨?_, ?_⟩, ?_, ?_⟩ <;> simp only [cond_true, joinS, List.length_map, List.length_range] <;> omega

theorem F18_loop {K : Nat} (g : GGraph) (j : GJob) (l : List GPart) (hl : l.length < 1000) (hK : 1000 ≤ K) : F18_l0_0 K g j l K 0 = some (sumU (!(l.any broadP))) := by
  have h := scanL (l := l) (L := fun k (_ : Unit) i => F18_l0_0 K g j l k i) (fun x (_ : Unit) c => (F79 K x).bind fun r => bif r then some (.inl ()) else c ()) (fun _ => some (.inr ())) (fun k s i _ => rfl) (by omega) (K := K) (by omega) ()
  have hw : ∀ l : List GPart, goL (fun x (_ : Unit) c => (F79 K x).bind fun r => bif r then some (.inl ()) else c ()) (fun _ => some (.inr ())) l () = (some (sumU (!(l.any broadP))) : Option (Unit ⊕ Unit)) := by
    intro l
    induction l with
    | nil => rfl
    | cons x l ih =>
      rw [goL, F79_spec, Option.bind_some, ih, List.any_cons]
      cases broadP x <;> rfl
  rw [hw] at h
  exact h

theorem law18 (g : GGraph) (j : GJob) (l : List GPart) (_ : WGGraph g) (_ : WGJob j) (hl : l.length * 88 ≤ reachBytes ∧ ∀ y ∈ l, WGPart y) : F18 10000 g j l = some true := by
  generalize hq : 10000 = K
  have hK : 10000 ≤ K := by omega
  rw [F18, F73, Option.bind_some]
  cases igt (nlen (len g.Edges)) 200
  · rw [cond_false]
    cases h20 : ilt 20 (nlen (len l))
    · have h20' : l.length ≤ 20 := by have := ilt_f.1 h20; simp only [nlen, len] at this; omega
      rw [cond_false, F18_loop g j l (by omega) (by omega)]
      cases hb : l.any broadP
      · have hnb : ∀ x ∈ l, broadP x = false := fun x hx => by
          cases hc : broadP x
          · rfl
          · have : l.any broadP = true := List.any_eq_true.2 ⟨x, hx, hc⟩
            rw [hb] at this; cases this
        have hin : ∀ x ∈ l, x.In.length ≤ 300 := fun x hx => (broadP_f (hnb x hx)).2.2
        have hi : ∀ x ∈ l, x.In.length < 1000 ∧ (-9223372036854775808 ≤ x.P ∧ x.P ≤ 9223372036854775807) := fun x hx => ⟨by have := hin x hx; omega, bounds_i64 (hl.2 x hx).1⟩
        obtain ⟨j1, j2⟩ := join_spec (K := K) (by omega) g j l hi
        have s1 : sumU (!false) = .inr () := rfl
        simp only [s1, Option.bind_some, Sum.elim_inr, j1, j2, same87 _ (join_fit hK hin), cond_true, ieq_refl]
      · rfl
    · rfl
  · rfl

/-! ### There and back -/
theorem cut_right {g : GGraph} {j : GJob} {s : GState} (h : stRight g j s = true) {p : Nat} (hp : (p : Int) < j.Parts) : partRight g j (cutS g j s (p : Int)) = true := by
  obtain ⟨hc, s1, s2, s3, s4, s5⟩ := stRight_ok h
  obtain ⟨q1, q2⟩ := inSt_ok s5
  unfold partRight cutS
  dsimp only
  have e1 : ieq ((((vertsS g j (p : Int)).map fun v => s.Vals.getD v 0).length : Nat) : Int) (countS g j (p : Int)) = true := ieq_iff.2 (by simp [countS])
  have e2 : ieq ((((vertsS g j (p : Int)).map fun v => s.Rest.getD v false).length : Nat) : Int) (countS g j (p : Int)) = true := ieq_iff.2 (by simp [countS])
  have e3 : inOkS g.N j.Parts (p : Int) (-1) (s.In.filter fun m => ieq (m.To % j.Parts) (p : Int)) = true := inOkS_mk (q1.filter _) fun m hm => by
    obtain ⟨a, b⟩ := List.mem_filter.1 hm
    exact ⟨(q2 m a).1, (q2 m a).2, ieq_iff.1 b⟩
  rw [hc, ile_iff.2 (by omega : (0 : Int) ≤ (p : Int)), ilt_iff.2 hp, ile_iff.2 s1, ile_iff.2 s2, e1, e2, e3]; rfl

theorem split_okAll {g : GGraph} {j : GJob} {s : GState} (h : stRight g j s = true) : ∀ (n i : Nat), ((i + n : Nat) : Int) = j.Parts → okAll g j s.Step i ((List.range' i n).map fun (p : Nat) => cutS g j s (p : Int)) = true
  | 0, i, _ => rfl
  | n + 1, i, hi => by
    rw [List.range'_succ, List.map_cons, okAll, cut_right h (by omega), split_okAll h n (i + 1) (by omega), ieq_iff.2 (show (cutS g j s (i : Int)).P = (i : Int) from rfl), ieq_iff.2 (show (cutS g j s (i : Int)).Step = s.Step from rfl)]; rfl

theorem split_getD {g : GGraph} {j : GJob} {s : GState} {p : Nat} (hp : p < j.Parts.toNat) : (splitS g j s).getD p noP = cutS g j s (p : Int) := by
  simp [splitS, List.getD, hp]

theorem flat_all {n : Int} {l : List GMsg} (hs : l.Pairwise fun a b => a.To < b.To) (hr : ∀ m ∈ l, 0 ≤ m.To ∧ m.To < n) : ((List.range n.toNat).flatMap fun (v : Nat) => l.filter fun m => ieq m.To (v : Int)) = l := by
  refine sorted_ext (lt := fun a b : GMsg => a.To < b.To) (fun a b h => by omega) ?_ hs fun m => ?_
  · refine List.pairwise_flatMap.2 ⟨fun v _ => hs.filter _, ?_⟩
    refine List.pairwise_lt_range.imp fun {a b} hab x hx y hy => ?_
    have h1 := ieq_iff.1 (List.mem_filter.1 hx).2
    have h2 := ieq_iff.1 (List.mem_filter.1 hy).2
    omega
  · simp only [List.mem_flatMap, List.mem_filter, ieq_iff, List.mem_range]
    constructor
    · rintro ⟨v, hv, hm, e⟩; exact hm
    · intro hm
      obtain ⟨h0, h1⟩ := hr m hm
      obtain ⟨v, hv⟩ := Int.eq_ofNat_of_zero_le h0
      exact ⟨v, by omega, hm, hv⟩

theorem list_getD {α : Type} (d : α) (l : List α) {n : Nat} (h : l.length = n) : (List.range n).map (fun v => l.getD v d) = l := by
  apply List.ext_getElem?
  intro i
  rw [List.getElem?_map]
  by_cases hi : i < n
  · rw [List.getElem?_range hi]
    simp [List.getD, h, hi]
  · rw [List.getElem?_eq_none (by simp; omega), List.getElem?_eq_none (by omega)]; rfl

theorem join_split {g : GGraph} {j : GJob} {s : GState} (h : stRight g j s = true) : joinS g j (splitS g j s) = s := by
  obtain ⟨hc, s1, s2, s3, s4, s5⟩ := stRight_ok h
  obtain ⟨hg, p1, p2, p3, p4, p5, p6, p7, p8⟩ := jcheck_ok hc
  obtain ⟨g1, g2, _, _⟩ := gcheck_ok hg
  obtain ⟨q1, q2⟩ := inSt_ok s5
  have hpt : ∀ v, partAt (splitS g j s) j v = cutS g j s ((v % j.Parts.toNat : Nat) : Int) := fun v => by
    unfold partAt
    exact split_getD (Nat.mod_lt _ (by omega))
  have hslot : ∀ v, v < g.N.toNat → (vertsS g j ((v % j.Parts.toNat : Nat) : Int))[v / j.Parts.toNat]? = some v := fun v hv =>
    (slot_verts (n := g.N.toNat) (parts := j.Parts.toNat) (by omega) (by omega) (by omega) hv).2
  have e0 : (splitS g j s).getD 0 noP = cutS g j s 0 := split_getD (by omega)
  have e1 : ((List.range g.N.toNat).map fun v => (partAt (splitS g j s) j v).Vals.getD (v / j.Parts.toNat) 0) = s.Vals := by
    rw [← list_getD 0 s.Vals (n := g.N.toNat) (by omega)]
    refine List.map_congr_left fun v hv => ?_
    rw [hpt, cutS]
    simp only [List.getD, List.getElem?_map, hslot v (List.mem_range.1 hv), Option.map_some, Option.getD_some]
  have e2 : ((List.range g.N.toNat).map fun v => (partAt (splitS g j s) j v).Rest.getD (v / j.Parts.toNat) false) = s.Rest := by
    rw [← list_getD false s.Rest (n := g.N.toNat) (by omega)]
    refine List.map_congr_left fun v hv => ?_
    rw [hpt, cutS]
    simp only [List.getD, List.getElem?_map, hslot v (List.mem_range.1 hv), Option.map_some, Option.getD_some]
  have e3 : ((List.range g.N.toNat).flatMap fun (v : Nat) => (partAt (splitS g j s) j v).In.filter fun m => ieq m.To (v : Int)) = s.In := by
    conv => rhs; rw [← flat_all q1 (fun m hm => by have := q2 m hm; omega : ∀ m ∈ s.In, 0 ≤ m.To ∧ m.To < g.N)]
    rw [List.flatMap_def, List.flatMap_def]
    congr 1
    refine List.map_congr_left fun v hv => ?_
    rw [hpt, cutS, List.filter_filter]
    refine List.filter_congr fun m hm => ?_
    rw [Bool.eq_iff_iff, Bool.and_eq_true, ieq_iff, ieq_iff]
    constructor
    · exact fun q => q.1
    · intro q
      obtain ⟨k, hk⟩ := Int.eq_ofNat_of_zero_le (show 0 ≤ j.Parts by omega)
      refine ⟨q, ?_⟩
      rw [q, hk]; simp
  rw [joinS, e0, e1, e2, e3]; rfl

theorem join_back {g : GGraph} {j : GJob} {s : GState} (h : stRight g j s = true) : joinR g j (splitS g j s) = (s, 0) := by
  obtain ⟨hc, s1, s2, s3, s4, s5⟩ := stRight_ok h
  obtain ⟨hg, p1, p2, p3, p4, p5, p6, p7, p8⟩ := jcheck_ok hc
  have e0 : (splitS g j s).getD 0 noP = cutS g j s 0 := split_getD (by omega)
  have e1 : ieq (((splitS g j s).length : Nat) : Int) j.Parts = true := ieq_iff.2 (by simp [splitS]; omega)
  have e2 : okAll g j ((splitS g j s).getD 0 noP).Step 0 (splitS g j s) = true := by
    rw [e0, splitS, List.range_eq_range']
    exact split_okAll h j.Parts.toNat 0 (by omega)
  rw [joinR, hc, cond_true, e1, cond_true, e2, cond_true, join_split h]

theorem law19 (g : GGraph) (j : GJob) (s : GState) (_ : WGGraph g) (_ : WGJob j) (hs : WGState s) : F19 10000 g j s = some true := by
  generalize hq : 10000 = K
  have hK : 10000 ≤ K := by omega
  have hK1 : 1000 ≤ K := by omega
  have z0 : ieq 0 0 = true := rfl
  rw [F19, F73, F82_spec, Option.bind_some]
  cases igt (nlen (len g.Edges)) 200
  · rw [cond_false, Option.bind_some]
    cases hb : wideS7 s
    · obtain ⟨b1, b2, b3⟩ := wideS7_f hb
      obtain ⟨f1, f2⟩ := split_fit hK1 g j s b3
      rw [cond_false, F83_spec hK1 g j s (by omega), Option.bind_some, F88_spec hK1 g j s (by omega) (by omega)]
      cases hr : stRight g j s
      · have : (ieq (splitR g j s).2 0 = false) ∧ (splitR g j s).1 = [] := by
          rw [splitR]
          cases hc : ieq (jcheck g j) 0
          · exact ⟨hc, rfl⟩
          · rw [hr]; exact ⟨rfl, rfl⟩
        rw [this.1, this.2]; rfl
      · obtain ⟨hc, s1, s2, s3, s4, s5⟩ := stRight_ok hr
        obtain ⟨hg, p1, p2, p3, p4, p5, p6, p7, p8⟩ := jcheck_ok hc
        have hsp : splitR g j s = (splitS g j s, 0) := by rw [splitR, hc, hr]; rfl
        rw [hsp] at f1 f2 ⊢
        dsimp only at f1 f2
        have hi : ∀ x ∈ splitS g j s, x.In.length < 1000 ∧ (-9223372036854775808 ≤ x.P ∧ x.P ≤ 9223372036854775807) := fun x hx => by
          obtain ⟨p, hp, rfl⟩ := List.mem_map.1 (show x ∈ (List.range j.Parts.toNat).map fun (p : Nat) => cutS g j s (p : Int) from hx)
          have hp' := List.mem_range.1 hp
          have : (s.In.filter fun m => ieq (m.To % j.Parts) (p : Int)).length ≤ 300 := Nat.le_trans (List.length_filter_le _ _) b3
          exact ⟨by show (s.In.filter fun m => ieq (m.To % j.Parts) (p : Int)).length < 1000; omega, by show -9223372036854775808 ≤ (p : Int); omega, by show (p : Int) ≤ 9223372036854775807; omega⟩
        have j1 := (join_spec (K := K) hK1 g j (splitS g j s) hi).1
        rw [join_back hr] at j1
        have f87 : F87 K s s = some true := same87 s ⟨⟨by omega, by omega⟩, ⟨by omega, by omega⟩, by omega, by omega⟩
        have f84 : F84 K (splitS g j s) (splitS g j s) = some true := same84 _ (by omega) (by omega) f2
        simp only [z0, cond_true, j1, Option.bind_some, F83_spec hK1 g j s (by omega), hsp, f87, f84]
    · rfl
  · rfl
end Go.Proofs.Ytnjanliihnadjaa.Tm

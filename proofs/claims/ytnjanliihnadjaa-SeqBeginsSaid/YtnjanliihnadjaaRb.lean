/- A state parted: the program's way and the reference's. Conditions: none. -/
import Derived.Test.YtnjanliihnadjaaQc
import Derived.Test.YtnjanliihnadjaaFQs
import Derived.Test.YtnjanliihnadjaaSm
set_option linter.unusedVariables false
set_option linter.unusedSimpArgs false
namespace Go.Proofs.Ytnjanliihnadjaa.Tm
open Go

def cutS (g : GGraph) (j : GJob) (s : GState) (p : Int) : GPart :=
  GPart.mk p s.Step ((vertsS g j p).map fun v => s.Vals.getD v 0) ((vertsS g j p).map fun v => s.Rest.getD v false) (s.In.filter fun m => ieq (m.To % j.Parts) p)
def splitS (g : GGraph) (j : GJob) (s : GState) : List GPart := (List.range j.Parts.toNat).map fun (p : Nat) => cutS g j s (p : Int)
def splitR (g : GGraph) (j : GJob) (s : GState) : List GPart × Int := bif ieq (jcheck g j) 0 then (bif stRight g j s then (splitS g j s, 0) else ([], 1)) else ([], jcheck g j)

theorem stRight_ok {g : GGraph} {j : GJob} {s : GState} (h : stRight g j s = true) : ieq (jcheck g j) 0 = true ∧ 0 ≤ s.Step ∧ s.Step ≤ 40 ∧ (s.Vals.length : Int) = g.N ∧ (s.Rest.length : Int) = g.N ∧ inSt g.N (-1) s.In = true := by
  simp only [stRight, Bool.and_eq_true, ile_iff, ieq_iff] at h
  obtain ⟨h1, h2, h3, h4, h5, h6⟩ := h
  exact ⟨ieq_iff.2 h1, h2, h3, h4, h5, h6⟩

theorem inSt_ok {n : Int} : ∀ {l : List GMsg} {v : Int}, inSt n v l = true → l.Pairwise (fun a b => a.To < b.To) ∧ (∀ m ∈ l, v < m.To ∧ m.To < n)
  | [], v, _ => ⟨List.Pairwise.nil, fun m h => (nomatch h)⟩
  | m :: l, v, h => by
    simp only [inSt, Bool.and_eq_true, ilt_iff] at h
    obtain ⟨h1, h2, h3⟩ := h
    obtain ⟨a, b⟩ := inSt_ok h3
    refine ⟨List.pairwise_cons.2 ⟨fun x hx => (b x hx).1, a⟩, fun x hx => ?_⟩
    rcases List.mem_cons.1 hx with e | e
    · subst e; exact ⟨h1, h2⟩
    · have := b x e; exact ⟨by omega, this.2⟩

theorem inSt_len {n : Int} : ∀ {l : List GMsg} {v : Int}, inSt n v l = true → v ≤ n → (l.length : Int) ≤ n - v
  | [], v, _, hv => by simp; omega
  | m :: l, v, h, hv => by
    simp only [inSt, Bool.and_eq_true, ilt_iff] at h
    obtain ⟨h1, h2, h3⟩ := h
    have := inSt_len h3 (by omega)
    simp only [List.length_cons]; omega

/-! ### The program's walk by steps -/
def progL : Nat → Nat → Nat → Nat → List Nat
  | 0, _, _, _ => []
  | k + 1, n, parts, v => if v < n then v :: progL k n parts (v + parts) else []
theorem prog_all : ∀ parts < 7, 0 < parts → ∀ n < 25, ∀ p < parts, progL 30 n parts p = (List.range n).filter fun v => v % parts == p := by decide +kernel

theorem prog_verts {n parts : Nat} (h1 : 0 < parts) (h2 : parts < 7) (hn : n < 25) {p : Nat} (hp : p < parts) : progL 30 n parts p = vertsN n parts (p : Int) := by
  rw [prog_all parts h2 h1 n hn p hp, vertsN]
  refine List.filter_congr fun v _ => ?_
  rw [Bool.eq_iff_iff, ieq_iff, beq_iff_eq]; omega

theorem getD_at {α : Type} {l : List α} {v : Nat} (d : α) (h : v < l.length) : inr (v : Int) (len l) = true ∧ elAt l (v : Int) = some (l.getD v d) := by
  refine ⟨decide_eq_true ⟨by omega, by show (v : Int) < (l.length : Int); omega⟩, ?_⟩
  rw [elAt_nat]; simp [h, List.getD]

theorem F83_vals {K : Nat} (g : GGraph) (j : GJob) (s : GState) (out : List GPart) (pp : Int) {n m : Nat} (hn : g.N = (n : Int)) (hm : j.Parts = (m : Int)) (hm1 : 1 ≤ m) (hm2 : m ≤ 6) (hn2 : n ≤ 24) (hv : s.Vals.length = n) (hr : s.Rest.length = n) :
    ∀ (f k v : Nat) (a : List Int) (b : List Bool), n < v + f → f < k → v ≤ 100 → a.length + f ≤ 1000 → b.length + f ≤ 1000 →
      F83_l1_1 K g j s out pp k a b (v : Int) = some (a ++ (progL f n m v).map (fun v => s.Vals.getD v 0), b ++ (progL f n m v).map (fun v => s.Rest.getD v false)) := by
  intro f
  induction f with
  | zero =>
    intro k v a b h _ _ _ _
    obtain ⟨k, rfl⟩ : ∃ q, k = q + 1 := ⟨k - 1, by omega⟩
    rw [F83_l1_1, ilt_f.2 (by omega : g.N ≤ (v : Int))]; simp [progL]
  | succ f ih =>
    intro k v a b h hk hv100 ha hb
    obtain ⟨k, rfl⟩ : ∃ q, k = q + 1 := ⟨k - 1, by omega⟩
    rw [F83_l1_1]
    by_cases hlt : v < n
    · obtain ⟨i1, i2⟩ := getD_at (l := s.Vals) 0 (by omega : v < s.Vals.length)
      obtain ⟨i3, i4⟩ := getD_at (l := s.Rest) false (by omega : v < s.Rest.length)
      have a1 : apok (len a) 1 8 = true := decide_eq_true ⟨by show a.length + 1 ≤ _; omega, by show (a.length + 1) * 8 ≤ _; omega⟩
      have a2 : apok (len b) 1 1 = true := decide_eq_true ⟨by show b.length + 1 ≤ _; omega, by show (b.length + 1) * 1 ≤ _; omega⟩
      have ew : wadd .i64 (v : Int) j.Parts = ((v + m : Nat) : Int) := by
        show IntKind.i64.wrap _ = _
        rw [hm, IntKind.wrap_i64]; omega
      rw [ilt_iff.2 (by omega : (v : Int) < g.N), cond_true, i1, cond_true, i2, Option.bind_some, a1, cond_true, i3, cond_true, i4, Option.bind_some, a2, cond_true, ew, ih k (v + m) _ _ (by omega) (by omega) (by omega) (by simp [appL]; omega) (by simp [appL]; omega)]
      simp [progL, hlt, appL]
    · rw [ilt_f.2 (by omega : g.N ≤ (v : Int))]; simp [progL, hlt]

theorem F83_in {K : Nat} (g : GGraph) (j : GJob) (s : GState) (out : List GPart) (pp : Int) (w : List Int × List Bool) (hp : 1 ≤ j.Parts) (hl : s.In.length ≤ 1000) (hK : s.In.length < K) (h0 : ∀ m ∈ s.In, 0 ≤ m.To) :
    F83_l2_2 K g j s out pp w K [] 0 = some (s.In.filter fun m => ieq (m.To % j.Parts) pp) := by
  let step : GMsg → List GMsg → (List GMsg → Option (List GMsg)) → Option (List GMsg) := fun m a c =>
    bif (izero j.Parts) then none else bif (ieq (wrem m.To j.Parts) pp) then (bif (apok (len a) 1 16) then c (appL a [m]) else none) else c a
  have h := scanL (l := s.In) (L := fun k a i => F83_l2_2 K g j s out pp w k a i) step (fun a => some a) (fun k s i _ => rfl) (by omega) (K := K) hK []
  have hz : izero j.Parts = false := decide_eq_false (by omega)
  have hw : ∀ (l : List GMsg) (a : List GMsg), (∀ m ∈ l, 0 ≤ m.To) → a.length + l.length ≤ 1000 → goL step (fun a => some a) l a = some (a ++ l.filter fun m => ieq (m.To % j.Parts) pp) := by
    intro l
    induction l with
    | nil => intro a _ _; simp [goL]
    | cons m l ih =>
      intro a hm ha
      simp only [List.length_cons] at ha
      rw [goL]
      show (bif (izero j.Parts) then none else bif (ieq (wrem m.To j.Parts) pp) then (bif (apok (len a) 1 16) then goL step (fun a => some a) l (appL a [m]) else none) else goL step (fun a => some a) l a) = _
      have ap : apok (len a) 1 16 = true := decide_eq_true ⟨by show a.length + 1 ≤ _; omega, by show (a.length + 1) * 16 ≤ _; omega⟩
      rw [hz, cond_false, wrem_emod (hm m List.mem_cons_self), ap, List.filter_cons]
      cases ieq (m.To % j.Parts) pp
      · rw [cond_false, ih a (fun x hx => hm x (List.mem_cons_of_mem _ hx)) (by omega)]; rfl
      · rw [cond_true, cond_true, ih _ (fun x hx => hm x (List.mem_cons_of_mem _ hx)) (by simp [appL]; omega)]; simp [appL]
  rw [hw s.In [] h0 (by simpa using hl)] at h
  exact h

theorem F83_loop {K : Nat} (hK : 1000 ≤ K) (g : GGraph) (j : GJob) (s : GState) (h : stRight g j s = true) : F83_l0_0 K g j s K [] 0 = some (splitS g j s) := by
  obtain ⟨hc, s1, s2, s3, s4, s5⟩ := stRight_ok h
  obtain ⟨hg, p1, p2, p3, p4, p5, p6, p7, p8⟩ := jcheck_ok hc
  obtain ⟨g1, g2, _, _⟩ := gcheck_ok hg
  obtain ⟨n, hn⟩ := Int.eq_ofNat_of_zero_le (show 0 ≤ g.N by omega)
  obtain ⟨m, hm⟩ := Int.eq_ofNat_of_zero_le (show 0 ≤ j.Parts by omega)
  obtain ⟨q1, q2⟩ := inSt_ok s5
  have hlen := inSt_len s5 (by omega)
  let step : Nat → List GPart → (List GPart → Option (List GPart)) → Option (List GPart) := fun i out c =>
      ((F83_l1_1 K g j s out (i : Int) K [] [] (i : Int)).bind fun w =>
      (F83_l2_2 K g j s out (i : Int) w K [] 0).bind fun w' =>
      bif (apok (len out) 1 88) then c (appL out [(GPart.mk (i : Int) s.Step w.1 w.2 w')]) else none)
  have hs := scanN (N := j.Parts) (L := fun k a i => F83_l0_0 K g j s k a i) step (fun a => some a) (fun k s i _ => rfl) (by omega) (K := K) (by omega) []
  have hw : ∀ (l : List Nat) (out : List GPart), (∀ p ∈ l, p < m) → out.length + l.length ≤ 100 → goL step (fun a => some a) l out = some (out ++ l.map fun (p : Nat) => cutS g j s (p : Int)) := by
    intro l
    induction l with
    | nil => intro out _ _; simp [goL]
    | cons p l ih =>
      intro out hp ho
      simp only [List.length_cons] at ho
      have hpm := hp p List.mem_cons_self
      have ap : apok (len out) 1 88 = true := decide_eq_true ⟨by show out.length + 1 ≤ _; omega, by show (out.length + 1) * 88 ≤ _; omega⟩
      have e1 := F83_vals (K := K) g j s out (p : Int) hn hm (by omega) (by omega) (by omega) (by omega) (by omega) 30 K p [] [] (by omega) (by omega) (by omega) (by simp) (by simp)
      have e2 := F83_in (K := K) g j s out (p : Int) (((progL 30 n m p).map fun v => s.Vals.getD v 0), ((progL 30 n m p).map fun v => s.Rest.getD v false)) p7 (by omega) (by omega) (fun m hm => by have := q2 m hm; omega)
      rw [goL]
      show ((F83_l1_1 K g j s out (p : Int) K [] [] (p : Int)).bind fun w =>
        (F83_l2_2 K g j s out (p : Int) w K [] 0).bind fun w' =>
        bif (apok (len out) 1 88) then goL step (fun a => some a) l (appL out [(GPart.mk (p : Int) s.Step w.1 w.2 w')]) else none) = _
      rw [e1, Option.bind_some, List.nil_append, List.nil_append, e2, Option.bind_some, ap, cond_true, ih _ (fun x hx => hp x (List.mem_cons_of_mem _ hx)) (by simp [appL]; omega)]
      have ec : GPart.mk (p : Int) s.Step ((progL 30 n m p).map fun v => s.Vals.getD v 0) ((progL 30 n m p).map fun v => s.Rest.getD v false) (s.In.filter fun m => ieq (m.To % j.Parts) (p : Int)) = cutS g j s (p : Int) := by
        have a1 : g.N.toNat = n := by omega
        have a2 : j.Parts.toNat = m := by omega
        rw [cutS, vertsS, a1, a2, prog_verts (by omega) (by omega) (by omega) hpm]
      simp only [ec]
      simp [appL]
  have hmt : j.Parts.toNat = m := by omega
  rw [hmt, hw _ [] (fun p hp => List.mem_range.1 hp) (by simp; omega)] at hs
  rw [splitS, hmt]
  exact hs

theorem F83_spec {K : Nat} (hK : 1000 ≤ K) (g : GGraph) (j : GJob) (s : GState) (hl : s.In.length < 1000) : F83 K g j s = some (splitR g j s) := by
  rw [F83, F94_spec (by omega), Option.bind_some, splitR]
  cases hc : ieq (jcheck g j) 0
  · rfl
  · rw [cond_true, cond_true, F104_spec hK g j s (by omega) (by omega), Option.bind_some]
    cases hr : stRight g j s
    · rfl
    · rw [cond_true, cond_true, F83_loop hK g j s hr]; rfl

/-! ### The reference's way: vertex by vertex -/
theorem F131_in {K : Nat} (s : GState) (p : Int) (r : List Int) (a : List Int) (b : List Bool) (i : Nat) (x : Int) (y : Bool) (v : Int) (hi : inr (i : Int) (len r) = true) (he : elAt r (i : Int) = some v) (hl : s.In.length ≤ 1000) (hK : s.In.length < K) (acc : List GMsg) (ha : acc.length ≤ 100000) :
    F131_l1_1 K s p r a b (i : Int) x y K acc 0 = some (acc ++ s.In.filter fun m => ieq m.To v) := by
  let step : GMsg → List GMsg → (List GMsg → Option (List GMsg)) → Option (List GMsg) := fun m a c =>
      bif (inr (i : Int) (len r)) then
      (elAt r (i : Int)).bind fun z => bif (ieq m.To z) then (bif (apok (len a) 1 16) then c (appL a [m]) else none) else c a
      else none
  have h := scanL (l := s.In) (L := fun k c q => F131_l1_1 K s p r a b (i : Int) x y k c q) step (fun a => some a) (fun k s i _ => rfl) (by omega) (K := K) hK acc
  have hw : ∀ (l : List GMsg) (a : List GMsg), a.length + l.length ≤ 200000 → goL step (fun a => some a) l a = some (a ++ l.filter fun m => ieq m.To v) := by
    intro l
    induction l with
    | nil => intro a _; simp [goL]
    | cons m l ih =>
      intro a ha
      simp only [List.length_cons] at ha
      rw [goL]
      show (bif (inr (i : Int) (len r)) then
      (elAt r (i : Int)).bind fun z => bif (ieq m.To z) then (bif (apok (len a) 1 16) then goL step (fun a => some a) l (appL a [m]) else none) else goL step (fun a => some a) l a
      else none) = _
      have ap : apok (len a) 1 16 = true := decide_eq_true ⟨by show a.length + 1 ≤ _; omega, by show (a.length + 1) * 16 ≤ _; omega⟩
      rw [hi, cond_true, he, Option.bind_some, ap, List.filter_cons]
      cases ieq m.To v
      · rw [cond_false, ih a (by omega)]; rfl
      · rw [cond_true, cond_true, ih _ (by simp [appL]; omega)]; simp [appL]
  rw [hw s.In acc (by omega)] at h
  exact h

theorem F131_loop {K : Nat} (s : GState) (p : Int) (vs : List Nat) (hvl : vs.length ≤ 30) (hK : 1000 ≤ K) (hv : ∀ v ∈ vs, v < s.Vals.length ∧ v < s.Rest.length) (hl : s.In.length ≤ 500) :
    F131_l0_0 K s p (vs.map Int.ofNat) K [] [] [] 0 = some (vs.map (fun v => s.Vals.getD v 0), vs.map (fun v => s.Rest.getD v false), vs.flatMap fun (v : Nat) => s.In.filter fun m => ieq m.To (v : Int)) := by
  let step : Nat → Int → List Int × List Bool × List GMsg → (List Int × List Bool × List GMsg → Option (List Int × List Bool × List GMsg)) → Option (List Int × List Bool × List GMsg) := fun i x st c =>
      bif (inr x (len s.Vals)) then
      (elAt s.Vals x).bind fun x2246 =>
      bif (apok (len st.1) 1 8) then
      bif (inr x (len s.Rest)) then
      (elAt s.Rest x).bind fun x2250 =>
      bif (apok (len st.2.1) 1 1) then
      (F131_l1_1 K s p (vs.map Int.ofNat) st.1 st.2.1 (i : Int) x2246 x2250 K st.2.2 0).bind fun w2278 =>
      c (appL st.1 [x2246], appL st.2.1 [x2250], w2278)
      else none
      else none
      else none
      else none
  have h := scanI (l := vs.map Int.ofNat) (L := fun k (st : List Int × List Bool × List GMsg) i => F131_l0_0 K s p (vs.map Int.ofNat) k st.1 st.2.1 st.2.2 i) step (fun st => some st) (fun k st i _ => rfl) (by simp; omega) K ([], [], []) 0 (by simp; omega) (by omega)
  have hw : ∀ (r : List Nat) (i : Nat) (a : List Int) (b : List Bool) (m : List GMsg), vs.drop i = r → a.length + r.length ≤ 100 → b.length + r.length ≤ 100 → m.length + 500 * r.length ≤ 50000 →
      goI step (fun st => some st) i (r.map Int.ofNat) (a, b, m) = some (a ++ r.map (fun v => s.Vals.getD v 0), b ++ r.map (fun v => s.Rest.getD v false), m ++ r.flatMap fun (v : Nat) => s.In.filter fun m => ieq m.To (v : Int)) := by
    intro r
    induction r with
    | nil => intro i a b m _ _ _ _; simp [goI]
    | cons v r ih =>
      intro i a b m hr ha hb hm
      simp only [List.length_cons] at ha hb hm
      obtain ⟨n1, n2, hi⟩ := prev_next hr
      have hvm : v ∈ vs := by
        have : v ∈ vs.drop i := by rw [hr]; exact List.mem_cons_self
        exact List.mem_of_mem_drop this
      obtain ⟨v1, v2⟩ := hv v hvm
      obtain ⟨i1, i2⟩ := getD_at (l := s.Vals) 0 v1
      obtain ⟨i3, i4⟩ := getD_at (l := s.Rest) false v2
      have a1 : apok (len a) 1 8 = true := decide_eq_true ⟨by show a.length + 1 ≤ _; omega, by show (a.length + 1) * 8 ≤ _; omega⟩
      have a2 : apok (len b) 1 1 = true := decide_eq_true ⟨by show b.length + 1 ≤ _; omega, by show (b.length + 1) * 1 ≤ _; omega⟩
      have j1 : inr (i : Int) (len (vs.map Int.ofNat)) = true := decide_eq_true ⟨by omega, by show (i : Int) < ((vs.map Int.ofNat).length : Int); simp; omega⟩
      have j2 : elAt (vs.map Int.ofNat) (i : Int) = some (v : Int) := by
        rw [elAt_nat, List.getElem?_map, show vs[i]? = some v from n1]; rfl
      rw [List.map_cons, goI]
      show (bif (inr (v : Int) (len s.Vals)) then
      (elAt s.Vals (v : Int)).bind fun x2246 =>
      bif (apok (len a) 1 8) then
      bif (inr (v : Int) (len s.Rest)) then
      (elAt s.Rest (v : Int)).bind fun x2250 =>
      bif (apok (len b) 1 1) then
      (F131_l1_1 K s p (vs.map Int.ofNat) a b (i : Int) x2246 x2250 K m 0).bind fun w2278 =>
      goI step (fun st => some st) (i + 1) (r.map Int.ofNat) (appL a [x2246], appL b [x2250], w2278)
      else none
      else none
      else none
      else none) = _
      have hfl : (s.In.filter fun m => ieq m.To (v : Int)).length ≤ 500 := Nat.le_trans (List.length_filter_le _ _) hl
      rw [i1, cond_true, i2, Option.bind_some, a1, cond_true, i3, cond_true, i4, Option.bind_some, a2, cond_true, F131_in (K := K) s p (vs.map Int.ofNat) a b i _ _ (v : Int) j1 j2 (by omega) (by omega) m (by omega), Option.bind_some,
        ih (i + 1) _ _ _ n2 (by simp [appL]; omega) (by simp [appL]; omega) (by simp only [List.length_append]; omega)]
      simp [appL]
  have := hw vs 0 [] [] [] rfl (by simp; omega) (by simp; omega) (by simp; omega)
  rw [List.drop_zero, this] at h
  simpa using h

theorem flat_filter {g : GGraph} {j : GJob} (hp : 1 ≤ j.Parts) {s : GState} (hs : s.In.Pairwise fun a b => a.To < b.To) (hr : ∀ m ∈ s.In, 0 ≤ m.To ∧ m.To < g.N) (p : Int) :
    ((vertsS g j p).flatMap fun (v : Nat) => s.In.filter fun m => ieq m.To (v : Int)) = s.In.filter fun m => ieq (m.To % j.Parts) p := by
  refine sorted_ext (lt := fun a b : GMsg => a.To < b.To) (fun a b h => by omega) ?_ (hs.filter _) fun m => ?_
  · refine List.pairwise_flatMap.2 ⟨fun v _ => hs.filter _, ?_⟩
    have hv : (vertsS g j p).Pairwise (· < ·) := by
      unfold vertsS vertsN
      exact List.pairwise_lt_range.filter _
    refine hv.imp fun {a b} hab x hx y hy => ?_
    have h1 := ieq_iff.1 (List.mem_filter.1 hx).2
    have h2 := ieq_iff.1 (List.mem_filter.1 hy).2
    omega
  · simp only [List.mem_flatMap, List.mem_filter, ieq_iff]
    constructor
    · rintro ⟨v, hv, hm, e⟩
      have := (mem_verts hp).1 hv
      exact ⟨hm, by rw [e]; exact this.2⟩
    · rintro ⟨hm, e⟩
      obtain ⟨h0, h1⟩ := hr m hm
      obtain ⟨v, hv⟩ := Int.eq_ofNat_of_zero_le h0
      exact ⟨v, (mem_verts hp).2 ⟨by omega, by rw [← hv]; exact e⟩, hm, hv⟩

theorem F131_spec {K : Nat} (hK : 1000 ≤ K) {g : GGraph} {j : GJob} {s : GState} (h : stRight g j s = true) (p : Int) : F131 K g j s p = some (cutS g j s p) := by
  obtain ⟨hc, s1, s2, s3, s4, s5⟩ := stRight_ok h
  obtain ⟨hg, p1, p2, p3, p4, p5, p6, p7, p8⟩ := jcheck_ok hc
  obtain ⟨g1, g2, _, _⟩ := gcheck_ok hg
  obtain ⟨q1, q2⟩ := inSt_ok s5
  have hlen := inSt_len s5 (by omega)
  have hvl := verts_len g j g2 p
  rw [F131, F139_spec (by omega) p7 p8 g2, Option.bind_some, F131_loop s p (vertsS g j p) (by omega) hK (fun v hv => by have := (mem_verts p7).1 hv; omega) (by omega), Option.bind_some]
  rw [flat_filter p7 q1 (fun m hm => by have := q2 m hm; omega)]; rfl

theorem F61_loop {K : Nat} (hK : 1000 ≤ K) (g : GGraph) (j : GJob) (s : GState) (h : stRight g j s = true) : F61_l0_0 K g j s K [] 0 = some (splitS g j s) := by
  obtain ⟨hc, s1, s2, s3, s4, s5⟩ := stRight_ok h
  obtain ⟨hg, p1, p2, p3, p4, p5, p6, p7, p8⟩ := jcheck_ok hc
  let step : Nat → List GPart → (List GPart → Option (List GPart)) → Option (List GPart) := fun i out c =>
      (F131 K g j s (i : Int)).bind fun r => bif (apok (len out) 1 88) then c (appL out [r]) else none
  have hs := scanN (N := j.Parts) (L := fun k a i => F61_l0_0 K g j s k a i) step (fun a => some a) (fun k s i _ => rfl) (by omega) (K := K) (by omega) []
  have hw : ∀ (l : List Nat) (out : List GPart), out.length + l.length ≤ 100 → goL step (fun a => some a) l out = some (out ++ l.map fun (p : Nat) => cutS g j s (p : Int)) := by
    intro l
    induction l with
    | nil => intro out _; simp [goL]
    | cons p l ih =>
      intro out ho
      simp only [List.length_cons] at ho
      have ap : apok (len out) 1 88 = true := decide_eq_true ⟨by show out.length + 1 ≤ _; omega, by show (out.length + 1) * 88 ≤ _; omega⟩
      rw [goL]
      show ((F131 K g j s (p : Int)).bind fun r => bif (apok (len out) 1 88) then goL step (fun a => some a) l (appL out [r]) else none) = _
      rw [F131_spec hK h, Option.bind_some, ap, cond_true, ih _ (by simp [appL]; omega)]
      simp [appL]
  rw [hw _ [] (by simp; omega)] at hs
  exact hs

theorem F61_spec {K : Nat} (hK : 1000 ≤ K) (g : GGraph) (j : GJob) (s : GState) (hl : s.In.length < 1000) : F61 K g j s = some (splitR g j s) := by
  rw [F61, F59_spec (by omega), Option.bind_some, splitR]
  cases hc : ieq (jcheck g j) 0
  · rfl
  · rw [cond_true, cond_true, F88_spec hK g j s (by omega) (by omega), Option.bind_some]
    cases hr : stRight g j s
    · rfl
    · rw [cond_true, cond_true, F61_loop hK g j s hr]; rfl

theorem split_fit {K : Nat} (hK : 1000 ≤ K) (g : GGraph) (j : GJob) (s : GState) (hl : s.In.length ≤ 300) : (splitR g j s).1.length ≤ 6 ∧ ∀ x ∈ (splitR g j s).1, fitP K x := by
  rw [splitR]
  cases hc : ieq (jcheck g j) 0
  · exact ⟨by simp, fun x hx => (nomatch hx)⟩
  · obtain ⟨hg, p1, p2, p3, p4, p5, p6, p7, p8⟩ := jcheck_ok hc
    obtain ⟨g1, g2, _, _⟩ := gcheck_ok hg
    cases hr : stRight g j s
    · exact ⟨by simp, fun x hx => (nomatch hx)⟩
    · refine ⟨by simp [splitS]; omega, fun x hx => ?_⟩
      obtain ⟨p, _, rfl⟩ := List.mem_map.1 (show x ∈ (List.range j.Parts.toNat).map fun (p : Nat) => cutS g j s (p : Int) from hx)
      have h1 := verts_len g j g2 (p : Int)
      have h2 : (s.In.filter fun m => ieq (m.To % j.Parts) (p : Int)).length ≤ 300 := Nat.le_trans (List.length_filter_le _ _) hl
      refine ⟨⟨?_, ?_⟩, ⟨?_, ?_⟩, ?_, ?_⟩ <;> simp [cutS] <;> omega
end Go.Proofs.Ytnjanliihnadjaa.Tm

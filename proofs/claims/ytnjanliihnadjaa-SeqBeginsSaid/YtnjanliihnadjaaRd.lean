/- Partitions joined: the program's way and the reference's. Conditions: none. -/
import Derived.Test.YtnjanliihnadjaaRb
import Derived.Test.YtnjanliihnadjaaFQj
set_option linter.unusedVariables false
set_option linter.unusedSimpArgs false
namespace Go.Proofs.Ytnjanliihnadjaa.Tm
open Go

def noP : GPart := GPart.mk 0 0 [] [] []
def noS : GState := GState.mk 0 [] [] []
def partAt (l : List GPart) (j : GJob) (v : Nat) : GPart := l.getD (v % j.Parts.toNat) noP
def joinS (g : GGraph) (j : GJob) (l : List GPart) : GState :=
  GState.mk (l.getD 0 noP).Step ((List.range g.N.toNat).map fun v => (partAt l j v).Vals.getD (v / j.Parts.toNat) 0) ((List.range g.N.toNat).map fun v => (partAt l j v).Rest.getD (v / j.Parts.toNat) false)
    ((List.range g.N.toNat).flatMap fun (v : Nat) => (partAt l j v).In.filter fun m => ieq m.To (v : Int))

def okAll (g : GGraph) (j : GJob) (st : Int) : Nat → List GPart → Bool
  | _, [] => true
  | i, x :: r => ieq x.P (i : Int) && (ieq x.Step st && (partRight g j x && okAll g j st (i + 1) r))
def joinR (g : GGraph) (j : GJob) (l : List GPart) : GState × Int := bif ieq (jcheck g j) 0 then (bif ieq (l.length : Int) j.Parts then (bif okAll g j (l.getD 0 noP).Step 0 l then (joinS g j l, 0) else (noS, 1)) else (noS, 1)) else (noS, jcheck g j)

theorem okAll_get {g : GGraph} {j : GJob} {st : Int} : ∀ {l : List GPart} {i k : Nat}, okAll g j st i l = true → k < l.length → (l.getD k noP).P = ((i + k : Nat) : Int) ∧ (l.getD k noP).Step = st ∧ partRight g j (l.getD k noP) = true
  | [], i, k, _, hk => by simp at hk
  | x :: r, i, k, h, hk => by
    simp only [okAll, Bool.and_eq_true, ieq_iff] at h
    obtain ⟨h1, h2, h3, h4⟩ := h
    cases k with
    | zero => exact ⟨by simpa using h1, by simpa using h2, by simpa using h3⟩
    | succ k =>
      have := okAll_get (k := k) h4 (by simp only [List.length_cons] at hk; omega)
      simp only [List.getD_cons_succ]
      exact ⟨by rw [this.1]; omega, this.2⟩

theorem chk_go {K : Nat} {g : GGraph} {j : GJob} {l : List GPart} {x0 : GPart} (h0 : l.getD 0 noP = x0) (hl : 0 < l.length) (F : Nat → GGraph → GJob → GPart → Option Bool) (hF : ∀ x ∈ l, F K g j x = some (partRight g j x)) :
    ∀ (r : List GPart) (i : Nat), l.drop i = r → goI (fun i x (_ : Unit) c => bif ieq x.P (i : Int) then (bif inr 0 (len l) then (elAt l 0).bind fun y => bif ieq x.Step y.Step then ((F K g j x).bind fun q => bif q then c () else some (.inl ())) else some (.inl ()) else none) else some (.inl ())) (fun _ => some (.inr ())) i r () = some (sumU (okAll g j x0.Step i r)) := by
  intro r
  induction r with
  | nil => intro i _; rfl
  | cons x r ih =>
    intro i hr
    obtain ⟨n1, n2, hi⟩ := prev_next hr
    have hx : x ∈ l := by
      have : x ∈ l.drop i := by rw [hr]; exact List.mem_cons_self
      exact List.mem_of_mem_drop this
    have e1 : inr 0 (len l) = true := decide_eq_true ⟨by omega, by show (0 : Int) < (l.length : Int); omega⟩
    have e2 : elAt l 0 = some x0 := by
      have := (getD_at (l := l) noP hl).2
      rw [h0] at this; exact this
    rw [goI, okAll, ih (i + 1) n2, e1, e2, hF x hx, cond_true, Option.bind_some, Option.bind_some]
    cases ieq x.P (i : Int) <;> cases ieq x.Step x0.Step <;> cases partRight g j x <;> rfl

/-- Where a vertex lies in its home. -/
theorem slot_all : ∀ parts < 7, 0 < parts → ∀ n < 25, ∀ v < n, v / parts < (n + parts - 1 - v % parts) / parts ∧ ((List.range n).filter fun w => w % parts == v % parts)[v / parts]? = some v := by decide +kernel
theorem sum_all : ∀ parts < 7, 0 < parts → ∀ n < 25, ((List.range parts).map fun p => (n + parts - 1 - p) / parts).sum = n := by decide +kernel

theorem slot_verts {n parts : Nat} (h1 : 0 < parts) (h2 : parts < 7) (hn : n < 25) {v : Nat} (hv : v < n) : v / parts < (vertsN n parts ((v % parts : Nat) : Int)).length ∧ (vertsN n parts ((v % parts : Nat) : Int))[v / parts]? = some v := by
  obtain ⟨a, b⟩ := slot_all parts h2 h1 n hn v hv
  have e : vertsN n parts ((v % parts : Nat) : Int) = (List.range n).filter fun w => w % parts == v % parts := by
    rw [vertsN]
    refine List.filter_congr fun w _ => ?_
    rw [Bool.eq_iff_iff, ieq_iff, beq_iff_eq]; omega
  exact ⟨by rw [vertsN_len h1 h2 hn (Nat.mod_lt _ h1)]; exact a, by rw [e]; exact b⟩

theorem partRight_ok {g : GGraph} {j : GJob} {x : GPart} (h : partRight g j x = true) : ieq (jcheck g j) 0 = true ∧ 0 ≤ x.P ∧ x.P < j.Parts ∧ 0 ≤ x.Step ∧ x.Step ≤ 40 ∧ (x.Vals.length : Int) = countS g j x.P ∧ (x.Rest.length : Int) = countS g j x.P ∧ inOkS g.N j.Parts x.P (-1) x.In = true := by
  simp only [partRight, Bool.and_eq_true, ile_iff, ilt_iff, ieq_iff] at h
  obtain ⟨h1, h2, h3, h4, h5, h6, h7, h8⟩ := h
  exact ⟨ieq_iff.2 h1, h2, h3, h4, h5, h6, h7, h8⟩

theorem inOkS_ok {n parts p : Int} : ∀ {l : List GMsg} {v : Int}, inOkS n parts p v l = true → l.Pairwise (fun a b => a.To < b.To) ∧ (∀ m ∈ l, v < m.To ∧ m.To < n ∧ m.To % parts = p)
  | [], v, _ => ⟨List.Pairwise.nil, fun m h => (nomatch h)⟩
  | m :: l, v, h => by
    simp only [inOkS, Bool.and_eq_true, ilt_iff, ieq_iff] at h
    obtain ⟨h1, h2, h3, h4⟩ := h
    obtain ⟨a, b⟩ := inOkS_ok h4
    refine ⟨List.pairwise_cons.2 ⟨fun x hx => (b x hx).1, a⟩, fun x hx => ?_⟩
    rcases List.mem_cons.1 hx with e | e
    · subst e; exact ⟨h1, h2, h3⟩
    · have := b x e; exact ⟨by omega, this.2⟩
theorem inOkS_mk {n parts p : Int} : ∀ {l : List GMsg} {v : Int}, l.Pairwise (fun a b => a.To < b.To) → (∀ m ∈ l, v < m.To ∧ m.To < n ∧ m.To % parts = p) → inOkS n parts p v l = true
  | [], _, _, _ => rfl
  | m :: l, v, h, hm => by
    obtain ⟨a, b⟩ := List.pairwise_cons.1 h
    have h1 := hm m List.mem_cons_self
    rw [inOkS, ilt_iff.2 h1.1, ilt_iff.2 h1.2.1, ieq_iff.2 h1.2.2]
    exact inOkS_mk b fun x hx => ⟨a x hx, (hm x (List.mem_cons_of_mem _ hx)).2⟩

theorem inOkS_inSt {n parts p : Int} : ∀ {l : List GMsg} {v : Int}, inOkS n parts p v l = true → inSt n v l = true
  | [], _, _ => rfl
  | m :: l, v, h => by
    simp only [inOkS, Bool.and_eq_true] at h
    simp only [inSt, Bool.and_eq_true]
    exact ⟨h.1, h.2.1, inOkS_inSt h.2.2.2⟩

/-- Both walks of Join, vertex by vertex: what stands at a vertex. -/
structure JoinAt (g : GGraph) (j : GJob) (l : List GPart) (v : Nat) : Prop where
  z : izero j.Parts = false
  r : wrem (v : Int) j.Parts = ((v % j.Parts.toNat : Nat) : Int)
  q : wquo .i64 (v : Int) j.Parts = ((v / j.Parts.toNat : Nat) : Int)
  i1 : inr ((v % j.Parts.toNat : Nat) : Int) (len l) = true
  e1 : elAt l ((v % j.Parts.toNat : Nat) : Int) = some (partAt l j v)
  i2 : inr ((v / j.Parts.toNat : Nat) : Int) (len (partAt l j v).Vals) = true
  e2 : elAt (partAt l j v).Vals ((v / j.Parts.toNat : Nat) : Int) = some ((partAt l j v).Vals.getD (v / j.Parts.toNat) 0)
  i3 : inr ((v / j.Parts.toNat : Nat) : Int) (len (partAt l j v).Rest) = true
  e3 : elAt (partAt l j v).Rest ((v / j.Parts.toNat : Nat) : Int) = some ((partAt l j v).Rest.getD (v / j.Parts.toNat) false)
  pr : partRight g j (partAt l j v) = true
  pp : (partAt l j v).P = ((v % j.Parts.toNat : Nat) : Int)

theorem joinAt {g : GGraph} {j : GJob} {l : List GPart} {st : Int} (hc : ieq (jcheck g j) 0 = true) (hl : (l.length : Int) = j.Parts) (h : okAll g j st 0 l = true) {v : Nat} (hv : (v : Int) < g.N) : JoinAt g j l v := by
  obtain ⟨hg, p1, p2, p3, p4, p5, p6, p7, p8⟩ := jcheck_ok hc
  obtain ⟨g1, g2, _, _⟩ := gcheck_ok hg
  obtain ⟨m, hm⟩ := Int.eq_ofNat_of_zero_le (show 0 ≤ j.Parts by omega)
  obtain ⟨n, hn⟩ := Int.eq_ofNat_of_zero_le (show 0 ≤ g.N by omega)
  have hmt : j.Parts.toNat = m := by omega
  have hnt : g.N.toNat = n := by omega
  have hlt : v % m < l.length := by have := Nat.mod_lt v (show 0 < m by omega); omega
  obtain ⟨o1, o2, o3⟩ := okAll_get (k := v % m) h hlt
  obtain ⟨_, r1, r2, r3, r4, r5, r6, r7⟩ := partRight_ok o3
  obtain ⟨s1, s2⟩ := slot_verts (n := n) (parts := m) (by omega) (by omega) (by omega) (v := v) (by omega)
  have hcnt : countS g j (l.getD (v % m) noP).P = ((vertsN n m ((v % m : Nat) : Int)).length : Int) := by
    rw [o1, Nat.zero_add, countS, vertsS, hmt, hnt]
  obtain ⟨a1, a2⟩ := getD_at (l := l) noP hlt
  obtain ⟨b1, b2⟩ := getD_at (l := (l.getD (v % m) noP).Vals) 0 (show v / m < _ by omega)
  obtain ⟨c1, c2⟩ := getD_at (l := (l.getD (v % m) noP).Rest) false (show v / m < _ by omega)
  refine ⟨decide_eq_false (by omega), ?_, ?_, ?_, ?_, ?_, ?_, ?_, ?_, ?_, ?_⟩
  · rw [wrem_emod (by omega), hm]; simp
  · show IntKind.i64.wrap ((v : Int).tdiv j.Parts) = _
    have hle : v / m ≤ v := Nat.div_le_self _ _
    have : (v : Int).tdiv j.Parts = ((v / m : Nat) : Int) := by rw [hm, Int.tdiv_eq_ediv_of_nonneg (by omega)]; rfl
    rw [this, hmt, IntKind.wrap_i64]
    generalize v / m = d at *
    omega
  · rw [hmt]; exact a1
  all_goals (unfold partAt; rw [hmt]; first | exact a2 | exact b1 | exact b2 | exact c1 | exact c2 | exact o3 | (rw [o1, Nat.zero_add]))

theorem app_ok8 {a : List Int} (h : a.length ≤ 1000) : apok (len a) 1 8 = true := decide_eq_true ⟨by show a.length + 1 ≤ _; omega, by show (a.length + 1) * 8 ≤ _; omega⟩
theorem app_ok1 {a : List Bool} (h : a.length ≤ 1000) : apok (len a) 1 1 = true := decide_eq_true ⟨by show a.length + 1 ≤ _; omega, by show (a.length + 1) * 1 ≤ _; omega⟩
theorem app_ok16 {a : List GMsg} (h : a.length ≤ 1000000) : apok (len a) 1 16 = true := decide_eq_true ⟨by show a.length + 1 ≤ _; omega, by show (a.length + 1) * 16 ≤ _; omega⟩

theorem F86_in {K : Nat} (g : GGraph) (j : GJob) (l : List GPart) (x0 : GPart) (a : List Int) (b : List Bool) (v : Int) (x : GPart) (y : Int) (z : Bool) (hl : x.In.length ≤ 1000) (hK : x.In.length < K) (acc : List GMsg) (ha : acc.length ≤ 100000) :
    F86_l2_2 K g j l x0 a b v x y z K acc 0 = some (acc ++ x.In.filter fun m => ieq m.To v) := by
  let step : GMsg → List GMsg → (List GMsg → Option (List GMsg)) → Option (List GMsg) := fun m a c => bif (ieq m.To v) then (bif (apok (len a) 1 16) then c (appL a [m]) else none) else c a
  have h := scanL (l := x.In) (L := fun k c q => F86_l2_2 K g j l x0 a b v x y z k c q) step (fun a => some a) (fun k s i _ => rfl) (by omega) (K := K) hK acc
  have hw : ∀ (l : List GMsg) (a : List GMsg), a.length + l.length ≤ 200000 → goL step (fun a => some a) l a = some (a ++ l.filter fun m => ieq m.To v) := by
    intro l
    induction l with
    | nil => intro a _; simp [goL]
    | cons m l ih =>
      intro a ha
      simp only [List.length_cons] at ha
      rw [goL]
      show (bif (ieq m.To v) then (bif (apok (len a) 1 16) then goL step (fun a => some a) l (appL a [m]) else none) else goL step (fun a => some a) l a) = _
      rw [app_ok16 (by omega), List.filter_cons]
      cases ieq m.To v
      · rw [cond_false, ih a (by omega)]; rfl
      · rw [cond_true, cond_true, ih _ (by simp [appL]; omega)]; simp [appL]
  rw [hw x.In acc (by omega)] at h
  exact h

theorem F86_loop {K : Nat} (hK : 1000 ≤ K) (g : GGraph) (j : GJob) (l : List GPart) (x0 : GPart) {st : Int} (hc : ieq (jcheck g j) 0 = true) (hl : (l.length : Int) = j.Parts) (h : okAll g j st 0 l = true) :
    F86_l1_1 K g j l x0 K [] [] [] 0 = some ((joinS g j l).Vals, (joinS g j l).Rest, (joinS g j l).In) := by
  obtain ⟨hg, p1, p2, p3, p4, p5, p6, p7, p8⟩ := jcheck_ok hc
  obtain ⟨g1, g2, _, _⟩ := gcheck_ok hg
  let step : Nat → List Int × List Bool × List GMsg → (List Int × List Bool × List GMsg → Option (List Int × List Bool × List GMsg)) → Option (List Int × List Bool × List GMsg) := fun v s c =>
      bif (izero j.Parts) then none else
      bif (inr (wrem (v : Int) j.Parts) (len l)) then
      (elAt l (wrem (v : Int) j.Parts)).bind fun x3822 =>
      bif (inr (wquo .i64 (v : Int) j.Parts) (len x3822.Vals)) then
      (elAt x3822.Vals (wquo .i64 (v : Int) j.Parts)).bind fun x3825 =>
      bif (apok (len s.1) 1 8) then
      bif (inr (wquo .i64 (v : Int) j.Parts) (len x3822.Rest)) then
      (elAt x3822.Rest (wquo .i64 (v : Int) j.Parts)).bind fun x3829 =>
      bif (apok (len s.2.1) 1 1) then
      (F86_l2_2 K g j l x0 s.1 s.2.1 (v : Int) x3822 x3825 x3829 K s.2.2 0).bind fun w3851 => c (appL s.1 [x3825], appL s.2.1 [x3829], w3851)
      else none
      else none
      else none
      else none
      else none
  have hs := scanN (N := g.N) (L := fun k (s : List Int × List Bool × List GMsg) i => F86_l1_1 K g j l x0 k s.1 s.2.1 s.2.2 i) step (fun s => some s) (fun k s i _ => rfl) (by omega) (K := K) (by omega) ([], [], [])
  have hw : ∀ (r : List Nat) (a : List Int) (b : List Bool) (m : List GMsg), (∀ v ∈ r, (v : Int) < g.N) → a.length + r.length ≤ 100 → b.length + r.length ≤ 100 → m.length + 100 * r.length ≤ 10000 →
      goL step (fun s => some s) r (a, b, m) = some (a ++ r.map (fun v => (partAt l j v).Vals.getD (v / j.Parts.toNat) 0), b ++ r.map (fun v => (partAt l j v).Rest.getD (v / j.Parts.toNat) false), m ++ r.flatMap fun (v : Nat) => (partAt l j v).In.filter fun m => ieq m.To (v : Int)) := by
    intro r
    induction r with
    | nil => intro a b m _ _ _ _; simp [goL]
    | cons v r ih =>
      intro a b m hv ha hb hm
      simp only [List.length_cons] at ha hb hm
      have ja := joinAt hc hl h (hv v List.mem_cons_self)
      obtain ⟨_, r1, r2, r3, r4, r5, r6, r7⟩ := partRight_ok ja.pr
      obtain ⟨q1, q2⟩ := inOkS_ok r7
      have hlen : (partAt l j v).In.length ≤ 25 := by
        have := inSt_len (n := g.N) (v := -1) (l := (partAt l j v).In) (inOkS_inSt r7) (by omega)
        omega
      have hfl : ((partAt l j v).In.filter fun m => ieq m.To (v : Int)).length ≤ 25 := Nat.le_trans (List.length_filter_le _ _) hlen
      rw [goL]
      show (bif (izero j.Parts) then none else
      bif (inr (wrem (v : Int) j.Parts) (len l)) then
      (elAt l (wrem (v : Int) j.Parts)).bind fun x3822 =>
      bif (inr (wquo .i64 (v : Int) j.Parts) (len x3822.Vals)) then
      (elAt x3822.Vals (wquo .i64 (v : Int) j.Parts)).bind fun x3825 =>
      bif (apok (len a) 1 8) then
      bif (inr (wquo .i64 (v : Int) j.Parts) (len x3822.Rest)) then
      (elAt x3822.Rest (wquo .i64 (v : Int) j.Parts)).bind fun x3829 =>
      bif (apok (len b) 1 1) then
      (F86_l2_2 K g j l x0 a b (v : Int) x3822 x3825 x3829 K m 0).bind fun w3851 => goL step (fun s => some s) r (appL a [x3825], appL b [x3829], w3851)
      else none
      else none
      else none
      else none
      else none) = _
      rw [ja.z, cond_false, ja.r, ja.q, ja.i1, cond_true, ja.e1, Option.bind_some, ja.i2, cond_true, ja.e2, Option.bind_some, app_ok8 (by omega), cond_true, ja.i3, cond_true, ja.e3, Option.bind_some, app_ok1 (by omega), cond_true,
        F86_in g j l x0 a b (v : Int) (partAt l j v) _ _ (by omega) (by omega) m (by omega), Option.bind_some, ih _ _ _ (fun x hx => hv x (List.mem_cons_of_mem _ hx)) (by simp [appL]; omega) (by simp [appL]; omega) (by simp only [List.length_append]; omega)]
      simp [appL]
  rw [hw _ [] [] [] (fun v hv => by have := List.mem_range.1 hv; omega) (by simp; omega) (by simp; omega) (by simp; omega)] at hs
  simpa [joinS] using hs
end Go.Proofs.Ytnjanliihnadjaa.Tm

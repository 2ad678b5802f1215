/- Join, the program's way: with a mark in each partition. Conditions: none. -/
import Derived.Test.YtnjanliihnadjaaRd
set_option linter.unusedVariables false
set_option linter.unusedSimpArgs false
namespace Go.Proofs.Ytnjanliihnadjaa.Tm
open Go

def ltN (v : Int) (l : List GMsg) : Nat := (l.filter fun m => ilt m.To v).length

theorem ptr : ∀ {l : List GMsg}, l.Pairwise (fun a b => a.To < b.To) → ∀ v : Int,
    (∃ m, l[ltN v l]? = some m ∧ m.To = v ∧ (l.filter fun m => ieq m.To v) = [m] ∧ ltN (v + 1) l = ltN v l + 1) ∨
    ((∀ m, l[ltN v l]? = some m → m.To ≠ v) ∧ (l.filter fun m => ieq m.To v) = [] ∧ ltN (v + 1) l = ltN v l)
  | [], _, v => .inr ⟨fun m h => (nomatch h), rfl, rfl⟩
  | a :: r, h, v => by
    obtain ⟨h1, h2⟩ := List.pairwise_cons.1 h
    by_cases hlt : a.To < v
    · have e1 : ltN v (a :: r) = ltN v r + 1 := by unfold ltN; rw [List.filter_cons, ilt_iff.2 hlt]; rfl
      have e2 : ltN (v + 1) (a :: r) = ltN (v + 1) r + 1 := by unfold ltN; rw [List.filter_cons, ilt_iff.2 (by omega : a.To < v + 1)]; rfl
      have e3 : ((a :: r).filter fun m => ieq m.To v) = r.filter fun m => ieq m.To v := by rw [List.filter_cons, ieq_f.2 (by omega : a.To ≠ v)]; rfl
      rw [e1, e2, e3, List.getElem?_cons_succ]
      rcases ptr h2 v with ⟨m, a1, a2, a3, a4⟩ | ⟨a1, a2, a3⟩
      · exact .inl ⟨m, a1, a2, a3, by omega⟩
      · exact .inr ⟨a1, a2, by omega⟩
    · have hr : ∀ w, w ≤ v + 1 → v ≤ a.To → ltN w r = 0 := fun w hw hv => by
        unfold ltN
        rw [List.length_eq_zero_iff, List.filter_eq_nil_iff]
        intro x hx hc
        have := h1 x hx
        have := ilt_iff.1 hc
        omega
      have e1 : ltN v (a :: r) = 0 := by
        have := hr v (by omega) (by omega)
        unfold ltN at this ⊢
        rw [List.filter_cons, ilt_f.2 (by omega : v ≤ a.To)]; exact this
      have h3 : (r.filter fun m => ieq m.To v) = [] := by
        rw [List.filter_eq_nil_iff]
        intro x hx hc
        have := h1 x hx
        have := ieq_iff.1 hc
        omega
      by_cases he : a.To = v
      · left
        have e2 : ltN (v + 1) (a :: r) = 1 := by
          have := hr (v + 1) (by omega) (by omega)
          unfold ltN at this ⊢
          rw [List.filter_cons, ilt_iff.2 (by omega : a.To < v + 1), if_pos rfl, List.length_cons, this]
        refine ⟨a, by rw [e1]; rfl, he, ?_, by omega⟩
        rw [List.filter_cons, ieq_iff.2 he, if_pos rfl, h3]
      · right
        have e2 : ltN (v + 1) (a :: r) = 0 := by
          have := hr (v + 1) (by omega) (by omega)
          unfold ltN at this ⊢
          rw [List.filter_cons, ilt_f.2 (by omega : v + 1 ≤ a.To)]; exact this
        refine ⟨fun m hm => ?_, ?_, by omega⟩
        · rw [e1] at hm; cases hm; exact he
        · rw [List.filter_cons, ieq_f.2 he, h3]; rfl

def marks (l : List GPart) (m v : Nat) : List Int := (List.range m).map fun p => ((ltN (v : Int) (l.getD p noP).In : Nat) : Int)

theorem set_range {α : Type} (f : Nat → α) (m p : Nat) (y : α) : ((List.range m).map f).set p y = (List.range m).map fun q => if q = p then y else f q := by
  apply List.ext_getElem?
  intro i
  rw [List.getElem?_set, List.getElem?_map, List.getElem?_map, List.length_map, List.length_range]
  by_cases hi : i < m
  · rw [List.getElem?_range hi]
    by_cases hp : p = i
    · subst hp; simp [hi]
    · have : ¬ i = p := fun e => hp e.symm
      simp [hp, this]
  · rw [List.getElem?_eq_none (by simp; omega)]
    by_cases hp : p = i
    · subst hp; simp [hi]
    · simp [hp]

theorem ltN_other {l : List GMsg} {v : Int} (h : ∀ m ∈ l, m.To ≠ v) : ltN (v + 1) l = ltN v l := by
  unfold ltN
  congr 1
  refine List.filter_congr fun m hm => ?_
  have := h m hm
  rw [Bool.eq_iff_iff, ilt_iff, ilt_iff]; omega

theorem F85_loop {K : Nat} (hK : 1000 ≤ K) (g : GGraph) (j : GJob) (l : List GPart) (x0 : GPart) {st : Int} (hc : ieq (jcheck g j) 0 = true) (hl : (l.length : Int) = j.Parts) (h : okAll g j st 0 l = true) :
    F85_l1_1 K g j l x0 K [] [] [] (repL j.Parts 0) 0 = some ((joinS g j l).Vals, (joinS g j l).Rest, (joinS g j l).In) := by
  obtain ⟨hg, p1, p2, p3, p4, p5, p6, p7, p8⟩ := jcheck_ok hc
  obtain ⟨g1, g2, _, _⟩ := gcheck_ok hg
  obtain ⟨m, hm⟩ := Int.eq_ofNat_of_zero_le (show 0 ≤ j.Parts by omega)
  have hmt : j.Parts.toNat = m := by omega
  let step : Nat → List Int × List Bool × List GMsg × List Int → (List Int × List Bool × List GMsg × List Int → Option (List Int × List Bool × List GMsg)) → Option (List Int × List Bool × List GMsg) := fun v s c =>
      bif (izero j.Parts) then none else
      bif (inr (wrem (v : Int) j.Parts) (len l)) then
      (elAt l (wrem (v : Int) j.Parts)).bind fun x3705 =>
      bif (inr (wquo .i64 (v : Int) j.Parts) (len x3705.Vals)) then
      (elAt x3705.Vals (wquo .i64 (v : Int) j.Parts)).bind fun x3708 =>
      bif (apok (len s.1) 1 8) then
      bif (inr (wquo .i64 (v : Int) j.Parts) (len x3705.Rest)) then
      (elAt x3705.Rest (wquo .i64 (v : Int) j.Parts)).bind fun x3712 =>
      bif (apok (len s.2.1) 1 1) then
      bif (inr x3705.P (len s.2.2.2)) then
      (elAt s.2.2.2 x3705.P).bind fun x3716 =>
      bif (ilt x3716 (nlen (len x3705.In))) then
        (bif (inr x3716 (len x3705.In)) then
        (elAt x3705.In x3716).bind fun x3720 =>
        bif (ieq x3720.To (v : Int)) then
          (bif (apok (len s.2.2.1) 1 16) then
          c (appL s.1 [x3708], appL s.2.1 [x3712], appL s.2.2.1 [x3720], putAt s.2.2.2 x3705.P (wadd .i64 x3716 1))
          else none)
        else c (appL s.1 [x3708], appL s.2.1 [x3712], s.2.2.1, s.2.2.2)
        else none)
      else c (appL s.1 [x3708], appL s.2.1 [x3712], s.2.2.1, s.2.2.2)
      else none
      else none
      else none
      else none
      else none
      else none
  let fin : List Int × List Bool × List GMsg × List Int → Option (List Int × List Bool × List GMsg) := fun s => some (s.1, s.2.1, s.2.2.1)
  have hs := scanN (N := g.N) (L := fun k (s : List Int × List Bool × List GMsg × List Int) i => F85_l1_1 K g j l x0 k s.1 s.2.1 s.2.2.1 s.2.2.2 i) step fin (fun k s i _ => rfl) (by omega) (K := K) (by omega) ([], [], [], repL j.Parts 0)
  have hw : ∀ (n v : Nat) (a : List Int) (b : List Bool) (q : List GMsg), (v : Int) + n = g.N → a.length + n ≤ 100 → b.length + n ≤ 100 → q.length + 100 * n ≤ 10000 →
      goL step fin (List.range' v n) (a, b, q, marks l m v) = some (a ++ (List.range' v n).map (fun v => (partAt l j v).Vals.getD (v / j.Parts.toNat) 0), b ++ (List.range' v n).map (fun v => (partAt l j v).Rest.getD (v / j.Parts.toNat) false), q ++ (List.range' v n).flatMap fun (v : Nat) => (partAt l j v).In.filter fun m => ieq m.To (v : Int)) := by
    intro n
    induction n with
    | zero => intro v a b q _ _ _ _; simp [goL, fin]
    | succ n ih =>
      intro v a b q hv ha hb hq
      have ja := joinAt hc hl h (show (v : Int) < g.N by omega)
      obtain ⟨_, r1, r2, r3, r4, r5, r6, r7⟩ := partRight_ok ja.pr
      obtain ⟨q1, q2⟩ := inOkS_ok r7
      have hpm : v % m < m := Nat.mod_lt v (by omega)
      have hpa : partAt l j v = l.getD (v % m) noP := by unfold partAt; rw [hmt]
      have hpp : (partAt l j v).P = ((v % m : Nat) : Int) := by rw [ja.pp, hmt]
      obtain ⟨k1, k2⟩ := getD_at (l := marks l m v) 0 (show v % m < _ by simp [marks]; exact hpm)
      have k3 : (marks l m v).getD (v % m) 0 = ((ltN (v : Int) (partAt l j v).In : Nat) : Int) := by
        rw [hpa]; simp [marks, List.getD, hpm]
      rw [k3] at k2
      have hother : ∀ p, p < m → p ≠ v % m → ltN ((v + 1 : Nat) : Int) (l.getD p noP).In = ltN (v : Int) (l.getD p noP).In := fun p hp hne => by
        obtain ⟨o1, o2, o3⟩ := okAll_get (k := p) h (by omega)
        obtain ⟨_, _, _, _, _, _, _, o4⟩ := partRight_ok o3
        have := (inOkS_ok o4).2
        have e := ltN_other (l := (l.getD p noP).In) (v := (v : Int)) fun x hx hc => by
          have := (this x hx).2.2
          rw [hc, o1, hm] at this
          have : ((v % m : Nat) : Int) = ((0 + p : Nat) : Int) := by rw [← this]; simp
          omega
        rw [← e]; rfl
      have step1 : ∀ x y c, goL step fin (List.range' (v + 1) n) (appL a [x], appL b [y], c, marks l m (v + 1)) = some ((appL a [x]) ++ (List.range' (v + 1) n).map (fun v => (partAt l j v).Vals.getD (v / j.Parts.toNat) 0), (appL b [y]) ++ (List.range' (v + 1) n).map (fun v => (partAt l j v).Rest.getD (v / j.Parts.toNat) false), c ++ (List.range' (v + 1) n).flatMap fun (v : Nat) => (partAt l j v).In.filter fun m => ieq m.To (v : Int)) ∨ 10000 < c.length + 100 * n := fun x y c => by
        by_cases hcl : c.length + 100 * n ≤ 10000
        · exact .inl (ih (v + 1) _ _ c (by omega) (by simp [appL]; omega) (by simp [appL]; omega) hcl)
        · exact .inr (by omega)
      have hsame : marks l m (v + 1) = marks l m v ∨ ltN ((v : Int) + 1) (partAt l j v).In ≠ ltN (v : Int) (partAt l j v).In := by
        by_cases he : ltN ((v : Int) + 1) (partAt l j v).In = ltN (v : Int) (partAt l j v).In
        · left
          unfold marks
          refine List.map_congr_left fun p hp => ?_
          have hp' := List.mem_range.1 hp
          by_cases hpe : p = v % m
          · subst hpe
            rw [hpa] at he
            have : ltN ((v + 1 : Nat) : Int) (l.getD (v % m) noP).In = ltN ((v : Int) + 1) (l.getD (v % m) noP).In := rfl
            rw [this, he]
          · rw [hother p hp' hpe]
        · exact .inr he
      rw [List.range'_succ, goL]
      show (bif (izero j.Parts) then none else
      bif (inr (wrem (v : Int) j.Parts) (len l)) then
      (elAt l (wrem (v : Int) j.Parts)).bind fun x3705 =>
      bif (inr (wquo .i64 (v : Int) j.Parts) (len x3705.Vals)) then
      (elAt x3705.Vals (wquo .i64 (v : Int) j.Parts)).bind fun x3708 =>
      bif (apok (len a) 1 8) then
      bif (inr (wquo .i64 (v : Int) j.Parts) (len x3705.Rest)) then
      (elAt x3705.Rest (wquo .i64 (v : Int) j.Parts)).bind fun x3712 =>
      bif (apok (len b) 1 1) then
      bif (inr x3705.P (len (marks l m v))) then
      (elAt (marks l m v) x3705.P).bind fun x3716 =>
      bif (ilt x3716 (nlen (len x3705.In))) then
        (bif (inr x3716 (len x3705.In)) then
        (elAt x3705.In x3716).bind fun x3720 =>
        bif (ieq x3720.To (v : Int)) then
          (bif (apok (len q) 1 16) then
          goL step fin (List.range' (v + 1) n) (appL a [x3708], appL b [x3712], appL q [x3720], putAt (marks l m v) x3705.P (wadd .i64 x3716 1))
          else none)
        else goL step fin (List.range' (v + 1) n) (appL a [x3708], appL b [x3712], q, marks l m v)
        else none)
      else goL step fin (List.range' (v + 1) n) (appL a [x3708], appL b [x3712], q, marks l m v)
      else none
      else none
      else none
      else none
      else none
      else none) = _
      rw [ja.z, cond_false, ja.r, ja.q, ja.i1, cond_true, ja.e1, Option.bind_some, ja.i2, cond_true, ja.e2, Option.bind_some, app_ok8 (by omega), cond_true, ja.i3, cond_true, ja.e3, Option.bind_some, app_ok1 (by omega), cond_true,
        hpp, k1, cond_true, k2, Option.bind_some, app_ok16 (by omega)]
      have done : ∀ c, c.length + 100 * n ≤ 10000 → c = q ++ ((partAt l j v).In.filter fun m => ieq m.To (v : Int)) →
          goL step fin (List.range' (v + 1) n) (appL a [(partAt l j v).Vals.getD (v / j.Parts.toNat) 0], appL b [(partAt l j v).Rest.getD (v / j.Parts.toNat) false], c, marks l m (v + 1)) =
          some (a ++ (v :: List.range' (v + 1) n).map (fun v => (partAt l j v).Vals.getD (v / j.Parts.toNat) 0), b ++ (v :: List.range' (v + 1) n).map (fun v => (partAt l j v).Rest.getD (v / j.Parts.toNat) false), q ++ (v :: List.range' (v + 1) n).flatMap fun (v : Nat) => (partAt l j v).In.filter fun m => ieq m.To (v : Int)) := by
        intro c hcl hce
        rcases step1 ((partAt l j v).Vals.getD (v / j.Parts.toNat) 0) ((partAt l j v).Rest.getD (v / j.Parts.toNat) false) c with e | e
        · rw [e, hce]; simp [appL]
        · omega
      rcases ptr q1 (v : Int) with ⟨x, t1, t2, t3, t4⟩ | ⟨t1, t2, t3⟩
      · have hlt : ltN (v : Int) (partAt l j v).In < (partAt l j v).In.length := (List.getElem?_eq_some_iff.1 t1).1
        have hlen : (partAt l j v).In.length ≤ 25 := by
          have := inSt_len (n := g.N) (v := -1) (l := (partAt l j v).In) (inOkS_inSt r7) (by omega)
          omega
        have u1 : ilt ((ltN (v : Int) (partAt l j v).In : Nat) : Int) (nlen (len (partAt l j v).In)) = true := ilt_iff.2 (by show ((ltN (v : Int) (partAt l j v).In : Nat) : Int) < ((partAt l j v).In.length : Int); omega)
        have u2 : inr ((ltN (v : Int) (partAt l j v).In : Nat) : Int) (len (partAt l j v).In) = true := decide_eq_true ⟨by omega, by show ((ltN (v : Int) (partAt l j v).In : Nat) : Int) < ((partAt l j v).In.length : Int); omega⟩
        have u3 : elAt (partAt l j v).In ((ltN (v : Int) (partAt l j v).In : Nat) : Int) = some x := by rw [elAt_nat]; exact t1
        have u4 : putAt (marks l m v) ((v % m : Nat) : Int) (wadd .i64 ((ltN (v : Int) (partAt l j v).In : Nat) : Int) 1) = marks l m (v + 1) := by
          rw [wadd_nat (by omega)]
          show (marks l m v).set ((v % m : Nat) : Int).toNat _ = _
          rw [Int.toNat_natCast]
          unfold marks
          rw [set_range]
          refine List.map_congr_left fun p hp => ?_
          have hp' := List.mem_range.1 hp
          by_cases hpe : p = v % m
          · subst hpe
            rw [if_pos rfl]
            rw [hpa] at t4 ⊢
            have : ltN ((v + 1 : Nat) : Int) (l.getD (v % m) noP).In = ltN ((v : Int) + 1) (l.getD (v % m) noP).In := rfl
            rw [this, t4]
          · rw [if_neg hpe, hother p hp' hpe]
        rw [u1, cond_true, u2, cond_true, u3, Option.bind_some, ieq_iff.2 t2, cond_true, cond_true, u4]
        exact done _ (by simp [appL]; omega) (by rw [t3]; rfl)
      · have hmk : marks l m v = marks l m (v + 1) := by
          rcases hsame with e | e
          · exact e.symm
          · exact absurd t3 e
        have dn := done q (by omega) (by rw [t2, List.append_nil])
        rw [hmk]
        by_cases hlt : ltN (v : Int) (partAt l j v).In < (partAt l j v).In.length
        · have u1 : ilt ((ltN (v : Int) (partAt l j v).In : Nat) : Int) (nlen (len (partAt l j v).In)) = true := ilt_iff.2 (by show ((ltN (v : Int) (partAt l j v).In : Nat) : Int) < ((partAt l j v).In.length : Int); omega)
          have u2 : inr ((ltN (v : Int) (partAt l j v).In : Nat) : Int) (len (partAt l j v).In) = true := decide_eq_true ⟨by omega, by show ((ltN (v : Int) (partAt l j v).In : Nat) : Int) < ((partAt l j v).In.length : Int); omega⟩
          have u3 : elAt (partAt l j v).In ((ltN (v : Int) (partAt l j v).In : Nat) : Int) = some ((partAt l j v).In[ltN (v : Int) (partAt l j v).In]) := by rw [elAt_nat]; exact List.getElem?_eq_getElem hlt
          have u5 := t1 _ (List.getElem?_eq_getElem hlt)
          rw [u1, cond_true, u2, cond_true, u3, Option.bind_some, ieq_f.2 u5, cond_false]
          exact dn
        · have u1 : ilt ((ltN (v : Int) (partAt l j v).In : Nat) : Int) (nlen (len (partAt l j v).In)) = false := ilt_f.2 (by show ((partAt l j v).In.length : Int) ≤ ((ltN (v : Int) (partAt l j v).In : Nat) : Int); omega)
          rw [u1, cond_false]
          exact dn
  have hm0 : repL (α := Int) j.Parts 0 = marks l m 0 := by
    unfold marks repL
    rw [hmt]
    apply List.ext_getElem?
    intro i
    rw [List.getElem?_replicate, List.getElem?_map]
    by_cases hi : i < m
    · rw [if_pos hi, List.getElem?_range hi]
      obtain ⟨o1, o2, o3⟩ := okAll_get (k := i) h (by omega)
      obtain ⟨_, _, _, _, _, _, _, o4⟩ := partRight_ok o3
      have ho := (inOkS_ok o4).2
      have : ltN ((0 : Nat) : Int) (l.getD i noP).In = 0 := by
        unfold ltN
        rw [List.length_eq_zero_iff, List.filter_eq_nil_iff]
        intro x hx hc
        have := ho x hx
        have := ilt_iff.1 hc
        omega
      show some (0 : Int) = some ((ltN ((0 : Nat) : Int) (l.getD i noP).In : Nat) : Int)
      rw [this]; rfl
    · rw [if_neg hi, List.getElem?_eq_none (by simp; omega)]; rfl
  have := hw g.N.toNat 0 [] [] [] (by omega) (by simp; omega) (by simp; omega) (by simp; omega)
  rw [← hm0, ← List.range_eq_range'] at this
  rw [this] at hs
  simpa [joinS] using hs

theorem join_checks {K : Nat} {g : GGraph} {j : GJob} {l : List GPart} (hl : 0 < l.length) (hl2 : l.length < 1000) (hK : 1000 ≤ K) (hx : ∀ x ∈ l, x.In.length < 1000 ∧ (-9223372036854775808 ≤ x.P ∧ x.P ≤ 9223372036854775807)) :
    F85_l0_0 K g j l K 0 = some (sumU (okAll g j (l.getD 0 noP).Step 0 l)) ∧ F86_l0_0 K g j l K 0 = some (sumU (okAll g j (l.getD 0 noP).Step 0 l)) := by
  constructor
  · have h := scanI (l := l) (L := fun k (_ : Unit) i => F85_l0_0 K g j l k i) (fun i x (_ : Unit) c => bif ieq x.P (i : Int) then (bif inr 0 (len l) then (elAt l 0).bind fun y => bif ieq x.Step y.Step then ((F80 K g j x).bind fun q => bif q then c () else some (.inl ())) else some (.inl ()) else none) else some (.inl ())) (fun _ => some (.inr ())) (fun k st i hi => rfl) (by omega) K () 0 (by omega) (by omega)
    have e := chk_go (K := K) (g := g) (j := j) (l := l) rfl hl F80 (fun x h => F80_spec hK g j x (by have := hx x h; omega) (by have := hx x h; omega) (hx x h).2) l 0 rfl
    exact h.trans e
  · have h := scanI (l := l) (L := fun k (_ : Unit) i => F86_l0_0 K g j l k i) (fun i x (_ : Unit) c => bif ieq x.P (i : Int) then (bif inr 0 (len l) then (elAt l 0).bind fun y => bif ieq x.Step y.Step then ((F81 K g j x).bind fun q => bif q then c () else some (.inl ())) else some (.inl ()) else none) else some (.inl ())) (fun _ => some (.inr ())) (fun k st i hi => rfl) (by omega) K () 0 (by omega) (by omega)
    have e := chk_go (K := K) (g := g) (j := j) (l := l) rfl hl F81 (fun x h => F81_spec hK g j x (by have := hx x h; omega) (by have := hx x h; omega)) l 0 rfl
    exact h.trans e

theorem join_spec {K : Nat} (hK : 1000 ≤ K) (g : GGraph) (j : GJob) (l : List GPart) (hx : ∀ x ∈ l, x.In.length < 1000 ∧ (-9223372036854775808 ≤ x.P ∧ x.P ≤ 9223372036854775807)) : F85 K g j l = some (joinR g j l) ∧ F86 K g j l = some (joinR g j l) := by
  rw [F85, F86, F94_spec (by omega), F59_spec (by omega), joinR]
  have nl : nlen (len l) = (l.length : Int) := rfl
  cases hc : ieq (jcheck g j) 0
  · simp only [Option.bind_some, hc, cond_false]; exact ⟨rfl, rfl⟩
  · obtain ⟨hg, p1, p2, p3, p4, p5, p6, p7, p8⟩ := jcheck_ok hc
    simp only [Option.bind_some, hc, cond_true, nl]
    cases hl : ieq (l.length : Int) j.Parts
    · exact ⟨rfl, rfl⟩
    · have hl' := ieq_iff.1 hl
      obtain ⟨c1, c2⟩ := join_checks (K := K) (g := g) (j := j) (l := l) (by omega) (by omega) hK hx
      rw [cond_true, cond_true, c1, c2]
      cases ho : okAll g j (l.getD 0 noP).Step 0 l
      · exact ⟨rfl, rfl⟩
      · obtain ⟨a1, a2⟩ := getD_at (l := l) noP (show 0 < l.length by omega)
        have a1' : inr 0 (len l) = true := a1
        have a2' : elAt l 0 = some (l.getD 0 noP) := a2
        have mk : mkok j.Parts j.Parts 8 = true := decide_eq_true ⟨by omega, Int.le_refl _, by omega, by omega⟩
        have s1 : sumU true = .inr () := rfl
        simp only [s1, Option.bind_some, Sum.elim_inr, a1', a2', mk, cond_true, F85_loop hK g j l _ hc hl' ho, F86_loop hK g j l _ hc hl' ho]
        exact ⟨rfl, rfl⟩
end Go.Proofs.Ytnjanliihnadjaa.Tm

/- Edges put at their places; lines that bear them. Conditions: none. -/
import Derived.Test.YtnjanliihnadjaaPb
set_option linter.unusedVariables false
namespace Go.Proofs.Ytnjanliihnadjaa.Tm
open Go

def ltE (d e : GEdge) : Bool := ilt d.From e.From || (ieq d.From e.From && ilt d.To e.To)
def eqE (d e : GEdge) : Bool := ieq d.From e.From && ieq d.To e.To
def goodE' (n : Int) (e : GEdge) : Prop := ieq (badE n e) 0 = true

theorem ltE_iff {d e : GEdge} : ltE d e = true ↔ d.From < e.From ∨ d.From = e.From ∧ d.To < e.To := by
  simp [ltE, ilt, ieq]
theorem ltE_trans {a b c : GEdge} (h : ltE a b = true) (g : ltE b c = true) : ltE a c = true := by
  rw [ltE_iff] at *; omega
theorem eqE_iff {d e : GEdge} : eqE d e = true ↔ d.From = e.From ∧ d.To = e.To := by simp [eqE, ieq]
theorem eqE_f {d e : GEdge} : eqE d e = false ↔ ¬ (d.From = e.From ∧ d.To = e.To) := by
  rw [← eqE_iff]; simp
theorem ltE_f {d e : GEdge} : ltE d e = false ↔ ¬ (d.From < e.From ∨ d.From = e.From ∧ d.To < e.To) := by
  rw [← ltE_iff]; simp
theorem ltE_irr {a : GEdge} : ltE a a = false := by rw [ltE_f]; omega

theorem F133_lt {n : Int} (hn : n ≤ 24) {d e : GEdge} (hd : goodE' n d) (he : goodE' n e) (K : Nat) : ∃ r, F133 K d e = some r ∧ ilt r 0 = ltE d e ∧ ieq r 0 = eqE d e := by
  refine ⟨_, F133_spec K hn hd he, ?_, ?_⟩
  · rw [Bool.eq_iff_iff, ltE_iff]
    cases h : ieq d.From e.From
    · rw [cond_false, ilt_iff]; have := ieq_f.1 h; omega
    · rw [cond_true, ilt_iff]; have := ieq_iff.1 h; omega
  · rw [Bool.eq_iff_iff, eqE_iff]
    cases h : ieq d.From e.From
    · rw [cond_false, ieq_iff]; have := ieq_f.1 h; omega
    · rw [cond_true, ieq_iff]; have := ieq_iff.1 h; omega

theorem mem_tw {α : Type} {p : α → Bool} : ∀ {l : List α} {x : α}, x ∈ l.takeWhile p → p x = true
  | [], x, h => by cases h
  | y :: l, x, h => by
    rw [List.takeWhile_cons] at h
    cases hy : p y
    · rw [hy] at h; cases h
    · rw [hy, if_pos rfl] at h
      rcases List.mem_cons.1 h with e | e
      · subst e; exact hy
      · exact mem_tw e

theorem drop_tw {α : Type} (p : α → Bool) : ∀ l : List α, l.drop (l.takeWhile p).length = l.dropWhile p
  | [] => rfl
  | y :: l => by
    rw [List.takeWhile_cons, List.dropWhile_cons]
    cases hy : p y
    · simp
    · simp only [if_pos, List.length_cons, List.drop_succ_cons]
      exact drop_tw p l

def putE (es : List GEdge) (e : GEdge) : Option (List GEdge) :=
  match es.dropWhile (fun d => ltE d e) with
  | [] => some (es ++ [e])
  | d :: r => bif eqE d e then none else some (es.takeWhile (fun d => ltE d e) ++ e :: d :: r)

theorem F157_find {K : Nat} {n : Int} (hn : n ≤ 24) {es : List GEdge} {e : GEdge} (hes : ∀ d ∈ es, goodE' n d) (he : goodE' n e) (hl : es.length ≤ 80) : ∀ (k i : Nat), es.length - i < k → i ≤ es.length →
    F157_l0_0 K es e k (i : Int) = some ((i + ((es.drop i).takeWhile (fun d => ltE d e)).length : Nat) : Int) := by
  intro k
  induction k with
  | zero => intro i h; omega
  | succ k ih =>
    intro i h hi
    rw [F157_l0_0]
    rcases at_idx es i with ⟨x, e1, e2, e3, e4⟩ | ⟨e1, e2⟩
    · have hlt := lt_of_drop' e1
      have hx : x ∈ es := by
        have : x ∈ es.drop i := by rw [e1]; exact List.mem_cons_self
        exact List.mem_of_mem_drop this
      obtain ⟨r, r1, r2, r3⟩ := F133_lt hn (hes x hx) he K
      rw [e2, cond_true, e3, cond_true, e4, Option.bind_some, r1, Option.bind_some, r2, e1, List.takeWhile_cons]
      cases ltE x e
      · simp
      · rw [cond_true, wadd_nat (by omega), ih (i + 1) (by omega) (by omega), if_pos rfl, List.length_cons]
        congr 2; omega
    · rw [e2, e1]; simp

theorem F157_spec {K : Nat} (hK : 100 ≤ K) {n : Int} (hn : n ≤ 24) {es : List GEdge} {e : GEdge} (hes : ∀ d ∈ es, goodE' n d) (he : goodE' n e) (hl : es.length ≤ 80) :
    F157 K es e = some (match putE es e with | none => (es, false) | some l => (l, true)) := by
  have hf := F157_find (K := K) hn hes he hl K 0 (by omega) (by omega)
  rw [List.drop_zero, Nat.zero_add] at hf
  have hf' : F157_l0_0 K es e K 0 = _ := hf
  have hle : (es.takeWhile (fun d => ltE d e)).length ≤ es.length := (List.takeWhile_sublist _).length_le
  have htk : es.take (es.takeWhile (fun d => ltE d e)).length = es.takeWhile (fun d => ltE d e) := (List.prefix_iff_eq_take.1 (List.takeWhile_prefix _)).symm
  have hta : es.takeWhile (fun d => ltE d e) ++ es.dropWhile (fun d => ltE d e) = es := List.takeWhile_append_dropWhile
  have hdw : es.drop (es.takeWhile (fun d => ltE d e)).length = es.dropWhile (fun d => ltE d e) := drop_tw _ _
  generalize hw : (es.takeWhile (fun d => ltE d e)).length = w at *
  have s0 : subL es 0 (w : Int) = es.takeWhile (fun d => ltE d e) := by simp [subL, htk]
  have s1 : subL es (w : Int) (nlen (len es)) = es.dropWhile (fun d => ltE d e) := by
    have : nlen (len es) = (es.length : Int) := rfl
    rw [this]
    simp only [subL, Int.toNat_natCast]
    rw [List.take_of_length_le (by simp), hdw]
  have b1 : bnd 0 (w : Int) (len es) = true := decide_eq_true ⟨by omega, by omega, by show (w : Int) ≤ (es.length : Int); omega⟩
  have b2 : bnd (w : Int) (nlen (len es)) (len es) = true := decide_eq_true ⟨by omega, by show (w : Int) ≤ (es.length : Int); omega, Int.le_refl _⟩
  have lt1 : (es.takeWhile (fun d => ltE d e)).length ≤ 80 := by omega
  have lt2 : (es.dropWhile (fun d => ltE d e)).length ≤ 80 := by rw [← hdw, List.length_drop]; omega
  have a1 : apok 0 (len (subL es 0 (w : Int))) 24 = true := by rw [s0]; exact decide_eq_true ⟨by show 0 + (es.takeWhile (fun d => ltE d e)).length ≤ _; omega, by show (0 + (es.takeWhile (fun d => ltE d e)).length) * 24 ≤ _; omega⟩
  have a2 : apok (len (appL [] (subL es 0 (w : Int)))) 1 24 = true := by rw [s0]; exact decide_eq_true ⟨by simp only [len, appL, List.nil_append]; omega, by simp only [len, appL, List.nil_append]; omega⟩
  have a3 : apok (len (appL (appL [] (subL es 0 (w : Int))) [e])) (len (subL es (w : Int) (nlen (len es)))) 24 = true := by
    rw [s0, s1]
    exact decide_eq_true ⟨by simp only [len, appL, List.nil_append, List.length_append, List.length_cons, List.length_nil]; omega, by simp only [len, appL, List.nil_append, List.length_append, List.length_cons, List.length_nil]; omega⟩
  rw [F157, hf', Option.bind_some, b1, b2, a1, a2, a3, putE]
  simp only [cond_true]
  rw [s0, s1]
  rcases at_idx es w with ⟨x, e1, e2, e3, e4⟩ | ⟨e1, e2⟩
  · have hx : x ∈ es := by
      have : x ∈ es.drop w := by rw [e1]; exact List.mem_cons_self
      exact List.mem_of_mem_drop this
    obtain ⟨r, r1, r2, r3⟩ := F133_lt hn (hes x hx) he K
    rw [e2, cond_true, e3, cond_true, e4, Option.bind_some, r1, Option.bind_some, r3]
    rw [← hdw, e1]
    dsimp only
    cases eqE x e
    · simp [appL]
    · rfl
  · rw [e2, cond_false, ← hdw, e1]
    have : es.takeWhile (fun d => ltE d e) = es := by rw [← hdw, e1, List.append_nil] at hta; exact hta
    rw [this]
    simp [appL]

/-! ### What a put list is -/
def srtE (es : List GEdge) : Prop := es.Pairwise fun d e => ltE d e = true

theorem putE_ok {es l : List GEdge} {e : GEdge} (hs : srtE es) (h : putE es e = some l) : srtE l ∧ l.length = es.length + 1 ∧ (∀ d ∈ l, d = e ∨ d ∈ es) ∧ l.Perm (e :: es) := by
  have hta : es.takeWhile (fun d => ltE d e) ++ es.dropWhile (fun d => ltE d e) = es := List.takeWhile_append_dropWhile
  rw [putE] at h
  have hp : l.Perm (e :: es) := by
    cases hq : es.dropWhile (fun d => ltE d e) with
    | nil => rw [hq] at h; cases h; exact List.perm_append_singleton e es
    | cons y ys =>
      rw [hq] at h
      dsimp only at h
      cases hb : eqE y e
      · rw [hb, cond_false] at h
        cases h
        rw [hq] at hta
        conv => rhs; rw [← hta]
        exact List.perm_middle
      · rw [hb] at h; cases h
  refine ⟨?_, by rw [hp.length_eq]; rfl, fun d hd => List.mem_cons.1 (hp.mem_iff.1 hd), hp⟩
  cases hq : es.dropWhile (fun d => ltE d e) with
  | nil =>
    rw [hq] at h; cases h
    rw [hq, List.append_nil] at hta
    refine List.pairwise_append.2 ⟨hs, List.pairwise_singleton _ _, fun a ha b hb => ?_⟩
    rw [List.mem_singleton.1 hb]
    rw [← hta] at ha
    exact mem_tw (p := fun d => ltE d e) ha
  | cons y ys =>
    rw [hq] at h
    dsimp only at h
    cases hb : eqE y e
    · rw [hb, cond_false] at h
      cases h
      have hny : ltE y e = false := by
        have := List.head?_dropWhile_not (fun d => ltE d e) es
        rw [hq] at this
        simpa using this
      have hey : ltE e y = true := by rw [ltE_iff]; rw [ltE_f] at hny; rw [eqE_f] at hb; omega
      rw [hq] at hta
      unfold srtE at hs
      rw [← hta] at hs
      obtain ⟨p1, p2, p3⟩ := List.pairwise_append.1 hs
      refine List.pairwise_append.2 ⟨p1, List.pairwise_cons.2 ⟨fun z hz => ?_, p2⟩, fun a ha b hb => ?_⟩
      · rcases List.mem_cons.1 hz with q | q
        · subst q; exact hey
        · exact ltE_trans hey ((List.pairwise_cons.1 p2).1 z q)
      · have hae : ltE a e = true := mem_tw (p := fun d => ltE d e) ha
        rcases List.mem_cons.1 hb with q | q
        · subst q; exact hae
        · exact p3 a ha b q
    · rw [hb] at h; cases h

/-- An edge whose ends are in none of them finds its place. -/
theorem putE_some {es : List GEdge} {e : GEdge} (h : ∀ d ∈ es, eqE d e = false) : ∃ l, putE es e = some l := by
  rw [putE]
  cases hq : es.dropWhile (fun d => ltE d e) with
  | nil => exact ⟨_, rfl⟩
  | cons y ys =>
    have hy : y ∈ es := by
      have : y ∈ es.dropWhile (fun d => ltE d e) := by rw [hq]; exact List.mem_cons_self
      exact (List.dropWhile_sublist _).subset this
    dsimp only
    rw [h y hy]; exact ⟨_, rfl⟩

theorem ordE_of_lt {d e : GEdge} (h : ltE d e = true) : ordE d e = 0 := by
  rw [ltE_iff] at h
  have h1 : (ieq d.From e.From && ieq d.To e.To) = false := by
    cases hq : ieq d.From e.From && ieq d.To e.To
    · rfl
    · simp only [Bool.and_eq_true, ieq_iff] at hq; omega
  have h2 : (ilt e.From d.From || (ieq d.From e.From && ilt e.To d.To)) = false := by
    cases hq : ilt e.From d.From || (ieq d.From e.From && ilt e.To d.To)
    · rfl
    · simp only [Bool.or_eq_true, Bool.and_eq_true, ieq_iff, ilt_iff] at hq; omega
  rw [ordE, h1, h2]; rfl
theorem lt_of_ordE {d e : GEdge} (h : ordE d e = 0) : ltE d e = true := by
  rw [ordE] at h
  cases h1 : ieq d.From e.From && ieq d.To e.To
  · cases h2 : ilt e.From d.From || (ieq d.From e.From && ilt e.To d.To)
    · rw [ltE_iff]
      simp only [Bool.or_eq_false_iff, Bool.and_eq_false_iff, ilt_f, ieq_f] at h1 h2
      omega
    · rw [h1, h2] at h; cases h
  · rw [h1] at h; cases h

theorem gchk_of {n : Int} : ∀ {l : List GEdge} {p : Option GEdge}, (∀ e ∈ l, goodE' n e) → srtE l → (∀ d, p = some d → ∀ e ∈ l, ltE d e = true) → gchk n p l = 0
  | [], _, _, _, _ => by simp [gchk]
  | x :: l, p, h, hs, hp => by
    have hx : ieq (badE n x) 0 = true := h x List.mem_cons_self
    obtain ⟨s1, s2⟩ := List.pairwise_cons.1 hs
    have ih := gchk_of (p := some x) (fun e he => h e (List.mem_cons_of_mem _ he)) s2 (fun d hd e he => by cases hd; exact s1 e he)
    unfold gchk
    rw [hx, cond_true]
    cases p with
    | none => exact ih
    | some d =>
      dsimp only
      rw [ordE_of_lt (hp d rfl x List.mem_cons_self), ieq_refl, cond_true]; exact ih

theorem gchk_srt {n : Int} : ∀ {l : List GEdge} {p : Option GEdge}, gchk n p l = 0 → srtE l ∧ ∀ d, p = some d → ∀ e ∈ l, ltE d e = true
  | [], _, _ => ⟨List.Pairwise.nil, fun d _ e he => (nomatch he)⟩
  | x :: l, p, h => by
    unfold gchk at h
    cases hb : ieq (badE n x) 0
    · rw [hb, cond_false] at h; rw [h] at hb; cases hb
    · rw [hb, cond_true] at h
      cases p with
      | none =>
        obtain ⟨h1, h2⟩ := gchk_srt h
        exact ⟨List.pairwise_cons.2 ⟨fun e he => h2 x rfl e he, h1⟩, fun d hd => (nomatch hd)⟩
      | some d =>
        dsimp only at h
        cases ho : ieq (ordE d x) 0
        · rw [ho, cond_false] at h; rw [h] at ho; cases ho
        · rw [ho, cond_true] at h
          obtain ⟨h1, h2⟩ := gchk_srt h
          have hdx := lt_of_ordE (ieq_iff.1 ho)
          refine ⟨List.pairwise_cons.2 ⟨fun e he => h2 x rfl e he, h1⟩, fun d' hd e he => ?_⟩
          cases hd
          rcases List.mem_cons.1 he with q | q
          · subst q; exact hdx
          · exact ltE_trans hdx (h2 x rfl e q)

/-! ### A line's edge -/
def small24 (v : Int) : Int := bif ilt 24 v then 24 else v
theorem F156_spec (K : Nat) (v : Int) : F156 K v = some (small24 v) := by
  rw [F156, small24]; cases ilt 24 v <;> rfl

def addE (n : Int) (es : List GEdge) (L : List UInt8) : Int × List GEdge := match lineNums L wEdge 3 with
  | some [a, b, c] => bif ile 80 (nlen (len es)) then (3, es) else
      bif ieq (badE n ⟨small24 a, small24 b, c⟩) 0 then (match putE es ⟨small24 a, small24 b, c⟩ with | none => (5, es) | some l => (0, l)) else (badE n ⟨small24 a, small24 b, c⟩, es)
  | _ => (2, es)

theorem F137_spec {K : Nat} (hK : 5000 ≤ K) {n : Int} (hn : n ≤ 24) {es : List GEdge} (hes : ∀ d ∈ es, goodE' n d) (hl : es.length ≤ 80) (L : List UInt8) (hL : L.length ≤ 4000) :
    F137_ii K (GGraph.mk n es) (tx L) = some ((addE n es L).1, GGraph.mk n (addE n es L).2) := by
  obtain ⟨vs, b, h1, h2⟩ := F136_spec (K := K) L wEdge 3 (by omega) (by omega) (by omega)
  have h1' : F136 K (tx L) (bs [101, 100, 103, 101]) 3 = some (vs, b) := h1
  rw [F137_ii, h1', Option.bind_some, addE, ← h2]
  cases b
  · rfl
  · have h3 := lineNums_len (h2.symm.trans rfl : lineNums L wEdge 3 = some vs)
    match vs, h3.1 with
    | [a, b, c], _ =>
      dsimp only [cond_true]
      cases h80 : ile 80 (nlen (len es))
      · have i0 : inr 0 (len [a, b, c]) = true := rfl
        have i1 : inr 1 (len [a, b, c]) = true := rfl
        have i2 : inr 2 (len [a, b, c]) = true := rfl
        have g0 : elAt [a, b, c] 0 = some a := rfl
        have g1 : elAt [a, b, c] 1 = some b := rfl
        have g2 : elAt [a, b, c] 2 = some c := rfl
        simp only [cond_false, i0, i1, i2, cond_true, g0, g1, g2, Option.bind_some, F156_spec, F132_spec]
        cases hb : ieq (badE n ⟨small24 a, small24 b, c⟩) 0
        · rfl
        · rw [cond_true, F157_spec (by omega) hn hes hb hl, Option.bind_some]
          cases putE es ⟨small24 a, small24 b, c⟩ with
          | none => rfl
          | some l => rfl
      · rfl

end Go.Proofs.Ytnjanliihnadjaa.Tm

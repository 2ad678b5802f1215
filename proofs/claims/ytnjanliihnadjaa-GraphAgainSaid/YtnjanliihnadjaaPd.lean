/- Parse, whole. Conditions: none. -/
import Derived.Test.YtnjanliihnadjaaPc
set_option linter.unusedVariables false
namespace Go.Proofs.Ytnjanliihnadjaa.Tm
open Go

def restP (n : Int) : Nat → List (List UInt8) → List GEdge → Int → List GEdge × Int × Int
  | _, [], es, at_ => (es, 0, at_)
  | i, L :: r, es, _ => bif ieq (addE n es L).1 0 then restP n (i + 1) r (addE n es L).2 ((i + 1 : Nat) : Int) else ((addE n es L).2, (addE n es L).1, ((i + 1 : Nat) : Int))

def noG : GGraph := GGraph.mk 0 []
def parseS (K : Nat) (s : List UInt8) : GGraph × Int × Int :=
  bif ilt 4000 (s.length : Int) then (noG, 0, 3) else match linesF K s with
  | [] => (noG, 1, 2)
  | H :: r => match lineNums H wGraph 1 with
    | some [n] => bif ilt n 1 || ilt 24 n then (noG, 1, 1) else
        bif ieq (restP n 1 r [] 1).2.1 0 then (GGraph.mk n (restP n 1 r [] 1).1, 0, 0) else (noG, (restP n 1 r [] 1).2.2, (restP n 1 r [] 1).2.1)
    | _ => (noG, 1, 2)

def fineE (n : Int) (es : List GEdge) : Prop := (∀ d ∈ es, goodE' n d) ∧ srtE es ∧ es.length ≤ 80

theorem addE_fine {n : Int} {es : List GEdge} (h : fineE n es) (L : List UInt8) : fineE n (addE n es L).2 := by
  rw [addE]
  split
  · rename_i a b c _
    cases h80 : ile 80 (nlen (len es))
    · have hl : es.length < 80 := by have := ile_f.1 h80; simp only [nlen, len] at this; omega
      cases hb : ieq (badE n ⟨small24 a, small24 b, c⟩) 0
      · exact h
      · rw [cond_false, cond_true]
        cases hp : putE es ⟨small24 a, small24 b, c⟩ with
        | none => exact h
        | some l =>
          obtain ⟨p1, p2, p3, p4⟩ := putE_ok h.2.1 hp
          refine ⟨fun d hd => ?_, p1, by show l.length ≤ 80; omega⟩
          rcases p3 d hd with q | q
          · rw [q]; exact hb
          · exact h.1 d q
    · exact h
  · exact h

theorem restP_fine {n : Int} : ∀ (r : List (List UInt8)) (i : Nat) (es : List GEdge) (a : Int), fineE n es → 0 ≤ a → a ≤ i + r.length → fineE n (restP n i r es a).1 ∧ 0 ≤ (restP n i r es a).2.2 ∧ (restP n i r es a).2.2 ≤ i + r.length
  | [], i, es, a, h, h0, ha => ⟨h, h0, ha⟩
  | L :: r, i, es, a, h, h0, ha => by
    rw [restP]
    simp only [List.length_cons] at ha ⊢
    cases hc : ieq (addE n es L).1 0
    · exact ⟨addE_fine h L, by simp only [cond_false]; omega, by simp only [cond_false]; omega⟩
    · obtain ⟨h1, h2, h3⟩ := restP_fine r (i + 1) (addE n es L).2 ((i + 1 : Nat) : Int) (addE_fine h L) (by omega) (by omega)
      rw [cond_true]
      exact ⟨h1, h2, by omega⟩

abbrev PS := Int × List GEdge × Int × Int
def parseStep (K : Nat) : Nat → ByteArray → PS → (PS → Option PS) → Option PS := fun i x st c =>
  bif (ieq (i : Int) 0) then
        ((F136 K x (bs [103, 114, 97, 112, 104]) 1).bind fun r =>
        bif r.2 then
          (bif (inr 0 (len r.1)) then
          (elAt r.1 0).bind fun y =>
          bif (ilt y 1) then (some (st.1, (st.2.1, (1, (wadd .i64 (i : Int) 1)))))
          else bif (ilt 24 y) then (some (st.1, (st.2.1, (1, (wadd .i64 (i : Int) 1)))))
          else c (y, st.2.1, 0, (wadd .i64 (i : Int) 1))
          else none)
        else some (st.1, (st.2.1, (2, (wadd .i64 (i : Int) 1)))))
      else
      (F137_ii K (GGraph.mk st.1 st.2.1) x).bind fun r =>
      bif (ieq r.1 0) then c (r.2.N, r.2.Edges, r.1, (wadd .i64 (i : Int) 1))
      else some (r.2.N, (r.2.Edges, (r.1, (wadd .i64 (i : Int) 1))))

theorem parse_rest {K : Nat} (hK : 5000 ≤ K) {n : Int} (hn : n ≤ 24) : ∀ (r : List (List UInt8)) (i : Nat) (es : List GEdge) (a : Int), 0 < i → i + r.length ≤ 1000000 → fineE n es → (∀ L ∈ r, L.length ≤ 4000) →
    goI (parseStep K) (fun st => some st) i (r.map tx) (n, es, 0, a) = some (n, restP n i r es a)
  | [], i, es, a, _, _, _, _ => rfl
  | L :: r, i, es, a, h0, hi, hes, hL => by
    simp only [List.length_cons] at hi
    have e0 : ieq (i : Int) 0 = false := ieq_f.2 (by omega)
    rw [List.map_cons, goI, restP]
    show (bif (ieq (i : Int) 0) then _ else (F137_ii K (GGraph.mk n es) (tx L)).bind fun r' =>
      bif (ieq r'.1 0) then goI (parseStep K) (fun st => some st) (i + 1) (r.map tx) (r'.2.N, r'.2.Edges, r'.1, (wadd .i64 (i : Int) 1))
      else some (r'.2.N, (r'.2.Edges, (r'.1, (wadd .i64 (i : Int) 1))))) = _
    rw [e0, cond_false, F137_spec hK hn hes.1 hes.2.2 L (hL L List.mem_cons_self), Option.bind_some, wadd_nat (by omega)]
    dsimp only
    cases hc : ieq (addE n es L).1 0
    · rfl
    · have hz := ieq_iff.1 hc
      rw [cond_true, cond_true, hz, parse_rest hK hn r (i + 1) (addE n es L).2 _ (by omega) (by omega) (addE_fine hes L) (fun L' h' => hL L' (List.mem_cons_of_mem _ h'))]

theorem F71_spec {K : Nat} (hK : 5000 ≤ K) (s : List UInt8) : F71 K (tx s) = some (parseS K s) := by
  rw [F71, slen_tx, parseS]
  cases h4 : ilt 4000 (s.length : Int)
  · have hs : s.length ≤ 4000 := by have := ilt_f.1 h4; omega
    obtain ⟨l1, l2⟩ := linesF_len K s
    rw [cond_false, cond_false, F135_spec s (by omega) (by omega), Option.bind_some]
    have hlp := scanI (l := (linesF K s).map tx) (L := fun k (st : PS) i => F71_l0_0 K ((linesF K s).map tx) k st.1 st.2.1 st.2.2.1 st.2.2.2 i) (parseStep K) (fun st => some st) (fun k st i hi => rfl) (by simp; omega) K ((0, [], 2, 1) : PS) 0 (by simp; omega) (by omega)
    have hlp' : F71_l0_0 K ((linesF K s).map tx) K 0 [] 2 1 0 = goI (parseStep K) (fun st => some st) 0 ((linesF K s).map tx) (0, [], 2, 1) := hlp
    rw [hlp']
    cases hq : linesF K s with
    | nil => rfl
    | cons H r =>
      rw [hq] at l1 l2
      simp only [List.length_cons] at l1
      have hH := l2 H List.mem_cons_self
      obtain ⟨vs, b, h1, h2⟩ := F136_spec (K := K) H wGraph 1 (by omega) (by omega) (by omega)
      have h1' : F136 K (tx H) (bs [103, 114, 97, 112, 104]) 1 = some (vs, b) := h1
      have e0 : ieq ((0 : Nat) : Int) 0 = true := rfl
      have w1 : wadd .i64 ((0 : Nat) : Int) 1 = 1 := rfl
      have hst : goI (parseStep K) (fun st => some st) 0 ((H :: r).map tx) ((0, [], 2, 1) : PS) = (F136 K (tx H) (bs [103, 114, 97, 112, 104]) 1).bind fun r' =>
        bif r'.2 then
          (bif (inr 0 (len r'.1)) then
          (elAt r'.1 0).bind fun y =>
          bif (ilt y 1) then (some (0, ([], (1, 1))))
          else bif (ilt 24 y) then (some (0, ([], (1, 1))))
          else goI (parseStep K) (fun st => some st) 1 (r.map tx) (y, [], 0, 1)
          else none)
        else some (0, ([], (2, 1))) := by
        rw [List.map_cons, goI]; rfl
      rw [hst, h1', Option.bind_some]
      dsimp only
      rw [← h2]
      cases b
      · rfl
      · have h3 := lineNums_len (h2.symm.trans rfl : lineNums H wGraph 1 = some vs)
        match vs, h3.1 with
        | [n], _ =>
          have i0 : inr 0 (len [n]) = true := rfl
          have g0 : elAt [n] 0 = some n := rfl
          dsimp only [cond_true]
          rw [i0, g0]
          simp only [cond_true, Option.bind_some]
          cases hn1 : ilt n 1
          · cases hn2 : ilt 24 n
            · have hn := ilt_f.1 hn2
              rw [cond_false, cond_false, parse_rest hK hn r 1 [] 1 (by omega) (by omega) ⟨fun d hd => (nomatch hd), List.Pairwise.nil, by simp⟩ (fun L hL => by have := l2 L (List.mem_cons_of_mem _ hL); omega), Option.bind_some]
              dsimp only
              cases ieq (restP n 1 r [] 1).2.1 0 <;> rfl
            · rfl
          · rfl
  · rfl

/-- What a text's lines come to. -/
inductive PCase (K : Nat) (s : List UInt8) : GGraph × Int × Int → Prop where
  | bad (at_ e : Int) (h0 : 0 ≤ at_) (h1 : at_ ≤ s.length + 1) (he : e ≠ 0) : PCase K s (noG, at_, e)
  | good (n : Int) (es : List GEdge) (h1 : 1 ≤ n) (h2 : n ≤ 24) (h : fineE n es) : PCase K s (GGraph.mk n es, 0, 0)

theorem parseS_case (K : Nat) (s : List UInt8) : PCase K s (parseS K s) := by
  have ll := linesF_len K s
  unfold parseS
  cases h4 : ilt 4000 (s.length : Int)
  · rw [cond_false]
    cases hq : linesF K s with
    | nil => exact .bad 1 2 (by omega) (by omega) (by omega)
    | cons H r =>
      rw [hq] at ll
      have l1 := ll.1
      simp only [List.length_cons] at l1
      dsimp only
      split
      · rename_i n hn
        cases hb1 : ilt n 1
        · cases hb2 : ilt 24 n
          · rw [Bool.or_false, cond_false]
            obtain ⟨f1, f2, f3⟩ := restP_fine r 1 [] 1 (n := n) ⟨fun d hd => (nomatch hd), List.Pairwise.nil, by simp⟩ (by omega) (by omega)
            cases hc : ieq (restP n 1 r [] 1).2.1 0
            · exact .bad _ _ f2 (by omega) (ieq_f.1 hc)
            · exact .good n _ (ilt_f.1 hb1) (ilt_f.1 hb2) f1
          · exact .bad 1 1 (by omega) (by omega) (by omega)
        · exact .bad 1 1 (by omega) (by omega) (by omega)
      · exact .bad 1 2 (by omega) (by omega) (by omega)
  · exact .bad 0 3 (by omega) (by omega) (by omega)

theorem fine_gcheck {n : Int} {es : List GEdge} (h1 : 1 ≤ n) (h2 : n ≤ 24) (h : fineE n es) : gcheck (GGraph.mk n es) = 0 := by
  have e0 : (ilt n 1 || ilt 24 n) = false := by rw [ilt_f.2 h1, ilt_f.2 h2]; rfl
  have e1 : ilt 80 (nlen (len es)) = false := ilt_f.2 (by have := h.2.2; show ((es.length : Nat) : Int) ≤ 80; omega)
  rw [gcheck]
  dsimp only
  rw [e0, cond_false, e1, cond_false, gchk_of (p := none) h.1 h.2.1 (fun d hd => (nomatch hd))]

/-! ### A graph's own text -/
theorem small24_id {v : Int} (h : v ≤ 24) : small24 v = v := by rw [small24, ilt_f.2 h]; rfl

theorem good_okE {n : Int} (hn : n ≤ 24) {e : GEdge} (h : goodE' n e) : okE e ∧ e.From ≤ 24 ∧ e.To ≤ 24 := by
  have := badE_ok h
  exact ⟨⟨by omega, by omega, by omega, by omega, by omega, by omega⟩, by omega, by omega⟩

theorem addE_line {n : Int} (hn : n ≤ 24) {es : List GEdge} {e : GEdge} (he : goodE' n e) (hl : es.length < 80) : addE n es (lineB e) = match putE es e with | none => (5, es) | some l => (0, l) := by
  obtain ⟨h1, h2, h3⟩ := good_okE hn he
  have h80 : ile 80 (nlen (len es)) = false := ile_f.2 (by show (es.length : Int) < 80; omega)
  rw [addE, lineNums_edge h1]
  dsimp only
  rw [h80, cond_false, small24_id h2, small24_id h3, show (⟨e.From, e.To, e.W⟩ : GEdge) = e from rfl, show ieq (badE n e) 0 = true from he, cond_true]
  cases putE es e <;> rfl

theorem restP_perm {n : Int} (hn : n ≤ 24) : ∀ (p : List GEdge) (i : Nat) (es : List GEdge) (a : Int), fineE n es → (∀ e ∈ p, goodE' n e) → es.length + p.length ≤ 80 → (es ++ p).Pairwise (fun d e => eqE d e = false) →
    ∃ l a', restP n i (p.map lineB) es a = (l, 0, a') ∧ srtE l ∧ l.Perm (es ++ p)
  | [], i, es, a, hes, _, _, _ => ⟨es, a, rfl, hes.2.1, by simp⟩
  | e :: p, i, es, a, hes, hp, hl, hd => by
    have he := hp e List.mem_cons_self
    simp only [List.length_cons] at hl
    obtain ⟨d1, d2, d3⟩ := List.pairwise_append.1 hd
    obtain ⟨l, hpl⟩ := putE_some (es := es) (e := e) fun d h => d3 d h e List.mem_cons_self
    obtain ⟨p1, p2, p3, p4⟩ := putE_ok hes.2.1 hpl
    have hperm : (l ++ p).Perm (es ++ e :: p) := (p4.append_right p).trans (by
      rw [List.cons_append]; exact List.perm_middle.symm)
    have hd' : (l ++ p).Pairwise (fun d e => eqE d e = false) := (List.Perm.pairwise_iff (R := fun d e => eqE d e = false) (fun {x y} h => by
      rw [eqE_f] at h ⊢; omega) hperm).2 hd
    obtain ⟨l', a', q1, q2, q3⟩ := restP_perm hn p (i + 1) l ((i + 1 : Nat) : Int) ⟨fun d h => by rcases p3 d h with q | q; rw [q]; exact he; exact hes.1 d q, p1, by omega⟩ (fun x hx => hp x (List.mem_cons_of_mem _ hx)) (by omega) hd'
    refine ⟨l', a', ?_, q2, q3.trans hperm⟩
    rw [List.map_cons, restP, addE_line hn he (by omega), hpl]
    exact q1

theorem srtE_perm {l l' : List GEdge} (h : srtE l) (h' : srtE l') (hp : l.Perm l') : l = l' :=
  List.Perm.eq_of_pairwise (fun a b _ _ h1 h2 => by rw [ltE_iff] at h1 h2; omega) h h' hp

theorem srtE_apart {l : List GEdge} (h : srtE l) : l.Pairwise (fun d e => eqE d e = false) := List.Pairwise.imp (fun {a b} h => by rw [ltE_iff] at h; rw [eqE_f]; omega) h

/-- The lines of a right graph's edges, in whatever order. -/
theorem parseS_perm {K : Nat} {g : GGraph} (hg : ieq (gcheck g) 0 = true) {p : List GEdge} (hp : p.Perm g.Edges) (hs : (headG g.N ++ p.flatMap lineE).length ≤ 4000) (hK : 5000 ≤ K) : parseS K (headG g.N ++ p.flatMap lineE) = (g, 0, 0) := by
  obtain ⟨h1, h2, h3, h4⟩ := gcheck_ok hg
  have hsr := (gchk_srt h4).1
  have hgood := gchk_mem h4
  have ha := srtE_apart hsr
  have hpa : p.Pairwise (fun d e => eqE d e = false) := (List.Perm.pairwise_iff (R := fun d e => eqE d e = false) (fun {x y} h => by rw [eqE_f] at h ⊢; omega) hp).2 ha
  obtain ⟨l, a', q1, q2, q3⟩ := restP_perm h2 p 1 [] 1 ⟨fun d hd => (nomatch hd), List.Pairwise.nil, by simp⟩ (fun e he => hgood e (hp.mem_iff.1 he)) (by rw [hp.length_eq]; simpa using h3) (by simpa using hpa)
  have hl : l = g.Edges := srtE_perm q2 hsr ((by simpa using q3 : l.Perm p).trans hp)
  have e1 : ilt 4000 (((headG g.N ++ p.flatMap lineE).length : Nat) : Int) = false := ilt_f.2 (by omega)
  have e2 : (ilt g.N 1 || ilt 24 g.N) = false := by rw [ilt_f.2 h1, ilt_f.2 h2]; rfl
  rw [parseS, e1, cond_false, linesF_text g.N p K (by omega)]
  dsimp only
  rw [lineNums_head (by omega) (by omega)]
  dsimp only
  rw [e2, cond_false, q1, hl]; rfl

end Go.Proofs.Ytnjanliihnadjaa.Tm

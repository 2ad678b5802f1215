/- The plain law of BarrierOrders. Conditions: none. -/
import Derived.Test.YtnjanliihnadjaaLl
import Derived.Test.YtnjanliihnadjaaFL6
import Derived.Test.YtnjanliihnadjaaWf
set_option linter.unusedVariables false
namespace Go.Proofs.Ytnjanliihnadjaa.Tm
open Go

def oneV (s : Int) (vals : List Int) (p : Nat) : GPart := GPart.mk (p : Int) (wadd .i64 s 1) [vals.getD p 0] [ieq (wrem (vals.getD p 0) 2) 0] []
def barS (e s : Int) (vals : List Int) (S : Nat → Bool) : GBarrier := GBarrier.mk e s (vals.length : Int) (((List.range vals.length).filter S).map (oneV s vals)) false

theorem ins_lt {x : GPart} : ∀ {l : List GPart}, (∀ y ∈ l, x.P < y.P) → ins x l = x :: l
  | [], _ => rfl
  | y :: l, h => by rw [ins, ilt_iff.2 (h y List.mem_cons_self)]; rfl

theorem ins_filter (s : Int) (vals : List Int) (p : Nat) (S : Nat → Bool) (hS : S p = false) : ∀ (l : List Nat), l.Pairwise (· < ·) → p ∈ l →
    ins (oneV s vals p) ((l.filter S).map (oneV s vals)) = (l.filter (fun q => S q || q == p)).map (oneV s vals)
  | [], _, h => by cases h
  | q :: r, hp, hm => by
    obtain ⟨h1, h2⟩ := List.pairwise_cons.1 hp
    by_cases hq : q = p
    · subst hq
      have e1 : (q :: r).filter S = r.filter S := by rw [List.filter_cons, hS]; rfl
      have e2 : (q :: r).filter (fun x => S x || x == q) = q :: r.filter S := by
        rw [List.filter_cons]
        have : (S q || q == q) = true := by simp
        rw [this, if_pos rfl]
        congr 1
        refine List.filter_congr fun x hx => ?_
        have := h1 x hx
        have : (x == q) = false := by simp; omega
        rw [this, Bool.or_false]
      rw [e1, e2, List.map_cons]
      refine ins_lt fun y hy => ?_
      obtain ⟨z, hz, rfl⟩ := List.mem_map.1 hy
      have := h1 z ((List.mem_filter.1 hz).1)
      show (q : Int) < (z : Int)
      omega
    · have hm' : p ∈ r := by
        rcases List.mem_cons.1 hm with h | h
        · exact absurd h.symm hq
        · exact h
      have ih := ins_filter s vals p S hS r h2 hm'
      have hlt := h1 p hm'
      have e3 : (q == p) = false := by simp [hq]
      cases hSq : S q
      · have e1 : (q :: r).filter S = r.filter S := by rw [List.filter_cons, hSq]; rfl
        have e2 : (q :: r).filter (fun x => S x || x == p) = r.filter (fun x => S x || x == p) := by rw [List.filter_cons, hSq, e3]; rfl
        rw [e1, e2, ih]
      · have e1 : (q :: r).filter S = q :: r.filter S := by rw [List.filter_cons, hSq]; rfl
        have e2 : (q :: r).filter (fun x => S x || x == p) = q :: r.filter (fun x => S x || x == p) := by rw [List.filter_cons, hSq]; rfl
        rw [e1, e2, List.map_cons, List.map_cons, ins]
        have : ilt (oneV s vals p).P (oneV s vals q).P = false := ilt_f.2 (show (q : Int) ≤ (p : Int) by omega)
        rw [this, cond_false, ih]

theorem chain_map (s : Int) (vals : List Int) (n : Nat) : ∀ (l : List Nat) (v : Int), l.Pairwise (· < ·) → (∀ q ∈ l, v < (q : Int) ∧ q < n) → chain (n : Int) s v (l.map (oneV s vals)) = true
  | [], _, _, _ => rfl
  | q :: r, v, hp, h => by
    obtain ⟨h1, h2⟩ := List.pairwise_cons.1 hp
    have hq := h q List.mem_cons_self
    rw [List.map_cons, chain, chain_map s vals n r (oneV s vals q).P h2 (fun z hz => ⟨by have := h1 z hz; show (q : Int) < (z : Int); omega, (h z (List.mem_cons_of_mem _ hz)).2⟩)]
    have e1 : ile (oneV s vals q).P v = false := ile_f.2 hq.1
    have e2 : ile (n : Int) (oneV s vals q).P = false := ile_f.2 (show (q : Int) < (n : Int) by omega)
    have e3 : ieq (oneV s vals q).Step (wadd .i64 s 1) = true := ieq_iff.2 rfl
    rw [e1, e2, e3]; rfl

theorem range_pw (n : Nat) : (List.range n).Pairwise (· < ·) := List.pairwise_lt_range

theorem right_barS {e s : Int} {vals : List Int} (hg : goodE e s (vals.length : Int) = true) (S : Nat → Bool) : right (barS e s vals S) = true := by
  unfold right barS
  simp only [hg, Bool.true_and]
  exact chain_map s vals vals.length _ _ ((range_pw _).filter _) fun q hq => ⟨by omega, by have := List.mem_range.1 ((List.mem_filter.1 hq).1); exact this⟩

theorem anyEq_barS (s : Int) (vals : List Int) (S : Nat → Bool) {p : Nat} (hp : p < vals.length) : anyEq (oneV s vals p) (((List.range vals.length).filter S).map (oneV s vals)) = S p := by
  rw [Bool.eq_iff_iff]
  simp only [anyEq, List.any_map, List.any_eq_true, List.mem_filter, List.mem_range, Function.comp]
  constructor
  · rintro ⟨q, ⟨_, h2⟩, h3⟩
    have : (q : Int) = (p : Int) := ieq_iff.1 h3
    have : q = p := by omega
    subst this; exact h2
  · intro h; exact ⟨p, ⟨hp, h⟩, ieq_iff.2 rfl⟩

theorem pput_barS {e s : Int} {vals : List Int} (hg : goodE e s (vals.length : Int) = true) (S : Nat → Bool) {p : Nat} (hp : p < vals.length) :
    pput (barS e s vals S) e (oneV s vals p) = bif S p then (barS e s vals S, 5) else (barS e s vals (fun q => S q || q == p), 0) := by
  have e1 : ieq e (barS e s vals S).Epoch = true := ieq_iff.2 rfl
  have e2 : ieq (oneV s vals p).Step (wadd .i64 (barS e s vals S).Step 1) = true := ieq_iff.2 rfl
  have e3 : ilt (oneV s vals p).P 0 = false := ilt_f.2 (show (0 : Int) ≤ (p : Int) by omega)
  have e4 : ile (barS e s vals S).Parts (oneV s vals p).P = false := ile_f.2 (show (p : Int) < (vals.length : Int) by omega)
  have e5 : anyEq (oneV s vals p) (barS e s vals S).Came = S p := anyEq_barS s vals S hp
  rw [pput, right_barS hg, e1, e2, e3, e4, e5]
  cases hS : S p
  · simp only [cond_true, cond_false]
    have := ins_filter s vals p S hS (List.range vals.length) (range_pw _) (List.mem_range.2 hp)
    show (GBarrier.mk e s (vals.length : Int) (ins (oneV s vals p) (((List.range vals.length).filter S).map (oneV s vals))) false, (0 : Int)) = _
    rw [this]; rfl
  · rfl

theorem small_oneV (s : Int) (vals : List Int) (p : Nat) : smallP (oneV s vals p) := ⟨by simp [oneV], by simp [oneV], by simp [oneV]⟩
theorem room_oneV {K : Nat} (hK : 1000 ≤ K) (s : Int) (vals : List Int) (p : Nat) : roomP K (oneV s vals p) := ⟨small_oneV s vals p, by simp [oneV]; omega, by simp [oneV]; omega, by simp [oneV]; omega⟩
theorem came_le (e s : Int) (vals : List Int) (S : Nat → Bool) : (barS e s vals S).Came.length ≤ vals.length := by
  show (((List.range vals.length).filter S).map (oneV s vals)).length ≤ _
  rw [List.length_map]
  exact Nat.le_trans (List.length_filter_le _ _) (by simp)
theorem came_mem {e s : Int} {vals : List Int} {S : Nat → Bool} {y : GPart} (h : y ∈ (barS e s vals S).Came) : ∃ p, y = oneV s vals p := by
  obtain ⟨p, _, rfl⟩ := List.mem_map.1 (show y ∈ ((List.range vals.length).filter S).map (oneV s vals) from h)
  exact ⟨p, rfl⟩

theorem F52_barS {K : Nat} (hK : 1000 ≤ K) {e s : Int} {vals : List Int} (hn : vals.length ≤ 6) (hg : goodE e s (vals.length : Int) = true) (S : Nat → Bool) {p : Nat} (hp : p < vals.length) :
    F52 K (barS e s vals S) e (oneV s vals p) = some (bif S p then (barS e s vals S, 5) else (barS e s vals (fun q => S q || q == p), 0)) := by
  have := came_le e s vals S
  rw [F52_spec K _ _ _ (by omega) (by omega) (by omega) (fun y hy => by obtain ⟨q, rfl⟩ := came_mem hy; exact small_oneV s vals q) (small_oneV s vals p), pput_barS hg S hp]

theorem barS_congr {e s : Int} {vals : List Int} {S S' : Nat → Bool} (h : ∀ q, q < vals.length → S q = S' q) : barS e s vals S = barS e s vals S' := by
  unfold barS
  rw [List.filter_congr fun q hq => h q (List.mem_range.1 hq)]

/-- Which vertex a pick names. -/
def pk (n : Nat) (x : Int) : Nat := (x % 18446744073709551616 % (n : Int)).toNat
theorem pk_lt {n : Nat} (h : 0 < n) (x : Int) : pk n x < n := by
  have h1 : 0 ≤ x % 18446744073709551616 % (n : Int) := Int.emod_nonneg _ (by omega)
  have h2 : x % 18446744073709551616 % (n : Int) < (n : Int) := Int.emod_lt_of_pos _ (by omega)
  unfold pk; omega
theorem pk_self {n p : Nat} (h : p < n) (hn : n ≤ 6) : pk n (p : Int) = p := by
  unfold pk
  rw [Int.emod_eq_of_lt (by omega) (by omega), Int.emod_eq_of_lt (by omega) (by omega)]; rfl
theorem pk_eq {n : Nat} (h : 0 < n) (hn : n ≤ 6) (x : Int) : wconv .i64 (wrem (wconv .u64 x) (wconv .u64 (n : Int))) = ((pk n x : Nat) : Int) := by
  have w1 : wconv .u64 x = x % 18446744073709551616 := by
    show IntKind.u64.wrap x = _
    simp [IntKind.wrap, IntKind.signed, IntKind.bits]
  have w2 : wconv .u64 (n : Int) = (n : Int) := by
    show IntKind.u64.wrap (n : Int) = _
    simp [IntKind.wrap, IntKind.signed, IntKind.bits]
    omega
  have h0 : 0 ≤ x % 18446744073709551616 := Int.emod_nonneg _ (by omega)
  have h1 : 0 ≤ x % 18446744073709551616 % (n : Int) := Int.emod_nonneg _ (by omega)
  have h2 : x % 18446744073709551616 % (n : Int) < (n : Int) := Int.emod_lt_of_pos _ (by omega)
  have w3 : wrem (wconv .u64 x) (wconv .u64 (n : Int)) = x % 18446744073709551616 % (n : Int) := by
    rw [w1, w2]
    show Int.tmod _ _ = _
    exact Int.tmod_eq_emod_of_nonneg h0
  rw [w3]
  show IntKind.i64.wrap _ = _
  rw [IntKind.wrap_i64]
  unfold pk
  omega

theorem drop_cons_get {vals : List Int} {i : Nat} {x : Int} {r : List Int} (h : vals.drop i = x :: r) : i < vals.length ∧ vals.getD i 0 = x ∧ vals.drop (i + 1) = r := by
  have hi := lt_of_drop h
  have := List.drop_eq_getElem_cons hi
  rw [h] at this
  injection this with a b
  exact ⟨hi, by simp [List.getD, hi, ← a], b.symm⟩

theorem F6_first {K : Nat} (hK : 1000 ≤ K) (e s : Int) (vals : List Int) (x1 x2 x3 : Int) (x4 : List GPart) (x5 : Bool) (hn : vals.length ≤ 6) (hg : goodE e s (vals.length : Int) = true) (all : List Int) (hall : all.length ≤ 1000000) :
    F6_l0_0 K e s vals x1 x2 x3 x4 x5 K all e s (vals.length : Int) [] false 0 = some (.inr (all ++ (List.range vals.length).map Int.ofNat, e, s, (vals.length : Int), ((List.range vals.length)).map (oneV s vals), false)) := by
  let step : Nat → Int → List Int × GBarrier → (List Int × GBarrier → Option (Unit ⊕ (List Int × Int × Int × Int × List GPart × Bool))) → Option (Unit ⊕ (List Int × Int × Int × Int × List GPart × Bool)) := fun i x st c =>
    bif apok (len st.1) 1 8 then (F58 K (i : Int) s x).bind fun r => (F52 K st.2 e r).bind fun r' => bif ieq r'.2 0 then c (appL st.1 [(i : Int)], r'.1) else some (.inl ()) else none
  let fin : List Int × GBarrier → Option (Unit ⊕ (List Int × Int × Int × Int × List GPart × Bool)) := fun st => some (.inr (st.1, st.2.Epoch, st.2.Step, st.2.Parts, st.2.Came, st.2.Over))
  have h := scanI (l := vals) (L := fun k st i => F6_l0_0 K e s vals x1 x2 x3 x4 x5 k st.1 st.2.Epoch st.2.Step st.2.Parts st.2.Came st.2.Over i) step fin (fun k st i hi => by
    show F6_l0_0 K e s vals x1 x2 x3 x4 x5 (k + 1) st.1 st.2.Epoch st.2.Step st.2.Parts st.2.Came st.2.Over i = _
    rw [F6_l0_0]
    cases ilt (i : Int) (nlen (len vals))
    · rfl
    · cases ha : apok (len st.1) 1 8
      · simp only [cond_true, cond_false, step, ha]
        cases inr (i : Int) (len vals)
        · rfl
        · cases elAt vals (i : Int) <;> rfl
      · simp only [cond_true, step, ha]) (by omega)
  have hw : ∀ (r : List Int) (i : Nat), vals.drop i = r → i ≤ vals.length → goI step fin i r (all ++ (List.range i).map Int.ofNat, barS e s vals (fun q => decide (q < i))) = fin (all ++ (List.range vals.length).map Int.ofNat, barS e s vals (fun q => decide (q < vals.length))) := by
    intro r
    induction r with
    | nil =>
      intro i hr hi
      have : i = vals.length := by have := List.drop_eq_nil_iff.1 hr; omega
      subst this; rfl
    | cons x r ih =>
      intro i hr hi
      obtain ⟨h1, h2, h3⟩ := drop_cons_get hr
      rw [goI]
      have ha : apok (len (all ++ (List.range i).map Int.ofNat)) 1 8 = true := decide_eq_true (by simp [len]; omega)
      have h58 : F58 K (i : Int) s x = some (oneV s vals i) := by rw [F58, ← h2]; rfl
      show (bif apok (len (all ++ (List.range i).map Int.ofNat)) 1 8 then (F58 K (i : Int) s x).bind fun r => (F52 K (barS e s vals (fun q => decide (q < i))) e r).bind fun r' => bif ieq r'.2 0 then goI step fin (i + 1) _ (appL (all ++ (List.range i).map Int.ofNat) [(i : Int)], r'.1) else some (.inl ()) else none) = _
      rw [ha, cond_true, h58, Option.bind_some, F52_barS hK hn hg _ h1, Option.bind_some]
      have : decide (i < i) = false := by simp
      simp only [this, cond_false, ieq_self, cond_true]
      rw [barS_congr (S' := fun q => decide (q < i + 1)) (fun q _ => by
        rw [Bool.eq_iff_iff]; simp; omega)]
      have e1 : appL (all ++ (List.range i).map Int.ofNat) [(i : Int)] = all ++ (List.range (i + 1)).map Int.ofNat := by
        simp [appL, List.range_succ]
      rw [e1]
      exact ih (i + 1) h3 (by omega)
  have h' := h K (all, barS e s vals (fun q => decide (q < 0))) 0 (by omega) (by omega)
  have e0 : barS e s vals (fun q => decide (q < 0)) = GBarrier.mk e s (vals.length : Int) [] false := by
    unfold barS
    have : (List.range vals.length).filter (fun q => decide (q < 0)) = [] := by simp
    rw [this]; rfl
  have e1 : barS e s vals (fun q => decide (q < vals.length)) = GBarrier.mk e s (vals.length : Int) ((List.range vals.length).map (oneV s vals)) false := by
    unfold barS
    have : (List.range vals.length).filter (fun q => decide (q < vals.length)) = List.range vals.length := by
      rw [List.filter_eq_self]; intro q hq; simpa using hq
    rw [this]
  have hw0 := hw (vals.drop 0) 0 rfl (by omega)
  rw [show all ++ (List.range 0).map Int.ofNat = all by simp] at hw0
  rw [hw0, e1, e0] at h'
  exact h'

theorem F6_second {K : Nat} (hK : 1000 ≤ K) (e s : Int) (vals : List Int) (x1 x2 x3 : Int) (x4 : List GPart) (x5 : Bool) (hn : vals.length ≤ 6) (h0 : 0 < vals.length) (hg : goodE e s (vals.length : Int) = true) (all : List Int) (hall : all.length ≤ 100)
    (hev : ∀ p, p < vals.length → ((p : Nat) : Int) ∈ all) :
    F6_l1_1 K e s vals all x1 x2 x3 x4 x5 K e s (vals.length : Int) [] false 0 = some (.inr (e, s, (vals.length : Int), ((List.range vals.length)).map (oneV s vals), false)) := by
  let step : Int → GBarrier → (GBarrier → Option (Unit ⊕ (Int × Int × Int × List GPart × Bool))) → Option (Unit ⊕ (Int × Int × Int × List GPart × Bool)) := fun x st c =>
    bif izero (wconv .u64 (nlen (len vals))) then none else
      bif inr (wconv .i64 (wrem (wconv .u64 x) (wconv .u64 (nlen (len vals))))) (len vals) then
      (elAt vals (wconv .i64 (wrem (wconv .u64 x) (wconv .u64 (nlen (len vals)))))).bind fun x864 =>
      (F58 K (wconv .i64 (wrem (wconv .u64 x) (wconv .u64 (nlen (len vals))))) s x864).bind fun r866 =>
      (F52 K st e r866).bind fun r868 =>
      bif (ieq r868.2 0) then c r868.1 else bif (ieq r868.2 5) then c r868.1 else some (.inl ())
      else none
  let fin : GBarrier → Option (Unit ⊕ (Int × Int × Int × List GPart × Bool)) := fun st => some (.inr (st.Epoch, st.Step, st.Parts, st.Came, st.Over))
  have h := scanL (l := all) (L := fun k (st : GBarrier) i => F6_l1_1 K e s vals all x1 x2 x3 x4 x5 k st.Epoch st.Step st.Parts st.Came st.Over i) step fin (fun k st i hi => by
    show F6_l1_1 K e s vals all x1 x2 x3 x4 x5 (k + 1) st.Epoch st.Step st.Parts st.Came st.Over i = _
    rw [F6_l1_1]) (by omega) (K := K) (by omega)
  have hw : ∀ (l : List Int) (S : Nat → Bool), goL step fin l (barS e s vals S) = fin (barS e s vals (fun q => S q || l.any fun x => pk vals.length x == q)) := by
    intro l
    induction l with
    | nil => intro S; rw [goL]; congr 2; funext q; simp
    | cons x l ih =>
      intro S
      have hp := pk_lt h0 x
      have en : nlen (len vals) = (vals.length : Int) := rfl
      have ez : izero (wconv .u64 (nlen (len vals))) = false := by
        rw [en]
        have : wconv .u64 (vals.length : Int) = (vals.length : Int) := by
          show IntKind.u64.wrap (vals.length : Int) = _
          simp [IntKind.wrap, IntKind.signed, IntKind.bits]
          omega
        rw [this]
        exact decide_eq_false (by omega)
      have ei : inr ((pk vals.length x : Nat) : Int) (len vals) = true := decide_eq_true ⟨by omega, by show ((pk vals.length x : Nat) : Int) < (vals.length : Int); omega⟩
      have eg : elAt vals ((pk vals.length x : Nat) : Int) = some (vals.getD (pk vals.length x) 0) := by
        rw [elAt_nat, List.getElem?_eq_getElem hp]; simp [List.getD, hp]
      have e58 : F58 K ((pk vals.length x : Nat) : Int) s (vals.getD (pk vals.length x) 0) = some (oneV s vals (pk vals.length x)) := rfl
      have e5 : F52 K (barS e s vals S) e (oneV s vals (pk vals.length x)) = _ := F52_barS hK hn hg S hp
      rw [goL]
      show (bif izero (wconv .u64 (nlen (len vals))) then none else
        bif inr (wconv .i64 (wrem (wconv .u64 x) (wconv .u64 (nlen (len vals))))) (len vals) then
        (elAt vals (wconv .i64 (wrem (wconv .u64 x) (wconv .u64 (nlen (len vals)))))).bind fun x864 =>
        (F58 K (wconv .i64 (wrem (wconv .u64 x) (wconv .u64 (nlen (len vals))))) s x864).bind fun r866 =>
        (F52 K (barS e s vals S) e r866).bind fun r868 =>
        bif (ieq r868.2 0) then goL step fin l r868.1 else bif (ieq r868.2 5) then goL step fin l r868.1 else some (.inl ())
        else none) = _
      rw [ez, cond_false, en, pk_eq h0 hn, ei, cond_true, eg, Option.bind_some, e58, Option.bind_some, e5, Option.bind_some]
      cases hS : S (pk vals.length x)
      · simp only [cond_false, ieq_self, cond_true]
        rw [ih]
        congr 1
        refine barS_congr fun q _ => ?_
        rw [List.any_cons, ← Bool.or_assoc]
        congr 2
        exact BEq.comm
      · have : ieq (5 : Int) 0 = false := rfl
        simp only [cond_true, this, cond_false, ieq_self]
        rw [ih]
        congr 1
        refine barS_congr fun q _ => ?_
        rw [List.any_cons]
        by_cases hq : pk vals.length x = q
        · subst hq; simp [hS]
        · have : (pk vals.length x == q) = false := by simp [hq]
          rw [this, Bool.false_or]
  have h' := h (barS e s vals (fun _ => false))
  rw [hw] at h'
  have e0 : barS e s vals (fun _ => false) = GBarrier.mk e s (vals.length : Int) [] false := by
    unfold barS
    have : (List.range vals.length).filter (fun _ => false) = [] := by simp
    rw [this]; rfl
  have e1 : barS e s vals (fun q => false || all.any fun x => pk vals.length x == q) = GBarrier.mk e s (vals.length : Int) ((List.range vals.length).map (oneV s vals)) false := by
    unfold barS
    have : (List.range vals.length).filter (fun q => false || all.any fun x => pk vals.length x == q) = List.range vals.length := by
      rw [List.filter_eq_self]; intro q hq
      have hq := List.mem_range.1 hq
      rw [Bool.false_or, List.any_eq_true]
      exact ⟨_, hev q hq, by rw [pk_self hq hn]; simp⟩
    rw [this]
  rw [e1, e0] at h'
  exact h'

theorem law6K (K : Nat) (hK : 1000 ≤ K) (e s : Int) (vals picks : List Int) (hp : picks.length * 8 ≤ reachBytes) : F6 K e s vals picks = some true := by
  have hR : right (GBarrier.mk e s (nlen (len vals)) [] false) = goodE e s (vals.length : Int) := by
    unfold right chain; rw [Bool.and_true]; rfl
  have f48 : F48 K (GBarrier.mk e s (nlen (len vals)) [] false) = some (goodE e s (vals.length : Int)) := by rw [F48_spec K _ (by simp) (by simp; omega), hR]
  rw [F6, F41, f48, Option.bind_some]
  cases hg : goodE e s (vals.length : Int)
  · rfl
  · have hg' := hg
    simp only [goodE, Bool.and_eq_true] at hg'
    have hn1 : 1 ≤ vals.length := by have := ile_iff.1 hg'.1.2; omega
    have hn6 : vals.length ≤ 6 := by have := ile_iff.1 hg'.2; omega
    have ez : ieq (nlen (len vals)) 0 = false := ieq_f.2 (by show (vals.length : Int) ≠ 0; omega)
    have rb : reachBytes ≤ 140737488355328 := by decide
    have ea : apok 0 (len picks) 8 = true := decide_eq_true ⟨by show 0 + picks.length ≤ _; omega, by show (0 + picks.length) * 8 ≤ _; omega⟩
    simp only [cond_true, Option.bind_some, ieq_self, ez, cond_false, ea]
    have tail : ∀ all : List Int, all.length ≤ 30 → F6_l0_0 K e s vals e s (nlen (len vals)) [] false K all e s (nlen (len vals)) [] false 0 = some (.inr (all ++ (List.range vals.length).map Int.ofNat, e, s, (vals.length : Int), ((List.range vals.length)).map (oneV s vals), false)) ∧
        F6_l1_1 K e s vals (all ++ (List.range vals.length).map Int.ofNat) e s (nlen (len vals)) ((List.range vals.length).map (oneV s vals)) false K e s (nlen (len vals)) [] false 0 = some (.inr (e, s, (vals.length : Int), ((List.range vals.length)).map (oneV s vals), false)) := by
      intro all ha
      refine ⟨F6_first hK e s vals e s (nlen (len vals)) [] false hn6 hg all (by omega), F6_second hK e s vals _ _ _ _ _ hn6 (by omega) hg _ ?_ ?_⟩
      · simp; omega
      · intro p hp
        exact List.mem_append.2 (.inr (List.mem_map.2 ⟨p, List.mem_range.2 hp, rfl⟩))
    have hfull : (List.range vals.length).filter (fun _ => true) = List.range vals.length := by simp
    have hb : barS e s vals (fun _ => true) = GBarrier.mk e s (vals.length : Int) ((List.range vals.length).map (oneV s vals)) false := by unfold barS; rw [hfull]
    have f50 : F50 K (GBarrier.mk e s (vals.length : Int) ((List.range vals.length).map (oneV s vals)) false) = some true := by
      rw [← hb, F50_spec K _ (by have := came_le e s vals (fun _ => true); omega) (by have := came_le e s vals (fun _ => true); omega), right_barS hg, hb]
      have : ieq (nlen (len ((List.range vals.length).map (oneV s vals)))) (vals.length : Int) = true := ieq_iff.2 (by simp [nlen, len])
      rw [Bool.true_and]
      exact congrArg some this
    have f43 : F43 K (GBarrier.mk e s (vals.length : Int) ((List.range vals.length).map (oneV s vals)) false) (GBarrier.mk e s (vals.length : Int) ((List.range vals.length).map (oneV s vals)) false) = some true := by
      rw [← hb]
      exact F43_self K _ (by have := came_le e s vals (fun _ => true); omega) (by have := came_le e s vals (fun _ => true); omega) (fun y hy => by obtain ⟨q, rfl⟩ := came_mem hy; exact room_oneV hK s vals q)
    have f44 : ∀ b : GBarrier, F44 K b = some b := fun b => rfl
    cases h30 : ilt 30 (nlen (len (appL [] picks)))
    · have hl : (appL [] picks).length ≤ 30 := by have := of_decide_eq_false h30; simp only [nlen, len] at this; omega
      obtain ⟨t1, t2⟩ := tail (appL [] picks) hl
      rw [cond_false, t1]
      simp only [Option.bind_some, Sum.elim_inr]
      rw [show F6_l1_1 K e s vals (appL [] picks ++ (List.range vals.length).map Int.ofNat) e s (vals.length : Int) ((List.range vals.length).map (oneV s vals)) false K e s (nlen (len vals)) [] false 0 = _ from t2]
      simp only [Option.bind_some, Sum.elim_inr, f50, cond_true, f44, f43]
    · have hb30 : bnd 0 30 (len (appL [] picks)) = true := by
        have := of_decide_eq_true h30
        exact decide_eq_true ⟨by omega, by omega, by simp only [nlen] at this; omega⟩
      have hl : (subL (appL [] picks) 0 30).length ≤ 30 := by simp [subL]; omega
      obtain ⟨t1, t2⟩ := tail (subL (appL [] picks) 0 30) hl
      rw [cond_true, hb30, cond_true, t1]
      simp only [Option.bind_some, Sum.elim_inr]
      rw [show F6_l1_1 K e s vals (subL (appL [] picks) 0 30 ++ (List.range vals.length).map Int.ofNat) e s (vals.length : Int) ((List.range vals.length).map (oneV s vals)) false K e s (nlen (len vals)) [] false 0 = _ from t2]
      simp only [Option.bind_some, Sum.elim_inr, f50, cond_true, f44, f43]

theorem law6 (e s : Int) (vals picks : List Int) (_ : (Lit.int .i64 e).wf = true) (_ : (Lit.int .i64 s).wf = true) (_ : vals.length * 8 ≤ reachBytes ∧ ∀ y ∈ vals, (Lit.int .i64 y).wf = true) (hp : picks.length * 8 ≤ reachBytes ∧ ∀ y ∈ picks, (Lit.int .i64 y).wf = true) :
    F6 1000 e s vals picks = some true := law6K 1000 (Nat.le_refl _) e s vals picks hp.1

end Go.Proofs.Ytnjanliihnadjaa.Tm

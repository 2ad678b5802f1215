/- Numbers read from a line. Conditions: none. -/
import Derived.Test.YtnjanliihnadjaaGc
set_option linter.unusedVariables false
namespace Go.Proofs.Ytnjanliihnadjaa.Tm
open Go

def isD (b : UInt8) : Bool := Nat.ble 48 b.toNat && Nat.ble b.toNat 57
/-- Digits read, m at most: how many, what they come to, what is left. -/
def rd : Nat → Nat → List UInt8 → Nat × Nat × List UInt8
  | m + 1, acc, b :: r => bif isD b then ((rd m (acc * 10 + (b.toNat - 48)) r).1 + 1, (rd m (acc * 10 + (b.toNat - 48)) r).2) else (0, acc, b :: r)
  | 0, acc, b :: r => (0, acc, b :: r)
  | _, acc, [] => (0, acc, [])

theorem rd_len : ∀ (m acc : Nat) (l : List UInt8), (rd m acc l).1 ≤ m ∧ l.length = (rd m acc l).1 + (rd m acc l).2.2.length ∧ l.drop (rd m acc l).1 = (rd m acc l).2.2
  | 0, acc, [] => ⟨Nat.le_refl _, rfl, rfl⟩
  | 0, acc, b :: r => by refine ⟨Nat.le_refl _, ?_, rfl⟩; simp [rd]
  | m + 1, acc, [] => ⟨Nat.zero_le _, rfl, rfl⟩
  | m + 1, acc, b :: r => by
    cases hb : isD b
    · simp [rd, hb]
    · obtain ⟨h1, h2, h3⟩ := rd_len m (acc * 10 + (b.toNat - 48)) r
      simp only [rd, hb, cond_true]
      refine ⟨by omega, by simp only [List.length_cons]; omega, ?_⟩
      rw [List.drop_succ_cons]; exact h3

theorem byteAt {L : List UInt8} {p : Nat} {b : UInt8} {r : List UInt8} (h : L.drop p = b :: r) : p < L.length ∧ sinr (p : Int) (tx L) = true ∧ sget (tx L) (p : Int) = (b.toNat : Int) ∧ L.drop (p + 1) = r ∧ ilt (p : Int) (slen (tx L)) = true := by
  have hp := lt_of_drop' h
  have hd := List.drop_eq_getElem_cons hp
  rw [h] at hd
  injection hd with a b'
  refine ⟨hp, by rw [sinr_tx]; simpa using hp, by rw [sget_tx hp, ← a], b'.symm, by rw [slen_tx]; exact ilt_iff.2 (by omega)⟩

theorem byteEnd {L : List UInt8} {p : Nat} (h : L.drop p = []) : ilt (p : Int) (slen (tx L)) = false := by
  have := List.drop_eq_nil_iff.1 h
  rw [slen_tx]; exact ilt_f.2 (by omega)

theorem wsub_nat {a b : Nat} (h : b ≤ a) (ha : a < 4611686018427387904) : wsub .i64 (a : Int) (b : Int) = ((a - b : Nat) : Int) := by
  show IntKind.i64.wrap ((a : Int) - (b : Int)) = _
  rw [IntKind.wrap_i64]; omega

theorem digit_step {acc d : Nat} (ha : acc < 1000000000000000000) (hd : 48 ≤ d ∧ d ≤ 57) :
    wadd .u64 (wmul .u64 (acc : Int) 10) (wconv .u64 (wsub .u8 (d : Int) 48)) = ((acc * 10 + (d - 48) : Nat) : Int) := by
  have e1 : wsub .u8 (d : Int) 48 = ((d - 48 : Nat) : Int) := by
    show IntKind.u8.wrap ((d : Int) - 48) = _
    simp [IntKind.wrap, IntKind.signed, IntKind.bits]; omega
  have e2 : wconv .u64 ((d - 48 : Nat) : Int) = ((d - 48 : Nat) : Int) := by
    show IntKind.u64.wrap _ = _
    simp [IntKind.wrap, IntKind.signed, IntKind.bits]; omega
  have e3 : wmul .u64 (acc : Int) 10 = ((acc * 10 : Nat) : Int) := by
    show IntKind.u64.wrap ((acc : Int) * 10) = _
    simp [IntKind.wrap, IntKind.signed, IntKind.bits]; omega
  rw [e1, e2, e3]
  show IntKind.u64.wrap (((acc * 10 : Nat) : Int) + ((d - 48 : Nat) : Int)) = _
  simp [IntKind.wrap, IntKind.signed, IntKind.bits]; omega

theorem pow_small {k : Nat} (h : k ≤ 18) : (10 : Nat) ^ k ≤ 1000000000000000000 := by
  have : (10 : Nat) ^ k ≤ 10 ^ 18 := Nat.pow_le_pow_right (by omega) h
  have e : (10 : Nat) ^ 18 = 1000000000000000000 := by decide
  omega

/-- The loop over digits. f: where the first one stands. -/
theorem F136_digits (K : Nat) (L : List UInt8) (m q : Int) (out : List Int) (j : Int) (f : Nat) (hq : wadd .i64 q 1 = (f : Int)) (hL : L.length ≤ 1000000) : ∀ (k p acc : Nat), L.length - p < k → f ≤ p → p - f ≤ 19 → p ≤ L.length → acc < 10 ^ (p - f) →
    F136_l1_1 K (tx L) m q out j k (p : Int) (acc : Int) = some (((p + (rd (19 - (p - f)) acc (L.drop p)).1 : Nat) : Int), ((rd (19 - (p - f)) acc (L.drop p)).2.1 : Int)) := by
  intro k
  induction k with
  | zero => intro p acc h; omega
  | succ k ih =>
    intro p acc h hf h19 hp hacc
    rw [F136_l1_1]
    cases hd : L.drop p with
    | nil =>
      rw [byteEnd hd, cond_false]
      cases 19 - (p - f) <;> simp [rd]
    | cons b r =>
      obtain ⟨b1, b2, b3, b4, b5⟩ := byteAt hd
      rw [b5, cond_true, b2, cond_true, b3, hq]
      have hfit : ilt (wsub .i64 (p : Int) (f : Int)) 19 = decide (p - f < 19) := by
        rw [wsub_nat hf (by omega)]
        unfold ilt
        rw [Bool.eq_iff_iff]; simp; omega
      rw [hfit]
      cases h0 : ile 48 (b.toNat : Int)
      · have : isD b = false := by
          have := ile_f.1 h0
          simp only [isD, Bool.and_eq_false_iff]
          left
          cases hc : Nat.ble 48 b.toNat
          · rfl
          · have := Nat.le_of_ble_eq_true hc; omega
        rw [cond_false]
        cases 19 - (p - f) <;> simp [rd, this]
      · rw [cond_true]
        cases h1 : ile (b.toNat : Int) 57
        · have : isD b = false := by
            have := ile_f.1 h1
            simp only [isD, Bool.and_eq_false_iff]
            right
            cases hc : Nat.ble b.toNat 57
            · rfl
            · have := Nat.le_of_ble_eq_true hc; omega
          rw [cond_false]
          cases 19 - (p - f) <;> simp [rd, this]
        · have g0 := ile_iff.1 h0
          have g1 := ile_iff.1 h1
          have hD : isD b = true := by
            simp only [isD, Bool.and_eq_true]
            exact ⟨Nat.ble_eq_true_of_le (by omega), Nat.ble_eq_true_of_le (by omega)⟩
          rw [cond_true]
          by_cases hlt : p - f < 19
          · have ep : 19 - (p - f) = (19 - (p + 1 - f)) + 1 := by omega
            have hs := pow_small (k := p - f) (by omega)
            rw [decide_eq_true hlt, cond_true, wadd_nat (by omega), digit_step (by omega) (by omega)]
            have hacc' : acc * 10 + (b.toNat - 48) < 10 ^ (p + 1 - f) := by
              have e : p + 1 - f = (p - f) + 1 := by omega
              rw [e, Nat.pow_succ]; omega
            rw [ih (p + 1) _ (by omega) (by omega) (by omega) (by omega) hacc', b4, ep]
            simp only [rd, hD, cond_true]
            congr 3
            omega
          · have e0 : 19 - (p - f) = 0 := by omega
            rw [decide_eq_false hlt, cond_false, e0]; simp [rd]

def zero1 : List UInt8 → Bool
  | c :: _ => Nat.beq c.toNat 48
  | [] => false

/-- A number with a blank ahead. -/
def numOne : List UInt8 → Option (Int × List UInt8)
  | [] => none
  | b :: r => bif Nat.beq b.toNat 32 then (bif Nat.beq (rd 19 0 r).1 0 then none else bif zero1 r && Nat.ble 2 (rd 19 0 r).1 then none else
      bif Nat.ble (rd 19 0 r).2.1 9223372036854775807 then some (((rd 19 0 r).2.1 : Int), (rd 19 0 r).2.2) else none) else none
def nums : Nat → List UInt8 → Option (List Int × List UInt8)
  | 0, l => some ([], l)
  | m + 1, l => match numOne l with
    | none => none
    | some (v, r) => match nums m r with
      | none => none
      | some (vs, r') => some (v :: vs, r')

theorem numOne_len {l r : List UInt8} {v : Int} (h : numOne l = some (v, r)) : r.length < l.length ∧ 0 ≤ v ∧ v ≤ 9223372036854775807 ∧ r = l.drop (l.length - r.length) := by
  cases l with
  | nil => cases h
  | cons b r0 =>
    simp only [numOne] at h
    obtain ⟨h1, h2, h3⟩ := rd_len 19 0 r0
    cases hb : Nat.beq b.toNat 32
    · rw [hb] at h; cases h
    · rw [hb, cond_true] at h
      cases hc : Nat.beq (rd 19 0 r0).1 0
      · rw [hc, cond_false] at h
        generalize (zero1 r0 && Nat.ble 2 (rd 19 0 r0).1) = q at h
        cases q
        · rw [cond_false] at h
          cases hv : Nat.ble (rd 19 0 r0).2.1 9223372036854775807
          · rw [hv] at h; cases h
          · rw [hv, cond_true] at h
            cases h
            have := Nat.le_of_ble_eq_true hv
            refine ⟨by simp only [List.length_cons]; omega, by omega, by omega, ?_⟩
            have e : (b :: r0).length - (rd 19 0 r0).2.2.length = (rd 19 0 r0).1 + 1 := by simp only [List.length_cons]; omega
            rw [e, List.drop_succ_cons, h3]
        · cases h
      · rw [hc] at h; cases h

theorem nums_len : ∀ {m : Nat} {l r : List UInt8} {vs : List Int}, nums m l = some (vs, r) → r.length ≤ l.length ∧ vs.length = m ∧ (∀ v ∈ vs, 0 ≤ v ∧ v ≤ 9223372036854775807) ∧ r = l.drop (l.length - r.length)
  | 0, l, r, vs, h => by cases h; exact ⟨Nat.le_refl _, rfl, fun v hv => (nomatch hv), by simp⟩
  | m + 1, l, r, vs, h => by
    rw [nums] at h
    cases h1 : numOne l with
    | none => rw [h1] at h; cases h
    | some x =>
      obtain ⟨v, r1⟩ := x
      rw [h1] at h
      dsimp only at h
      cases h2 : nums m r1 with
      | none => rw [h2] at h; cases h
      | some y =>
        obtain ⟨vs', r2⟩ := y
        rw [h2] at h
        cases h
        obtain ⟨a1, a2, a3, a4⟩ := numOne_len h1
        obtain ⟨b1, b2, b3, b4⟩ := nums_len h2
        refine ⟨by omega, by simp [b2], fun x hx => ?_, ?_⟩
        · rcases List.mem_cons.1 hx with e | e
          · subst e; exact ⟨a2, a3⟩
          · exact b3 x e
        · have : l.drop (l.length - r.length) = (l.drop (l.length - r1.length)).drop (r1.length - r.length) := by
            rw [List.drop_drop]; congr 1; omega
          rw [this, ← a4, ← b4]

theorem F136_loop {K : Nat} (L : List UInt8) (hL : L.length ≤ 1000000) (hK : L.length + 10 < K) (M : Nat) (hM : M ≤ 100) : ∀ (n k p : Nat) (out : List Int) (j : Nat), j + n = M → n < k → p ≤ L.length → out.length ≤ 100 + j →
    F136_l0_0 K (tx L) (M : Int) k (p : Int) out (j : Int) = some (match nums n (L.drop p) with | none => .inl () | some (vs, r) => .inr (((L.length - r.length : Nat) : Int), out ++ vs)) := by
  intro n
  induction n with
  | zero =>
    intro k p out j hj hk hp ho
    obtain ⟨k, rfl⟩ : ∃ q, k = q + 1 := ⟨k - 1, by omega⟩
    rw [F136_l0_0, ilt_f.2 (by omega : (M : Int) ≤ (j : Int)), cond_false]
    simp only [nums, List.append_nil, List.length_drop]
    congr 4; omega
  | succ n ih =>
    intro k p out j hj hk hp ho
    obtain ⟨k, rfl⟩ : ∃ q, k = q + 1 := ⟨k - 1, by omega⟩
    rw [F136_l0_0, ilt_iff.2 (by omega : (j : Int) < (M : Int)), cond_true, slen_tx, nums]
    cases hd : L.drop p with
    | nil =>
      have := List.drop_eq_nil_iff.1 hd
      rw [ile_iff.2 (by omega : (L.length : Int) ≤ (p : Int))]; rfl
    | cons b r =>
      obtain ⟨b1, b2, b3, b4, b5⟩ := byteAt hd
      rw [ile_f.2 (by omega : (p : Int) < (L.length : Int)), cond_false, b2, cond_true, b3, numOne]
      have eb : ieq (b.toNat : Int) 32 = Nat.beq b.toNat 32 := by
        rw [Bool.eq_iff_iff, ieq_iff]
        constructor
        · intro h; exact (beq_iff _ _).2 (by omega)
        · intro h; have := (beq_iff _ _).1 h; omega
      rw [eb]
      cases h32 : Nat.beq b.toNat 32
      · rfl
      · have hdg := F136_digits K L (M : Int) (p : Int) out (j : Int) (p + 1) (wadd_nat (by omega)) hL K (p + 1) 0 (by omega) (by omega) (by omega) (by omega) (by simp)
        rw [show p + 1 - (p + 1) = 0 by omega, Nat.sub_zero, b4] at hdg
        have hdg' : F136_l1_1 K (tx L) (M : Int) (p : Int) out (j : Int) K ((p + 1 : Nat) : Int) 0 = _ := hdg
        obtain ⟨r1, r2, r3⟩ := rd_len 19 0 r
        rw [cond_true, cond_true, wadd_nat (by omega), hdg', Option.bind_some]
        dsimp only
        have hrl : r.length = L.length - (p + 1) := by rw [← b4, List.length_drop]
        have ec : ieq ((p + 1 + (rd 19 0 r).1 : Nat) : Int) ((p + 1 : Nat) : Int) = Nat.beq (rd 19 0 r).1 0 := by
          rw [Bool.eq_iff_iff, ieq_iff]
          constructor
          · intro h; exact (beq_iff _ _).2 (by omega)
          · intro h; have := (beq_iff _ _).1 h; omega
        rw [ec]
        cases hc : Nat.beq (rd 19 0 r).1 0
        · have hc' : (rd 19 0 r).1 ≠ 0 := fun h => by rw [h] at hc; cases hc
          cases r with
          | nil => exact absurd rfl hc'
          | cons c r' =>
            obtain ⟨c1, c2, c3, c4, c5⟩ := byteAt b4
            rw [cond_false, cond_false, c2, cond_true, c3]
            have e48 : ieq (c.toNat : Int) 48 = Nat.beq c.toNat 48 := by
              rw [Bool.eq_iff_iff, ieq_iff]
              constructor
              · intro h; exact (beq_iff _ _).2 (by omega)
              · intro h; have := (beq_iff _ _).1 h; omega
            have e1 : ilt 1 (wsub .i64 ((p + 1 + (rd 19 0 (c :: r')).1 : Nat) : Int) ((p + 1 : Nat) : Int)) = Nat.ble 2 (rd 19 0 (c :: r')).1 := by
              rw [wsub_nat (by omega) (by omega), Bool.eq_iff_iff, ilt_iff]
              constructor
              · intro h; exact Nat.ble_eq_true_of_le (by omega)
              · intro h; have := Nat.le_of_ble_eq_true h; omega
            have e63 : ilt 9223372036854775807 ((rd 19 0 (c :: r')).2.1 : Int) = !(Nat.ble (rd 19 0 (c :: r')).2.1 9223372036854775807) := by
              rw [ilt_not']
              congr 1
              rw [Bool.eq_iff_iff, ile_iff]
              constructor
              · intro h; exact Nat.ble_eq_true_of_le (by omega)
              · intro h; have := Nat.le_of_ble_eq_true h; omega
            have eap : apok (len out) 1 8 = true := decide_eq_true ⟨by show out.length + 1 ≤ _; omega, by show (out.length + 1) * 8 ≤ _; omega⟩
            have tail : ∀ (hv : Nat.ble (rd 19 0 (c :: r')).2.1 9223372036854775807 = true), F136_l0_0 K (tx L) (M : Int) k ((p + 1 + (rd 19 0 (c :: r')).1 : Nat) : Int) (appL out [wconv .i64 ((rd 19 0 (c :: r')).2.1 : Int)]) (wadd .i64 (j : Int) 1) =
                some (match (match nums n (rd 19 0 (c :: r')).2.2 with | none => none | some (vs, r'') => some (((rd 19 0 (c :: r')).2.1 : Int) :: vs, r'')) with | none => .inl () | some (vs, r) => .inr (((L.length - r.length : Nat) : Int), out ++ vs)) := by
              intro hv
              have hv' := Nat.le_of_ble_eq_true hv
              have ew : wconv .i64 ((rd 19 0 (c :: r')).2.1 : Int) = ((rd 19 0 (c :: r')).2.1 : Int) := by
                show IntKind.i64.wrap _ = _
                rw [IntKind.wrap_i64]; omega
              rw [ew, wadd_nat (by omega), ih k _ _ (j + 1) (by omega) (by omega) (by omega) (by simp [appL]; omega)]
              have ed : L.drop (p + 1 + (rd 19 0 (c :: r')).1) = (rd 19 0 (c :: r')).2.2 := by
                rw [← r3, ← b4, List.drop_drop]
              rw [ed]
              cases nums n (rd 19 0 (c :: r')).2.2 with
              | none => rfl
              | some x => simp [appL]
            have ez : zero1 (c :: r') = Nat.beq c.toNat 48 := rfl
            rw [e48, e1, e63, eap, ez]
            cases h48 : Nat.beq c.toNat 48
            · rw [cond_false]
              cases hv : Nat.ble (rd 19 0 (c :: r')).2.1 9223372036854775807
              · rfl
              · exact tail hv
            · rw [cond_true]
              cases h2 : Nat.ble 2 (rd 19 0 (c :: r')).1
              · rw [cond_false]
                cases hv : Nat.ble (rd 19 0 (c :: r')).2.1 9223372036854775807
                · rfl
                · exact tail hv
              · rfl
        · rfl

def lineNums (L w : List UInt8) (m : Nat) : Option (List Int) :=
  bif Nat.ble w.length L.length && (L.take w.length == w) then (match nums m (L.drop w.length) with | some (vs, []) => some vs | _ => none) else none

/-- What is read, and whether the line ends there. -/
theorem F136_spec {K : Nat} (L w : List UInt8) (m : Nat) (hL : L.length ≤ 1000000) (hK : L.length + 10 < K) (hm : m ≤ 3) : ∃ vs b, F136 K (tx L) (tx w) (m : Int) = some (vs, b) ∧ (bif b then some vs else none) = lineNums L w m := by
  rw [F136, slen_tx, slen_tx]
  unfold lineNums
  by_cases hl : w.length ≤ L.length
  · rw [ilt_f.2 (by omega : (w.length : Int) ≤ (L.length : Int)), cond_false, Nat.ble_eq_true_of_le hl]
    have e0 : sbnd 0 (w.length : Int) (tx L) = true := by
      have := sbnd_tx L 0 w.length
      rw [show ((0 : Nat) : Int) = 0 from rfl] at this
      rw [this]; simp [hl]
    have e1 : ssub (tx L) 0 (w.length : Int) = tx (L.take w.length) := by
      have := ssub_tx L 0 w.length
      rw [show ((0 : Nat) : Int) = 0 from rfl] at this
      rw [this, List.drop_zero]
    rw [e0, cond_true, e1, seqs_tx, Bool.true_and]
    cases hw : (L.take w.length == w)
    · exact ⟨[], false, rfl, rfl⟩
    · have hlp := F136_loop (K := K) L hL hK m (by omega) m K w.length [] 0 (by omega) (by omega) hl (by simp)
      rw [cond_true, cond_true, show ((0 : Nat) : Int) = 0 from rfl] at *
      rw [hlp]
      cases hn : nums m (L.drop w.length) with
      | none => exact ⟨[], false, rfl, rfl⟩
      | some x =>
        obtain ⟨vs, r⟩ := x
        obtain ⟨n1, n2, n3, n4⟩ := nums_len hn
        refine ⟨vs, ieq ((L.length - r.length : Nat) : Int) (L.length : Int), rfl, ?_⟩
        rw [List.length_drop] at n1
        cases r with
        | nil => rw [ieq_iff.2 (by simp)]; rfl
        | cons c r => rw [ieq_f.2 (by simp only [List.length_cons] at n1 ⊢; omega)]; rfl
  · rw [ilt_iff.2 (by omega : (L.length : Int) < (w.length : Int)), cond_true]
    refine ⟨[], false, rfl, ?_⟩
    cases hb : Nat.ble w.length L.length
    · rfl
    · exact absurd (Nat.le_of_ble_eq_true hb) hl

theorem lineNums_len {L w : List UInt8} {m : Nat} {vs : List Int} (h : lineNums L w m = some vs) : vs.length = m ∧ ∀ v ∈ vs, 0 ≤ v ∧ v ≤ 9223372036854775807 := by
  unfold lineNums at h
  cases hb : Nat.ble w.length L.length && (L.take w.length == w)
  · rw [hb] at h; cases h
  · rw [hb, cond_true] at h
    cases hn : nums m (L.drop w.length) with
    | none => rw [hn] at h; cases h
    | some x =>
      obtain ⟨vs', r⟩ := x
      rw [hn] at h
      cases r with
      | nil => cases h; obtain ⟨_, n2, n3, _⟩ := nums_len hn; exact ⟨n2, n3⟩
      | cons c r => cases h

end Go.Proofs.Ytnjanliihnadjaa.Tm

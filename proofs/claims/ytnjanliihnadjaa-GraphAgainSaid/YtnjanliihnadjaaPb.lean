/- The lines of a text; the numbers of a printed line. Conditions: none. -/
import Derived.Test.YtnjanliihnadjaaPa
set_option linter.unusedVariables false
namespace Go.Proofs.Ytnjanliihnadjaa.Tm
open Go

/-! ### Digits read again -/
def valD (acc : Nat) (ds : List UInt8) : Nat := ds.foldl (fun a b => a * 10 + (b.toNat - 48)) acc

theorem rd_app : ∀ (ds : List UInt8) (m acc : Nat) (r : List UInt8), (∀ b ∈ ds, isD b = true) → ds.length ≤ m → rd m acc (ds ++ r) = (ds.length + (rd (m - ds.length) (valD acc ds) r).1, (rd (m - ds.length) (valD acc ds) r).2)
  | [], m, acc, r, _, _ => by simp [valD]
  | b :: ds, m, acc, r, h, hm => by
    obtain ⟨m, rfl⟩ : ∃ q, m = q + 1 := ⟨m - 1, by simp only [List.length_cons] at hm; omega⟩
    simp only [List.length_cons] at hm
    have hb := h b List.mem_cons_self
    have ih := rd_app ds m (acc * 10 + (b.toNat - 48)) r (fun c hc => h c (List.mem_cons_of_mem _ hc)) (by omega)
    have e : m + 1 - (b :: ds).length = m - ds.length := by simp only [List.length_cons]; omega
    rw [List.cons_append, rd, hb, cond_true, ih, e]
    have : valD acc (b :: ds) = valD (acc * 10 + (b.toNat - 48)) ds := rfl
    rw [this, List.length_cons]
    congr 1
    omega

def noD : List UInt8 → Bool
  | [] => true
  | b :: _ => !isD b
theorem rd_noD {r : List UInt8} (h : noD r = true) (m acc : Nat) : rd m acc r = (0, acc, r) := by
  cases r with
  | nil => cases m <;> rfl
  | cons b r =>
    have hb : isD b = false := by simpa [noD] using h
    cases m with
    | zero => rfl
    | succ m => rw [rd, hb]; rfl

theorem ch_nat {d : Nat} (h : d < 10) : (ch d).toNat = 48 + d := by
  show (UInt8.ofNat (48 + d)).toNat = _
  rw [UInt8.toNat_ofNat']; omega
theorem isD_ch {d : Nat} (h : d < 10) : isD (ch d) = true := by
  simp only [isD, ch_nat h, Bool.and_eq_true]
  exact ⟨Nat.ble_eq_true_of_le (by omega), Nat.ble_eq_true_of_le (by omega)⟩

theorem dig_facts (n : Nat) : (∀ b ∈ dig n, isD b = true) ∧ valD 0 (dig n) = n ∧ (∀ r, 1 ≤ n → zero1 (dig n ++ r) = false) ∧ 1 ≤ (dig n).length := by
  induction n using Nat.strongRecOn with
  | ind n ih =>
    by_cases h : n < 10
    · rw [dig_lt h]
      refine ⟨fun b hb => ?_, ?_, fun r h1 => ?_, by simp⟩
      · rw [List.mem_singleton.1 hb]; exact isD_ch h
      · simp [valD, ch_nat h]
      · simp only [zero1, List.cons_append, ch_nat h]
        cases hq : Nat.beq (48 + n) 48
        · rfl
        · have := (beq_iff _ _).1 hq; omega
    · obtain ⟨a1, a2, a3, a4⟩ := ih (n / 10) (by omega)
      rw [dig_ge (by omega)]
      refine ⟨fun b hb => ?_, ?_, fun r h1 => ?_, by simp⟩
      · rcases List.mem_append.1 hb with e | e
        · exact a1 b e
        · rw [List.mem_singleton.1 e]; exact isD_ch (by omega)
      · have : valD 0 (dig (n / 10) ++ [ch (n % 10)]) = valD 0 (dig (n / 10)) * 10 + ((ch (n % 10)).toNat - 48) := by simp [valD]
        rw [this, a2, ch_nat (by omega)]; omega
      · rw [List.append_assoc]; exact a3 _ (by omega)

theorem numOne_dig {n : Nat} (hn : n ≤ 9223372036854775807) {r : List UInt8} (hr : noD r = true) : numOne (32 :: (dig n ++ r)) = some ((n : Int), r) := by
  obtain ⟨a1, a2, a3, a4⟩ := dig_facts n
  have hl := dig_len19 hn
  have e := rd_app (dig n) 19 0 r a1 hl
  rw [a2, rd_noD hr] at e
  have h32 : Nat.beq (32 : UInt8).toNat 32 = true := rfl
  simp only [numOne, h32, cond_true, e, Nat.add_zero]
  have h1 : Nat.beq (dig n).length 0 = false := by
    cases hq : Nat.beq (dig n).length 0
    · rfl
    · have := (beq_iff _ _).1 hq; omega
  have h2 : (zero1 (dig n ++ r) && Nat.ble 2 (dig n).length) = false := by
    by_cases h10 : n < 10
    · have : Nat.ble 2 (dig n).length = false := by rw [dig_lt h10]; rfl
      rw [this, Bool.and_false]
    · rw [a3 r (by omega)]; rfl
  rw [h1, h2, Nat.ble_eq_true_of_le hn]; rfl

def lineB (e : GEdge) : List UInt8 := wEdge ++ [32] ++ dig e.From.toNat ++ [32] ++ dig e.To.toNat ++ [32] ++ dig e.W.toNat
def headB (n : Int) : List UInt8 := wGraph ++ [32] ++ dig n.toNat

theorem lineNums_edge {e : GEdge} (h : okE e) : lineNums (lineB e) wEdge 3 = some [e.From, e.To, e.W] := by
  obtain ⟨h1, h2, h3, h4, h5, h6⟩ := h
  have e1 : lineB e = wEdge ++ (32 :: (dig e.From.toNat ++ (32 :: (dig e.To.toNat ++ (32 :: (dig e.W.toNat ++ [])))))) := by simp [lineB]
  unfold lineNums
  rw [e1]
  have e2 : (wEdge ++ (32 :: (dig e.From.toNat ++ (32 :: (dig e.To.toNat ++ (32 :: (dig e.W.toNat ++ []))))))).take wEdge.length = wEdge := by simp
  have e3 : (wEdge ++ (32 :: (dig e.From.toNat ++ (32 :: (dig e.To.toNat ++ (32 :: (dig e.W.toNat ++ []))))))).drop wEdge.length = (32 :: (dig e.From.toNat ++ (32 :: (dig e.To.toNat ++ (32 :: (dig e.W.toNat ++ [])))))) := by simp
  rw [e2, e3, Nat.ble_eq_true_of_le (by simp)]
  have n32 : ∀ r, noD (32 :: r) = true := fun r => rfl
  simp only [nums, numOne_dig (by omega : e.From.toNat ≤ _) (n32 _), numOne_dig (by omega : e.To.toNat ≤ _) (n32 _), numOne_dig (by omega : e.W.toNat ≤ _) (show noD [] = true from rfl)]
  simp; omega

theorem lineNums_head {n : Int} (h1 : 0 ≤ n) (h2 : n ≤ 1000) : lineNums (headB n) wGraph 1 = some [n] := by
  have e1 : headB n = wGraph ++ (32 :: (dig n.toNat ++ [])) := by simp [headB]
  unfold lineNums
  rw [e1]
  have e2 : (wGraph ++ (32 :: (dig n.toNat ++ []))).take wGraph.length = wGraph := by simp
  have e3 : (wGraph ++ (32 :: (dig n.toNat ++ []))).drop wGraph.length = (32 :: (dig n.toNat ++ [])) := by simp
  rw [e2, e3, Nat.ble_eq_true_of_le (by simp)]
  simp only [nums, numOne_dig (by omega : n.toNat ≤ _) (show noD [] = true from rfl)]
  simp; omega

/-! ### Lines -/
def no10 (b : UInt8) : Bool := !(Nat.beq b.toNat 10)
def linesF : Nat → List UInt8 → List (List UInt8)
  | 0, _ => []
  | _ + 1, [] => []
  | k + 1, b :: s => (b :: s).takeWhile no10 :: linesF k ((b :: s).drop (((b :: s).takeWhile no10).length + 1))

theorem F135_find (K : Nat) (s : List UInt8) (out : List ByteArray) (hs : s.length ≤ 1000000) : ∀ (k i : Nat), s.length - i < k → i ≤ s.length →
    F135_l1_1 K (tx s) out k (i : Int) = some ((i + ((s.drop i).takeWhile no10).length : Nat) : Int) := by
  intro k
  induction k with
  | zero => intro i h; omega
  | succ k ih =>
    intro i h hi
    rw [F135_l1_1]
    cases hd : s.drop i with
    | nil => rw [byteEnd hd]; simp
    | cons b r =>
      obtain ⟨b1, b2, b3, b4, b5⟩ := byteAt hd
      rw [b5, cond_true, b2, cond_true, b3]
      have e : ieq (b.toNat : Int) 10 = !(no10 b) := by
        unfold no10
        rw [Bool.not_not, Bool.eq_iff_iff, ieq_iff]
        constructor
        · intro h; exact (beq_iff _ _).2 (by omega)
        · intro h; have := (beq_iff _ _).1 h; omega
      rw [e, List.takeWhile_cons]
      cases no10 b
      · simp
      · rw [Bool.not_true, cond_false, wadd_nat (by omega), ih (i + 1) (by omega) (by omega), b4, if_pos rfl, List.length_cons]
        congr 2; omega

theorem F135_loop {K : Nat} : ∀ (k : Nat) (s : List UInt8) (out : List ByteArray), s.length < k → s.length < K → s.length ≤ 1000000 → out.length + s.length ≤ 2000000 →
    F135_l0_0 K k (tx s) out = some (out ++ (linesF k s).map tx) := by
  intro k
  induction k with
  | zero => intro s out h; omega
  | succ k ih =>
    intro s out h hK hs ho
    rw [F135_l0_0, slen_tx]
    cases s with
    | nil => simp [linesF, ilt]
    | cons b r =>
      have hpos : ilt 0 (((b :: r).length : Nat) : Int) = true := ilt_iff.2 (by simp only [List.length_cons]; omega)
      have hf := F135_find K (b :: r) out hs K 0 (by omega) (by omega)
      rw [List.drop_zero, Nat.zero_add] at hf
      have hf' : F135_l1_1 K (tx (b :: r)) out K 0 = _ := hf
      have hle : ((b :: r).takeWhile no10).length ≤ (b :: r).length := (List.takeWhile_sublist _).length_le
      have htk : (b :: r).take ((b :: r).takeWhile no10).length = (b :: r).takeWhile no10 := List.prefix_iff_eq_take.1 (List.takeWhile_prefix _) |>.symm
      generalize hw : ((b :: r).takeWhile no10).length = w at *
      have e0 : sbnd 0 (w : Int) (tx (b :: r)) = true := by
        have := sbnd_tx (b :: r) 0 w
        rw [show ((0 : Nat) : Int) = 0 from rfl] at this
        rw [this]; simp only [Nat.zero_le, true_and, decide_eq_true_eq]; exact hle
      have e1 : ssub (tx (b :: r)) 0 (w : Int) = tx ((b :: r).takeWhile no10) := by
        have := ssub_tx (b :: r) 0 w
        rw [show ((0 : Nat) : Int) = 0 from rfl] at this
        rw [this, List.drop_zero, htk]
      have ea : apok (len out) 1 16 = true := decide_eq_true ⟨by show out.length + 1 ≤ _; omega, by show (out.length + 1) * 16 ≤ _; omega⟩
      have e2 : (b :: r).take (b :: r).length = b :: r := List.take_length
      simp only [List.length_cons] at h hs ho hK
      rw [hpos, cond_true, hf', Option.bind_some, e0, cond_true, ea, cond_true, wadd_nat (by simp only [List.length_cons] at hle; omega), e1, linesF, hw]
      by_cases hlt : w + 1 < (b :: r).length
      · have e3 : sbnd ((w + 1 : Nat) : Int) (((b :: r).length : Nat) : Int) (tx (b :: r)) = true := by rw [sbnd_tx]; simp only [decide_eq_true_eq]; omega
        rw [ilt_iff.2 (by omega : ((w + 1 : Nat) : Int) < (((b :: r).length : Nat) : Int)), cond_true, e3, cond_true, ssub_tx, e2, ih _ _ (by simp only [List.length_drop, List.length_cons]; omega) (by simp only [List.length_drop, List.length_cons]; omega) (by simp only [List.length_drop, List.length_cons]; omega) (by simp only [List.length_drop, List.length_cons, appL, List.length_append, List.length_nil]; omega)]
        simp [appL]
      · have e3 : sbnd (((b :: r).length : Nat) : Int) (((b :: r).length : Nat) : Int) (tx (b :: r)) = true := by rw [sbnd_tx]; simp only [decide_eq_true_eq]; omega
        have e4 : (b :: r).drop (b :: r).length = (b :: r).drop (w + 1) := by rw [List.drop_length, List.drop_eq_nil_of_le (by omega)]
        rw [ilt_f.2 (by omega : (((b :: r).length : Nat) : Int) ≤ ((w + 1 : Nat) : Int)), cond_false, e3, cond_true, ssub_tx, e2, e4, ih _ _ (by simp only [List.length_drop, List.length_cons]; omega) (by simp only [List.length_drop, List.length_cons]; omega) (by simp only [List.length_drop, List.length_cons]; omega) (by simp only [List.length_drop, List.length_cons, appL, List.length_append, List.length_nil]; omega)]
        simp [appL]

theorem F135_spec {K : Nat} (s : List UInt8) (hK : s.length < K) (hs : s.length ≤ 1000000) : F135 K (tx s) = some ((linesF K s).map tx) := by
  rw [F135, F135_loop K s [] hK hK hs (by simp; omega)]; rfl

theorem linesF_len : ∀ (k : Nat) (s : List UInt8), (linesF k s).length ≤ s.length ∧ ∀ L ∈ linesF k s, L.length ≤ s.length
  | 0, s => ⟨Nat.zero_le _, fun L h => by cases h⟩
  | k + 1, [] => ⟨Nat.le_refl _, fun L h => by cases h⟩
  | k + 1, b :: s => by
    obtain ⟨h1, h2⟩ := linesF_len k ((b :: s).drop (((b :: s).takeWhile no10).length + 1))
    have hle : ((b :: s).takeWhile no10).length ≤ (b :: s).length := (List.takeWhile_sublist _).length_le
    rw [linesF]
    rw [List.length_drop] at h1
    refine ⟨by simp only [List.length_cons] at *; omega, fun L hL => ?_⟩
    rcases List.mem_cons.1 hL with e | e
    · subst e; exact hle
    · have := h2 L e
      rw [List.length_drop] at this
      omega

theorem no10_dig (n : Nat) : ∀ b ∈ dig n, no10 b = true := fun b hb => by
  have := (dig_facts n).1 b hb
  simp only [isD, Bool.and_eq_true] at this
  have := Nat.le_of_ble_eq_true this.1
  unfold no10
  cases hq : Nat.beq b.toNat 10
  · rfl
  · have := (beq_iff _ _).1 hq; omega

theorem no10_lineB (e : GEdge) : ∀ b ∈ lineB e, no10 b = true := by
  intro b hb
  simp only [lineB, List.mem_append] at hb
  rcases hb with (((((h | h) | h) | h) | h) | h) | h
  · revert b; decide
  · rw [List.mem_singleton.1 h]; rfl
  · exact no10_dig _ b h
  · rw [List.mem_singleton.1 h]; rfl
  · exact no10_dig _ b h
  · rw [List.mem_singleton.1 h]; rfl
  · exact no10_dig _ b h
theorem no10_headB (n : Int) : ∀ b ∈ headB n, no10 b = true := by
  intro b hb
  simp only [headB, List.mem_append] at hb
  rcases hb with (h | h) | h
  · revert b; decide
  · rw [List.mem_singleton.1 h]; rfl
  · exact no10_dig _ b h

/-- A line with its end ahead of what follows. -/
theorem linesF_line {L : List UInt8} (hL : ∀ b ∈ L, no10 b = true) (k : Nat) (r : List UInt8) : linesF (k + 1) (L ++ 10 :: r) = L :: linesF k r := by
  have e1 : (L ++ 10 :: r).takeWhile no10 = L := by
    rw [List.takeWhile_append_of_pos hL]
    have : (10 :: r).takeWhile no10 = [] := rfl
    rw [this, List.append_nil]
  have e2 : (L ++ 10 :: r).drop (L.length + 1) = r := by
    rw [← List.drop_drop]; simp
  cases h : L ++ 10 :: r with
  | nil => simp at h
  | cons b s =>
    rw [linesF, ← h, e1, e2]

theorem linesF_text (n : Int) (es : List GEdge) : ∀ k, (headG n ++ es.flatMap lineE).length < k → linesF k (headG n ++ es.flatMap lineE) = headB n :: es.map lineB := by
  have hes : ∀ (es : List GEdge) (k : Nat), (es.flatMap lineE).length < k → linesF k (es.flatMap lineE) = es.map lineB := by
    intro es
    induction es with
    | nil => intro k hk; cases k <;> rfl
    | cons e es ih =>
      intro k hk
      obtain ⟨k, rfl⟩ : ∃ q, k = q + 1 := ⟨k - 1, by omega⟩
      have e1 : (e :: es).flatMap lineE = lineB e ++ 10 :: es.flatMap lineE := by simp [lineE, lineB]
      rw [e1] at hk ⊢
      rw [linesF_line (no10_lineB e), ih k (by simp only [List.length_append, List.length_cons] at hk; omega)]; rfl
  intro k hk
  obtain ⟨k, rfl⟩ : ∃ q, k = q + 1 := ⟨k - 1, by omega⟩
  have e1 : headG n ++ es.flatMap lineE = headB n ++ 10 :: es.flatMap lineE := by simp [headG, headB]
  rw [e1] at hk ⊢
  rw [linesF_line (no10_headB n), hes es k (by simp only [List.length_append, List.length_cons] at hk; omega)]

end Go.Proofs.Ytnjanliihnadjaa.Tm

/- Products and ratios: the program's by halves, the reference's by division. Conditions: none. -/
import Derived.Test.YtnjanliihnadjaaJb
import Derived.Test.YtnjanliihnadjaaFSt
import Derived.Test.YtnjanliihnadjaaFTt
set_option linter.unusedVariables false
set_option linter.unusedSimpArgs false
namespace Go.Proofs.Ytnjanliihnadjaa.Tm
open Go

theorem u_add {a b : Int} (h : 0 ≤ a + b) (h2 : a + b < 18446744073709551616) : wadd .u64 a b = a + b := by
  show IntKind.u64.wrap (a + b) = _
  simp [IntKind.wrap, IntKind.signed, IntKind.bits]; omega
theorem u_mul {a b : Int} (h : 0 ≤ a * b) (h2 : a * b < 18446744073709551616) : wmul .u64 a b = a * b := by
  show IntKind.u64.wrap (a * b) = _
  simp only [IntKind.wrap, IntKind.signed, IntKind.bits, Bool.false_and]
  generalize a * b = t at *
  simp; omega
theorem u_quo {a : Int} (h : 0 ≤ a) (h2 : a < 18446744073709551616) : wquo .u64 a 4294967296 = a / 4294967296 := by
  show IntKind.u64.wrap (a.tdiv 4294967296) = _
  rw [Int.tdiv_eq_ediv_of_nonneg h]
  simp [IntKind.wrap, IntKind.signed, IntKind.bits]; omega
theorem u_rem {a : Int} (h : 0 ≤ a) : wrem a 4294967296 = a % 4294967296 := by
  show a.tmod 4294967296 = _
  exact Int.tmod_eq_emod_of_nonneg h

theorem F174_spec (K : Nat) {x b : Int} (hx : 0 ≤ x) (hx2 : x ≤ 9223372036854775808) (hb : 1 ≤ b) (hb2 : b ≤ 1000) :
    ∃ hi lo, F174 K x b = some (GA199.mk hi lo) ∧ hi * 18446744073709551616 + lo = x * b ∧ 0 ≤ lo ∧ lo < 18446744073709551616 ∧ 0 ≤ hi := by
  obtain ⟨u, hu⟩ : ∃ u, x / 4294967296 = u := ⟨_, rfl⟩
  obtain ⟨v, hv⟩ : ∃ v, x % 4294967296 = v := ⟨_, rfl⟩
  have hu0 : 0 ≤ u ∧ u ≤ 2147483648 := by omega
  have hv0 : 0 ≤ v ∧ v < 4294967296 := by omega
  have hxu : x = u * 4294967296 + v := by omega
  obtain ⟨P, hP⟩ : ∃ P, u * b = P := ⟨_, rfl⟩
  obtain ⟨Q, hQ⟩ : ∃ Q, v * b = Q := ⟨_, rfl⟩
  have hP0 : 0 ≤ P := hP ▸ Int.mul_nonneg hu0.1 (by omega)
  have hQ0 : 0 ≤ Q := hQ ▸ Int.mul_nonneg hv0.1 (by omega)
  have hP1 : P ≤ 2147483648 * 1000 := hP ▸ Int.mul_le_mul hu0.2 hb2 (by omega) (by omega)
  have hQ1 : Q ≤ 4294967296 * 1000 := hQ ▸ Int.mul_le_mul (by omega) hb2 (by omega) (by omega)
  have hxb : x * b = P * 4294967296 + Q := by rw [hxu, Int.add_mul, hQ, ← hP, Int.mul_right_comm]
  have a1 : wquo .u64 x 4294967296 = u := by rw [u_quo hx (by omega), hu]
  have a2 : wquo .u64 b 4294967296 = 0 := by rw [u_quo (by omega) (by omega)]; omega
  have a3 : wrem x 4294967296 = v := by rw [u_rem hx, hv]
  have a4 : wrem b 4294967296 = b := by rw [u_rem (by omega)]; omega
  have b1 : wmul .u64 u 0 = 0 := by rw [u_mul (by omega) (by omega)]; omega
  have b2 : wmul .u64 u b = P := by rw [u_mul (by omega) (by omega), hP]
  have b3 : wmul .u64 v 0 = 0 := by rw [u_mul (by omega) (by omega)]; omega
  have b4 : wmul .u64 v b = Q := by rw [u_mul (by omega) (by omega), hQ]
  have c1 : wquo .u64 P 4294967296 = P / 4294967296 := u_quo hP0 (by omega)
  have c2 : wquo .u64 0 4294967296 = 0 := by rw [u_quo (by omega) (by omega)]; omega
  have c3 : wquo .u64 Q 4294967296 = Q / 4294967296 := u_quo hQ0 (by omega)
  have c4 : wrem P 4294967296 = P % 4294967296 := u_rem hP0
  have c5 : wrem 0 4294967296 = 0 := by rw [u_rem (by omega)]; omega
  have c6 : wrem Q 4294967296 = Q % 4294967296 := u_rem hQ0
  have d1 : wadd .u64 (Q / 4294967296) (P % 4294967296) = Q / 4294967296 + P % 4294967296 := u_add (by omega) (by omega)
  have d2 : wadd .u64 (Q / 4294967296 + P % 4294967296) 0 = Q / 4294967296 + P % 4294967296 := by rw [u_add (by omega) (by omega)]; omega
  have d3 : wquo .u64 (Q / 4294967296 + P % 4294967296) 4294967296 = (Q / 4294967296 + P % 4294967296) / 4294967296 := u_quo (by omega) (by omega)
  have d4 : wrem (Q / 4294967296 + P % 4294967296) 4294967296 = (Q / 4294967296 + P % 4294967296) % 4294967296 := u_rem (by omega)
  have d5 : wadd .u64 0 (P / 4294967296) = P / 4294967296 := by rw [u_add (by omega) (by omega)]; omega
  have d6 : wadd .u64 (P / 4294967296) 0 = P / 4294967296 := by rw [u_add (by omega) (by omega)]; omega
  have d7 : wadd .u64 (P / 4294967296) ((Q / 4294967296 + P % 4294967296) / 4294967296) = P / 4294967296 + (Q / 4294967296 + P % 4294967296) / 4294967296 := u_add (by omega) (by omega)
  have d8 : wmul .u64 ((Q / 4294967296 + P % 4294967296) % 4294967296) 4294967296 = (Q / 4294967296 + P % 4294967296) % 4294967296 * 4294967296 := u_mul (by omega) (by omega)
  have d9 : wadd .u64 ((Q / 4294967296 + P % 4294967296) % 4294967296 * 4294967296) (Q % 4294967296) = (Q / 4294967296 + P % 4294967296) % 4294967296 * 4294967296 + Q % 4294967296 := u_add (by omega) (by omega)
  refine ⟨P / 4294967296 + (Q / 4294967296 + P % 4294967296) / 4294967296, (Q / 4294967296 + P % 4294967296) % 4294967296 * 4294967296 + Q % 4294967296, ?_, ?_, by omega, by omega, by omega⟩
  · rw [F174, a1, a2, a3, a4, b1, b2, b3, b4, c1, c2, c3, c4, c5, c6, d1, d2, d3, d4, d5, d6, d7, d8, d9]
  · rw [hxb]; omega

theorem F175_spec (K : Nat) {a : Int} (ha : i64 a) : F175 K a = some (bif ilt a 0 then -a else a) := by
  unfold i64 at ha
  rw [F175]
  cases h : ilt a 0
  · have := ilt_f.1 h
    have e : wconv .u64 a = a := by
      show IntKind.u64.wrap a = _
      simp [IntKind.wrap, IntKind.signed, IntKind.bits]; omega
    rw [e]; rfl
  · have := ilt_iff.1 h
    have e1 : wadd .i64 a 1 = a + 1 := wadd_i64 (by unfold i64; omega)
    have e2 : wneg .i64 (a + 1) = -(a + 1) := by
      show IntKind.i64.wrap (0 - (a + 1)) = _
      rw [IntKind.wrap_i64]; omega
    have e3 : wconv .u64 (-(a + 1)) = -(a + 1) := by
      show IntKind.u64.wrap _ = _
      simp [IntKind.wrap, IntKind.signed, IntKind.bits]; omega
    have e4 : wadd .u64 (-(a + 1)) 1 = -a := by rw [u_add (by omega) (by omega)]; omega
    rw [e1, e2, e3, e4]; rfl

def mulS (a b : Int) : Int × Bool := bif fitsB (a * b) then (a * b, true) else (0, false)

theorem F170_spec (K : Nat) {a b : Int} (ha : i64 a) (hb : 1 ≤ b) (hb2 : b ≤ 1000) : F170 K a b = some (mulS a b) := by
  have hb0 : ilt b 0 = false := ilt_f.2 (by omega)
  have h175 : F175 K b = some b := by rw [F175_spec K (by unfold i64; omega), hb0]; rfl
  have hconv : ∀ n : Int, 0 ≤ n → n ≤ 9223372036854775807 → wconv .i64 n = n := fun n h1 h2 => by
    show IntKind.i64.wrap n = _
    rw [IntKind.wrap_i64]; omega
  rw [F170, F175_spec K ha, h175, mulS, hb0]
  unfold i64 at ha
  cases h : ilt a 0
  · have hn := ilt_f.1 h
    obtain ⟨hi, lo, e, h1, h2, h3, h4⟩ := F174_spec K hn (by omega) hb hb2
    simp only [Option.bind_some, cond_false, e]
    cases c1 : ilt 0 hi
    · have c1' := ilt_f.1 c1
      cases c2 : ilt 9223372036854775808 lo
      · have c2' := ilt_f.1 c2
        cases c3 : ieq lo 9223372036854775808
        · have c3' := ieq_f.1 c3
          have hf : fitsB (a * b) = true := fitsB_iff.2 (by unfold i64; omega)
          have : lo = a * b := by omega
          rw [hf, hconv lo h2 (by omega), this]; rfl
        · have c3' := ieq_iff.1 c3
          have hf : fitsB (a * b) = false := fitsB_f.2 (by omega)
          rw [hf]; rfl
      · have c2' := ilt_iff.1 c2
        have hf : fitsB (a * b) = false := fitsB_f.2 (by omega)
        rw [hf]; rfl
    · have c1' := ilt_iff.1 c1
      have hf : fitsB (a * b) = false := fitsB_f.2 (by omega)
      rw [hf]; rfl
  · have hn := ilt_iff.1 h
    obtain ⟨hi, lo, e, h1, h2, h3, h4⟩ := F174_spec K (x := -a) (by omega) (by omega) hb hb2
    rw [Int.neg_mul] at h1
    simp only [Option.bind_some, cond_true, e]
    cases c1 : ilt 0 hi
    · have c1' := ilt_f.1 c1
      cases c2 : ilt 9223372036854775808 lo
      · have c2' := ilt_f.1 c2
        cases c3 : ieq lo 9223372036854775808
        · have c3' := ieq_f.1 c3
          have hf : fitsB (a * b) = true := fitsB_iff.2 (by unfold i64; omega)
          have hw : wneg .i64 lo = a * b := by
            show IntKind.i64.wrap (0 - lo) = _
            rw [IntKind.wrap_i64]; omega
          rw [hf, hconv lo h2 (by omega), hw]; rfl
        · have c3' := ieq_iff.1 c3
          have hf : fitsB (a * b) = true := fitsB_iff.2 (by unfold i64; omega)
          have : a * b = -9223372036854775808 := by omega
          rw [hf, this]; rfl
      · have c2' := ilt_iff.1 c2
        have hf : fitsB (a * b) = false := fitsB_f.2 (by omega)
        rw [hf]; rfl
    · have c1' := ilt_iff.1 c1
      have hf : fitsB (a * b) = false := fitsB_f.2 (by omega)
      rw [hf]; rfl

theorem tdiv_i64 {a d : Int} (ha : i64 a) (hd : 1 ≤ d) : wquo .i64 a d = a.tdiv d ∧ i64 (a.tdiv d) := by
  unfold i64 at ha
  have h1 : (a.tdiv d).natAbs ≤ a.natAbs := Int.natAbs_tdiv_le_natAbs a d
  have h2 : -9223372036854775808 ≤ a.tdiv d ∧ a.tdiv d ≤ 9223372036854775808 := by omega
  have h3 : 0 ≤ a → 0 ≤ a.tdiv d := fun h => Int.tdiv_nonneg h (by omega)
  have h4 : a ≤ 0 → a.tdiv d ≤ 0 := fun h => by
    have := Int.tdiv_nonneg (show 0 ≤ -a by omega) (show 0 ≤ d by omega)
    rw [Int.neg_tdiv] at this; omega
  have h5 : i64 (a.tdiv d) := by
    unfold i64
    rcases Int.le_total 0 a with h | h
    · have := h3 h; omega
    · have := h4 h; omega
  refine ⟨?_, h5⟩
  unfold i64 at h5
  show IntKind.i64.wrap (a.tdiv d) = _
  rw [IntKind.wrap_i64]; omega
theorem F171_spec (K : Nat) {a b : Int} (ha : i64 a) (hb : 1 ≤ b) (hb2 : b ≤ 1000) : F171 K a b = some (mulS a b) := by
  unfold i64 at ha
  rw [F171, mulS, ieq_f.2 (by omega : b ≠ 0), ieq_f.2 (by omega : b ≠ -1)]
  cases h0 : ieq a 0
  · have h0' := ieq_f.1 h0
    cases h1 : ieq a (-1)
    · have hz : izero b = false := decide_eq_false (by omega)
      simp only [cond_false, hz]
      obtain ⟨t, ht⟩ : ∃ t, a * b = t := ⟨_, rfl⟩
      obtain ⟨p, hp⟩ : ∃ p, wmul .i64 a b = p := ⟨_, rfl⟩
      have hp' : p = if 9223372036854775808 ≤ t % 18446744073709551616 then t % 18446744073709551616 - 18446744073709551616 else t % 18446744073709551616 := by
        rw [← hp, ← ht]
        show IntKind.i64.wrap (a * b) = _
        rw [IntKind.wrap_i64, ht]
        split <;> omega
      have hpr : -9223372036854775808 ≤ p ∧ p ≤ 9223372036854775807 := by rw [hp']; split <;> omega
      obtain ⟨q, hq⟩ : ∃ q, p.tdiv b = q := ⟨_, rfl⟩
      obtain ⟨r, hr⟩ : ∃ r, p.tmod b = r := ⟨_, rfl⟩
      have hdiv : b * q + r = p := by rw [← hq, ← hr]; exact Int.mul_tdiv_add_tmod p b
      have hrb : -1000 < r ∧ r < 1000 := by
        have h1 := Int.tmod_lt_of_pos p (show 0 < b by omega)
        have h2 := Int.lt_tmod_of_pos p (show 0 < b by omega)
        omega
      have hqr : -9223372036854775808 ≤ q ∧ q ≤ 9223372036854775807 := by
        have : i64 (p.tdiv b) := (tdiv_i64 (show i64 p from hpr) hb).2
        unfold i64 at this
        rw [hq] at this; exact this
      have hw : wquo .i64 p b = q := by rw [(tdiv_i64 (show i64 p from hpr) hb).1, hq]
      rw [hp, hw, ht]
      cases hf : fitsB t
      · have hf' := fitsB_f.1 hf
        have hne : ieq q a = false := ieq_f.2 fun hc => by
          have hba : b * q = t := by rw [hc, Int.mul_comm]; exact ht
          rw [hba] at hdiv
          have := hp'
          split at this <;> omega
        rw [hne]; rfl
      · have hf' := fitsB_iff.1 hf
        unfold i64 at hf'
        have hpt : p = t := by rw [hp']; split <;> omega
        have hqa : q = a := by
          rw [← hq, hpt, ← ht]
          exact Int.mul_tdiv_cancel a (by omega)
        rw [hqa, ieq_refl, hpt]; rfl
    · have h1' := ieq_iff.1 h1
      subst h1'
      have e1 : ieq (-1) (-9223372036854775808) = false := rfl
      have e2 : ieq b (-9223372036854775808) = false := ieq_f.2 (by omega)
      have e3 : fitsB (-1 * b) = true := fitsB_iff.2 (by unfold i64; omega)
      have e4 : wmul .i64 (-1) b = -1 * b := wmul_ok (by unfold i64; omega)
      rw [e1, e2, e3, e4]; rfl
  · have h0' := ieq_iff.1 h0
    subst h0'
    have e3 : fitsB (0 * b) = true := fitsB_iff.2 (by unfold i64; omega)
    rw [e3, Int.zero_mul]; rfl

def ratioS (v n d : Int) : Int × Bool := bif ilt d 1 then (0, false) else bif (mulS v n).2 then ((mulS v n).1.tdiv d, true) else (0, false)

theorem mulS_i64 {a b : Int} : i64 (mulS a b).1 := by
  rw [mulS]
  cases h : fitsB (a * b)
  · unfold i64; simp
  · exact fitsB_iff.1 h
theorem ratioS_i64 {v n d : Int} : i64 (ratioS v n d).1 := by
  have h0 : i64 0 := by unfold i64; omega
  rw [ratioS]
  cases hd : ilt d 1
  · cases (mulS v n).2
    · exact h0
    · exact (tdiv_i64 mulS_i64 (ilt_f.1 hd)).2
  · exact h0

theorem F167_spec (K : Nat) {v n : Int} (d : Int) (hv : i64 v) (hn : 1 ≤ n) (hn2 : n ≤ 1000) : F167 K v n d = some (ratioS v n d) := by
  rw [F167, F170_spec K hv hn hn2, Option.bind_some, ratioS]
  cases hd : ilt d 1
  · have hd' := ilt_f.1 hd
    have hz : izero d = false := decide_eq_false (by omega)
    rw [(tdiv_i64 (mulS_i64 (a := v) (b := n)) hd').1, hz]
    cases (mulS v n).2 <;> rfl
  · cases (mulS v n).2 <;> rfl
theorem F168_spec (K : Nat) {v n : Int} (d : Int) (hv : i64 v) (hn : 1 ≤ n) (hn2 : n ≤ 1000) : F168 K v n d = some (ratioS v n d) := by
  rw [F168, F171_spec K hv hn hn2, ratioS]
  cases hd : ilt d 1
  · have hd' := ilt_f.1 hd
    have hz : izero d = false := decide_eq_false (by omega)
    rw [cond_false, cond_false, Option.bind_some, (tdiv_i64 (mulS_i64 (a := v) (b := n)) hd').1, hz]
    cases (mulS v n).2 <;> rfl
  · rfl

def sumS (got : Int) : Int × Bool := bif (ratioS got 85 100).2 then addS 150000 (ratioS got 85 100).1 else (0, false)
theorem F147_spec (K : Nat) {got : Int} (hg : i64 got) : F147 K got = some (sumS got) := by
  rw [F147, F168_spec K 100 hg (by omega) (by omega), Option.bind_some, sumS]
  cases (ratioS got 85 100).2
  · rfl
  · rw [cond_true, cond_true, F145_spec K (by unfold i64; omega) ratioS_i64]; rfl
theorem addS_i64 {a b : Int} : i64 (addS a b).1 := by
  rw [addS]
  cases h : fitsB (a + b)
  · unfold i64; simp
  · exact fitsB_iff.1 h
theorem sumS_i64 {got : Int} : i64 (sumS got).1 := by
  rw [sumS]
  cases (ratioS got 85 100).2
  · unfold i64; simp
  · exact addS_i64

end Go.Proofs.Ytnjanliihnadjaa.Tm

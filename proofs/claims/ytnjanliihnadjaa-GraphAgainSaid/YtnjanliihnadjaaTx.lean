/- Texts as lists of bytes. Conditions: none. -/
import Derived.Test.YtnjanliihnadjaaSq
set_option linter.unusedVariables false
namespace Go.Proofs.Ytnjanliihnadjaa.Tm
open Go

def tx (l : List UInt8) : ByteArray := ⟨l.toArray⟩

theorem tx_size (l : List UInt8) : (tx l).size = l.length := by
  show l.toArray.size = _; simp
theorem tx_app (a b : List UInt8) : sapp (tx a) (tx b) = tx (a ++ b) := by
  apply ByteArray.ext
  show (tx a ++ tx b).data = _
  rw [ByteArray.data_append]; simp [tx]
theorem tx_bs (l : List Nat) : bs l = tx (l.map UInt8.ofNat) := rfl
theorem tx_data (s : ByteArray) : tx s.data.toList = s := by
  apply ByteArray.ext; simp [tx]
theorem tx_get (l : List UInt8) (i : Nat) (h : i < l.length) : (tx l).get! i = l[i] := by
  simp [tx, ByteArray.get!, h]

theorem toList_go (l : List UInt8) : ∀ (n i : Nat) (r : List UInt8), l.length - i = n → i ≤ l.length → ByteArray.toList.loop (tx l) i r = r.reverse ++ l.drop i := by
  intro n
  induction n with
  | zero =>
    intro i r hn hi
    unfold ByteArray.toList.loop
    rw [if_neg (by rw [tx_size]; omega), List.drop_eq_nil_of_le (by omega), List.append_nil]
  | succ n ih =>
    intro i r hn hi
    unfold ByteArray.toList.loop
    rw [if_pos (by rw [tx_size]; omega), ih _ _ (by omega) (by omega), tx_get l i (by omega), List.drop_eq_getElem_cons (by omega : i < l.length)]
    simp
theorem tx_toList (l : List UInt8) : (tx l).toList = l := by
  have := toList_go l l.length 0 [] (by omega) (by omega)
  unfold ByteArray.toList
  rw [this]; simp

theorem seqs_tx (a b : List UInt8) : seqs (tx a) (tx b) = (a == b) := by
  show ((tx a).toList == (tx b).toList) = _
  rw [tx_toList, tx_toList]
theorem seqs_refl (a : ByteArray) : seqs a a = true := by simp [seqs]
theorem sbig_tx (a b : List UInt8) : sbig (tx a) (tx b) = decide (((a.length + b.length : Nat) : Int) > 9223372036854775807) := by
  show decide ((((tx a).size + (tx b).size : Nat) : Int) > IntKind.i64.max) = _
  rw [tx_size, tx_size]; rfl
theorem sbig_small {a b : List UInt8} (h : a.length + b.length ≤ 1000000) : sbig (tx a) (tx b) = false := by
  rw [sbig_tx]; exact decide_eq_false (by omega)
theorem slen_tx (a : List UInt8) : slen (tx a) = (a.length : Int) := by
  show ((tx a).size : Int) = _
  rw [tx_size]
theorem sget_tx {a : List UInt8} {i : Nat} (h : i < a.length) : sget (tx a) (i : Int) = (a[i].toNat : Int) := by
  show (((tx a).get! (i : Int).toNat).toNat : Int) = _
  rw [Int.toNat_natCast, tx_get a i h]
theorem sinr_tx (a : List UInt8) (i : Nat) : sinr (i : Int) (tx a) = decide (i < a.length) := by
  show decide (0 ≤ (i : Int) ∧ (i : Int).toNat < (tx a).size) = _
  rw [tx_size, Int.toNat_natCast]
  simp
theorem sbnd_tx (a : List UInt8) (l h : Nat) : sbnd (l : Int) (h : Int) (tx a) = decide (l ≤ h ∧ h ≤ a.length) := by
  show decide (0 ≤ (l : Int) ∧ (l : Int) ≤ (h : Int) ∧ (h : Int) ≤ ((tx a).size : Int)) = _
  rw [tx_size]
  rw [Bool.eq_iff_iff]; simp
theorem ssub_tx (a : List UInt8) (l h : Nat) : ssub (tx a) (l : Int) (h : Int) = tx ((a.take h).drop l) := by
  apply ByteArray.ext
  show ((tx a).extract (l : Int).toNat (h : Int).toNat).data = _
  rw [ByteArray.data_extract]
  show (a.toArray).extract (l : Int).toNat (h : Int).toNat = ((a.take h).drop l).toArray
  rw [Int.toNat_natCast, Int.toNat_natCast, List.drop_take]
  simp
theorem bstr_one (n : Int) : bstr [.lit (.int .u8 n)] = tx [UInt8.ofNat n.toNat] := rfl

/-! ### Digits -/
def ch (d : Nat) : UInt8 := UInt8.ofNat (48 + d)
def dig (n : Nat) : List UInt8 := if n < 10 then [ch n] else dig (n / 10) ++ [ch (n % 10)]
termination_by n
decreasing_by omega

theorem dig_lt {n : Nat} (h : n < 10) : dig n = [ch n] := by rw [dig, if_pos h]
theorem dig_ge {n : Nat} (h : 10 ≤ n) : dig n = dig (n / 10) ++ [ch (n % 10)] := by rw [dig, if_neg (by omega)]
theorem dig_len : ∀ (k n : Nat), n < 10 ^ (k + 1) → (dig n).length ≤ k + 1
  | 0, n, h => by rw [dig_lt (by simpa using h)]; simp
  | k + 1, n, h => by
    by_cases h10 : n < 10
    · rw [dig_lt h10]; simp
    · rw [dig_ge (by omega)]
      have := dig_len k (n / 10) (by rw [Nat.pow_succ] at h; omega)
      simp; omega
theorem dig_len19 {n : Nat} (h : n ≤ 9223372036854775807) : (dig n).length ≤ 19 := dig_len 18 n (by omega)

theorem ch_eq {d : Nat} (h : d < 10) : UInt8.ofNat (wconv .u8 (wadd .i64 48 (d : Int))).toNat = ch d := by
  have e1 : wadd .i64 48 (d : Int) = ((48 + d : Nat) : Int) := by
    show IntKind.i64.wrap (48 + (d : Int)) = _
    rw [IntKind.wrap_i64]; omega
  have e2 : wconv .u8 ((48 + d : Nat) : Int) = ((48 + d : Nat) : Int) := by
    show IntKind.u8.wrap ((48 + d : Nat) : Int) = _
    simp [IntKind.wrap, IntKind.signed, IntKind.bits]
    omega
  rw [e1, e2, Int.toNat_natCast]; rfl

theorem wquo_ten {n : Nat} (h : n ≤ 9223372036854775807) : wquo .i64 (n : Int) 10 = ((n / 10 : Nat) : Int) := by
  show IntKind.i64.wrap ((n : Int).tdiv 10) = _
  have : (n : Int).tdiv 10 = ((n / 10 : Nat) : Int) := by
    rw [Int.tdiv_eq_ediv_of_nonneg (by omega)]; omega
  rw [this, IntKind.wrap_i64]; omega
theorem wrem_ten (n : Nat) : wrem (n : Int) 10 = ((n % 10 : Nat) : Int) := by
  show (n : Int).tmod 10 = _
  rw [Int.tmod_eq_emod_of_nonneg (by omega)]; omega

end Go.Proofs.Ytnjanliihnadjaa.Tm

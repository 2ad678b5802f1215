/- The texts of graphs: the program's and the reference's. Conditions: none. -/
import Derived.Test.YtnjanliihnadjaaGb
import Derived.Test.YtnjanliihnadjaaTx
set_option linter.unusedVariables false
namespace Go.Proofs.Ytnjanliihnadjaa.Tm
open Go

theorem F134_spec (K : Nat) : ∀ (d n : Nat), n < 10 ^ (d + 1) → n ≤ 9223372036854775807 → F134 K (d + 1) (n : Int) = some (tx (dig n)) := by
  intro d
  induction d with
  | zero =>
    intro n h _
    have h10 : n < 10 := by simpa using h
    rw [F134, ilt_iff.2 (by omega : (n : Int) < 10), cond_true, bstr_one, ch_eq h10, dig_lt h10]
  | succ d ih =>
    intro n h hn
    rw [F134]
    by_cases h10 : n < 10
    · rw [ilt_iff.2 (by omega : (n : Int) < 10), cond_true, bstr_one, ch_eq h10, dig_lt h10]
    · rw [ilt_f.2 (by omega : (10 : Int) ≤ (n : Int)), cond_false, wquo_ten hn, ih (n / 10) (by rw [Nat.pow_succ] at h; omega) (by omega), Option.bind_some, wrem_ten, bstr_one, ch_eq (by omega)]
      rw [sbig_small (by have := dig_len19 (n := n / 10) (by omega); simp; omega), cond_false, tx_app, ← dig_ge (by omega)]

theorem digits_ok {K : Nat} (hK : 100 ≤ K) {n : Int} (h0 : 0 ≤ n) (h : n ≤ 9223372036854775807) : F134 K K n = some (tx (dig n.toNat)) := by
  obtain ⟨m, rfl⟩ := Int.eq_ofNat_of_zero_le h0
  obtain ⟨d, rfl⟩ : ∃ d, K = d + 1 := ⟨K - 1, by omega⟩
  have : (10 : Nat) ^ 19 ≤ 10 ^ (d + 1) := Nat.pow_le_pow_right (by omega) (by omega)
  have e : (10 : Nat) ^ 19 = 10000000000000000000 := by decide
  exact F134_spec _ d m (by omega) (by omega)

theorem F72_loop (K : Nat) : ∀ (d n k : Nat) (acc : List UInt8), n < 10 ^ (d + 1) → n ≤ 9223372036854775807 → acc.length ≤ 1000 - 10 * (d + 1) → d < 50 → d < k → F72_l0_0 K k (n : Int) (tx acc) = some (tx (dig n ++ acc)) := by
  intro d
  induction d with
  | zero =>
    intro n k acc h _ ha _ hk
    obtain ⟨k, rfl⟩ : ∃ j, k = j + 1 := ⟨k - 1, by omega⟩
    have h10 : n < 10 := by simpa using h
    rw [F72_l0_0, wrem_ten, bstr_one, ch_eq (by omega), sbig_small (by simp; omega), cond_false, wquo_ten (by omega)]
    have : n / 10 = 0 := by omega
    rw [ieq_iff.2 (by omega : ((n / 10 : Nat) : Int) = 0), cond_true, tx_app, dig_lt h10, Nat.mod_eq_of_lt h10]
  | succ d ih =>
    intro n k acc h hn ha hd hk
    obtain ⟨k, rfl⟩ : ∃ j, k = j + 1 := ⟨k - 1, by omega⟩
    rw [F72_l0_0, wrem_ten, bstr_one, ch_eq (by omega), sbig_small (by simp; omega), cond_false, wquo_ten hn]
    by_cases h10 : n < 10
    · rw [ieq_iff.2 (by omega : ((n / 10 : Nat) : Int) = 0), cond_true, tx_app, dig_lt h10, Nat.mod_eq_of_lt h10]
    · rw [ieq_f.2 (by omega : ((n / 10 : Nat) : Int) ≠ 0), cond_false, tx_app, ih (n / 10) k _ (by rw [Nat.pow_succ] at h; omega) (by omega) (by simp; omega) (by omega) (by omega), dig_ge (by omega : 10 ≤ n)]
      simp

theorem F72_dig {K : Nat} (hK : 100 ≤ K) {n : Int} (h0 : 0 ≤ n) (h : n ≤ 9223372036854775807) : F72 K n = some (tx (dig n.toNat)) := by
  obtain ⟨m, rfl⟩ := Int.eq_ofNat_of_zero_le h0
  have e : (10 : Nat) ^ 19 = 10000000000000000000 := by decide
  have := F72_loop K 18 m K [] (by omega) (by omega) (by simp) (by omega) (by omega)
  rw [F72, show (bs [] : ByteArray) = tx [] from rfl, this, Option.bind_some, List.append_nil]; rfl

def wEdge : List UInt8 := [101, 100, 103, 101]
def wGraph : List UInt8 := [103, 114, 97, 112, 104]
def lineE (e : GEdge) : List UInt8 := wEdge ++ [32] ++ dig e.From.toNat ++ [32] ++ dig e.To.toNat ++ [32] ++ dig e.W.toNat ++ [10]
def headG (n : Int) : List UInt8 := wGraph ++ [32] ++ dig n.toNat ++ [10]
def textG (g : GGraph) : List UInt8 := headG g.N ++ g.Edges.flatMap lineE

def okE (e : GEdge) : Prop := 0 ≤ e.From ∧ e.From ≤ 1000 ∧ 0 ≤ e.To ∧ e.To ≤ 1000 ∧ 0 ≤ e.W ∧ e.W ≤ 9223372036854775807
theorem dig_small {n : Int} (h : n ≤ 1000) : (dig n.toNat).length ≤ 4 := dig_len 3 n.toNat (by omega)
theorem lineE_len {e : GEdge} (h : okE e) : (lineE e).length ≤ 100 := by
  obtain ⟨h1, h2, h3, h4, h5, h6⟩ := h
  have a := dig_small h2
  have b := dig_small h4
  have c := dig_len19 (n := e.W.toNat) (by omega)
  simp [lineE, wEdge]; omega

theorem F66_loop {K : Nat} (hK : 100 ≤ K) (g : GGraph) (hl : g.Edges.length ≤ 80) (hg : ∀ e ∈ g.Edges, okE e) (s0 : List UInt8) (hs0 : s0.length ≤ 100) :
    F66_l0_0 K g K (tx s0) 0 = some (tx (s0 ++ g.Edges.flatMap lineE)) := by
  let step : GEdge → ByteArray → (ByteArray → Option ByteArray) → Option ByteArray := fun x s c =>
      (F134 K K x.From).bind fun r2489 =>
      bif (sbig (bs [101, 100, 103, 101, 32]) r2489) then none else
      bif (sbig (sapp (bs [101, 100, 103, 101, 32]) r2489) (bs [32])) then none else
      (F134 K K x.To).bind fun r2493 =>
      bif (sbig (sapp (sapp (bs [101, 100, 103, 101, 32]) r2489) (bs [32])) r2493) then none else
      bif (sbig (sapp (sapp (sapp (bs [101, 100, 103, 101, 32]) r2489) (bs [32])) r2493) (bs [32])) then none else
      (F134 K K x.W).bind fun r2497 =>
      bif (sbig (sapp (sapp (sapp (sapp (bs [101, 100, 103, 101, 32]) r2489) (bs [32])) r2493) (bs [32])) r2497) then none else
      bif (sbig (sapp (sapp (sapp (sapp (sapp (bs [101, 100, 103, 101, 32]) r2489) (bs [32])) r2493) (bs [32])) r2497) (bs [10])) then none else
      bif (sbig s (sapp (sapp (sapp (sapp (sapp (sapp (bs [101, 100, 103, 101, 32]) r2489) (bs [32])) r2493) (bs [32])) r2497) (bs [10]))) then none else
      c (sapp s (sapp (sapp (sapp (sapp (sapp (sapp (bs [101, 100, 103, 101, 32]) r2489) (bs [32])) r2493) (bs [32])) r2497) (bs [10])))
  have h := scanL (l := g.Edges) (L := fun k s i => F66_l0_0 K g k s i) step (fun s => some s) (fun k s i _ => rfl) (by omega) (K := K) (by omega) (tx s0)
  have hw : ∀ (l : List GEdge) (s : List UInt8), (∀ e ∈ l, okE e) → s.length + 100 * l.length ≤ 10000 → goL step (fun s => some s) l (tx s) = some (tx (s ++ l.flatMap lineE)) := by
    intro l
    induction l with
    | nil => intro s _ _; simp [goL]
    | cons x l ih =>
      intro s hx hs
      have ho := hx x List.mem_cons_self
      obtain ⟨h1, h2, h3, h4, h5, h6⟩ := ho
      have a := dig_small h2
      have b := dig_small h4
      have d := dig_len19 (n := x.W.toNat) (by omega)
      simp only [List.length_cons] at hs
      rw [goL]
      show ((F134 K K x.From).bind fun r2489 =>
      bif (sbig (bs [101, 100, 103, 101, 32]) r2489) then none else
      bif (sbig (sapp (bs [101, 100, 103, 101, 32]) r2489) (bs [32])) then none else
      (F134 K K x.To).bind fun r2493 =>
      bif (sbig (sapp (sapp (bs [101, 100, 103, 101, 32]) r2489) (bs [32])) r2493) then none else
      bif (sbig (sapp (sapp (sapp (bs [101, 100, 103, 101, 32]) r2489) (bs [32])) r2493) (bs [32])) then none else
      (F134 K K x.W).bind fun r2497 =>
      bif (sbig (sapp (sapp (sapp (sapp (bs [101, 100, 103, 101, 32]) r2489) (bs [32])) r2493) (bs [32])) r2497) then none else
      bif (sbig (sapp (sapp (sapp (sapp (sapp (bs [101, 100, 103, 101, 32]) r2489) (bs [32])) r2493) (bs [32])) r2497) (bs [10])) then none else
      bif (sbig (tx s) (sapp (sapp (sapp (sapp (sapp (sapp (bs [101, 100, 103, 101, 32]) r2489) (bs [32])) r2493) (bs [32])) r2497) (bs [10]))) then none else
      goL step (fun s => some s) l (sapp (tx s) (sapp (sapp (sapp (sapp (sapp (sapp (bs [101, 100, 103, 101, 32]) r2489) (bs [32])) r2493) (bs [32])) r2497) (bs [10])))) = _
      rw [digits_ok hK h1 (by omega), digits_ok hK h3 (by omega), digits_ok hK h5 h6, show bs [101, 100, 103, 101, 32] = tx [101, 100, 103, 101, 32] from rfl, show bs [32] = tx [32] from rfl, show bs [10] = tx [10] from rfl]
      simp only [Option.bind_some, tx_app]
      rw [sbig_small (by simp; omega), sbig_small (by simp; omega), sbig_small (by simp; omega), sbig_small (by simp; omega), sbig_small (by simp; omega), sbig_small (by simp; omega), sbig_small (by simp; omega)]
      simp only [cond_false]
      rw [ih _ (fun e he => hx e (List.mem_cons_of_mem _ he)) (by simp; omega)]
      simp [lineE, wEdge]
  rw [hw g.Edges s0 hg (by omega)] at h
  exact h

theorem F67_loop {K : Nat} (hK : 100 ≤ K) (g : GGraph) (hl : g.Edges.length ≤ 80) (hg : ∀ e ∈ g.Edges, okE e) (s0 : List UInt8) (hs0 : s0.length ≤ 100) :
    F67_l0_0 K g K (tx s0) 0 = some (tx (s0 ++ g.Edges.flatMap lineE)) := by
  let step : GEdge → ByteArray → (ByteArray → Option ByteArray) → Option ByteArray := fun x v c =>
      bif (sbig v (bs [101, 100, 103, 101, 32])) then none else
      (F72 K x.From).bind fun r2558 =>
      bif (sbig (sapp v (bs [101, 100, 103, 101, 32])) r2558) then none else
      bif (sbig (sapp (sapp v (bs [101, 100, 103, 101, 32])) r2558) (bs [32])) then none else
      (F72 K x.To).bind fun r2562 =>
      bif (sbig (sapp (sapp (sapp v (bs [101, 100, 103, 101, 32])) r2558) (bs [32])) r2562) then none else
      bif (sbig (sapp (sapp (sapp (sapp v (bs [101, 100, 103, 101, 32])) r2558) (bs [32])) r2562) (bs [32])) then none else
      (F72 K x.W).bind fun r2566 =>
      bif (sbig (sapp (sapp (sapp (sapp (sapp v (bs [101, 100, 103, 101, 32])) r2558) (bs [32])) r2562) (bs [32])) r2566) then none else
      bif (sbig (sapp (sapp (sapp (sapp (sapp (sapp v (bs [101, 100, 103, 101, 32])) r2558) (bs [32])) r2562) (bs [32])) r2566) (bs [10])) then none else
      c (sapp (sapp (sapp (sapp (sapp (sapp (sapp v (bs [101, 100, 103, 101, 32])) r2558) (bs [32])) r2562) (bs [32])) r2566) (bs [10]))
  have h := scanL (l := g.Edges) (L := fun k s i => F67_l0_0 K g k s i) step (fun s => some s) (fun k s i _ => rfl) (by omega) (K := K) (by omega) (tx s0)
  have hw : ∀ (l : List GEdge) (s : List UInt8), (∀ e ∈ l, okE e) → s.length + 100 * l.length ≤ 10000 → goL step (fun s => some s) l (tx s) = some (tx (s ++ l.flatMap lineE)) := by
    intro l
    induction l with
    | nil => intro s _ _; simp [goL]
    | cons x l ih =>
      intro s hx hs
      have ho := hx x List.mem_cons_self
      obtain ⟨h1, h2, h3, h4, h5, h6⟩ := ho
      have a := dig_small h2
      have b := dig_small h4
      have d := dig_len19 (n := x.W.toNat) (by omega)
      simp only [List.length_cons] at hs
      rw [goL]
      show (bif (sbig (tx s) (bs [101, 100, 103, 101, 32])) then none else
      (F72 K x.From).bind fun r2558 =>
      bif (sbig (sapp (tx s) (bs [101, 100, 103, 101, 32])) r2558) then none else
      bif (sbig (sapp (sapp (tx s) (bs [101, 100, 103, 101, 32])) r2558) (bs [32])) then none else
      (F72 K x.To).bind fun r2562 =>
      bif (sbig (sapp (sapp (sapp (tx s) (bs [101, 100, 103, 101, 32])) r2558) (bs [32])) r2562) then none else
      bif (sbig (sapp (sapp (sapp (sapp (tx s) (bs [101, 100, 103, 101, 32])) r2558) (bs [32])) r2562) (bs [32])) then none else
      (F72 K x.W).bind fun r2566 =>
      bif (sbig (sapp (sapp (sapp (sapp (sapp (tx s) (bs [101, 100, 103, 101, 32])) r2558) (bs [32])) r2562) (bs [32])) r2566) then none else
      bif (sbig (sapp (sapp (sapp (sapp (sapp (sapp (tx s) (bs [101, 100, 103, 101, 32])) r2558) (bs [32])) r2562) (bs [32])) r2566) (bs [10])) then none else
      goL step (fun s => some s) l (sapp (sapp (sapp (sapp (sapp (sapp (sapp (tx s) (bs [101, 100, 103, 101, 32])) r2558) (bs [32])) r2562) (bs [32])) r2566) (bs [10]))) = _
      rw [F72_dig hK h1 (by omega), F72_dig hK h3 (by omega), F72_dig hK h5 h6, show bs [101, 100, 103, 101, 32] = tx [101, 100, 103, 101, 32] from rfl, show bs [32] = tx [32] from rfl, show bs [10] = tx [10] from rfl]
      simp only [Option.bind_some, tx_app]
      rw [sbig_small (by simp; omega), sbig_small (by simp; omega), sbig_small (by simp; omega), sbig_small (by simp; omega), sbig_small (by simp; omega), sbig_small (by simp; omega), sbig_small (by simp; omega)]
      simp only [cond_false]
      rw [ih _ (fun e he => hx e (List.mem_cons_of_mem _ he)) (by simp; omega)]
      simp [lineE, wEdge]
  rw [hw g.Edges s0 hg (by omega)] at h
  exact h

theorem gcheck_fine {g : GGraph} (h : ieq (gcheck g) 0 = true) : 1 ≤ g.N ∧ g.N ≤ 24 ∧ g.Edges.length ≤ 80 ∧ ∀ e ∈ g.Edges, okE e := by
  obtain ⟨h1, h2, h3, h4⟩ := gcheck_ok h
  exact ⟨h1, h2, h3, fun e he => by have := badE_ok (gchk_mem h4 e he); exact ⟨by omega, by omega, by omega, by omega, by omega, by omega⟩⟩

theorem headG_len {n : Int} (h : n ≤ 24) : (headG n).length ≤ 100 := by
  have := dig_small (n := n) (by omega)
  simp [headG, wGraph]; omega

theorem F66_spec {K : Nat} (hK : 100 ≤ K) (g : GGraph) : F66 K g = some (bif ieq (gcheck g) 0 then (tx (textG g), 0) else (tx [], gcheck g)) := by
  rw [F66, F64_spec hK, Option.bind_some]
  cases hc : ieq (gcheck g) 0
  · rfl
  · obtain ⟨h1, h2, h3, h4⟩ := gcheck_fine hc
    have a := dig_small (n := g.N) (by omega)
    rw [cond_true, cond_true, digits_ok hK (by omega) (by omega), Option.bind_some, show bs [103, 114, 97, 112, 104, 32] = tx [103, 114, 97, 112, 104, 32] from rfl, show bs [10] = tx [10] from rfl]
    simp only [tx_app]
    rw [sbig_small (by simp; omega), sbig_small (by simp; omega), cond_false, cond_false, F66_loop hK g h3 h4 _ (by simp; omega), Option.bind_some]
    simp [textG, headG, wGraph]

theorem F67_spec {K : Nat} (hK : 100 ≤ K) (g : GGraph) (hc : ieq (gcheck g) 0 = true) : F67 K g = some (tx (textG g)) := by
  obtain ⟨h1, h2, h3, h4⟩ := gcheck_fine hc
  have a := dig_small (n := g.N) (by omega)
  rw [F67, F72_dig hK (by omega) (by omega), Option.bind_some, show bs [103, 114, 97, 112, 104, 32] = tx [103, 114, 97, 112, 104, 32] from rfl, show bs [10] = tx [10] from rfl]
  simp only [tx_app]
  rw [sbig_small (by simp; omega), sbig_small (by simp; omega), cond_false, cond_false, F67_loop hK g h3 h4 _ (by simp; omega), Option.bind_some]
  simp [textG, headG, wGraph]

end Go.Proofs.Ytnjanliihnadjaa.Tm

/- Homes of vertices, how many a home has. Conditions: none. -/
import Derived.Test.YtnjanliihnadjaaJa
import Derived.Test.YtnjanliihnadjaaFQ
set_option linter.unusedVariables false
set_option linter.unusedSimpArgs false
namespace Go.Proofs.Ytnjanliihnadjaa.Tm
open Go

theorem scanN {σ β : Type} {N : Int} {L : Nat → σ → Int → Option β} (step : Nat → σ → (σ → Option β) → Option β) (fin : σ → Option β)
    (h : ∀ k s (i : Nat), i ≤ N.toNat → L (k + 1) s i = bif ilt i N then step i s (fun s' => L k s' (wadd .i64 i 1)) else fin s) (hN : N ≤ 1000000) {K : Nat} (hK : N.toNat < K) (s : σ) :
    L K s 0 = goL step fin (List.range N.toNat) s := by
  have hw : ∀ (k : Nat) (s : σ) (i : Nat), N.toNat - i < k → i ≤ N.toNat → L k s i = goL step fin ((List.range N.toNat).drop i) s := by
    intro k
    induction k with
    | zero => intro s i h; omega
    | succ k ih =>
      intro s i hk hi
      rw [h k s i hi]
      by_cases hlt : i < N.toNat
      · have e : (List.range N.toNat).drop i = i :: (List.range N.toNat).drop (i + 1) := by
          rw [List.drop_eq_getElem_cons (by simpa using hlt)]; simp
        rw [ilt_iff.2 (by omega : (i : Int) < N), cond_true, e, goL]
        congr 1
        funext s'
        rw [wadd_nat (by omega)]
        exact ih s' (i + 1) (by omega) (by omega)
      · have e : (List.range N.toNat).drop i = [] := List.drop_eq_nil_of_le (by simp; omega)
        rw [ilt_f.2 (by omega : N ≤ (i : Int)), cond_false, e]; rfl
  have := hw K s 0 (by omega) (by omega)
  rw [List.drop_zero] at this
  exact this

def homeS (j : GJob) (v : Int) : Int := bif ilt v 0 || (ilt j.Parts 1 || ilt 6 j.Parts) then -1 else v % j.Parts

theorem wrem_emod {a b : Int} (h : 0 ≤ a) : wrem a b = a % b := by
  show Int.tmod _ _ = _
  exact Int.tmod_eq_emod_of_nonneg h

theorem F75_spec (K : Nat) (j : GJob) (v : Int) : F75 K j v = some (homeS j v) := by
  rw [F75, homeS]
  cases h0 : ilt v 0
  · cases h1 : ilt j.Parts 1
    · cases h2 : ilt 6 j.Parts
      · have v0 := ilt_f.1 h0
        have p1 := ilt_f.1 h1
        have hz : izero j.Parts = false := decide_eq_false (by omega)
        rw [hz, wrem_emod v0]; rfl
      · rfl
    · rfl
  · rfl

theorem F76_spec (K : Nat) (j : GJob) {v : Int} (hv : -9223372036854775808 ≤ v ∧ v ≤ 9223372036854775807) : F76 K j v = some (homeS j v) := by
  rw [F76, homeS]
  cases h0 : ilt v 0
  · cases h1 : ilt j.Parts 1
    · cases h2 : ilt 6 j.Parts
      · have v0 := ilt_f.1 h0
        have p1 := ilt_f.1 h1
        have hz : izero j.Parts = false := decide_eq_false (by omega)
        have hd : 0 ≤ v / j.Parts := Int.ediv_nonneg v0 (by omega)
        have hm : j.Parts * (v / j.Parts) + v % j.Parts = v := Int.mul_ediv_add_emod v j.Parts
        have hr : 0 ≤ v % j.Parts := Int.emod_nonneg _ (by omega)
        have hle : v / j.Parts ≤ v := Int.ediv_le_self _ v0
        have hp0 : 0 ≤ v / j.Parts * j.Parts := Int.mul_nonneg hd (by omega)
        have hc : v / j.Parts * j.Parts = j.Parts * (v / j.Parts) := Int.mul_comm _ _
        have e1 : wquo .i64 v j.Parts = v / j.Parts := by
          show IntKind.i64.wrap (v.tdiv j.Parts) = _
          rw [Int.tdiv_eq_ediv_of_nonneg v0, IntKind.wrap_i64]; omega
        have e2 : wmul .i64 (v / j.Parts) j.Parts = v / j.Parts * j.Parts := by
          show IntKind.i64.wrap _ = _
          rw [IntKind.wrap_i64]; omega
        have e3 : wsub .i64 v (v / j.Parts * j.Parts) = v % j.Parts := by
          show IntKind.i64.wrap _ = _
          rw [IntKind.wrap_i64]; omega
        rw [hz, e1, e2, e3]; rfl
      · rfl
    · rfl
  · rfl

/-- The vertices of a home. -/
def vertsN (n parts : Nat) (p : Int) : List Nat := (List.range n).filter fun v => ieq ((v % parts : Nat) : Int) p
def vertsS (g : GGraph) (j : GJob) (p : Int) : List Nat := vertsN g.N.toNat j.Parts.toNat p

theorem F139_spec {K : Nat} (hK : 100 ≤ K) {g : GGraph} {j : GJob} (h1 : 1 ≤ j.Parts) (h2 : j.Parts ≤ 6) (hn : g.N ≤ 24) (p : Int) : F139 K g j p = some ((vertsS g j p).map Int.ofNat) := by
  let step : Nat → List Int → (List Int → Option (List Int)) → Option (List Int) := fun i s c =>
    bif (izero j.Parts) then none else bif (ieq (wrem (i : Int) j.Parts) p) then (bif (apok (len s) 1 8) then c (appL s [(i : Int)]) else none) else c s
  have h := scanN (N := g.N) (L := fun k s i => F139_l0_0 K g j p k s i) step (fun s => some s) (fun k s i _ => rfl) (by omega) (K := K) (by omega) []
  have hz : izero j.Parts = false := decide_eq_false (by omega)
  obtain ⟨q, hq⟩ := Int.eq_ofNat_of_zero_le (show 0 ≤ j.Parts by omega)
  have hw : ∀ (l : List Nat) (s : List Int), s.length + l.length ≤ 1000 → goL step (fun s => some s) l s = some (s ++ (l.filter fun v => ieq ((v % j.Parts.toNat : Nat) : Int) p).map Int.ofNat) := by
    intro l
    induction l with
    | nil => intro s _; simp [goL]
    | cons v l ih =>
      intro s hs
      simp only [List.length_cons] at hs
      rw [goL]
      show (bif (izero j.Parts) then none else bif (ieq (wrem (v : Int) j.Parts) p) then (bif (apok (len s) 1 8) then goL step (fun s => some s) l (appL s [(v : Int)]) else none) else goL step (fun s => some s) l s) = _
      have e : wrem (v : Int) j.Parts = ((v % j.Parts.toNat : Nat) : Int) := by rw [wrem_emod (by omega), hq]; simp
      rw [hz, cond_false, e, List.filter_cons]
      cases ieq ((v % j.Parts.toNat : Nat) : Int) p
      · rw [cond_false, ih s (by omega)]; rfl
      · have ha : apok (len s) 1 8 = true := decide_eq_true ⟨by show s.length + 1 ≤ _; omega, by show (s.length + 1) * 8 ≤ _; omega⟩
        rw [cond_true, ha, cond_true, ih _ (by simp [appL]; omega)]
        simp [appL]
  rw [hw _ _ (by simp; omega), List.nil_append] at h
  have h' : F139_l0_0 K g j p K [] 0 = _ := h
  rw [F139, h']; rfl

theorem cnt_all : ∀ parts < 7, 0 < parts → ∀ n < 25, ∀ p < parts, ((List.range n).filter fun v => v % parts == p).length = (n + parts - 1 - p) / parts := by decide +kernel

def countS (g : GGraph) (j : GJob) (p : Int) : Int := ((vertsS g j p).length : Int)

theorem vertsN_len {n parts : Nat} (h1 : 0 < parts) (h2 : parts < 7) (hn : n < 25) {p : Nat} (hp : p < parts) : (vertsN n parts (p : Int)).length = (n + parts - 1 - p) / parts := by
  rw [← cnt_all parts h2 h1 n hn p hp, vertsN]
  congr 1
  refine List.filter_congr fun v _ => ?_
  rw [Bool.eq_iff_iff, ieq_iff, beq_iff_eq]; omega

theorem vertsN_none {n parts : Nat} (h1 : 0 < parts) {p : Int} (hp : p < 0 ∨ (parts : Int) ≤ p) : vertsN n parts p = [] := by
  rw [vertsN, List.filter_eq_nil_iff]
  intro v _ hc
  have := ieq_iff.1 hc
  have := Nat.mod_lt v h1
  omega

theorem F77_spec {K : Nat} (hK : 100 ≤ K) (g : GGraph) (j : GJob) (p : Int) (hp : -9223372036854775808 ≤ p ∧ p ≤ 9223372036854775807) : F77 K g j p = some (bif ieq (jcheck g j) 0 then countS g j p else 0) := by
  rw [F77, F94_spec hK, Option.bind_some]
  cases hc : ieq (jcheck g j) 0
  · rfl
  · obtain ⟨hg, p1, p2, p3, p4, p5, p6, p7, p8⟩ := jcheck_ok hc
    obtain ⟨g1, g2, _, _⟩ := gcheck_ok hg
    rw [cond_true, cond_true, F138]
    cases h0 : ilt p 0
    · cases h1 : ile j.Parts p
      · have q0 := ilt_f.1 h0
        have q1 := ile_f.1 h1
        obtain ⟨q, rfl⟩ := Int.eq_ofNat_of_zero_le q0
        have hz : izero j.Parts = false := decide_eq_false (by omega)
        have e1 : wsub .i64 g.N (q : Int) = g.N - q := by show IntKind.i64.wrap _ = _; rw [IntKind.wrap_i64]; omega
        have e2 : wadd .i64 (g.N - q) j.Parts = g.N - q + j.Parts := by show IntKind.i64.wrap _ = _; rw [IntKind.wrap_i64]; omega
        have e3 : wsub .i64 (g.N - q + j.Parts) 1 = g.N - q + j.Parts - 1 := by show IntKind.i64.wrap _ = _; rw [IntKind.wrap_i64]; omega
        obtain ⟨n, hn⟩ := Int.eq_ofNat_of_zero_le (show 0 ≤ g.N by omega)
        obtain ⟨m, hm⟩ := Int.eq_ofNat_of_zero_le (show 0 ≤ j.Parts by omega)
        have hnum : g.N - (q : Int) + j.Parts - 1 = ((n + m - 1 - q : Nat) : Int) := by omega
        obtain ⟨d, hd⟩ : ∃ d, (n + m - 1 - q) / m = d := ⟨_, rfl⟩
        have e4 : wquo .i64 (g.N - q + j.Parts - 1) j.Parts = (d : Int) := by
          show IntKind.i64.wrap ((g.N - q + j.Parts - 1).tdiv j.Parts) = _
          rw [hnum, hm, Int.tdiv_eq_ediv_of_nonneg (by omega)]
          have hle : d ≤ n + m - 1 - q := hd ▸ Nat.div_le_self _ _
          have : (((n + m - 1 - q : Nat) : Int) / ((m : Nat) : Int)) = (d : Int) := by rw [← hd]; rfl
          rw [this, IntKind.wrap_i64]; omega
        have ecs : countS g j (q : Int) = (d : Int) := by
          unfold countS vertsS
          have a1 : g.N.toNat = n := by omega
          have a2 : j.Parts.toNat = m := by omega
          rw [a1, a2, vertsN_len (by omega) (by omega) (by omega) (by omega), hd]
        rw [cond_false, cond_false, hz, cond_false, e1, e2, e3, e4, Option.bind_some, ecs]
        cases hpos : ilt 0 (d : Int)
        · have := ilt_f.1 hpos
          have : d = 0 := by omega
          rw [this]; rfl
        · rfl
      · have q1 := ile_iff.1 h1
        have : countS g j p = 0 := by
          unfold countS vertsS
          rw [vertsN_none (by omega) (.inr (by omega))]; rfl
        rw [this]; rfl
    · have q0 := ilt_iff.1 h0
      have : countS g j p = 0 := by
        unfold countS vertsS
        rw [vertsN_none (by omega) (.inl q0)]; rfl
      rw [this]; rfl

theorem F78_spec {K : Nat} (hK : 100 ≤ K) (g : GGraph) (j : GJob) (p : Int) : F78 K g j p = some (bif ieq (jcheck g j) 0 then countS g j p else 0) := by
  rw [F78, F59_spec hK, Option.bind_some]
  cases hc : ieq (jcheck g j) 0
  · rfl
  · obtain ⟨hg, p1, p2, p3, p4, p5, p6, p7, p8⟩ := jcheck_ok hc
    obtain ⟨g1, g2, _, _⟩ := gcheck_ok hg
    rw [cond_true, cond_true, F139_spec hK p7 p8 g2, Option.bind_some]
    simp [nlen, len, countS]

theorem mem_verts {g : GGraph} {j : GJob} (h1 : 1 ≤ j.Parts) {p : Int} {v : Nat} : v ∈ vertsS g j p ↔ (v : Int) < g.N ∧ (v : Int) % j.Parts = p := by
  obtain ⟨m, hm⟩ := Int.eq_ofNat_of_zero_le (show 0 ≤ j.Parts by omega)
  simp only [vertsS, vertsN, List.mem_filter, List.mem_range, ieq_iff]
  have : j.Parts.toNat = m := by omega
  rw [this, hm]
  constructor
  · rintro ⟨a, b⟩; exact ⟨by omega, by rw [← b]; simp⟩
  · rintro ⟨a, b⟩; exact ⟨by omega, by rw [← b]; simp⟩

end Go.Proofs.Ytnjanliihnadjaa.Tm

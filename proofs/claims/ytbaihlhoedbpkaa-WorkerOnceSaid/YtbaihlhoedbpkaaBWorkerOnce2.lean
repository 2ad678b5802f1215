/- What the row of WorkerOnce leans on: printed functions and plain laws. Conditions: none. -/
import Derived.Test.YtbaihlhoedbpkaaTy
import Derived.Test.YtbaihlhoedbpkaaTab
import Derived.Test.YtbaihlhoedbpkaaKn
import Derived.Test.YtbaihlhoedbpkaaWf
import Derived.IntWalk
import Derived.KernelRfl
import Derived.OpenShut
import Derived.Test.YtbaihlhoedbpkaaBWorkerOnce1
set_option linter.unusedVariables false
set_option linter.unusedSimpArgs false
namespace Go.Proofs.Ytbaihlhoedbpkaa.Tm
open Go
noncomputable section
theorem OA (K : Nat) {n : Int} {d e : GEdge} (hn : n ≤ 24) (hd : ieq (B0 n d) 0 = true) (he : ieq (B0 n e) 0 = true) :
 F80 K d e = some (bif ieq d.From e.From then d.To - e.To else d.From - e.From) := by
 have h1 := D6 hd
 have h2 := D6 he
 rw [F80]
 have e1 : wsub .i64 d.To e.To = d.To - e.To := by show IntKind.i64.wrap _ = _; rw [IntKind.wrap_i64]; omega
 have e2 : wsub .i64 d.From e.From = d.From - e.From := by show IntKind.i64.wrap _ = _; rw [IntKind.wrap_i64]; omega
 rw [e1, e2]
 cases ieq d.From e.From <;> rfl
theorem Lo {K : Nat} (hK : 100 ≤ K) (g : GGraph) (hl : g.Edges.length ≤ 80) (hn : g.N ≤ 24) : DK K g K 0 = some (D1 (BU g.N none g.Edges)) := by
 let step : Nat → GEdge → Unit → (Unit → Option (Int ⊕ Unit)) → Option (Int ⊕ Unit) := fun i x _ c =>
  (F79 K x g.N).bind fun r => bif (ieq r 0) then (bif (ieq (i : Int) 0) then c () else bif (inr (wsub .i64 (i : Int) 1) (len g.Edges)) then
   (elAt g.Edges (wsub .i64 (i : Int) 1)).bind fun d => (F80 K d x).bind fun r => bif (ieq r 0) then (some (.inl 5)) else bif (ilt 0 r) then (some (.inl 6)) else c ()
   else none) else some (.inl r)
 let fin : Unit → Option (Int ⊕ Unit) := fun _ => some (.inr ())
 have h := CL (l := g.Edges) (L := fun k (_ : Unit) i => DK K g k i) step fin (fun k st i hi => rfl) om K () 0 om om
 have hw : ∀ (r : List GEdge) (i : Nat), g.Edges.drop i = r → (∀ d, D0 g.Edges i = some d → ieq (B0 g.N d) 0 = true) → (i = 0 ∨ i ≤ g.Edges.length) → goI step fin i r () = some (D1 (BU g.N (D0 g.Edges i) r)) := by
  intro r
  induction r with
  | nil => intro i _ _ _; rfl
  | cons x r ih =>
   intro i hr hp _
   obtain ⟨n1, n2, hi⟩ := MD hr
   rw [goI]
   show ((F79 K x g.N).bind fun r' => bif (ieq r' 0) then (bif (ieq (i : Int) 0) then goI step fin (i + 1) r () else bif (inr (wsub .i64 (i : Int) 1) (len g.Edges)) then
    (elAt g.Edges (wsub .i64 (i : Int) 1)).bind fun d => (F80 K d x).bind fun r' => bif (ieq r' 0) then (some (.inl 5)) else bif (ilt 0 r') then (some (.inl 6)) else goI step fin (i + 1) r ()
    else none) else some (.inl r')) = _
   rw [MX, bS]
   cases hb : ieq (B0 g.N x) 0
   · have hne : B0 g.N x ≠ 0 := Ao.1 hb
     cases D0 g.Edges i <;> simp only [BU, hb, cF, D1]
   · have nx : goI step fin (i + 1) r () = some (D1 (BU g.N (some x) r)) := by
      have := ih (i + 1) n2 (fun d hd => by rw [n1] at hd; cases hd; exact hb) (.inr om)
      rw [n1] at this; exact this
     rw [cT, nx]
     cases i with
     | zero =>
      have : ieq ((0 : Nat) : Int) 0 = true := rfl
      rw [this, cT]
      show _ = some (D1 (BU g.N none (x :: r)))
      rw [BU, hb]; rfl
     | succ j =>
      obtain ⟨d, p1, p2, p3, p4⟩ := LK (l := g.Edges) (i := j + 1) om hi om
      have hd := hp d p1
      have : ieq ((j + 1 : Nat) : Int) 0 = false := Ao.2 om
      rw [this, cF, p2, p3, cT, p4, bS, OA K hn hd hb, bS, p1, BU, hb, cT]
      have b1 := D6 hd
      have b2 := D6 hb
      by_cases q1 : d.From = x.From
      · have i1 : ieq d.From x.From = true := Al.2 q1
        rw [i1, cT]
        by_cases q2 : d.To = x.To
        · have o5 : BZ d x = 5 := by simp [BZ, Al.2 q1, Al.2 q2]
          have : ieq (d.To - x.To) 0 = true := Al.2 om
          rw [this, cT, o5]; rfl
        · have : ieq (d.To - x.To) 0 = false := Ao.2 om
          rw [this, cF]
          have j2 : ieq d.To x.To = false := Ao.2 q2
          by_cases q3 : x.To < d.To
          · have o6 : BZ d x = 6 := by simp [BZ, i1, j2, Ae.2 q3]
            have : ilt 0 (d.To - x.To) = true := Ae.2 om
            rw [this, cT, o6]; rfl
          · have o0 : BZ d x = 0 := by simp [BZ, i1, j2, Ad.2 (show d.To ≤ x.To by omega), Ad.2 (show d.From ≤ x.From by omega)]
            have : ilt 0 (d.To - x.To) = false := Ad.2 om
            rw [this, cF, o0]; rfl
      · have i1 : ieq d.From x.From = false := Ao.2 q1
        rw [i1, cF]
        have : ieq (d.From - x.From) 0 = false := Ao.2 om
        rw [this, cF]
        by_cases q3 : x.From < d.From
        · have o6 : BZ d x = 6 := by simp [BZ, i1, Ae.2 q3]
          have : ilt 0 (d.From - x.From) = true := Ae.2 om
          rw [this, cT, o6]; rfl
        · have o0 : BZ d x = 0 := by simp [BZ, i1, Ad.2 (show d.From ≤ x.From by omega)]
          have : ilt 0 (d.From - x.From) = false := Ad.2 om
          rw [this, cF, o0]; rfl
 have := hw g.Edges 0 rfl (fun d hd => by cases hd) (.inl rfl)
 rw [List.drop_zero, this] at h
 exact h
theorem Kj (v : Int) : (some (D1 v)).bind (fun y => Sum.elim (fun w => some w) (fun w => some 0) y) = some v := by
 unfold D1
 cases h : ieq v 0
 · rfl
 · have : v = 0 := Al.1 h
   subst this; rfl
theorem Ib {K : Nat} (hK : 100 ≤ K) (g : GGraph) : F56 K g = some (BN g) := by
 rw [F56, BN]
 cases ilt g.N 1
 · cases h2 : ilt 24 g.N
   · cases h3 : ilt 80 (nlen (len g.Edges))
     · have hl : g.Edges.length ≤ 80 := by have := Ad.1 h3; simp only [nlen, len] at this; omega
       have hn := Ad.1 h2
       rw [Lo hK g hl hn]
       exact Kj _
     · rfl
   · rfl
 · rfl
theorem B3 {g : GGraph} (h : ieq (BN g) 0 = true) : 1 ≤ g.N ∧ g.N ≤ 24 ∧ g.Edges.length ≤ 80 ∧ BU g.N none g.Edges = 0 := by
 rw [BN] at h
 cases h1 : ilt g.N 1 || ilt 24 g.N
 · rw [h1, cF] at h
   cases h2 : ilt 80 (nlen (len g.Edges))
   · rw [h2, cF] at h
     simp only [Bool.or_eq_false_iff, Ad] at h1
     have := Ad.1 h2
     simp only [nlen, len] at this
     exact ⟨by omega, by omega, by omega, Al.1 h⟩
   · rw [h2] at h; cases h
 · rw [h1] at h; cases h
theorem Fw {n : Int} : ∀ {l : List GEdge} {p : Option GEdge}, BU n p l = 0 → ∀ e ∈ l, ieq (B0 n e) 0 = true
 | [], _, _, e, h => by cases h
 | x :: l, p, h, e, he => by
  unfold BU at h
  cases hb : ieq (B0 n x) 0
  · rw [hb, cF] at h; rw [h] at hb; cases hb
  · rw [hb, cT] at h
    rcases List.mem_cons.1 he with q | q
    · subst q; exact hb
    · cases p with
      | none => exact Fw h e q
      | some d =>
       dsimp only at h
       cases ho : ieq (BZ d x) 0
       · rw [ho, cF] at h; rw [h] at ho; cases ho
       · rw [ho, cT] at h; exact Fw h e q
theorem Bn : areFns [(fnV 81), (fnV 82), (fnV 83)] [81, 82, 83] = true := rfl
theorem AY : areFns [(fnV 81), (fnV 82), (fnV 83)] [81, 82, 85] = false := rfl
theorem A7 : areFns [(fnV 81), (fnV 82), (fnV 83)] [86, 82, 87] = false := rfl
theorem Bb : areFns [(fnV 81), (fnV 82), (fnV 83)] [88, 89, 87] = false := rfl
theorem Bv : areFns [(fnV 81), (fnV 82), (fnV 83)] [90, 0, 87] = false := rfl
theorem Bd : areFns [(fnV 81), (fnV 82), (fnV 83)] [0, 0, 0] = false := rfl
theorem Bj : areFns [(fnV 81), (fnV 82), (fnV 85)] [81, 82, 83] = false := rfl
theorem A9 : areFns [(fnV 81), (fnV 82), (fnV 85)] [81, 82, 85] = true := rfl
theorem Bh : areFns [(fnV 81), (fnV 82), (fnV 85)] [86, 82, 87] = false := rfl
theorem Bt : areFns [(fnV 81), (fnV 82), (fnV 85)] [88, 89, 87] = false := rfl
theorem A3 : areFns [(fnV 81), (fnV 82), (fnV 85)] [90, 0, 87] = false := rfl
theorem Bf : areFns [(fnV 81), (fnV 82), (fnV 85)] [0, 0, 0] = false := rfl
theorem A1 : areFns [(fnV 86), (fnV 82), (fnV 87)] [81, 82, 83] = false := rfl
theorem A0 : areFns [(fnV 86), (fnV 82), (fnV 87)] [81, 82, 85] = false := rfl
theorem AX : areFns [(fnV 86), (fnV 82), (fnV 87)] [86, 82, 87] = true := rfl
theorem Bs : areFns [(fnV 86), (fnV 82), (fnV 87)] [88, 89, 87] = false := rfl
theorem AQ : areFns [(fnV 86), (fnV 82), (fnV 87)] [90, 0, 87] = false := rfl
theorem AZ : areFns [(fnV 86), (fnV 82), (fnV 87)] [0, 0, 0] = false := rfl
theorem Ba : areFns [(fnV 88), (fnV 89), (fnV 87)] [81, 82, 83] = false := rfl
theorem AS : areFns [(fnV 88), (fnV 89), (fnV 87)] [81, 82, 85] = false := rfl
theorem Bm : areFns [(fnV 88), (fnV 89), (fnV 87)] [86, 82, 87] = false := rfl
theorem Bp : areFns [(fnV 88), (fnV 89), (fnV 87)] [88, 89, 87] = true := rfl
theorem AU : areFns [(fnV 88), (fnV 89), (fnV 87)] [90, 0, 87] = false := rfl
theorem A4 : areFns [(fnV 88), (fnV 89), (fnV 87)] [0, 0, 0] = false := rfl
theorem Bo : areFns [(fnV 90), .nilFunc, (fnV 87)] [81, 82, 83] = false := rfl
theorem A8 : areFns [(fnV 90), .nilFunc, (fnV 87)] [81, 82, 85] = false := rfl
theorem Bc : areFns [(fnV 90), .nilFunc, (fnV 87)] [86, 82, 87] = false := rfl
theorem A6 : areFns [(fnV 90), .nilFunc, (fnV 87)] [88, 89, 87] = false := rfl
theorem AW : areFns [(fnV 90), .nilFunc, (fnV 87)] [90, 0, 87] = true := rfl
theorem Bu : areFns [(fnV 90), .nilFunc, (fnV 87)] [0, 0, 0] = false := rfl
theorem A5 : areFns [.nilFunc, .nilFunc, .nilFunc] [81, 82, 83] = false := rfl
theorem Bi : areFns [.nilFunc, .nilFunc, .nilFunc] [81, 82, 85] = false := rfl
theorem Be : areFns [.nilFunc, .nilFunc, .nilFunc] [86, 82, 87] = false := rfl
theorem Bq : areFns [.nilFunc, .nilFunc, .nilFunc] [88, 89, 87] = false := rfl
theorem Bk : areFns [.nilFunc, .nilFunc, .nilFunc] [90, 0, 87] = false := rfl
theorem Br : areFns [.nilFunc, .nilFunc, .nilFunc] [0, 0, 0] = true := rfl
theorem GT (K : Nat) : F57 K 1 = some (Grule.mk (fnV 81) (fnV 82) true (fnV 83), true) := rfl
theorem GF (K : Nat) : F57 K 2 = some (Grule.mk (fnV 86) (fnV 82) false (fnV 87), true) := rfl
theorem Gc (K : Nat) : F57 K 3 = some (Grule.mk (fnV 81) (fnV 82) true (fnV 85), true) := rfl
theorem GB (K : Nat) : F57 K 4 = some (Grule.mk (fnV 88) (fnV 89) false (fnV 87), true) := rfl
theorem Gy (K : Nat) : F57 K 5 = some (Grule.mk (fnV 90) .nilFunc false (fnV 87), true) := rfl
theorem GX (K : Nat) {p : Int} (h : p < 1 ∨ 5 < p) : F57 K p = some (Grule.mk .nilFunc .nilFunc false .nilFunc, false) := by
 rw [F57, Ao.2 (by omega : p ≠ 1), Ao.2 (by omega : p ≠ 3), Ao.2 (by omega : p ≠ 2), Ao.2 (by omega : p ≠ 4), Ao.2 (by omega : p ≠ 5)]; rfl
theorem GG (p : Int) : p = 1 ∨ p = 2 ∨ p = 3 ∨ p = 4 ∨ p = 5 ∨ (p < 1 ∨ 5 < p) := by omega
def E2 (n : Int) (j : GJob) : Bool := ilt j.Source 0 || (ile n j.Source || (ilt j.Limit 0 || (ilt 40 j.Limit || (ilt j.Parts 1 || ilt 6 j.Parts))))
def An (p : Int) : Bool := ilt p 1 || ilt 5 p
def Ah (g : GGraph) (j : GJob) : Int := bif ieq (BN g) 0 then (bif An j.Prog || E2 g.N j then 1 else 0) else BN g
theorem Fh (n : Int) (j : GJob) : (bif (ilt j.Source 0) then (some 1) else bif (ile n j.Source) then (some 1) else bif (ilt j.Limit 0) then (some 1) else bif (ilt 40 j.Limit) then (some 1) else bif (ilt j.Parts 1) then (some 1) else bif (ilt 6 j.Parts) then (some 1) else some 0) = some (bif E2 n j then 1 else 0 : Int) := by
 unfold E2
 cases ilt j.Source 0 <;> cases ile n j.Source <;> cases ilt j.Limit 0 <;> cases ilt 40 j.Limit <;> cases ilt j.Parts 1 <;> cases ilt 6 j.Parts <;> rfl
theorem DG {K : Nat} (hK : 100 ≤ K) (g : GGraph) (j : GJob) : F31 K g j = some (Ah g j) := by
 rw [F31, Ib hK, bS, Ah]
 cases ieq (BN g) 0
 · rfl
 · rw [cT, cT]
   rcases GG j.Prog with h | h | h | h | h | h
   · have hb : An j.Prog = false := by rw [h]; rfl
     rw [hb, Bool.false_or, h, GT]
     simp only [bS, cT, cF, Bn, AY, A7, Bb, Bv, Bd, Bj, A9, Bh, Bt, A3, Bf, A1, A0, AX, Bs, AQ, AZ, Ba, AS, Bm, Bp, AU, A4, Bo, A8, Bc, A6, AW, Bu, A5, Bi, Be, Bq, Bk, Br, Fh]
   · have hb : An j.Prog = false := by rw [h]; rfl
     rw [hb, Bool.false_or, h, GF]
     simp only [bS, cT, cF, Bn, AY, A7, Bb, Bv, Bd, Bj, A9, Bh, Bt, A3, Bf, A1, A0, AX, Bs, AQ, AZ, Ba, AS, Bm, Bp, AU, A4, Bo, A8, Bc, A6, AW, Bu, A5, Bi, Be, Bq, Bk, Br, Fh]
   · have hb : An j.Prog = false := by rw [h]; rfl
     rw [hb, Bool.false_or, h, Gc]
     simp only [bS, cT, cF, Bn, AY, A7, Bb, Bv, Bd, Bj, A9, Bh, Bt, A3, Bf, A1, A0, AX, Bs, AQ, AZ, Ba, AS, Bm, Bp, AU, A4, Bo, A8, Bc, A6, AW, Bu, A5, Bi, Be, Bq, Bk, Br, Fh]
   · have hb : An j.Prog = false := by rw [h]; rfl
     rw [hb, Bool.false_or, h, GB]
     simp only [bS, cT, cF, Bn, AY, A7, Bb, Bv, Bd, Bj, A9, Bh, Bt, A3, Bf, A1, A0, AX, Bs, AQ, AZ, Ba, AS, Bm, Bp, AU, A4, Bo, A8, Bc, A6, AW, Bu, A5, Bi, Be, Bq, Bk, Br, Fh]
   · have hb : An j.Prog = false := by rw [h]; rfl
     rw [hb, Bool.false_or, h, Gy]
     simp only [bS, cT, cF, Bn, AY, A7, Bb, Bv, Bd, Bj, A9, Bh, Bt, A3, Bf, A1, A0, AX, Bs, AQ, AZ, Ba, AS, Bm, Bp, AU, A4, Bo, A8, Bc, A6, AW, Bu, A5, Bi, Be, Bq, Bk, Br, Fh]
   · have hb : An j.Prog = true := by
      unfold An
      rcases h with h | h
      · rw [Ae.2 h]; rfl
      · rw [Ae.2 h, Bool.or_true]
     rw [hb, Bool.true_or, GX K h]
     simp only [bS, cT, cF, Bn, AY, A7, Bb, Bv, Bd, Bj, A9, Bh, Bt, A3, Bf, A1, A0, AX, Bs, AQ, AZ, Ba, AS, Bm, Bp, AU, A4, Bo, A8, Bc, A6, AW, Bu, A5, Bi, Be, Bq, Bk, Br]
theorem Cp {g : GGraph} {j : GJob} (h : ieq (Ah g j) 0 = true) : ieq (BN g) 0 = true ∧ 1 ≤ j.Prog ∧ j.Prog ≤ 5 ∧ 0 ≤ j.Source ∧ j.Source < g.N ∧ 0 ≤ j.Limit ∧ j.Limit ≤ 40 ∧ 1 ≤ j.Parts ∧ j.Parts ≤ 6 := by
 rw [Ah] at h
 cases hg : ieq (BN g) 0
 · rw [hg, cF] at h; rw [h] at hg; cases hg
 · rw [hg, cT] at h
   cases hb : An j.Prog || E2 g.N j
   · simp only [An, E2, Bool.or_eq_false_iff, Ad, DA] at hb
     obtain ⟨⟨h1, h2⟩, h3, h4, h5, h6, h7, h8⟩ := hb
     exact ⟨rfl, h1, h2, h3, h4, h5, h6, h7, h8⟩
   · rw [hb] at h; cases h
theorem FJ {σ β : Type} {N : Int} {L : Nat → σ → Int → Option β} (step : Nat → σ → (σ → Option β) → Option β) (fin : σ → Option β)
 (h : ∀ k s (i : Nat), i ≤ N.toNat → L (k + 1) s i = bif ilt i N then step i s (fun s' => L k s' (wadd .i64 i 1)) else fin s) (hN : N ≤ 1000000) {K : Nat} (hK : N.toNat < K) (s : σ) :
 L K s 0 = goL step fin (List.range N.toNat) s := by
 have hw : ∀ (k : Nat) (s : σ) (i : Nat), N.toNat - i < k → i ≤ N.toNat → L k s i = goL step fin ((List.range N.toNat).drop i) s := by
  intro k
  induction k with
  | zero => intro s i h; omega
  | succ k ih =>
   intro s i hk hi
   rw [h k s i hi]
   by_cases hlt : i < N.toNat
   · have e : (List.range N.toNat).drop i = i :: (List.range N.toNat).drop (i + 1) := by
      rw [List.drop_eq_getElem_cons (by simpa using hlt)]; simp
     rw [Ae.2 (by omega : (i : Int) < N), cT, e, goL]
     congr 1
     funext s'
     rw [FS om]
     exact ih s' (i + 1) om om
   · have e : (List.range N.toNat).drop i = [] := List.drop_eq_nil_of_le (by simp; omega)
     rw [Ad.2 (by omega : N ≤ (i : Int)), cF, e]; rfl
 have := hw K s 0 om om
 rw [List.drop_zero] at this
 exact this
def AM (j : GJob) (v : Int) : Int := bif ilt v 0 || (ilt j.Parts 1 || ilt 6 j.Parts) then -1 else v % j.Parts
theorem II {a b : Int} (h : 0 ≤ a) : wrem a b = a % b := by
 show Int.tmod _ _ = _
 exact Int.tmod_eq_emod_of_nonneg h
theorem HW (K : Nat) (j : GJob) (v : Int) : F94 K j v = some (AM j v) := by
 rw [F94, AM]
 cases h0 : ilt v 0
 · cases h1 : ilt j.Parts 1
   · cases h2 : ilt 6 j.Parts
     · have v0 := Ad.1 h0
       have p1 := Ad.1 h1
       have hz : izero j.Parts = false := decide_eq_false om
       rw [hz, II v0]; rfl
     · rfl
   · rfl
 · rfl
def C7 (n parts : Nat) (p : Int) : List Nat := (List.range n).filter fun v => ieq ((v % parts : Nat) : Int) p
def Ar (g : GGraph) (j : GJob) (p : Int) : List Nat := C7 g.N.toNat j.Parts.toNat p
theorem Pb : ∀ parts < 7, 0 < parts → ∀ n < 25, ∀ p < parts, ((List.range n).filter fun v => v % parts == p).length = (n + parts - 1 - p) / parts := by decide +kernel
def Bg (g : GGraph) (j : GJob) (p : Int) : Int := ((Ar g j p).length : Int)
theorem Na {n parts : Nat} (h1 : 0 < parts) (h2 : parts < 7) (hn : n < 25) {p : Nat} (hp : p < parts) : (C7 n parts (p : Int)).length = (n + parts - 1 - p) / parts := by
 rw [← Pb parts h2 h1 n hn p hp, C7]
 congr 1
 refine List.filter_congr fun v _ => ?_
 rw [Bool.eq_iff_iff, Al, beq_iff_eq]; omega
theorem Hy {n parts : Nat} (h1 : 0 < parts) {p : Int} (hp : p < 0 ∨ (parts : Int) ≤ p) : C7 n parts p = [] := by
 rw [C7, List.filter_eq_nil_iff]
 intro v _ hc
 have := Al.1 hc
 have := Nat.mod_lt v h1
 omega
theorem Mi {K : Nat} (hK : 100 ≤ K) (g : GGraph) (j : GJob) (p : Int) (hp : -9223372036854775808 ≤ p ∧ p ≤ 9223372036854775807) : EV K g j p = some (bif ieq (Ah g j) 0 then Bg g j p else 0) := by
 rw [EV, DG hK, bS]
 cases hc : ieq (Ah g j) 0
 · rfl
 · obtain ⟨hg, p1, p2, p3, p4, p5, p6, p7, p8⟩ := Cp hc
   obtain ⟨g1, g2, _, _⟩ := B3 hg
   rw [cT, cT, FO]
   cases h0 : ilt p 0
   · cases h1 : ile j.Parts p
     · have q0 := Ad.1 h0
       have q1 := DA.1 h1
       obtain ⟨q, rfl⟩ := Int.eq_ofNat_of_zero_le q0
       have hz : izero j.Parts = false := decide_eq_false om
       have e1 : wsub .i64 g.N (q : Int) = g.N - q := by show IntKind.i64.wrap _ = _; rw [IntKind.wrap_i64]; omega
       have e2 : wadd .i64 (g.N - q) j.Parts = g.N - q + j.Parts := by show IntKind.i64.wrap _ = _; rw [IntKind.wrap_i64]; omega
       have e3 : wsub .i64 (g.N - q + j.Parts) 1 = g.N - q + j.Parts - 1 := by show IntKind.i64.wrap _ = _; rw [IntKind.wrap_i64]; omega
       obtain ⟨n, hn⟩ := Int.eq_ofNat_of_zero_le (show 0 ≤ g.N by omega)
       obtain ⟨m, hm⟩ := Int.eq_ofNat_of_zero_le (show 0 ≤ j.Parts by omega)
       have hnum : g.N - (q : Int) + j.Parts - 1 = ((n + m - 1 - q : Nat) : Int) := by omega
       obtain ⟨d, hd⟩ : ∃ d, (n + m - 1 - q) / m = d := ⟨_, rfl⟩
       have e4 : wquo .i64 (g.N - q + j.Parts - 1) j.Parts = (d : Int) := by
        show IntKind.i64.wrap ((g.N - q + j.Parts - 1).tdiv j.Parts) = _
        rw [hnum, hm, Int.tdiv_eq_ediv_of_nonneg om]
        have hle : d ≤ n + m - 1 - q := hd ▸ Nat.div_le_self _ _
        have : (((n + m - 1 - q : Nat) : Int) / ((m : Nat) : Int)) = (d : Int) := by rw [← hd]; rfl
        rw [this, IntKind.wrap_i64]; omega
       have ecs : Bg g j (q : Int) = (d : Int) := by
        unfold Bg Ar
        have a1 : g.N.toNat = n := by omega
        have a2 : j.Parts.toNat = m := by omega
        rw [a1, a2, Na om om om om, hd]
       rw [cF, cF, hz, cF, e1, e2, e3, e4, bS, ecs]
       cases hpos : ilt 0 (d : Int)
       · have := Ad.1 hpos
         have : d = 0 := by omega
         rw [this]; rfl
       · rfl
     · have q1 := C1.1 h1
       have : Bg g j p = 0 := by
        unfold Bg Ar
        rw [Hy om (.inr om)]; rfl
       rw [this]; rfl
   · have q0 := Ae.1 h0
     have : Bg g j p = 0 := by
      unfold Bg Ar
      rw [Hy om (.inl q0)]; rfl
     rw [this]; rfl
theorem Nt {g : GGraph} {j : GJob} (h1 : 1 ≤ j.Parts) {p : Int} {v : Nat} : v ∈ Ar g j p ↔ (v : Int) < g.N ∧ (v : Int) % j.Parts = p := by
 obtain ⟨m, hm⟩ := Int.eq_ofNat_of_zero_le (show 0 ≤ j.Parts by omega)
 simp only [Ar, C7, List.mem_filter, List.mem_range, Al]
 have : j.Parts.toNat = m := by omega
 rw [this, hm]
 constructor
 · rintro ⟨a, b⟩; exact ⟨by omega, by rw [← b]; simp⟩
 · rintro ⟨a, b⟩; exact ⟨by omega, by rw [← b]; simp⟩
def CF (n parts p : Int) : Int → List GMsg → Bool
 | _, [] => true
 | prev, m :: r => ilt prev m.To && (ilt m.To n && (ieq (m.To % parts) p && CF n parts p m.To r))
def CG (b : Bool) : Unit ⊕ Unit := bif b then .inr () else .inl ()
theorem KR (b : Bool) : (some (CG b)).bind (fun y => Sum.elim (fun w => some false) (fun w => some true) y) = some b := by cases b <;> rfl
theorem Fy {a b : Int} : ile a b = !(ilt b a) := by
 unfold ile ilt; by_cases h : b < a <;> simp [h] <;> omega
def As (g : GGraph) (j : GJob) (x : GPart) : Bool :=
 ieq (Ah g j) 0 && (ile 0 x.P && (ilt x.P j.Parts && (ile 0 x.Step && (ile x.Step 40 && (ieq (x.Vals.length : Int) (Bg g j x.P) && (ieq (x.Rest.length : Int) (Bg g j x.P) && CF g.N j.Parts x.P (-1) x.In))))))
theorem Ox {K : Nat} (g : GGraph) (j : GJob) (x : GPart) (hp : 1 ≤ j.Parts) (hl : x.In.length < 1000000) (hK : x.In.length < K) : D5 K g j x K (-1) 0 = some (CG (CF g.N j.Parts x.P (-1) x.In)) := by
 let step : GMsg → Int → (Int → Option (Unit ⊕ Unit)) → Option (Unit ⊕ Unit) := fun m s c =>
  bif (ile m.To s) then (some (.inl ())) else bif (ile g.N m.To) then (some (.inl ())) else bif (izero j.Parts) then none else bif (ieq (wrem m.To j.Parts) x.P) then c m.To else some (.inl ())
 have h := Aq (l := x.In) (L := fun k s i => D5 K g j x k s i) step (fun _ => some (.inr ())) (fun k s i _ => rfl) om (K := K) hK (-1)
 have hz : izero j.Parts = false := decide_eq_false om
 have hw : ∀ (l : List GMsg) (s : Int), -1 ≤ s → goL step (fun _ => some (.inr ())) l s = some (CG (CF g.N j.Parts x.P s l)) := by
  intro l
  induction l with
  | nil => intro s _; rfl
  | cons m l ih =>
   intro s hs
   rw [goL]
   show (bif (ile m.To s) then (some (.inl ())) else bif (ile g.N m.To) then (some (.inl ())) else bif (izero j.Parts) then none else bif (ieq (wrem m.To j.Parts) x.P) then goL step (fun _ => some (.inr ())) l m.To else some (.inl ())) = _
   rw [CF, hz, Fy, Fy]
   cases h1 : ilt s m.To
   · rfl
   · have h1' := Ae.1 h1
     rw [II om, ih m.To om]
     cases ilt m.To g.N <;> cases ieq (m.To % j.Parts) x.P <;> rfl
 rw [hw _ _ om] at h
 exact h
theorem Gt {K : Nat} (hK : 1000 ≤ K) (g : GGraph) (j : GJob) (x : GPart) (hl : x.In.length < 1000000) (hk : x.In.length < K) (hp : -9223372036854775808 ≤ x.P ∧ x.P ≤ 9223372036854775807) : F91 K g j x = some (As g j x) := by
 rw [F91, DG om, bS, As]
 cases hc : ieq (Ah g j) 0
 · rfl
 · obtain ⟨hg, p1, p2, p3, p4, p5, p6, p7, p8⟩ := Cp hc
   rw [cT, Mi om g j x.P hp, hc, Ox g j x p7 hl hk]
   have n1 : nlen (len x.Vals) = (x.Vals.length : Int) := rfl
   have n2 : nlen (len x.Rest) = (x.Rest.length : Int) := rfl
   rw [FV x.P 0, Fy (a := j.Parts), FV x.Step 0, FV 40 x.Step, n1, n2, cT, bS, KR]
   cases ile 0 x.P <;> cases ilt x.P j.Parts <;> cases ile 0 x.Step <;> cases ile x.Step 40 <;> cases ieq (x.Vals.length : Int) (Bg g j x.P) <;> cases ieq (x.Rest.length : Int) (Bg g j x.P) <;> rfl
theorem FT (g : GGraph) (j : GJob) (hn : g.N ≤ 24) (p : Int) : (Ar g j p).length ≤ 24 := by
 unfold Ar C7
 refine Nat.le_trans (List.length_filter_le _ _) ?_
 simp; omega
def Jk (K : Nat) (x : GPart) : Prop := (x.Vals.length < 1000000 ∧ x.Vals.length < K) ∧ (x.Rest.length < 1000000 ∧ x.Rest.length < K) ∧ x.In.length < 1000000 ∧ x.In.length < K
def leM (a b : GMsg) : Bool := ilt a.To b.To || (ieq a.To b.To && ile a.V b.V)
theorem E6 {a b : GMsg} : leM a b = true ↔ a.To < b.To ∨ a.To = b.To ∧ a.V ≤ b.V := by simp [leM, ilt, ieq, ile]
theorem Nx {a b : GMsg} : leM a b = false ↔ ¬ (a.To < b.To ∨ a.To = b.To ∧ a.V ≤ b.V) := by rw [← E6]; simp
theorem Gr {a b c : GMsg} (h : leM a b = true) (g : leM b c = true) : leM a c = true := by rw [E6] at *; omega
theorem Oo {a b : GMsg} (h : leM a b = true) (g : leM b a = true) : a = b := by
 rw [E6] at h g
 cases a; cases b
 simp only [GMsg.mk.injEq]
 dsimp only at h g
 omega
theorem Jl {a b : GMsg} (h : leM a b = false) : leM b a = true := by rw [Nx] at h; rw [E6]; omega
def Cr (l : List GMsg) : Prop := l.Pairwise fun a b => leM a b = true
theorem Pn {l l' : List GMsg} (h : Cr l) (h' : Cr l') (hp : l.Perm l') : l = l' :=
 List.Perm.eq_of_pairwise (fun a b _ _ h1 h2 => Oo h1 h2) h h' hp
def CM : List GMsg → GMsg → List GMsg → List GMsg
 | [], x, Q => x :: Q
 | y :: R, x, Q => bif leM y x then (y :: R).reverse ++ x :: Q else CM R x (y :: Q)
def Ap (l : List GMsg) : List GMsg := l.foldl (fun acc x => CM acc.reverse x []) []
theorem HO (x : GMsg) : ∀ (R Q : List GMsg), (CM R x Q).Perm (R.reverse ++ x :: Q)
 | [], Q => List.Perm.refl _
 | y :: R, Q => by
  rw [CM]
  cases leM y x
  · refine (HO x R (y :: Q)).trans ?_
    rw [List.reverse_cons, List.append_assoc]
    exact List.Perm.append_left _ (List.Perm.swap y x Q)
  · exact List.Perm.refl _
theorem I7 (x : GMsg) : ∀ (R Q : List GMsg), Cr (R.reverse ++ Q) → (∀ q ∈ Q, leM x q = true) → Cr (CM R x Q)
 | [], Q, h, hx => List.pairwise_cons.2 ⟨hx, h⟩
 | y :: R, Q, h, hx => by
  rw [CM]
  cases hy : leM y x
  · refine I7 x R (y :: Q) ?_ fun q hq => ?_
    · rw [List.reverse_cons, List.append_assoc] at h; exact h
    · rcases List.mem_cons.1 hq with e | e
      · subst e; exact Jl hy
      · exact hx q e
  · obtain ⟨h1, h2, h3⟩ := List.pairwise_append.1 h
    refine List.pairwise_append.2 ⟨h1, List.pairwise_cons.2 ⟨hx, h2⟩, fun a ha b hb => ?_⟩
    have hay : a = y ∨ leM a y = true := by
     rw [List.reverse_cons] at ha h1
     obtain ⟨_, _, h6⟩ := List.pairwise_append.1 h1
     rcases List.mem_append.1 ha with e | e
     · exact .inr (h6 a e y (by simp))
     · exact .inl (List.mem_singleton.1 e)
    rcases List.mem_cons.1 hb with e | e
    · subst e
      rcases hay with e | e
      · subst e; exact hy
      · exact Gr e hy
    · exact h3 a ha b e
theorem F8 : ∀ (l acc : List GMsg), Cr acc → Cr (l.foldl (fun acc x => CM acc.reverse x []) acc) ∧ (l.foldl (fun acc x => CM acc.reverse x []) acc).Perm (acc ++ l)
 | [], acc, h => ⟨h, by simp⟩
 | x :: l, acc, h => by
  have h1 : Cr (CM acc.reverse x []) := I7 x acc.reverse [] (by simpa using h) (fun q hq => (nomatch hq))
  have h2 : (CM acc.reverse x []).Perm (acc ++ [x]) := by simpa using HO x acc.reverse []
  obtain ⟨a, b⟩ := F8 l _ h1
  refine ⟨a, b.trans ?_⟩
  have := h2.append_right l
  simpa using this
theorem EU (l : List GMsg) : Cr (Ap l) := (F8 l [] List.Pairwise.nil).1
theorem CA (l : List GMsg) : (Ap l).Perm l := by
 have := (F8 l [] List.Pairwise.nil).2
 rwa [List.nil_append] at this
theorem Dy (l : List GMsg) : (Ap l).length = l.length := (CA l).length_eq
theorem GS {l r : List GMsg} (h : Cr r) (hp : r.Perm l) : Ap l = r := Pn (EU l) h ((CA l).trans hp.symm)
theorem Mg {l l' : List GMsg} (hp : l.Perm l') : Ap l = Ap l' := GS (EU l') ((CA l').trans hp.symm)
def i64 (n : Int) : Prop := -9223372036854775808 ≤ n ∧ n ≤ 9223372036854775807
theorem Fr {n : Int} (h : (Lit.int .i64 n).wf = true) : i64 n := bounds_i64 h
theorem Iz {a b : Int} (h : i64 (a * b)) : wmul .i64 a b = a * b := by
 show IntKind.i64.wrap (a * b) = _
 rw [IntKind.wrap_i64]; unfold i64 at h; omega
theorem Ej {a b : Int} (h : i64 (a + b)) : wadd .i64 a b = a + b := by
 show IntKind.i64.wrap (a + b) = _
 rw [IntKind.wrap_i64]; unfold i64 at h; omega
def AB (n : Int) : Bool := decide (-9223372036854775808 ≤ n) && decide (n ≤ 9223372036854775807)
theorem BG {n : Int} : AB n = true ↔ i64 n := by simp [AB, i64]
theorem CI {n : Int} : AB n = false ↔ n < -9223372036854775808 ∨ 9223372036854775807 < n := by
 cases h : AB n
 · have : ¬ i64 n := fun q => by rw [BG.2 q] at h; cases h
   unfold i64 at this
   simp only [true_iff]; omega
 · have := BG.1 h
   unfold i64 at this
   simp only [Bool.true_eq_false, false_iff]; omega
def BE (a b : Int) : Int × Bool := bif AB (a + b) then (a + b, true) else (0, false)
theorem IK (K : Nat) {a b : Int} (ha : i64 a) (hb : i64 b) : FR K a b = some (BE a b) := by
 unfold i64 at ha hb
 rw [FR, BE]
 cases h1 : ilt 0 b
 · have b1 := Ad.1 h1
   cases h2 : ilt b 0
   · have b2 := Ad.1 h2
     have : b = 0 := by omega
     rw [BG.2 (by unfold i64; omega), Ej (by unfold i64; omega)]; rfl
   · have b2 := Ae.1 h2
     have ew : wsub .i64 (-9223372036854775808) b = -9223372036854775808 - b := by
      show IntKind.i64.wrap _ = _
      rw [IntKind.wrap_i64]; omega
     rw [cF, cT, ew]
     cases h3 : ilt a (-9223372036854775808 - b)
     · have := Ad.1 h3
       rw [BG.2 (by unfold i64; omega), Ej (by unfold i64; omega)]; rfl
     · have := Ae.1 h3
       rw [CI.2 om]; rfl
 · have b1 := Ae.1 h1
   have ew : wsub .i64 9223372036854775807 b = 9223372036854775807 - b := by
    show IntKind.i64.wrap _ = _
    rw [IntKind.wrap_i64]; omega
   rw [cT, ew, Ad.2 (by omega : (0 : Int) ≤ b), cF]
   cases h3 : ilt (9223372036854775807 - b) a
   · have := Ad.1 h3
     rw [BG.2 (by unfold i64; omega), Ej (by unfold i64; omega)]; rfl
   · have := Ae.1 h3
     rw [CI.2 om]; rfl
theorem Fm (K : Nat) {a b : Int} (ha : i64 a) (hb : i64 b) : F84 K a b = some (BE a b) := by
 unfold i64 at ha hb
 have ew : wadd .i64 a b = bif AB (a + b) then a + b else bif ilt (a + b) 0 then a + b + 18446744073709551616 else a + b - 18446744073709551616 := by
  show IntKind.i64.wrap (a + b) = _
  rw [IntKind.wrap_i64]
  cases h : AB (a + b)
  · have := CI.1 h
    cases h2 : ilt (a + b) 0
    · have := Ad.1 h2; simp only [cF]; omega
    · have := Ae.1 h2; simp only [cF, cT]; omega
  · have := BG.1 h; unfold i64 at this; simp only [cT]; omega
 have eg : ∀ x : Int, ige x 0 = !(ilt x 0) := fun x => by
  unfold ige ilt
  by_cases h : x < 0 <;> simp [h] <;> omega
 rw [F84, BE, eg, eg, eg, ew]
 cases h : AB (a + b)
 · have h' := CI.1 h
   rcases h' with h' | h'
   · rw [Ae.2 (by omega : a < 0), Ae.2 (by omega : b < 0), Ae.2 (by omega : a + b < 0)]
     simp only [cF, cT]
     rw [Ad.2 (by omega : 0 ≤ a + b + 18446744073709551616)]; rfl
   · rw [Ad.2 (by omega : 0 ≤ a), Ad.2 (by omega : 0 ≤ b), Ad.2 (by omega : 0 ≤ a + b)]
     simp only [cF, cT]
     rw [Ae.2 (by omega : a + b - 18446744073709551616 < 0)]; rfl
 · simp only [cT]
   cases h1 : ilt a 0 <;> cases h2 : ilt b 0
   · rw [Ad.2 (by have := Ad.1 h1; have := Ad.1 h2; omega : 0 ≤ a + b)]; rfl
   · rfl
   · rfl
   · rw [Ae.2 (by have := Ae.1 h1; have := Ae.1 h2; omega : a + b < 0)]; rfl
def Aw (p a b : Int) : Int × Int := bif An p then (0, 1) else bif ieq p 5 then (bif (BE a b).2 then ((BE a b).1, 0) else (0, 8)) else bif ieq p 4 then (bif ilt a b then (b, 0) else (a, 0)) else bif ilt b a then (b, 0) else (a, 0)
theorem IQ (K : Nat) (p : Int) {a b : Int} (ha : i64 a) (hb : i64 b) : Dd K p a b = some (Aw p a b) := by
 rw [Dd]
 rcases GG p with q | q | q | q | q | q
 · subst q
   have e5 : ieq 1 5 = false := rfl
   have e4 : ieq 1 4 = false := rfl
   have eb : An 1 = false := rfl
   rw [GT, Aw, e5, e4, eb]
   simp only [bS, cT, cF, Bn, AY, A7, Bb, Bv, Bd, Bj, A9, Bh, Bt, A3, Bf, A1, A0, AX, Bs, AQ, AZ, Ba, AS, Bm, Bp, AU, A4, Bo, A8, Bc, A6, AW, Bu, A5, Bi, Be, Bq, Bk, Br, F82]
   cases ilt b a <;> rfl
 · subst q
   have e5 : ieq 2 5 = false := rfl
   have e4 : ieq 2 4 = false := rfl
   have eb : An 2 = false := rfl
   rw [GF, Aw, e5, e4, eb]
   simp only [bS, cT, cF, Bn, AY, A7, Bb, Bv, Bd, Bj, A9, Bh, Bt, A3, Bf, A1, A0, AX, Bs, AQ, AZ, Ba, AS, Bm, Bp, AU, A4, Bo, A8, Bc, A6, AW, Bu, A5, Bi, Be, Bq, Bk, Br, F82]
   cases ilt b a <;> rfl
 · subst q
   have e5 : ieq 3 5 = false := rfl
   have e4 : ieq 3 4 = false := rfl
   have eb : An 3 = false := rfl
   rw [Gc, Aw, e5, e4, eb]
   simp only [bS, cT, cF, Bn, AY, A7, Bb, Bv, Bd, Bj, A9, Bh, Bt, A3, Bf, A1, A0, AX, Bs, AQ, AZ, Ba, AS, Bm, Bp, AU, A4, Bo, A8, Bc, A6, AW, Bu, A5, Bi, Be, Bq, Bk, Br, F82]
   cases ilt b a <;> rfl
 · subst q
   have e5 : ieq 4 5 = false := rfl
   have e4 : ieq 4 4 = true := rfl
   have eb : An 4 = false := rfl
   rw [GB, Aw, e5, e4, eb]
   simp only [bS, cT, cF, Bn, AY, A7, Bb, Bv, Bd, Bj, A9, Bh, Bt, A3, Bf, A1, A0, AX, Bs, AQ, AZ, Ba, AS, Bm, Bp, AU, A4, Bo, A8, Bc, A6, AW, Bu, A5, Bi, Be, Bq, Bk, Br, F89, igt]
   have : decide (b > a) = ilt a b := rfl
   rw [this]
   cases ilt a b <;> rfl
 · subst q
   have e5 : ieq 5 5 = true := rfl
   have e4 : ieq 5 4 = false := rfl
   have eb : An 5 = false := rfl
   rw [Gy, Aw, e5, e4, eb]
   simp only [bS, cT, cF, Bn, AY, A7, Bb, Bv, Bd, Bj, A9, Bh, Bt, A3, Bf, A1, A0, AX, Bs, AQ, AZ, Ba, AS, Bm, Bp, AU, A4, Bo, A8, Bc, A6, AW, Bu, A5, Bi, Be, Bq, Bk, Br, Fm K ha hb]
   cases (BE a b).2 <;> rfl
 · have eb : An p = true := by
    unfold An
    rcases q with q | q
    · rw [Ae.2 q]; rfl
    · rw [Ae.2 q, Bool.or_true]
   rw [GX K q, Aw, eb]
   simp only [bS, cT, cF, Bn, AY, A7, Bb, Bv, Bd, Bj, A9, Bh, Bt, A3, Bf, A1, A0, AX, Bs, AQ, AZ, Ba, AS, Bm, Bp, AU, A4, Bo, A8, Bc, A6, AW, Bu, A5, Bi, Be, Bq, Bk, Br]
theorem Gm {p a b : Int} (ha : i64 a) (hb : i64 b) : i64 (Aw p a b).1 := by
 have h0 : i64 0 := by unfold i64; omega
 rw [Aw]
 cases An p
 · cases ieq p 5
   · cases ieq p 4
     · simp only [cF]
       cases ilt b a
       · exact ha
       · exact hb
     · simp only [cF, cT]
       cases ilt a b
       · exact ha
       · exact hb
   · simp only [cF, cT]
     unfold BE
     cases h : AB (a + b)
     · exact h0
     · exact BG.1 h
 · exact h0
theorem Oy (K : Nat) (y x : GMsg) : ET K y x = some (!(leM x y)) := by
 rw [ET, leM]
 cases h1 : ilt y.To x.To
 · cases h2 : ieq y.To x.To
   · have := Ad.1 h1; have := Ao.1 h2
     rw [Ae.2 (by omega : x.To < y.To)]; rfl
   · have e := Al.1 h2
     rw [Ad.2 (by omega : y.To ≤ x.To), Al.2 e.symm]
     simp only [cF, cT, Bool.false_or, Bool.true_and]
     congr 1
     cases h3 : ilt y.V x.V
     · rw [C1.2 (by have := Ad.1 h3; omega)]; rfl
     · rw [DA.2 (by have := Ae.1 h3; omega)]; rfl
 · have := Ae.1 h1
   rw [Ad.2 (by omega : y.To ≤ x.To), Ao.2 (by omega : x.To ≠ y.To)]; rfl
theorem J3 {K : Nat} : ∀ (k : Nat) (a b c : List GMsg), a.length + b.length < k → a.length + b.length + c.length < 100000 → Cr (c ++ a) → Cr (c ++ b) →
 ∃ a' b' c', DL K k a b c = some (a', (b', c')) ∧ (c' ++ a' ++ b').Perm (c ++ a ++ b) ∧ Cr (c' ++ a' ++ b') := by
 intro k
 induction k with
 | zero => intro a b c h; omega
 | succ k ih =>
  intro a b c hk hl ha hb
  rw [DL]
  cases a with
  | nil => exact ⟨[], b, c, rfl, List.Perm.refl _, by simpa using hb⟩
  | cons x a =>
   cases b with
   | nil =>
    refine ⟨x :: a, [], c, ?_, List.Perm.refl _, by simpa using ha⟩
    rw [Ae.2 (show (0 : Int) < nlen (len (x :: a)) by show (0 : Int) < ((a.length + 1 : Nat) : Int); omega)]; rfl
   | cons y b =>
    simp only [List.length_cons] at hk hl
    have i1 : ilt 0 (nlen (len (x :: a))) = true := Ae.2 (by show (0 : Int) < ((a.length + 1 : Nat) : Int); omega)
    have i2 : ilt 0 (nlen (len (y :: b))) = true := Ae.2 (by show (0 : Int) < ((b.length + 1 : Nat) : Int); omega)
    have r1 : inr 0 (len (x :: a)) = true := decide_eq_true ⟨by omega, by show (0 : Int) < (((a.length + 1 : Nat)) : Int); omega⟩
    have r2 : inr 0 (len (y :: b)) = true := decide_eq_true ⟨by omega, by show (0 : Int) < (((b.length + 1 : Nat)) : Int); omega⟩
    have g1 : elAt (x :: a) 0 = some x := rfl
    have g2 : elAt (y :: b) 0 = some y := rfl
    have ap : apok (len c) 1 16 = true := decide_eq_true ⟨by show c.length + 1 ≤ _; omega, by show (c.length + 1) * 16 ≤ _; omega⟩
    have b1 : bnd 1 (nlen (len (x :: a))) (len (x :: a)) = true := by simp [bnd, nlen, len]; omega
    have b2 : bnd 1 (nlen (len (y :: b))) (len (y :: b)) = true := by simp [bnd, nlen, len]; omega
    have s1 : subL (x :: a) 1 (nlen (len (x :: a))) = a := by simp [subL, nlen, len]
    have s2 : subL (y :: b) 1 (nlen (len (y :: b))) = b := by simp [subL, nlen, len]
    rw [i1, i2, r1, r2, g1, g2, ap, b1, b2, s1, s2]
    simp only [cT, bS, Oy]
    have ha' := List.pairwise_append.1 ha
    have hb' := List.pairwise_append.1 hb
    have hxa := List.pairwise_cons.1 ha'.2.1
    have hyb := List.pairwise_cons.1 hb'.2.1
    cases hxy : leM x y
    · have hyx := Jl hxy
      obtain ⟨a', b', c', e, p, q⟩ := ih (x :: a) b (c ++ [y]) (by simp; omega) (by simp; omega)
       (by
        refine List.pairwise_append.2 ⟨List.pairwise_append.2 ⟨hb'.1, List.pairwise_singleton _ _, fun u hu w hw => ?_⟩, ha'.2.1, fun u hu w hw => ?_⟩
        · rw [List.mem_singleton.1 hw]; exact hb'.2.2 u hu y List.mem_cons_self
        · rcases List.mem_append.1 hu with hu | hu
          · exact ha'.2.2 u hu w hw
          · rw [List.mem_singleton.1 hu]
            rcases List.mem_cons.1 hw with rfl | hw
            · exact hyx
            · exact Gr hyx (hxa.1 w hw))
       (by rw [List.append_assoc]; exact hb)
      refine ⟨a', b', c', e, p.trans ?_, q⟩
      have : (c ++ [y] ++ (x :: a) ++ b) = c ++ (y :: (x :: a)) ++ b := by simp
      rw [this, List.append_assoc, List.append_assoc]
      exact List.Perm.append_left c (List.perm_middle (l₁ := x :: a) (a := y) (l₂ := b)).symm
    · obtain ⟨a', b', c', e, p, q⟩ := ih a (y :: b) (c ++ [x]) (by simp; omega) (by simp; omega)
       (by rw [List.append_assoc]; exact ha)
       (by
        refine List.pairwise_append.2 ⟨List.pairwise_append.2 ⟨hb'.1, List.pairwise_singleton _ _, fun u hu w hw => ?_⟩, hb'.2.1, fun u hu w hw => ?_⟩
        · rw [List.mem_singleton.1 hw]; exact ha'.2.2 u hu x List.mem_cons_self
        · rcases List.mem_append.1 hu with hu | hu
          · exact hb'.2.2 u hu w hw
          · rw [List.mem_singleton.1 hu]
            rcases List.mem_cons.1 hw with rfl | hw
            · exact hxy
            · exact Gr hxy (hyb.1 w hw))
      refine ⟨a', b', c', e, p.trans ?_, q⟩
      have : (c ++ [x] ++ a ++ (y :: b)) = c ++ (x :: a) ++ (y :: b) := by simp
      rw [this]
theorem MU {K : Nat} : ∀ (d : Nat) (l : List GMsg), l.length < d → l.length < K → l.length < 10000 → DS K d l = some (Ap l) := by
 intro d
 induction d with
 | zero => intro l h; omega
 | succ d ih =>
  intro l hd hK hl
  rw [DS]
  cases h2 : ilt (nlen (len l)) 2
  · have h2' : 2 ≤ l.length := by have := Ad.1 h2; simp only [nlen, len] at this; omega
    have hq : wquo .i64 (nlen (len l)) 2 = ((l.length / 2 : Nat) : Int) := by
     show IntKind.i64.wrap (((l.length : Nat) : Int).tdiv 2) = _
     rw [Int.tdiv_eq_ediv_of_nonneg om, IntKind.wrap_i64]; omega
    have b1 : bnd 0 ((l.length / 2 : Nat) : Int) (len l) = true := by simp [bnd, len]; omega
    have b2 : bnd ((l.length / 2 : Nat) : Int) (nlen (len l)) (len l) = true := by simp [bnd, len, nlen]; omega
    have s1 : subL l 0 ((l.length / 2 : Nat) : Int) = l.take (l.length / 2) := by simp [subL]; omega
    have s2 : subL l ((l.length / 2 : Nat) : Int) (nlen (len l)) = l.drop (l.length / 2) := by
     simp only [subL, nlen, len, Int.toNat_natCast]
     exact List.take_of_length_le (by rw [List.length_drop]; omega)
    have l1 : (l.take (l.length / 2)).length ≤ l.length / 2 := by rw [List.length_take]; omega
    have l2 : (l.drop (l.length / 2)).length = l.length - l.length / 2 := List.length_drop
    have mk : mkok 0 (nlen (len l)) 16 = true := by simp [mkok, nlen, len]; omega
    obtain ⟨a', b', c', e, p, q⟩ := J3 (K := K) K (Ap (l.take (l.length / 2))) (Ap (l.drop (l.length / 2))) [] (by rw [Dy, Dy]; omega) (by rw [Dy, Dy]; simp only [List.length_nil]; omega) (by simpa using EU _) (by simpa using EU _)
    have er : repL (α := GMsg) 0 (GMsg.mk 0 0) = [] := rfl
    have pl : (c' ++ a' ++ b').Perm l := p.trans (by
     rw [List.nil_append]
     have := (CA (l.take (l.length / 2))).append (CA (l.drop (l.length / 2)))
     rwa [List.take_append_drop] at this)
    have ln := pl.length_eq
    rw [List.length_append, List.length_append] at ln
    have a1 : apok (len c') (len a') 16 = true := decide_eq_true ⟨by show c'.length + a'.length ≤ _; omega, by show (c'.length + a'.length) * 16 ≤ _; omega⟩
    have a2 : apok (len (appL c' a')) (len b') 16 = true := decide_eq_true ⟨by show (c' ++ a').length + b'.length ≤ _; rw [List.length_append]; omega, by show ((c' ++ a').length + b'.length) * 16 ≤ _; rw [List.length_append]; omega⟩
    rw [cF, hq, b1, b2, s1, s2, ih _ om om om, ih _ om om om, mk, er]
    simp only [cT, bS, e, a1, a2]
    rw [GS q pl]; rfl
  · have h2' : l.length < 2 := by have := Ae.1 h2; simp only [nlen, len] at this; omega
    have ap : apok 0 (len l) 16 = true := decide_eq_true ⟨by show 0 + l.length ≤ _; omega, by show (0 + l.length) * 16 ≤ _; omega⟩
    rw [cT, ap, cT]
    congr 1
    rw [GS (l := l) (r := l) ?_ (List.Perm.refl l)]; rfl
    match l, h2' with
    | [], _ => exact List.Pairwise.nil
    | [x], _ => exact List.pairwise_singleton _ _
theorem IB {K : Nat} (l : List GMsg) (hK : l.length < K) (hl : l.length < 10000) : EE K l = some (Ap l) := by
 rw [EE, MU K l hK hK hl]; rfl
def Ct (p : Int) : List GMsg → GMsg → List GMsg → Int ⊕ List GMsg
 | [], cur, done => .inr (done ++ [cur])
 | x :: r, cur, done => bif ieq cur.To x.To then (bif ieq (Aw p cur.V x.V).2 0 then Ct p r (GMsg.mk cur.To (Aw p cur.V x.V).1) done else .inl (Aw p cur.V x.V).2) else Ct p r x (done ++ [cur])
def EP (p : Int) : List GMsg → List GMsg → Int ⊕ List GMsg
 | [], done => .inr done
 | x :: r, done => Ct p r x done
def LB : Int ⊕ List GMsg → List GMsg × Int
 | .inl e => ([], e)
 | .inr s => (s, 0)
def Ak (p : Int) (l : List GMsg) : List GMsg × Int := bif An p then ([], 1) else LB (EP p (Ap l) [])
theorem OZ {α : Type} (d : List α) (c x : α) : inr (wsub .i64 (nlen (len (d ++ [c]))) 1) (len (d ++ [c])) = true ∧ (d.length < 1000000 → elAt (d ++ [c]) (wsub .i64 (nlen (len (d ++ [c]))) 1) = some c ∧ putAt (d ++ [c]) (wsub .i64 (nlen (len (d ++ [c]))) 1) x = d ++ [x]) ∨ ¬ d.length < 1000000 := by
 by_cases h : d.length < 1000000
 · left
   have w : wsub .i64 (nlen (len (d ++ [c]))) 1 = ((d.length : Nat) : Int) := by
    show IntKind.i64.wrap (((d ++ [c]).length : Int) - 1) = _
    rw [List.length_append, IntKind.wrap_i64]; simp; omega
   rw [w]
   refine ⟨decide_eq_true ⟨by omega, by show (d.length : Int) < ((d ++ [c]).length : Int); simp; omega⟩, fun _ => ⟨by rw [BD]; simp, ?_⟩⟩
   unfold putAt
   rw [Int.toNat_natCast, List.set_append_right (h := by omega)]; simp
 · right; exact h
theorem IL {K : Nat} (p : Int) (l : List GMsg) (hv : ∀ x ∈ l, i64 x.V) (hK : l.length < K) (hl : l.length < 10000) : F95 K p l = some (Ak p l) := by
 have i0 : i64 0 := by unfold i64; omega
 have hz : (Aw p 0 0).2 = bif An p then 1 else 0 := by
  rw [Aw]
  cases An p
  · have : BE 0 0 = (0, true) := rfl
    have e : ilt 0 0 = false := rfl
    rw [this, e]
    cases ieq p 5 <;> cases ieq p 4 <;> rfl
  · rfl
 rw [F95, IQ K p i0 i0, bS, hz, Ak, IB l hK hl]
 cases hb : An p
 · let step : GMsg → List GMsg → (List GMsg → Option (Int ⊕ List GMsg)) → Option (Int ⊕ List GMsg) := fun x s c =>
    bif (ilt 0 (nlen (len s))) then
     (bif (inr (wsub .i64 (nlen (len s)) 1) (len s)) then
     (elAt s (wsub .i64 (nlen (len s)) 1)).bind fun y =>
     bif (ieq y.To x.To) then
      ((Dd K p y.V x.V).bind fun r =>
      bif (ieq r.2 0) then
       (c (putAt s (wsub .i64 (nlen (len s)) 1) (GMsg.mk y.To r.1)))
      else
      some (.inl r.2))
     else
     bif (apok (len s) 1 16) then
     c (appL s [x])
     else none
     else none)
    else
    bif (apok (len s) 1 16) then
    c (appL s [x])
    else none
   have hsl : (Ap l).length = l.length := Dy l
   have h := Aq (l := Ap l) (L := fun k s i => CQ K p (Ap l) k s i) step (fun s => some (.inr s)) (fun k s i _ => rfl) om (K := K) om []
   have hw : ∀ (r : List GMsg) (d : List GMsg) (c : GMsg), d.length + r.length < 100000 → i64 c.V → (∀ x ∈ r, i64 x.V) → goL step (fun s => some (.inr s)) r (d ++ [c]) = some (Ct p r c d) := by
    intro r
    induction r with
    | nil => intro d c _ _ _; rfl
    | cons x r ih =>
     intro d c hd hc hr
     simp only [List.length_cons] at hd
     have hx := hr x List.mem_cons_self
     have hr' := fun y hy => hr y (List.mem_cons_of_mem _ hy)
     rw [goL]
     show (bif (ilt 0 (nlen (len (d ++ [c])))) then
      (bif (inr (wsub .i64 (nlen (len (d ++ [c]))) 1) (len (d ++ [c]))) then
      (elAt (d ++ [c]) (wsub .i64 (nlen (len (d ++ [c]))) 1)).bind fun y =>
      bif (ieq y.To x.To) then
       ((Dd K p y.V x.V).bind fun q =>
       bif (ieq q.2 0) then
        (goL step (fun s => some (.inr s)) r (putAt (d ++ [c]) (wsub .i64 (nlen (len (d ++ [c]))) 1) (GMsg.mk y.To q.1)))
       else
       some (.inl q.2))
      else
      bif (apok (len (d ++ [c])) 1 16) then
      goL step (fun s => some (.inr s)) r (appL (d ++ [c]) [x])
      else none
      else none)
     else
     bif (apok (len (d ++ [c])) 1 16) then
     goL step (fun s => some (.inr s)) r (appL (d ++ [c]) [x])
     else none) = _
     have i1 : ilt 0 (nlen (len (d ++ [c]))) = true := Ae.2 (by show (0 : Int) < ((d ++ [c]).length : Int); rw [List.length_append]; simp only [List.length_singleton]; omega)
     have ap : apok (len (d ++ [c])) 1 16 = true := decide_eq_true ⟨by show (d ++ [c]).length + 1 ≤ _; rw [List.length_append]; simp only [List.length_singleton]; omega, by show ((d ++ [c]).length + 1) * 16 ≤ _; rw [List.length_append]; simp only [List.length_singleton]; omega⟩
     rcases OZ d c (GMsg.mk c.To (Aw p c.V x.V).1) with ⟨q1, q2⟩ | q
     · obtain ⟨q2, q3⟩ := q2 om
       rw [i1, q1, q2, ap]
       simp only [cT, bS, IQ K p hc hx, q3]
       rw [Ct]
       cases ieq c.To x.To
       · rw [cF, cF]
         exact ih (d ++ [c]) x (by rw [List.length_append]; simp only [List.length_singleton]; omega) hx hr'
       · rw [cT, cT]
         cases ieq (Aw p c.V x.V).2 0
         · rfl
         · rw [cT, cT]
           exact ih d _ om (Gm hc hx) hr'
     · omega
   have h' : CQ K p (Ap l) K [] 0 = some (EP p (Ap l) []) := by
    rw [show CQ K p (Ap l) K [] 0 = _ from h]
    have hs : ∀ x ∈ Ap l, i64 x.V := fun x hx => hv x ((CA l).mem_iff.1 hx)
    generalize Ap l = m at *
    cases m with
    | nil => rfl
    | cons x r =>
     rw [goL]
     show goL step (fun s => some (.inr s)) r (appL [] [x]) = _
     simp only [List.length_cons] at hsl
     exact hw r [] x (by simp only [List.length_nil]; omega) (hs x List.mem_cons_self) (fun y hy => hs y (List.mem_cons_of_mem _ hy))
   have z0 : ieq (bif false then 1 else 0) 0 = true := rfl
   rw [z0, cT, bS, h', bS]
   cases EP p (Ap l) [] <;> rfl
 · rfl
def atS (l : List GMsg) (v : Int) : Int × Bool := match l.find? (fun m => ieq m.To v) with
 | some m => (m.V, true)
 | none => (0, false)
def Mn : Option GMsg → Int ⊕ Unit
 | some m => .inl m.V
 | none => .inr ()
theorem KE (l : List GMsg) (v : Int) : goL (fun (x : GMsg) (_ : Unit) c => bif ieq x.To v then some (.inl x.V) else c ()) (fun _ => some (.inr ())) l () = (some (Mn (l.find? fun m => ieq m.To v)) : Option (Int ⊕ Unit)) := by
 induction l with
 | nil => rfl
 | cons x l ih =>
  rw [goL, List.find?_cons]
  cases h : ieq x.To v
  · exact ih
  · rfl
theorem J8 {K : Nat} (l : List GMsg) (v : Int) (hl : l.length < 100000) (hK : l.length < K) : F92 K l v = some (atS l v) := by
 have e : D9 K l v K 0 = _ := Aq (l := l) (L := fun k (_ : Unit) i => D9 K l v k i) (fun x _ c => bif ieq x.To v then some (.inl x.V) else c ()) (fun _ => some (.inr ())) (fun k s i _ => rfl) om hK ()
 rw [F92, e, KE, atS]
 cases l.find? fun m => ieq m.To v <;> rfl
theorem HY {l : List GMsg} {v : Int} (h : ∀ x ∈ l, i64 x.V) : i64 (atS l v).1 := by
 rw [atS]
 cases hq : l.find? fun m => ieq m.To v with
 | none => show i64 0; unfold i64; omega
 | some m => exact h m (List.mem_of_find?_eq_some hq)
def Ck : Nat → Nat → Nat → Nat → List Nat
 | 0, _, _, _ => []
 | k + 1, n, parts, v => if v < n then v :: Ck k n parts (v + parts) else []
theorem Mb : ∀ parts < 7, 0 < parts → ∀ n < 25, ∀ p < parts, Ck 30 n parts p = (List.range n).filter fun v => v % parts == p := by decide +kernel
theorem Kr {n parts : Nat} (h1 : 0 < parts) (h2 : parts < 7) (hn : n < 25) {p : Nat} (hp : p < parts) : Ck 30 n parts p = C7 n parts (p : Int) := by
 rw [Mb parts h2 h1 n hn p hp, C7]
 refine List.filter_congr fun v _ => ?_
 rw [Bool.eq_iff_iff, Al, beq_iff_eq]; omega
theorem Do {g : GGraph} {j : GJob} {x : GPart} (h : As g j x = true) : ieq (Ah g j) 0 = true ∧ 0 ≤ x.P ∧ x.P < j.Parts ∧ 0 ≤ x.Step ∧ x.Step ≤ 40 ∧ (x.Vals.length : Int) = Bg g j x.P ∧ (x.Rest.length : Int) = Bg g j x.P ∧ CF g.N j.Parts x.P (-1) x.In = true := by
 simp only [As, Bool.and_eq_true, C1, Ae, Al] at h
 obtain ⟨h1, h2, h3, h4, h5, h6, h7, h8⟩ := h
 exact ⟨Al.2 h1, h2, h3, h4, h5, h6, h7, h8⟩
theorem FG {n parts p : Int} : ∀ {l : List GMsg} {v : Int}, CF n parts p v l = true → l.Pairwise (fun a b => a.To < b.To) ∧ (∀ m ∈ l, v < m.To ∧ m.To < n ∧ m.To % parts = p)
 | [], v, _ => ⟨List.Pairwise.nil, fun m h => (nomatch h)⟩
 | m :: l, v, h => by
  simp only [CF, Bool.and_eq_true, Ae, Al] at h
  obtain ⟨h1, h2, h3, h4⟩ := h
  obtain ⟨a, b⟩ := FG h4
  refine ⟨List.pairwise_cons.2 ⟨fun x hx => (b x hx).1, a⟩, fun x hx => ?_⟩
  rcases List.mem_cons.1 hx with e | e
  · subst e; exact ⟨h1, h2, h3⟩
  · have := b x e; exact ⟨by omega, this.2⟩
theorem Jt {n parts p : Int} : ∀ {l : List GMsg} {v : Int}, l.Pairwise (fun a b => a.To < b.To) → (∀ m ∈ l, v < m.To ∧ m.To < n ∧ m.To % parts = p) → CF n parts p v l = true
 | [], _, _, _ => rfl
 | m :: l, v, h, hm => by
  obtain ⟨a, b⟩ := List.pairwise_cons.1 h
  have h1 := hm m List.mem_cons_self
  rw [CF, Ae.2 h1.1, Ae.2 h1.2.1, Al.2 h1.2.2]
  exact Jt b fun x hx => ⟨a x hx, (hm x (List.mem_cons_of_mem _ hx)).2⟩
def BH : GPart := GPart.mk 0 0 [] [] []
def BW (n parts p : Int) (l : List GMsg) : Bool := l.all fun m => ile 0 m.To && (ilt m.To n && ieq (m.To % parts) p)
def Es (j : GJob) (x : GPart) (l : List GMsg) : GPart × Int := bif ieq (Ak j.Prog l).2 0 then (GPart.mk x.P x.Step x.Vals x.Rest (Ak j.Prog l).1, 0) else (BH, (Ak j.Prog l).2)
def Ax (g : GGraph) (j : GJob) (x : GPart) (l : List GMsg) : GPart × Int :=
 bif ieq (Ah g j) 0 then (bif As g j x then (bif ieq (nlen (len x.In)) 0 then (bif BW g.N j.Parts x.P l then Es j x l else (BH, 1)) else (BH, 1)) else (BH, 1)) else (BH, Ah g j)
theorem N0 {n parts p : Int} {l l' : List GMsg} (h : l.Perm l') : BW n parts p l = BW n parts p l' := by
 rw [Bool.eq_iff_iff]
 simp only [BW, List.all_eq_true]
 exact ⟨fun q m hm => q m (h.mem_iff.2 hm), fun q m hm => q m (h.mem_iff.1 hm)⟩
theorem NR {p : Int} {l l' : List GMsg} (h : l.Perm l') : Ak p l = Ak p l' := by
 rw [Ak, Ak, Mg h]
theorem NF {K : Nat} (ls : List (List GMsg)) (h1 : ls.length < 10000) (h2 : ls.length < K) (h3 : (ls.flatten).length < 10000) (h4 : (ls.flatten).length < K) : F98 K ls = some (Ap ls.flatten) := by
 let step : List GMsg → List GMsg → (List GMsg → Option (List GMsg)) → Option (List GMsg) := fun x a c => bif (apok (len a) (len x) 16) then c (appL a x) else none
 have h := Aq (l := ls) (L := fun k s i => Eh K ls k s i) step (fun s => some s) (fun k s i _ => rfl) om h2 []
 have hw : ∀ (r : List (List GMsg)) (a : List GMsg), a.length + r.flatten.length < 100000 → goL step (fun s => some s) r a = some (a ++ r.flatten) := by
  intro r
  induction r with
  | nil => intro a _; simp [goL]
  | cons x r ih =>
   intro a ha
   rw [List.flatten_cons, List.length_append] at ha
   rw [goL]
   show (bif (apok (len a) (len x) 16) then goL step (fun s => some s) r (appL a x) else none) = _
   have ap : apok (len a) (len x) 16 = true := decide_eq_true ⟨by show a.length + x.length ≤ _; omega, by show (a.length + x.length) * 16 ≤ _; omega⟩
   rw [ap, cT, ih _ (by simp only [appL, List.length_append]; omega)]; simp [appL]
 rw [hw ls [] (by simp only [List.length_nil]; omega), List.nil_append] at h
 have h' : Eh K ls K [] 0 = some ls.flatten := h
 rw [F98, h', bS, IB _ h4 h3]; rfl
theorem MH {K : Nat} (g : GGraph) (j : GJob) (x : GPart) (l : List GMsg) (hp : 1 ≤ j.Parts) (h6 : j.Parts ≤ 6) (h0 : 0 ≤ x.P) (hl : l.length < 1000000) (hK : l.length < K) : Eo K g j x l K 0 = some (CG (BW g.N j.Parts x.P l)) := by
 let step : GMsg → Unit → (Unit → Option (Unit ⊕ Unit)) → Option (Unit ⊕ Unit) := fun m _ c =>
  bif (ile g.N m.To) then (some (.inl ())) else (F94 K j m.To).bind fun r => bif (ieq r x.P) then c () else some (.inl ())
 have h := Aq (l := l) (L := fun k (_ : Unit) i => Eo K g j x l k i) step (fun _ => some (.inr ())) (fun k s i _ => rfl) om (K := K) hK ()
 have hw : ∀ (r : List GMsg), goL step (fun _ => some (.inr ())) r () = some (CG (BW g.N j.Parts x.P r)) := by
  intro r
  induction r with
  | nil => rfl
  | cons m r ih =>
   rw [goL]
   show (bif (ile g.N m.To) then (some (.inl ())) else (F94 K j m.To).bind fun r' => bif (ieq r' x.P) then goL step (fun _ => some (.inr ())) r () else some (.inl ())) = _
   rw [HW, ih, bS, Fy, AM, Ad.2 hp, Ad.2 h6, BW, BW, List.all_cons, FV m.To 0]
   cases h1 : ilt m.To g.N
   · cases ile 0 m.To <;> rfl
   · cases h2 : ile 0 m.To
     · rw [Bool.not_false, Bool.true_or, cT, Ao.2 (by omega : (-1 : Int) ≠ x.P)]; rfl
     · simp only [Bool.not_true, Bool.false_or, cF, Bool.true_and]
       cases ieq (m.To % j.Parts) x.P <;> rfl
 rw [hw] at h
 exact h
theorem Oq {α : Type} (b : Bool) (x : Option α) (y : Option α) : (some (CG b)).bind (fun z => Sum.elim (fun _ => x) (fun _ => y) z) = bif b then y else x := by cases b <;> rfl
theorem Lr {K : Nat} (hK : 1000 ≤ K) (g : GGraph) (j : GJob) (x : GPart) (ls : List (List GMsg)) (hp : i64 x.P) (hx : x.In.length ≤ 300) (hv : x.Vals.length ≤ 100) (hr : x.Rest.length ≤ 100)
 (h1 : ls.length < 1000) (h3 : (ls.flatten).length < 10000) (h4 : (ls.flatten).length < K) (hs : ∀ m ∈ ls.flatten, i64 m.V) : F62 K g j x ls = some (Ax g j x ls.flatten) := by
 rw [F62, DG om, Gt hK g j x om om hp, bS, bS, Ax]
 cases hc : ieq (Ah g j) 0
 · rfl
 · cases hR : As g j x
   · rfl
   · obtain ⟨_, p1, p2, _⟩ := Do hR
     obtain ⟨hg, _, _, _, _, _, _, p7, p8⟩ := Cp hc
     have hsl := Dy ls.flatten
     have e1 : ilt 0 (nlen (len x.In)) = !(ieq (nlen (len x.In)) 0) := by
      show ilt 0 (x.In.length : Int) = !(ieq (x.In.length : Int) 0)
      cases x.In.length with
      | zero => rfl
      | succ n => rw [Ae.2 om, Ao.2 om]; rfl
     have ap1 : apok 0 (len x.Vals) 8 = true := decide_eq_true ⟨by show 0 + x.Vals.length ≤ _; omega, by show (0 + x.Vals.length) * 8 ≤ _; omega⟩
     have ap2 : apok 0 (len x.Rest) 1 = true := decide_eq_true ⟨by show 0 + x.Rest.length ≤ _; omega, by show (0 + x.Rest.length) * 1 ≤ _; omega⟩
     have hso : ∀ m ∈ Ap ls.flatten, i64 m.V := fun m hm => hs m ((CA _).mem_iff.1 hm)
     simp only [cT, e1, NF ls (show ls.length < 10000 by omega) (show ls.length < K by omega) h3 h4, bS]
     rw [MH g j x _ p7 p8 p1 om om, IL j.Prog (Ap ls.flatten) hso om om, Oq, F99, ap1, ap2, N0 (CA ls.flatten), NR (CA ls.flatten)]
     cases ieq (nlen (len x.In)) 0
     · rfl
     · cases BW g.N j.Parts x.P ls.flatten
       · rfl
       · rw [Es]
         simp only [cT, bS, Bool.not_true, cF]
         cases ieq (Ak j.Prog ls.flatten).2 0 <;> rfl
theorem DY {a b : Int} (h : 0 ≤ a + b) (h2 : a + b < 18446744073709551616) : wadd .u64 a b = a + b := by
 show IntKind.u64.wrap (a + b) = _
 simp [IntKind.wrap, IntKind.signed, IntKind.bits]; omega
theorem EI {a b : Int} (h : 0 ≤ a * b) (h2 : a * b < 18446744073709551616) : wmul .u64 a b = a * b := by
 show IntKind.u64.wrap (a * b) = _
 simp only [IntKind.wrap, IntKind.signed, IntKind.bits, Bool.false_and]
 generalize a * b = t at *
 simp; omega
theorem D2 {a : Int} (h : 0 ≤ a) (h2 : a < 18446744073709551616) : wquo .u64 a 4294967296 = a / 4294967296 := by
 show IntKind.u64.wrap (a.tdiv 4294967296) = _
 rw [Int.tdiv_eq_ediv_of_nonneg h]
 simp [IntKind.wrap, IntKind.signed, IntKind.bits]; omega
theorem Ee {a : Int} (h : 0 ≤ a) : wrem a 4294967296 = a % 4294967296 := by
 show a.tmod 4294967296 = _
 exact Int.tmod_eq_emod_of_nonneg h
theorem HS (K : Nat) {x b : Int} (hx : 0 ≤ x) (hx2 : x ≤ 9223372036854775808) (hb : 1 ≤ b) (hb2 : b ≤ 1000) :
 ∃ hi lo, Fi K x b = some (GA193.mk hi lo) ∧ hi * 18446744073709551616 + lo = x * b ∧ 0 ≤ lo ∧ lo < 18446744073709551616 ∧ 0 ≤ hi := by
 obtain ⟨u, hu⟩ : ∃ u, x / 4294967296 = u := ⟨_, rfl⟩
 obtain ⟨v, hv⟩ : ∃ v, x % 4294967296 = v := ⟨_, rfl⟩
 have hu0 : 0 ≤ u ∧ u ≤ 2147483648 := by omega
 have hv0 : 0 ≤ v ∧ v < 4294967296 := by omega
 have hxu : x = u * 4294967296 + v := by omega
 obtain ⟨P, hP⟩ : ∃ P, u * b = P := ⟨_, rfl⟩
 obtain ⟨Q, hQ⟩ : ∃ Q, v * b = Q := ⟨_, rfl⟩
 have hP0 : 0 ≤ P := hP ▸ Int.mul_nonneg hu0.1 om
 have hQ0 : 0 ≤ Q := hQ ▸ Int.mul_nonneg hv0.1 om
 have hP1 : P ≤ 2147483648 * 1000 := hP ▸ Int.mul_le_mul hu0.2 hb2 om om
 have hQ1 : Q ≤ 4294967296 * 1000 := hQ ▸ Int.mul_le_mul om hb2 om om
 have hxb : x * b = P * 4294967296 + Q := by rw [hxu, Int.add_mul, hQ, ← hP, Int.mul_right_comm]
 have a1 : wquo .u64 x 4294967296 = u := by rw [D2 hx om, hu]
 have a2 : wquo .u64 b 4294967296 = 0 := by rw [D2 om om]; omega
 have a3 : wrem x 4294967296 = v := by rw [Ee hx, hv]
 have a4 : wrem b 4294967296 = b := by rw [Ee om]; omega
 have b1 : wmul .u64 u 0 = 0 := by rw [EI om om]; omega
 have b2 : wmul .u64 u b = P := by rw [EI om om, hP]
 have b3 : wmul .u64 v 0 = 0 := by rw [EI om om]; omega
 have b4 : wmul .u64 v b = Q := by rw [EI om om, hQ]
 have c1 : wquo .u64 P 4294967296 = P / 4294967296 := D2 hP0 om
 have c2 : wquo .u64 0 4294967296 = 0 := by rw [D2 om om]; omega
 have c3 : wquo .u64 Q 4294967296 = Q / 4294967296 := D2 hQ0 om
 have c4 : wrem P 4294967296 = P % 4294967296 := Ee hP0
 have c5 : wrem 0 4294967296 = 0 := by rw [Ee om]; omega
 have c6 : wrem Q 4294967296 = Q % 4294967296 := Ee hQ0
 have d1 : wadd .u64 (Q / 4294967296) (P % 4294967296) = Q / 4294967296 + P % 4294967296 := DY om om
 have d2 : wadd .u64 (Q / 4294967296 + P % 4294967296) 0 = Q / 4294967296 + P % 4294967296 := by rw [DY om om]; omega
 have d3 : wquo .u64 (Q / 4294967296 + P % 4294967296) 4294967296 = (Q / 4294967296 + P % 4294967296) / 4294967296 := D2 om om
 have d4 : wrem (Q / 4294967296 + P % 4294967296) 4294967296 = (Q / 4294967296 + P % 4294967296) % 4294967296 := Ee om
 have d5 : wadd .u64 0 (P / 4294967296) = P / 4294967296 := by rw [DY om om]; omega
 have d6 : wadd .u64 (P / 4294967296) 0 = P / 4294967296 := by rw [DY om om]; omega
 have d7 : wadd .u64 (P / 4294967296) ((Q / 4294967296 + P % 4294967296) / 4294967296) = P / 4294967296 + (Q / 4294967296 + P % 4294967296) / 4294967296 := DY om om
 have d8 : wmul .u64 ((Q / 4294967296 + P % 4294967296) % 4294967296) 4294967296 = (Q / 4294967296 + P % 4294967296) % 4294967296 * 4294967296 := EI om om
 have d9 : wadd .u64 ((Q / 4294967296 + P % 4294967296) % 4294967296 * 4294967296) (Q % 4294967296) = (Q / 4294967296 + P % 4294967296) % 4294967296 * 4294967296 + Q % 4294967296 := DY om om
 refine ⟨P / 4294967296 + (Q / 4294967296 + P % 4294967296) / 4294967296, (Q / 4294967296 + P % 4294967296) % 4294967296 * 4294967296 + Q % 4294967296, ?_, ?_, by omega, by omega, by omega⟩
 · rw [Fi, a1, a2, a3, a4, b1, b2, b3, b4, c1, c2, c3, c4, c5, c6, d1, d2, d3, d4, d5, d6, d7, d8, d9]
 · rw [hxb]; omega
theorem JC (K : Nat) {a : Int} (ha : i64 a) : DB K a = some (bif ilt a 0 then -a else a) := by
 unfold i64 at ha
 rw [DB]
 cases h : ilt a 0
 · have := Ad.1 h
   have e : wconv .u64 a = a := by
    show IntKind.u64.wrap a = _
    simp [IntKind.wrap, IntKind.signed, IntKind.bits]; omega
   rw [e]; rfl
 · have := Ae.1 h
   have e1 : wadd .i64 a 1 = a + 1 := Ej (by unfold i64; omega)
   have e2 : wneg .i64 (a + 1) = -(a + 1) := by
    show IntKind.i64.wrap (0 - (a + 1)) = _
    rw [IntKind.wrap_i64]; omega
   have e3 : wconv .u64 (-(a + 1)) = -(a + 1) := by
    show IntKind.u64.wrap _ = _
    simp [IntKind.wrap, IntKind.signed, IntKind.bits]; omega
   have e4 : wadd .u64 (-(a + 1)) 1 = -a := by rw [DY om om]; omega
   rw [e1, e2, e3, e4]; rfl
def Ce (a b : Int) : Int × Bool := bif AB (a * b) then (a * b, true) else (0, false)
theorem KN (K : Nat) {a b : Int} (ha : i64 a) (hb : 1 ≤ b) (hb2 : b ≤ 1000) : ES K a b = some (Ce a b) := by
 have hb0 : ilt b 0 = false := Ad.2 om
 have h175 : DB K b = some b := by rw [JC K (by unfold i64; omega), hb0]; rfl
 have hconv : ∀ n : Int, 0 ≤ n → n ≤ 9223372036854775807 → wconv .i64 n = n := fun n h1 h2 => by
  show IntKind.i64.wrap n = _
  rw [IntKind.wrap_i64]; omega
 rw [ES, JC K ha, h175, Ce, hb0]
 unfold i64 at ha
 cases h : ilt a 0
 · have hn := Ad.1 h
   obtain ⟨hi, lo, e, h1, h2, h3, h4⟩ := HS K hn om hb hb2
   simp only [bS, cF, e]
   cases c1 : ilt 0 hi
   · have c1' := Ad.1 c1
     cases c2 : ilt 9223372036854775808 lo
     · have c2' := Ad.1 c2
       cases c3 : ieq lo 9223372036854775808
       · have c3' := Ao.1 c3
         have hf : AB (a * b) = true := BG.2 (by unfold i64; omega)
         have : lo = a * b := by omega
         rw [hf, hconv lo h2 om, this]; rfl
       · have c3' := Al.1 c3
         have hf : AB (a * b) = false := CI.2 om
         rw [hf]; rfl
     · have c2' := Ae.1 c2
       have hf : AB (a * b) = false := CI.2 om
       rw [hf]; rfl
   · have c1' := Ae.1 c1
     have hf : AB (a * b) = false := CI.2 om
     rw [hf]; rfl
 · have hn := Ae.1 h
   obtain ⟨hi, lo, e, h1, h2, h3, h4⟩ := HS K (x := -a) om om hb hb2
   rw [Int.neg_mul] at h1
   simp only [bS, cT, e]
   cases c1 : ilt 0 hi
   · have c1' := Ad.1 c1
     cases c2 : ilt 9223372036854775808 lo
     · have c2' := Ad.1 c2
       cases c3 : ieq lo 9223372036854775808
       · have c3' := Ao.1 c3
         have hf : AB (a * b) = true := BG.2 (by unfold i64; omega)
         have hw : wneg .i64 lo = a * b := by
          show IntKind.i64.wrap (0 - lo) = _
          rw [IntKind.wrap_i64]; omega
         rw [hf, hconv lo h2 om, hw]; rfl
       · have c3' := Al.1 c3
         have hf : AB (a * b) = true := BG.2 (by unfold i64; omega)
         have : a * b = -9223372036854775808 := by omega
         rw [hf, this]; rfl
     · have c2' := Ae.1 c2
       have hf : AB (a * b) = false := CI.2 om
       rw [hf]; rfl
   · have c1' := Ae.1 c1
     have hf : AB (a * b) = false := CI.2 om
     rw [hf]; rfl
theorem E3 {a d : Int} (ha : i64 a) (hd : 1 ≤ d) : wquo .i64 a d = a.tdiv d ∧ i64 (a.tdiv d) := by
 unfold i64 at ha
 have h1 : (a.tdiv d).natAbs ≤ a.natAbs := Int.natAbs_tdiv_le_natAbs a d
 have h2 : -9223372036854775808 ≤ a.tdiv d ∧ a.tdiv d ≤ 9223372036854775808 := by omega
 have h3 : 0 ≤ a → 0 ≤ a.tdiv d := fun h => Int.tdiv_nonneg h om
 have h4 : a ≤ 0 → a.tdiv d ≤ 0 := fun h => by
  have := Int.tdiv_nonneg (show 0 ≤ -a by omega) (show 0 ≤ d by omega)
  rw [Int.neg_tdiv] at this; omega
 have h5 : i64 (a.tdiv d) := by
  unfold i64
  rcases Int.le_total 0 a with h | h
  · have := h3 h; omega
  · have := h4 h; omega
 refine ⟨?_, h5⟩
 unfold i64 at h5
 show IntKind.i64.wrap (a.tdiv d) = _
 rw [IntKind.wrap_i64]; omega
theorem OO (K : Nat) {a b : Int} (ha : i64 a) (hb : 1 ≤ b) (hb2 : b ≤ 1000) : Gg K a b = some (Ce a b) := by
 unfold i64 at ha
 rw [Gg, Ce, Ao.2 (by omega : b ≠ 0), Ao.2 (by omega : b ≠ -1)]
 cases h0 : ieq a 0
 · have h0' := Ao.1 h0
   cases h1 : ieq a (-1)
   · have hz : izero b = false := decide_eq_false om
     simp only [cF, hz]
     obtain ⟨t, ht⟩ : ∃ t, a * b = t := ⟨_, rfl⟩
     obtain ⟨p, hp⟩ : ∃ p, wmul .i64 a b = p := ⟨_, rfl⟩
     have hp' : p = if 9223372036854775808 ≤ t % 18446744073709551616 then t % 18446744073709551616 - 18446744073709551616 else t % 18446744073709551616 := by
      rw [← hp, ← ht]
      show IntKind.i64.wrap (a * b) = _
      rw [IntKind.wrap_i64, ht]
      split <;> omega
     have hpr : -9223372036854775808 ≤ p ∧ p ≤ 9223372036854775807 := by rw [hp']; split <;> omega
     obtain ⟨q, hq⟩ : ∃ q, p.tdiv b = q := ⟨_, rfl⟩
     obtain ⟨r, hr⟩ : ∃ r, p.tmod b = r := ⟨_, rfl⟩
     have hdiv : b * q + r = p := by rw [← hq, ← hr]; exact Int.mul_tdiv_add_tmod p b
     have hrb : -1000 < r ∧ r < 1000 := by
      have h1 := Int.tmod_lt_of_pos p (show 0 < b by omega)
      have h2 := Int.lt_tmod_of_pos p (show 0 < b by omega)
      omega
     have hqr : -9223372036854775808 ≤ q ∧ q ≤ 9223372036854775807 := by
      have : i64 (p.tdiv b) := (E3 (show i64 p from hpr) hb).2
      unfold i64 at this
      rw [hq] at this; exact this
     have hw : wquo .i64 p b = q := by rw [(E3 (show i64 p from hpr) hb).1, hq]
     rw [hp, hw, ht]
     cases hf : AB t
     · have hf' := CI.1 hf
       have hne : ieq q a = false := Ao.2 fun hc => by
        have hba : b * q = t := by rw [hc, Int.mul_comm]; exact ht
        rw [hba] at hdiv
        have := hp'
        split at this <;> omega
       rw [hne]; rfl
     · have hf' := BG.1 hf
       unfold i64 at hf'
       have hpt : p = t := by rw [hp']; split <;> omega
       have hqa : q = a := by
        rw [← hq, hpt, ← ht]
        exact Int.mul_tdiv_cancel a om
       rw [hqa, Cz, hpt]; rfl
   · have h1' := Al.1 h1
     subst h1'
     have e1 : ieq (-1) (-9223372036854775808) = false := rfl
     have e2 : ieq b (-9223372036854775808) = false := Ao.2 om
     have e3 : AB (-1 * b) = true := BG.2 (by unfold i64; omega)
     have e4 : wmul .i64 (-1) b = -1 * b := Iz (by unfold i64; omega)
     rw [e1, e2, e3, e4]; rfl
 · have h0' := Al.1 h0
   subst h0'
   have e3 : AB (0 * b) = true := BG.2 (by unfold i64; omega)
   rw [e3, Int.zero_mul]; rfl
def Cs (v n d : Int) : Int × Bool := bif ilt d 1 then (0, false) else bif (Ce v n).2 then ((Ce v n).1.tdiv d, true) else (0, false)
theorem Gb {a b : Int} : i64 (Ce a b).1 := by
 rw [Ce]
 cases h : AB (a * b)
 · unfold i64; simp
 · exact BG.1 h
theorem Ji {v n d : Int} : i64 (Cs v n d).1 := by
 have h0 : i64 0 := by unfold i64; omega
 rw [Cs]
 cases hd : ilt d 1
 · cases (Ce v n).2
   · exact h0
   · exact (E3 Gb (Ad.1 hd)).2
 · exact h0
theorem IW (K : Nat) {v n : Int} (d : Int) (hv : i64 v) (hn : 1 ≤ n) (hn2 : n ≤ 1000) : Dr K v n d = some (Cs v n d) := by
 rw [Dr, KN K hv hn hn2, bS, Cs]
 cases hd : ilt d 1
 · have hd' := Ad.1 hd
   have hz : izero d = false := decide_eq_false om
   rw [(E3 (Gb (a := v) (b := n)) hd').1, hz]
   cases (Ce v n).2 <;> rfl
 · cases (Ce v n).2 <;> rfl
theorem K4 (K : Nat) {v n : Int} (d : Int) (hv : i64 v) (hn : 1 ≤ n) (hn2 : n ≤ 1000) : GK K v n d = some (Cs v n d) := by
 rw [GK, OO K hv hn hn2, Cs]
 cases hd : ilt d 1
 · have hd' := Ad.1 hd
   have hz : izero d = false := decide_eq_false om
   rw [cF, cF, bS, (E3 (Gb (a := v) (b := n)) hd').1, hz]
   cases (Ce v n).2 <;> rfl
 · rfl
def Ft (got : Int) : Int × Bool := bif (Cs got 85 100).2 then BE 150000 (Cs got 85 100).1 else (0, false)
theorem FU {a b : Int} : i64 (BE a b).1 := by
 rw [BE]
 cases h : AB (a + b)
 · unfold i64; simp
 · exact BG.1 h
theorem Lw {got : Int} : i64 (Ft got).1 := by
 rw [Ft]
 cases (Cs got 85 100).2
 · unfold i64; simp
 · exact FU
def Ac (g : GGraph) (v : Int) : List GEdge := bif ieq (BN g) 0 then g.Edges.filter (fun e => ieq e.From v) else []
theorem ML (l : List GEdge) (v : Int) : ∀ (s : List GEdge), s.length + l.length ≤ 80 →
 goL (fun x (s : List GEdge) c => bif (ieq x.From v) then (bif (apok (len s) 1 24) then c (appL s [x]) else none) else c s) (fun s => some s) l s = some (s ++ l.filter (fun e => ieq e.From v)) := by
 induction l with
 | nil => intro s _; simp [goL]
 | cons x l ih =>
  intro s hs
  simp only [List.length_cons] at hs
  rw [goL]
  cases hx : ieq x.From v
  · rw [cF, ih s om, List.filter_cons, hx]; rfl
  · have ha : apok (len s) 1 24 = true := decide_eq_true ⟨by show s.length + 1 ≤ _; omega, by show (s.length + 1) * 24 ≤ _; omega⟩
    rw [cT, ha, cT, ih _ (by simp [appL]; omega), List.filter_cons, hx]
    simp [appL]
theorem EQ {K : Nat} (hK : 100 ≤ K) (g : GGraph) (v : Int) : BB K g v = some (Ac g v) := by
 rw [BB, Ib hK, bS, Ac]
 cases hc : ieq (BN g) 0
 · rfl
 · obtain ⟨h1, h2, h3, h4⟩ := B3 hc
   have e : DV K g v K [] 0 = _ := Aq (l := g.Edges) (L := fun k s i => DV K g v k s i) (fun x (s : List GEdge) c => bif (ieq x.From v) then (bif (apok (len s) 1 24) then c (appL s [x]) else none) else c s) (fun s => some s) (fun k s i _ => rfl) om om []
   rw [cT, cT, e, ML _ _ _ (by simpa using h3)]; rfl
theorem C5 {g : GGraph} {v : Int} : (Ac g v).length ≤ 80 := by
 rw [Ac]
 cases hc : ieq (BN g) 0
 · simp
 · obtain ⟨h1, h2, h3, h4⟩ := B3 hc
   exact Nat.le_trans (List.length_filter_le _ _) h3
def B7 (p val : Int) (e : GEdge) (many : Int) : Int × Bool := bif ieq p 1 then BE val e.W else bif ieq p 3 then BE val 1 else bif ieq p 5 then Cs val 1 many else (val, true)
def AA (p val many : Int) : List GEdge → List GMsg → Option (List GMsg)
 | [], s => some s
 | e :: l, s => bif (B7 p val e many).2 then AA p val many l (s ++ [GMsg.mk e.To (B7 p val e many).1]) else none
def CB {α : Type} : Option α → Unit ⊕ α
 | none => .inl ()
 | some s => .inr s
def B9 (rest : Bool) (val : Int) : Option (List GMsg) → Int × List GMsg × Bool × Int
 | none => (0, [], false, 8)
 | some s => (val, s, rest, 0)
theorem Is (rest : Bool) (val : Int) (o : Option (List GMsg)) : (some (CB o)).bind (fun y => Sum.elim (fun w => some ((0, ([], (false, 8))) : Int × List GMsg × Bool × Int)) (fun w => some (val, (w, (rest, 0)))) y) = some (B9 rest val o) := by
 cases o <;> rfl
theorem FH (rest : Bool) (val : Int) (o : Option (List GMsg)) : Sum.elim (fun w => some ((0, ([], (false, 8))) : Int × List GMsg × Bool × Int)) (fun w => some (val, (w, (rest, 0)))) (CB o) = some (B9 rest val o) := by
 cases o <;> rfl
theorem Dm (p val many : Int) (f : GEdge → Option (Int × Bool)) (l : List GEdge) (hf : ∀ e ∈ l, f e = some (B7 p val e many)) : ∀ (s : List GMsg), s.length + l.length ≤ 80 →
 goL (fun e (s : List GMsg) c => (f e).bind fun r => bif r.2 then (bif (apok (len s) 1 16) then c (appL s [(GMsg.mk e.To r.1)]) else none) else some (.inl ())) (fun s => some (.inr s)) l s = some (CB (AA p val many l s)) := by
 induction l with
 | nil => intro s _; rfl
 | cons x l ih =>
  intro s hs
  simp only [List.length_cons] at hs
  rw [goL, hf x List.mem_cons_self, bS, AA]
  cases (B7 p val x many).2
  · rfl
  · have ha : apok (len s) 1 16 = true := decide_eq_true ⟨by show s.length + 1 ≤ _; omega, by show (s.length + 1) * 16 ≤ _; omega⟩
    rw [cT, ha, cT, ih (fun e he => hf e (List.mem_cons_of_mem _ he)) _ (by simp [appL]; omega), cT]; rfl
theorem FW {g : GGraph} {v : Int} {e : GEdge} (h : e ∈ Ac g v) : 0 ≤ e.W ∧ e.W ≤ 4611686018427387904 := by
 rw [Ac] at h
 cases hc : ieq (BN g) 0
 · rw [hc] at h; cases h
 · obtain ⟨h1, h2, h3, h4⟩ := B3 hc
   rw [hc] at h
   have := D6 (Fw h4 e (List.mem_filter.1 h).1)
   omega
theorem NK (K : Nat) {val : Int} {e : GEdge} (many : Int) (hv : i64 val) (he : i64 e.W) : F83 K val e = some (B7 1 val e many) := by
 rw [F83, Fm K hv he]; rfl
theorem Ky (K : Nat) {val : Int} (e : GEdge) (many : Int) (hv : i64 val) : F85 K val e = some (B7 3 val e many) := by
 rw [F85, Fm K hv (by unfold i64; omega)]; rfl
theorem Gq (K : Nat) (p : Int) {val many : Int} {e : GEdge} (hv : i64 val) (he : i64 e.W) : F76 K p val e many = some (B7 p val e many) := by
 rw [F76, B7, IK K hv he, IK K hv (show i64 1 by unfold i64; omega), K4 K many hv (show (1 : Int) ≤ 1 by omega) (show (1 : Int) ≤ 1000 by omega)]
 cases ieq p 1 <;> cases ieq p 3 <;> cases ieq p 5 <;> rfl
def AH (g : GGraph) (v : Int) : Int := nlen (len (Ac g v))
section loops
variable {K : Nat} (hK : 100 ≤ K) (g : GGraph) (v : Int) {val : Int} (hv : i64 val)
include hK hv
theorem Hf (b : Bool) : Ca K val b (Ac g v) K [] 0 = some (CB (AA 1 val (AH g v) (Ac g v) [])) := by
 have hl := C5 (g := g) (v := v)
 have e := Aq (l := Ac g v) (L := fun k s i => Ca K val b (Ac g v) k s i) (fun e (s : List GMsg) c => (F83 K val e).bind fun r => bif r.2 then (bif (apok (len s) 1 16) then c (appL s [(GMsg.mk e.To r.1)]) else none) else some (.inl ())) (fun s => some (.inr s)) (fun k s i _ => rfl) (K := K) om om []
 exact e.trans (Dm 1 val (AH g v) (F83 K val) _ (fun e he => NK K _ hv (by have := FW he; unfold i64; omega)) [] (by simpa using hl))
theorem Il (b : Bool) : Cl K val b (Ac g v) K [] 0 = some (CB (AA 3 val (AH g v) (Ac g v) [])) := by
 have hl := C5 (g := g) (v := v)
 have e := Aq (l := Ac g v) (L := fun k s i => Cl K val b (Ac g v) k s i) (fun e (s : List GMsg) c => (F85 K val e).bind fun r => bif r.2 then (bif (apok (len s) 1 16) then c (appL s [(GMsg.mk e.To r.1)]) else none) else some (.inl ())) (fun s => some (.inr s)) (fun k s i _ => rfl) (K := K) om om []
 exact e.trans (Dm 3 val (AH g v) (F85 K val) _ (fun e he => Ky K e _ hv) [] (by simpa using hl))
omit hv in
theorem Jf (val : Int) (b : Bool) : B2 K val b (Ac g v) K [] 0 = some (CB (AA 2 val (AH g v) (Ac g v) [])) := by
 have hl := C5 (g := g) (v := v)
 have e := Aq (l := Ac g v) (L := fun k s i => B2 K val b (Ac g v) k s i) (fun e (s : List GMsg) c => (F87 K val e).bind fun r => bif r.2 then (bif (apok (len s) 1 16) then c (appL s [(GMsg.mk e.To r.1)]) else none) else some (.inl ())) (fun s => some (.inr s)) (fun k s i _ => rfl) (K := K) om om []
 exact e.trans (Dm 2 val (AH g v) (F87 K val) _ (fun e he => rfl) [] (by simpa using hl))
omit hv in
theorem G7 (val : Int) (b : Bool) : Cj K val b (Ac g v) K [] 0 = some (CB (AA 4 val (AH g v) (Ac g v) [])) := by
 have hl := C5 (g := g) (v := v)
 have e := Aq (l := Ac g v) (L := fun k s i => Cj K val b (Ac g v) k s i) (fun e (s : List GMsg) c => (F87 K val e).bind fun r => bif r.2 then (bif (apok (len s) 1 16) then c (appL s [(GMsg.mk e.To r.1)]) else none) else some (.inl ())) (fun s => some (.inr s)) (fun k s i _ => rfl) (K := K) om om []
 exact e.trans (Dm 4 val (AH g v) (F87 K val) _ (fun e he => rfl) [] (by simpa using hl))
theorem JB : DU K (Ac g v) val K [] 0 = some (CB (AA 5 val (AH g v) (Ac g v) [])) := by
 have hl := C5 (g := g) (v := v)
 have e := Aq (l := Ac g v) (L := fun k s i => DU K (Ac g v) val k s i) (fun e (s : List GMsg) c => (Dr K val 1 (nlen (len (Ac g v)))).bind fun r => bif r.2 then (bif (apok (len s) 1 16) then c (appL s [(GMsg.mk e.To r.1)]) else none) else some (.inl ())) (fun s => some (.inr s)) (fun k s i _ => rfl) (K := K) om om []
 exact e.trans (Dm 5 val (AH g v) (fun _ => Dr K val 1 (nlen (len (Ac g v)))) _ (fun e he => IW K _ hv om om) [] (by simpa using hl))
theorem Pz (p a b c : Int) : GV K val p a b c (Ac g v) K [] 0 = some (CB (AA p val (AH g v) (Ac g v) [])) := by
 have hl := C5 (g := g) (v := v)
 have e := Aq (l := Ac g v) (L := fun k s i => GV K val p a b c (Ac g v) k s i) (fun e (s : List GMsg) c => (F76 K p val e (nlen (len (Ac g v)))).bind fun r => bif r.2 then (bif (apok (len s) 1 16) then c (appL s [(GMsg.mk e.To r.1)]) else none) else some (.inl ())) (fun s => some (.inr s)) (fun k s i _ => rfl) (K := K) om om []
 exact e.trans (Dm p val (AH g v) (fun e => F76 K p val e (nlen (len (Ac g v)))) _ (fun e he => Gq K p hv (by have := FW he; unfold i64; omega)) [] (by simpa using hl))
theorem Px (p a b c : Int) (m : Bool) : FQ K val p a b c m (Ac g v) K [] 0 = some (bif m then CB (AA p val (AH g v) (Ac g v) []) else .inr []) := by
 have hl := C5 (g := g) (v := v)
 cases m
 · obtain ⟨k, rfl⟩ : ∃ k, K = k + 1 := ⟨K - 1, by omega⟩
   rw [FQ]
   cases ilt 0 (nlen (len (Ac g v))) <;> rfl
 · have e := Aq (l := Ac g v) (L := fun k s i => FQ K val p a b c true (Ac g v) k s i) (fun e (s : List GMsg) c => (F76 K p val e (nlen (len (Ac g v)))).bind fun r => bif r.2 then (bif (apok (len s) 1 16) then c (appL s [(GMsg.mk e.To r.1)]) else none) else some (.inl ())) (fun s => some (.inr s)) (fun k s i _ => rfl) (K := K) om om []
   exact e.trans (Dm p val (AH g v) (fun e => F76 K p val e (nlen (len (Ac g v)))) _ (fun e he => Gq K p hv (by have := FW he; unfold i64; omega)) [] (by simpa using hl))
theorem Py (p a b c : Int) (m : Bool) : F0 K val p a b c m (Ac g v) K [] 0 = some (bif m then CB (AA p val (AH g v) (Ac g v) []) else .inr []) := by
 have hl := C5 (g := g) (v := v)
 cases m
 · obtain ⟨k, rfl⟩ : ∃ k, K = k + 1 := ⟨K - 1, by omega⟩
   rw [F0]
   cases ilt 0 (nlen (len (Ac g v))) <;> rfl
 · have e := Aq (l := Ac g v) (L := fun k s i => F0 K val p a b c true (Ac g v) k s i) (fun e (s : List GMsg) c => (F76 K p val e (nlen (len (Ac g v)))).bind fun r => bif r.2 then (bif (apok (len s) 1 16) then c (appL s [(GMsg.mk e.To r.1)]) else none) else some (.inl ())) (fun s => some (.inr s)) (fun k s i _ => rfl) (K := K) om om []
   exact e.trans (Dm p val (AH g v) (fun e => F76 K p val e (nlen (len (Ac g v)))) _ (fun e he => Gq K p hv (by have := FW he; unfold i64; omega)) [] (by simpa using hl))
omit hv in
theorem Pw (val p a b c : Int) : Gu K val p a b c (Ac g v) K [] 0 = some (.inl []) := by
 obtain ⟨k, rfl⟩ : ∃ k, K = k + 1 := ⟨K - 1, by omega⟩
 rw [Gu, Cz]
 cases ilt 0 (nlen (len (Ac g v))) <;> rfl
end loops
def Dn (step val got : Int) (sm : Bool) : Int × Bool := bif ilt 0 step then Ft (bif sm then got else 0) else (val, true)
def DO (step : Int) (w : Int × Bool) (many : Int) (l : List GEdge) : Int × List GMsg × Bool × Int :=
 bif w.2 then (bif ile 10 step then (w.1, [], true, 0) else B9 false w.1 (AA 5 w.1 many l [])) else (0, [], false, 8)
def Cy (p val got : Int) (sm : Bool) : Int := bif sm then (Aw p val got).1 else val
def Dh (p src step v val w : Int) : Bool := bif ieq step 0 && (bif ieq p 1 || ieq p 3 then ieq v src else true) then true else ine w val
def CW (p : Int) (m : Bool) (w many : Int) (l : List GEdge) : Int × List GMsg × Bool × Int :=
 bif m then B9 true w (AA p w many l []) else (w, [], true, 0)
def Az (g : GGraph) (j : GJob) (step v val got : Int) (sm : Bool) : Int × List GMsg × Bool × Int :=
 bif ieq (Ah g j) 0 then
  (bif ilt v 0 then (0, [], false, 4) else bif ile g.N v then (0, [], false, 4)
   else bif ilt step 0 then (0, [], false, 1) else bif ilt 40 step then (0, [], false, 1)
   else bif ieq j.Prog 5 then DO step (Dn step val got sm) (AH g v) (Ac g v)
   else CW j.Prog (Dh j.Prog j.Source step v val (Cy j.Prog val got sm)) (Cy j.Prog val got sm) (AH g v) (Ac g v))
 else (0, [], false, Ah g j)
theorem HE {K : Nat} (hK : 100 ≤ K) (g : GGraph) (v step : Int) {val got : Int} (hv : i64 val) (hg : i64 got) : Dk K (Ac g v) step val got = some (DO step (Dn step val got true) (AH g v) (Ac g v)) := by
 rw [Dk, IW K 100 hg om om, bS, Fm K (by unfold i64; omega) Ji, Dn, DO]
 cases hs : ilt 0 step
 · rw [JB hK g v hv, Is]
   cases ile 10 step <;> rfl
 · rw [cT, cT, bS, cT, Ft]
   cases (Cs got 85 100).2
   · rfl
   · cases h2 : (BE 150000 (Cs got 85 100).1).2
     · rw [cT, cT, h2]; rfl
     · rw [cT, cT, cT, h2, cT, JB hK g v FU, Is]
       cases ile 10 step <;> rfl
theorem Kq {K : Nat} (hK : 100 ≤ K) (g : GGraph) (j : GJob) (step v : Int) {val got : Int} (sm : Bool) (hv : i64 val) (hg : i64 got) : F93 K g j step v val got sm = some (Az g j step v val got sm) := by
 rw [F93, DG hK, bS, Az]
 cases hc : ieq (Ah g j) 0
 · rfl
 · obtain ⟨hgc, p1, p2, p3, p4, p5, p6, p7, p8⟩ := Cp hc
   rw [cT, cT]
   cases h1 : ilt v 0
   · cases h2 : ile g.N v
     · cases h3 : ilt step 0
       · cases h4 : ilt 40 step
         · simp only [cF]
           rcases GG j.Prog with q | q | q | q | q | q
           · have e5 : ieq 1 5 = false := rfl
             have e4 : ieq 1 4 = false := rfl
             have e1 : ieq 1 1 = true := rfl
             have e3 : ieq 1 3 = false := rfl
             have eb : An 1 = false := rfl
             rw [EQ hK, q, GT, Dh, Cy, Aw, e5, e4, e1, e3, eb, CW]
             simp only [bS, cT, cF, Bn, AY, A7, Bb, Bv, Bd, Bj, A9, Bh, Bt, A3, Bf, A1, A0, AX, Bs, AQ, AZ, Ba, AS, Bm, Bp, AU, A4, Bo, A8, Bc, A6, AW, Bu, A5, Bi, Be, Bq, Bk, Br, Hf hK g v hv, Hf hK g v hg, F82, FH, Bool.or_true, Bool.true_or, Bool.or_false, Bool.and_true]
             cases sm
             · have : ine val val = false := ine_t (Cz val)
               simp only [cF, this]
               cases ieq step 0 <;> cases ieq v j.Source <;> rfl
             · cases hb : ilt got val
               · have : ine val val = false := ine_t (Cz val)
                 simp only [cT, cF, this]
                 cases ieq step 0 <;> cases ieq v j.Source <;> rfl
               · have : ine got val = true := ine_f (Ao.2 (by have := Ae.1 hb; omega))
                 simp only [cT, cF, this]
                 cases ieq step 0 <;> cases ieq v j.Source <;> rfl
           · have e5 : ieq 2 5 = false := rfl
             have e4 : ieq 2 4 = false := rfl
             have e1 : ieq 2 1 = false := rfl
             have e3 : ieq 2 3 = false := rfl
             have eb : An 2 = false := rfl
             rw [EQ hK, q, GF, Dh, Cy, Aw, e5, e4, e1, e3, eb, CW]
             simp only [bS, cT, cF, Bn, AY, A7, Bb, Bv, Bd, Bj, A9, Bh, Bt, A3, Bf, A1, A0, AX, Bs, AQ, AZ, Ba, AS, Bm, Bp, AU, A4, Bo, A8, Bc, A6, AW, Bu, A5, Bi, Be, Bq, Bk, Br, Jf hK g v val, Jf hK g v got, F82, FH, Bool.or_true, Bool.true_or, Bool.or_false, Bool.and_true]
             cases sm
             · have : ine val val = false := ine_t (Cz val)
               simp only [cF, this]
               cases ieq step 0 <;> rfl
             · cases hb : ilt got val
               · have : ine val val = false := ine_t (Cz val)
                 simp only [cT, cF, this]
                 cases ieq step 0 <;> rfl
               · have : ine got val = true := ine_f (Ao.2 (by have := Ae.1 hb; omega))
                 simp only [cT, cF, this]
                 cases ieq step 0 <;> rfl
           · have e5 : ieq 3 5 = false := rfl
             have e4 : ieq 3 4 = false := rfl
             have e1 : ieq 3 1 = false := rfl
             have e3 : ieq 3 3 = true := rfl
             have eb : An 3 = false := rfl
             rw [EQ hK, q, Gc, Dh, Cy, Aw, e5, e4, e1, e3, eb, CW]
             simp only [bS, cT, cF, Bn, AY, A7, Bb, Bv, Bd, Bj, A9, Bh, Bt, A3, Bf, A1, A0, AX, Bs, AQ, AZ, Ba, AS, Bm, Bp, AU, A4, Bo, A8, Bc, A6, AW, Bu, A5, Bi, Be, Bq, Bk, Br, Il hK g v hv, Il hK g v hg, F82, FH, Bool.or_true, Bool.true_or, Bool.or_false, Bool.and_true]
             cases sm
             · have : ine val val = false := ine_t (Cz val)
               simp only [cF, this]
               cases ieq step 0 <;> cases ieq v j.Source <;> rfl
             · cases hb : ilt got val
               · have : ine val val = false := ine_t (Cz val)
                 simp only [cT, cF, this]
                 cases ieq step 0 <;> cases ieq v j.Source <;> rfl
               · have : ine got val = true := ine_f (Ao.2 (by have := Ae.1 hb; omega))
                 simp only [cT, cF, this]
                 cases ieq step 0 <;> cases ieq v j.Source <;> rfl
           · have e5 : ieq 4 5 = false := rfl
             have e4 : ieq 4 4 = true := rfl
             have e1 : ieq 4 1 = false := rfl
             have e3 : ieq 4 3 = false := rfl
             have eb : An 4 = false := rfl
             rw [EQ hK, q, GB, Dh, Cy, Aw, e5, e4, e1, e3, eb, CW]
             simp only [bS, cT, cF, Bn, AY, A7, Bb, Bv, Bd, Bj, A9, Bh, Bt, A3, Bf, A1, A0, AX, Bs, AQ, AZ, Ba, AS, Bm, Bp, AU, A4, Bo, A8, Bc, A6, AW, Bu, A5, Bi, Be, Bq, Bk, Br, G7 hK g v val, G7 hK g v got, F89, igt, FH, Bool.or_true, Bool.true_or, Bool.or_false, Bool.and_true]
             have hd : decide (got > val) = ilt val got := rfl
             rw [hd]
             cases sm
             · have : ine val val = false := ine_t (Cz val)
               simp only [cF, this]
               cases ieq step 0 <;> rfl
             · cases hb : ilt val got
               · have : ine val val = false := ine_t (Cz val)
                 simp only [cT, cF, this]
                 cases ieq step 0 <;> rfl
               · have : ine got val = true := ine_f (Ao.2 (by have := Ae.1 hb; omega))
                 simp only [cT, cF, this]
                 cases ieq step 0 <;> rfl
           · have e5 : ieq 5 5 = true := rfl
             rw [EQ hK, q, Gy, e5]
             simp only [bS, cT, cF, Bn, AY, A7, Bb, Bv, Bd, Bj, A9, Bh, Bt, A3, Bf, A1, A0, AX, Bs, AQ, AZ, Ba, AS, Bm, Bp, AU, A4, Bo, A8, Bc, A6, AW, Bu, A5, Bi, Be, Bq, Bk, Br, HE hK g v step hv hg, HE hK g v step hv (show i64 0 by unfold i64; omega)]
             cases sm <;> rfl
           · omega
         · rfl
       · rfl
     · rfl
   · rfl
theorem Ij {p val many : Int} : ∀ {l : List GEdge} {s r : List GMsg}, AA p val many l s = some r → r.map (·.To) = s.map (·.To) ++ l.map (·.To)
 | [], s, r, h => by injection h with h; subst h; simp
 | e :: l, s, r, h => by
  rw [AA] at h
  cases hq : (B7 p val e many).2
  · rw [hq] at h; cases h
  · rw [hq, cT] at h
    rw [Ij h]; simp
theorem H6 {g : GGraph} {j : GJob} {step v val got : Int} {sm : Bool} (h : ieq (Az g j step v val got sm).2.2.2 0 = true) :
 (Az g j step v val got sm).2.1 = [] ∨ ((Az g j step v val got sm).2.1.map (·.To) = (Ac g v).map (·.To)) := by
 have hs : ∀ (b : Bool) (w : Int) (p : Int), (B9 b w (AA p w (AH g v) (Ac g v) [])).2.1 = [] ∨ (B9 b w (AA p w (AH g v) (Ac g v) [])).2.1.map (·.To) = (Ac g v).map (·.To) := fun b w p => by
  cases hq : AA p w (AH g v) (Ac g v) []
  · left; rfl
  · right; have := Ij hq; simpa [B9] using this
 rw [Az]
 cases ieq (Ah g j) 0
 · left; rfl
 · cases ilt v 0
   · cases ile g.N v
     · cases ilt step 0
       · cases ilt 40 step
         · simp only [cT, cF]
           cases ieq j.Prog 5
           · rw [cF, CW]
             cases Dh j.Prog j.Source step v val (Cy j.Prog val got sm)
             · left; rfl
             · exact hs _ _ _
           · rw [cT, DO]
             cases (Dn step val got sm).2
             · left; rfl
             · cases ile 10 step
               · exact hs _ _ _
               · left; rfl
         · left; rfl
       · left; rfl
     · left; rfl
   · left; rfl
theorem IY {g : GGraph} {j : GJob} {step v val got : Int} {sm : Bool} (h : ieq (Az g j step v val got sm).2.2.2 0 = false) : (Az g j step v val got sm).1 = 0 ∧ (Az g j step v val got sm).2.1 = [] := by
 have hs : ∀ (b : Bool) (w : Int) (o : Option (List GMsg)), ieq (B9 b w o).2.2.2 0 = false → (B9 b w o).1 = 0 ∧ (B9 b w o).2.1 = [] := fun b w o => by
  cases o
  · intro _; exact ⟨rfl, rfl⟩
  · intro h; cases h
 rw [Az] at h ⊢
 cases hc : ieq (Ah g j) 0
 · exact ⟨rfl, rfl⟩
 · rw [hc] at h
   cases h1 : ilt v 0
   · cases h2 : ile g.N v
     · cases h3 : ilt step 0
       · cases h4 : ilt 40 step
         · rw [h1, h2, h3, h4] at h
           simp only [cT, cF] at h ⊢
           cases h5 : ieq j.Prog 5
           · rw [h5, cF, CW] at h
             rw [cF, CW]
             cases hm : Dh j.Prog j.Source step v val (Cy j.Prog val got sm)
             · rw [hm] at h; cases h
             · rw [hm] at h; exact hs _ _ _ h
           · rw [h5, cT, DO] at h
             rw [cT, DO]
             cases hw : (Dn step val got sm).2
             · exact ⟨rfl, rfl⟩
             · rw [hw] at h
               cases h10 : ile 10 step
               · rw [h10] at h; exact hs _ _ _ h
               · rw [h10] at h; cases h
         · exact ⟨rfl, rfl⟩
       · exact ⟨rfl, rfl⟩
     · exact ⟨rfl, rfl⟩
   · exact ⟨rfl, rfl⟩
theorem Ob {g : GGraph} {j : GJob} {step v val got : Int} {sm : Bool} : (Az g j step v val got sm).2.1.length ≤ 80 := by
 have ho := C5 (g := g) (v := v)
 cases h : ieq (Az g j step v val got sm).2.2.2 0
 · rw [(IY h).2]; simp
 · rcases H6 h with hz | hz
   · rw [hz]; simp
   · have := congrArg List.length hz
     simp only [List.length_map] at this
     omega
abbrev Tri := List Int × List Bool × List GMsg
theorem Ng {p val many : Int} {e : GEdge} (hv : i64 val) : i64 (B7 p val e many).1 := by
 rw [B7]
 cases ieq p 1
 · cases ieq p 3
   · cases ieq p 5
     · exact hv
     · exact Ji
   · exact FU
 · exact FU
theorem IP {p val many : Int} (hv : i64 val) : ∀ {l : List GEdge} {s r : List GMsg}, (∀ m ∈ s, i64 m.V) → AA p val many l s = some r → ∀ m ∈ r, i64 m.V
 | [], s, r, hs, h => by injection h with h; subst h; exact hs
 | e :: l, s, r, hs, h => by
  rw [AA] at h
  cases hq : (B7 p val e many).2
  · rw [hq] at h; cases h
  · rw [hq, cT] at h
    refine IP hv (fun m hm => ?_) h
    rcases List.mem_append.1 hm with hm | hm
    · exact hs m hm
    · rw [List.mem_singleton.1 hm]; exact Ng hv
theorem G4 {p w many : Int} {b : Bool} {l : List GEdge} (hw : i64 w) : i64 (B9 b w (AA p w many l [])).1 ∧ ∀ m ∈ (B9 b w (AA p w many l [])).2.1, i64 m.V := by
 have h0 : i64 0 := by unfold i64; omega
 cases hq : AA p w many l []
 · exact ⟨h0, fun m hm => absurd hm (List.not_mem_nil)⟩
 · exact ⟨hw, IP hw (fun m hm => absurd hm (List.not_mem_nil)) hq⟩
theorem M2 {g : GGraph} {j : GJob} {step v val got : Int} {sm : Bool} (hv : i64 val) (hg : i64 got) : i64 (Az g j step v val got sm).1 ∧ ∀ m ∈ (Az g j step v val got sm).2.1, i64 m.V := by
 have h0 : i64 0 := by unfold i64; omega
 have hn : ∀ m ∈ ([] : List GMsg), i64 m.V := fun m hm => absurd hm (List.not_mem_nil)
 rw [Az]
 cases ieq (Ah g j) 0
 · exact ⟨h0, hn⟩
 · cases ilt v 0
   · cases ile g.N v
     · cases ilt step 0
       · cases ilt 40 step
         · simp only [cT, cF]
           cases ieq j.Prog 5
           · have hw : i64 (Cy j.Prog val got sm) := by
              rw [Cy]
              cases sm
              · exact hv
              · exact Gm hv hg
             rw [cF, CW]
             cases Dh j.Prog j.Source step v val (Cy j.Prog val got sm)
             · exact ⟨hw, hn⟩
             · exact G4 hw
           · have hw : i64 (Dn step val got sm).1 := by
              rw [Dn]
              cases ilt 0 step
              · exact hv
              · exact Lw
             rw [cT, DO]
             cases (Dn step val got sm).2
             · exact ⟨h0, hn⟩
             · cases ile 10 step
               · exact G4 hw
               · exact ⟨hw, hn⟩
         · exact ⟨h0, hn⟩
       · exact ⟨h0, hn⟩
     · exact ⟨h0, hn⟩
   · exact ⟨h0, hn⟩
theorem Kx {α : Type} {l : List α} {i : Nat} (h : i < l.length) (d : α) : inr (i : Int) (len l) = true ∧ elAt l (i : Int) = some (l.getD i d) := by
 refine ⟨decide_eq_true ⟨by omega, by show (i : Int) < (l.length : Int); omega⟩, ?_⟩
 rw [BD, List.getElem?_eq_getElem h, List.getD_eq_getElem?_getD, List.getElem?_eq_getElem h]; rfl
theorem GP (p : Int) : ∀ (r : List GMsg) (c : GMsg) (d w : List GMsg), Ct p r c d = .inr w → (∀ x ∈ r, c.To ≤ x.To) → r.Pairwise (fun a b => a.To ≤ b.To) → (d ++ [c]).Pairwise (fun a b => a.To < b.To) →
 w.Pairwise (fun a b => a.To < b.To) ∧ ∀ t ∈ w, ∃ s ∈ d ++ c :: r, s.To = t.To
 | [], c, d, w, h, _, _, hd => by
  injection h with h
  subst h
  exact ⟨hd, fun t ht => ⟨t, ht, rfl⟩⟩
 | x :: r, c, d, w, h, hc, hr, hd => by
  rw [Ct] at h
  obtain ⟨hx, hr'⟩ := List.pairwise_cons.1 hr
  cases h1 : ieq c.To x.To
  · rw [h1, cF] at h
    have hne := Ao.1 h1
    have hlt := hc x List.mem_cons_self
    obtain ⟨q1, q2⟩ := GP p r x (d ++ [c]) w h hx hr' (by
     refine List.pairwise_append.2 ⟨hd, List.pairwise_singleton _ _, fun u hu v hv => ?_⟩
     rw [List.mem_singleton.1 hv]
     rcases List.mem_append.1 hu with hu | hu
     · have := (List.pairwise_append.1 hd).2.2 u hu c (List.mem_singleton.2 rfl); omega
     · rw [List.mem_singleton.1 hu]; omega)
    exact ⟨q1, fun t ht => by
     obtain ⟨s, hs, e⟩ := q2 t ht
     exact ⟨s, by simpa using hs, e⟩⟩
  · rw [h1, cT] at h
    cases h2 : ieq (Aw p c.V x.V).2 0
    · rw [h2] at h; cases h
    · rw [h2, cT] at h
      obtain ⟨q1, q2⟩ := GP p r (GMsg.mk c.To (Aw p c.V x.V).1) d w h (fun y hy => hc y (List.mem_cons_of_mem _ hy)) hr' (by
       obtain ⟨a, b, e⟩ := List.pairwise_append.1 hd
       exact List.pairwise_append.2 ⟨a, List.pairwise_singleton _ _, fun u hu v hv => by rw [List.mem_singleton.1 hv]; exact e u hu c (List.mem_singleton.2 rfl)⟩)
      refine ⟨q1, fun t ht => ?_⟩
      obtain ⟨s, hs, e⟩ := q2 t ht
      rcases List.mem_append.1 hs with hs | hs
      · exact ⟨s, List.mem_append_left _ hs, e⟩
      · rcases List.mem_cons.1 hs with rfl | hs
        · exact ⟨c, List.mem_append_right _ List.mem_cons_self, e⟩
        · exact ⟨s, List.mem_append_right _ (List.mem_cons_of_mem _ (List.mem_cons_of_mem _ hs)), e⟩
theorem It {p : Int} {l : List GMsg} : (Ak p l).1.Pairwise (fun a b => a.To < b.To) ∧ ∀ t ∈ (Ak p l).1, ∃ s ∈ l, s.To = t.To := by
 have hn : (([] : List GMsg).Pairwise (fun a b => a.To < b.To)) ∧ ∀ t ∈ ([] : List GMsg), ∃ s ∈ l, s.To = t.To := ⟨List.Pairwise.nil, fun t ht => absurd ht List.not_mem_nil⟩
 have hp := CA l
 have hs : (Ap l).Pairwise (fun a b => a.To ≤ b.To) := (EU l).imp fun {a b} h => by have := E6.1 h; omega
 rw [Ak]
 cases An p
 · rw [cF]
   generalize Ap l = m at *
   cases m with
   | nil => exact hn
   | cons x r =>
    rw [EP]
    cases hq : Ct p r x [] with
    | inl e => exact hn
    | inr w =>
     obtain ⟨h1, h2⟩ := List.pairwise_cons.1 hs
     obtain ⟨q1, q2⟩ := GP p r x [] w hq h1 h2 (List.pairwise_singleton _ _)
     exact ⟨q1, fun t ht => by
      obtain ⟨s, hs, e⟩ := q2 t ht
      exact ⟨s, hp.mem_iff.1 hs, e⟩⟩
 · exact hn
theorem NV {g : GGraph} {v : Int} {e : GEdge} (h : e ∈ Ac g v) : 0 ≤ e.To ∧ e.To < g.N := by
 rw [Ac] at h
 cases hc : ieq (BN g) 0
 · rw [hc] at h; cases h
 · obtain ⟨h1, h2, h3, h4⟩ := B3 hc
   rw [hc] at h
   have := D6 (Fw h4 e (List.mem_filter.1 h).1)
   omega
theorem KD {g : GGraph} {j : GJob} {step v val got : Int} {sm : Bool} : ∀ m ∈ (Az g j step v val got sm).2.1, 0 ≤ m.To ∧ m.To < g.N := by
 intro m hm
 cases h : ieq (Az g j step v val got sm).2.2.2 0
 · rw [(IY h).2] at hm; exact absurd hm List.not_mem_nil
 · rcases H6 h with hz | hz
   · rw [hz] at hm; exact absurd hm List.not_mem_nil
   · have : m.To ∈ (Az g j step v val got sm).2.1.map (·.To) := List.mem_map.2 ⟨m, hm, rfl⟩
     rw [hz] at this
     obtain ⟨e, he, q⟩ := List.mem_map.1 this
     rw [← q]; exact NV he
def AC (g : GGraph) (j : GJob) (x : GPart) (i v : Nat) : Int × List GMsg × Bool × Int :=
 bif x.Rest.getD i false && !(atS x.In (v : Int)).2 then (x.Vals.getD i 0, [], true, 0)
 else Az g j x.Step (v : Int) (x.Vals.getD i 0) (atS x.In (v : Int)).1 (atS x.In (v : Int)).2
def doA (g : GGraph) (j : GJob) (x : GPart) : List Nat → Nat → List Int → List Bool → List GMsg → Int ⊕ Tri
 | [], _, a, b, c => .inr (a, b, c)
 | v :: l, i, a, b, c => bif ieq (AC g j x i v).2.2.2 0 then doA g j x l (i + 1) (a ++ [(AC g j x i v).1]) (b ++ [(AC g j x i v).2.2.1]) (c ++ (AC g j x i v).2.1) else .inl (AC g j x i v).2.2.2
def toS (j : GJob) (c : List GMsg) (q : Int) : List GMsg := c.filter fun m => ieq (AM j m.To) q
def CJ (j : GJob) (c : List GMsg) : List Nat → List (List GMsg) → Int ⊕ List (List GMsg)
 | [], d => .inr d
 | q :: l, d => bif ieq (Ak j.Prog (toS j c (q : Int))).2 0 then CJ j c l (d ++ [(Ak j.Prog (toS j c (q : Int))).1]) else .inl (Ak j.Prog (toS j c (q : Int))).2
abbrev Did := GPart × List (List GMsg) × Int
def doC (x : GPart) (w : Tri) : Int ⊕ List (List GMsg) → Did
 | .inl e => (BH, [], e)
 | .inr t => (GPart.mk x.P (x.Step + 1) w.1 w.2.1 [], t, 0)
def doB (j : GJob) (x : GPart) : Int ⊕ Tri → Did
 | .inl e => (BH, [], e)
 | .inr w => doC x w (CJ j w.2.2 (List.range j.Parts.toNat) [])
def doS (g : GGraph) (j : GJob) (x : GPart) : Did :=
 bif ieq (Ah g j) 0 then (bif As g j x then (bif ieq x.Step 40 then (BH, [], 6) else doB j x (doA g j x (Ar g j x.P) 0 [] [] [])) else (BH, [], 1)) else (BH, [], Ah g j)
def AE (x : GPart) : Prop := (∀ v ∈ x.Vals, i64 v) ∧ (∀ m ∈ x.In, i64 m.V)
theorem Kd {x : GPart} (h : WGPart x) : AE x := ⟨fun v hv => Fr (h.2.2.1.2 v hv), fun m hm => Fr ((h.2.2.2.2.1).2 m hm).2.1⟩
theorem Mq {g : GGraph} {j : GJob} {x : GPart} (hn : AE x) {i v : Nat} : i64 (AC g j x i v).1 ∧ ∀ m ∈ (AC g j x i v).2.1, i64 m.V := by
 have h0 : i64 0 := by unfold i64; omega
 have hx : i64 (x.Vals.getD i 0) := by
  rw [List.getD_eq_getElem?_getD]
  cases hq : x.Vals[i]? with
  | none => exact h0
  | some y => exact hn.1 y (List.mem_of_getElem? hq)
 rw [AC]
 cases x.Rest.getD i false && !(atS x.In (v : Int)).2
 · exact M2 hx (HY hn.2)
 · exact ⟨hx, fun m hm => absurd hm (List.not_mem_nil)⟩
theorem Hg {g : GGraph} {j : GJob} {x : GPart} {i v : Nat} : (AC g j x i v).2.1.length ≤ 80 ∧ ∀ m ∈ (AC g j x i v).2.1, 0 ≤ m.To ∧ m.To < g.N := by
 rw [AC]
 cases x.Rest.getD i false && !(atS x.In (v : Int)).2
 · exact ⟨Ob, KD⟩
 · exact ⟨Nat.zero_le _, fun m hm => absurd hm (List.not_mem_nil)⟩
structure keepP (g : GGraph) (i : Nat) (a : List Int) (b : List Bool) (c : List GMsg) : Prop where
 la : a.length = i
 lb : b.length = i
 lc : c.length ≤ 80 * i
 va : ∀ v ∈ a, i64 v
 vc : ∀ m ∈ c, i64 m.V
 vt : ∀ m ∈ c, 0 ≤ m.To ∧ m.To < g.N
theorem Gp (g : GGraph) : keepP g 0 [] [] [] := ⟨rfl, rfl, Nat.zero_le _, fun v hv => absurd hv (List.not_mem_nil), fun m hm => absurd hm (List.not_mem_nil), fun m hm => absurd hm (List.not_mem_nil)⟩
theorem HZ {g : GGraph} {j : GJob} {x : GPart} (hn : AE x) {i : Nat} (v : Nat) {a : List Int} {b : List Bool} {c : List GMsg} (h : keepP g i a b c) :
 keepP g (i + 1) (a ++ [(AC g j x i v).1]) (b ++ [(AC g j x i v).2.2.1]) (c ++ (AC g j x i v).2.1) := by
 obtain ⟨o1, o2⟩ := Mq (g := g) (j := j) hn (i := i) (v := v)
 obtain ⟨o3, o4⟩ := Hg (g := g) (j := j) (x := x) (i := i) (v := v)
 refine ⟨by simp [h.la], by simp [h.lb], ?_, fun v hv => ?_, fun m hm => ?_, fun m hm => ?_⟩
 · have h3 := h.lc
   rw [List.length_append]; omega
 · rcases List.mem_append.1 hv with hv | hv
   · exact h.va v hv
   · rw [List.mem_singleton.1 hv]; exact o1
 · rcases List.mem_append.1 hm with hm | hm
   · exact h.vc m hm
   · exact o2 m hm
 · rcases List.mem_append.1 hm with hm | hm
   · exact h.vt m hm
   · exact o4 m hm
theorem IJ {g : GGraph} {j : GJob} {x : GPart} (hn : AE x) : ∀ (l : List Nat) (i : Nat) (a : List Int) (b : List Bool) (c : List GMsg), keepP g i a b c → ∀ w, doA g j x l i a b c = .inr w → keepP g (i + l.length) w.1 w.2.1 w.2.2 := by
 intro l
 induction l with
 | nil => intro i a b c h w hw; injection hw with hw; subst hw; exact h
 | cons v l ih =>
  intro i a b c h w hw
  rw [doA] at hw
  cases hq : ieq (AC g j x i v).2.2.2 0
  · rw [hq] at hw; cases hw
  · rw [hq] at hw
    have := ih (i + 1) _ _ _ (HZ hn v h) w hw
    rwa [show i + 1 + l.length = i + (l.length + 1) by omega] at this
theorem OK (j : GJob) (c d : List GMsg) (q : Int) : toS j (c ++ d) q = toS j c q ++ toS j d q := List.filter_append _ _
theorem GM (j : GJob) (c : List GMsg) (q : Int) : (toS j c q).length ≤ c.length := List.length_filter_le _ _
theorem FK {j : GJob} {c : List GMsg} {q : Int} {m : GMsg} (h : m ∈ toS j c q) : m ∈ c ∧ AM j m.To = q := by
 obtain ⟨a, b⟩ := List.mem_filter.1 h
 exact ⟨a, Al.1 b⟩
theorem E7 {α : Type} (p : α → Bool) {step : α → Unit → (Unit → Option (Unit ⊕ Unit)) → Option (Unit ⊕ Unit)} : ∀ (l : List α), (∀ x ∈ l, ∀ c, step x () c = bif p x then c () else some (.inl ())) →
 goL step (fun _ => some (.inr ())) l () = some (CG (l.all p))
 | [], _ => rfl
 | x :: l, h => by
  rw [goL, h x List.mem_cons_self, E7 p l fun y hy => h y (List.mem_cons_of_mem _ hy), List.all_cons]
  cases p x <;> rfl
theorem Ge {α : Type} {l : List α} {i : Nat} (h : i < l.length) (d : α) : l.getD i d = l[i] := by rw [List.getD_eq_getElem?_getD, List.getElem?_eq_getElem h]; rfl
def CH {α : Type} (p : α → Bool) (l : List α) : Int := match l.findIdx? p with | some q => (q : Int) | none => -1
theorem Fo {α : Type} (p : α → Bool) {step : Nat → α → Unit → (Unit → Option (Int ⊕ Unit)) → Option (Int ⊕ Unit)} : ∀ (l : List α) (i : Nat), (∀ x ∈ l, ∀ i c, step i x () c = bif p x then some (.inl (i : Int)) else c ()) →
 goI step (fun _ => some (.inr ())) i l () = some (match l.findIdx? p with | some q => .inl ((i + q : Nat) : Int) | none => .inr ())
 | [], _, _ => rfl
 | x :: l, i, h => by
  rw [goI, h x List.mem_cons_self, Fo p l (i + 1) fun y hy => h y (List.mem_cons_of_mem _ hy), List.findIdx?_cons]
  cases hp : p x
  · cases hq : l.findIdx? p with
    | none => simp
    | some q => simp; omega
  · simp
theorem GE {α : Type} {γ : Type} (p : α → Bool) (l : List α) (f : Int → Option γ) : (some (match l.findIdx? p with | some q => Sum.inl ((0 + q : Nat) : Int) | none => Sum.inr ())).bind (fun y => Sum.elim (fun w => f w) (fun (_ : Unit) => f (-1)) y) = f (CH p l) := by
 unfold CH
 cases l.findIdx? p with
 | none => rfl
 | some q => simp
theorem Pt {α : Type} (p : α → Bool) (l : List α) : CH p l < 0 ↔ ∀ x ∈ l, p x = false := by
 unfold CH
 cases h : l.findIdx? p with
 | none => simp only [List.findIdx?_eq_none_iff] at h; simpa using h
 | some q =>
  obtain ⟨hq, hp, _⟩ := List.findIdx?_eq_some_iff_getElem.1 h
  constructor
  · intro h'; dsimp only at h'; omega
  · intro h'; have := h' _ (List.getElem_mem hq); rw [this] at hp; cases hp
theorem Fp {α : Type} {p : α → Bool} {l : List α} (h : ¬ CH p l < 0) : ∃ (q : Nat) (x : α), CH p l = (q : Int) ∧ l[q]? = some x ∧ p x = true := by
 unfold CH at h ⊢
 cases hf : l.findIdx? p with
 | none => rw [hf] at h; exact absurd (by decide) h
 | some q =>
  obtain ⟨hq, hp, _⟩ := List.findIdx?_eq_some_iff_getElem.1 hf
  exact ⟨q, l[q], rfl, List.getElem?_eq_getElem hq, hp⟩
theorem DC {α β : Type} (p : α → Bool) (f : α → β) (b : Nat) {step : α → List β → (List β → Option (List β)) → Option (List β)} (hb : b ≤ 1000) (N : Nat) (hN : N ≤ 1000000) : ∀ (l : List α) (a : List β), a.length + l.length ≤ N →
 (∀ x ∈ l, ∀ a c, step x a c = bif p x then (bif apok (len a) 1 b then c (appL a [f x]) else none) else c a) → goL step (fun a => some a) l a = some (a ++ (l.filter p).map f)
 | [], a, _, _ => by rw [goL]; simp
 | x :: l, a, hl, h => by
  rw [List.length_cons] at hl
  rw [goL, h x List.mem_cons_self]
  have hap : apok (len a) 1 b = true := decide_eq_true ⟨by show a.length + 1 ≤ _; omega, by
   show (a.length + 1) * b ≤ _
   have := Nat.mul_le_mul (show a.length + 1 ≤ 1000001 by omega) hb
   omega⟩
  cases hp : p x
  · rw [cF, DC p f b hb N hN l a om fun y hy => h y (List.mem_cons_of_mem _ hy), List.filter_cons, hp]; simp
  · rw [cT, hap, cT, appL, DC p f b hb N hN l (a ++ [f x]) (by simp; omega) fun y hy => h y (List.mem_cons_of_mem _ hy), List.filter_cons, hp]; simp
theorem Bl {n m b : Nat} (h : n + m ≤ 1000000) (hb : b ≤ 1000) : apok n m b = true := decide_eq_true ⟨by omega, by have := Nat.mul_le_mul h hb; omega⟩
def BK (n : Int) (l : List Int) : Bool := l.all (fun x => !(ilt x 0) && !(ilt 1099511627776 x)) && ile (l.length : Int) n
theorem EK (K : Nat) (n : Int) (l : List Int) (hl : l.length < 1000000) (hK : l.length < K) : F66 K n l = some (BK n l) := by
 let step : Int → Unit → (Unit → Option (Unit ⊕ Unit)) → Option (Unit ⊕ Unit) := fun x _ c => bif (ilt x 0) then some (.inl ()) else bif (ilt 1099511627776 x) then some (.inl ()) else c ()
 have h := Aq (l := l) (L := fun k (_ : Unit) i => D7 K n l k i) step (fun _ => some (.inr ())) (fun k s i _ => rfl) om hK ()
 have g := E7 (step := step) (fun x => !(ilt x 0) && !(ilt 1099511627776 x)) l (fun x _ c => by show (bif (ilt x 0) then _ else _) = _; cases ilt x 0 <;> cases ilt 1099511627776 x <;> rfl)
 have e : D7 K n l K 0 = _ := h.trans g
 rw [F66, e, BK]
 cases l.all _ <;> rfl
def EL (l : List GMsg) : Bool := l.all (fun m => BK 1 [m.To]) && ile (l.length : Int) 24
theorem HV (K : Nat) (l : List GMsg) (hl : l.length < 1000000) (hK : l.length < K) (h1 : 1 < K) : F67 K l = some (EL l) := by
 let step : GMsg → Unit → (Unit → Option (Unit ⊕ Unit)) → Option (Unit ⊕ Unit) := fun x _ c => (F66 K 1 [x.To]).bind fun r => bif r then c () else some (.inl ())
 have h := Aq (l := l) (L := fun k (_ : Unit) i => En K l k i) step (fun _ => some (.inr ())) (fun k s i _ => rfl) om hK ()
 have g := E7 (step := step) (fun m => BK 1 [m.To]) l (fun x _ c => by show (F66 K 1 [x.To]).bind _ = _; rw [EK K 1 [x.To] (by simp) (by simpa using h1)]; rfl)
 have e : En K l K 0 = _ := h.trans g
 rw [F67, e, EL]
 cases l.all _ <;> rfl
def Cc (m : GMail) : Bool :=
 ile 1 m.Kind && (ile m.Kind 11 && (BK 9 [m.Epoch, m.Fresh, m.Step, m.P, m.Q, m.To, m.E, m.X.P, m.X.Step] && (BK 6 m.Owners && (BK 5 m.Ids && (BK (m.Ids.length : Int) m.Incs && (ieq (m.Incs.length : Int) (m.Ids.length : Int) &&
  (ile (m.X.Vals.length : Int) 24 && (ieq (m.X.Rest.length : Int) (m.X.Vals.length : Int) && (EL m.X.In && EL m.Msgs)))))))))
structure FitM (c : Nat) (m : GMail) : Prop where
 o : m.Owners.length ≤ c
 i : m.Ids.length ≤ c
 n : m.Incs.length ≤ c
 v : m.X.Vals.length ≤ c
 r : m.X.Rest.length ≤ c
 x : m.X.In.length ≤ c
 s : m.Msgs.length ≤ c
theorem Pk {K : Nat} (hK : 3000 ≤ K) (m : GMail) (h : FitM 2000 m) : F40 K m = some (Cc m) := by
 obtain ⟨h1, h2, h3, h4, h5, h6, h7⟩ := h
 rw [F40, EK K 9 _ (by simp) (by simp; omega), EK K 6 _ om om, EK K 5 _ om om, EK K _ m.Incs om om, HV K m.X.In om om om, HV K m.Msgs om om om]
 simp only [bS, Cc, CC]
 cases ile 1 m.Kind <;> cases ile m.Kind 11 <;> cases BK 9 [m.Epoch, m.Fresh, m.Step, m.P, m.Q, m.To, m.E, m.X.P, m.X.Step] <;> try rfl
 cases BK 6 m.Owners <;> cases BK 5 m.Ids <;> cases BK (m.Ids.length : Int) m.Incs <;> cases ieq (m.Incs.length : Int) (m.Ids.length : Int) <;> try rfl
 cases ile (m.X.Vals.length : Int) 24 <;> cases ieq (m.X.Rest.length : Int) (m.X.Vals.length : Int) <;> cases EL m.X.In <;> rfl
theorem OP {n : Int} {l : List Int} (h : BK n l = true) : (∀ x ∈ l, 0 ≤ x ∧ x ≤ 1099511627776) ∧ (l.length : Int) ≤ n := by
 simp only [BK, Bool.and_eq_true, List.all_eq_true, Bool.not_eq_true', Ad, C1] at h
 exact h
def noT : GTable := GTable.mk 0 [] [] []
def Da : Int → List Int → List Int → Bool
 | _, [], _ => true
 | p, a :: l, n :: r => !(ile a p) && (!(ilt 99 a) && (!(ilt n 1) && (!(ilt 1099511627776 n) && Da a l r)))
 | _, _ :: _, [] => false
def BM (l : List Int) (a : Int) : Int := CH (fun x => ieq x a) l
theorem G5 (K : Nat) (l : List Int) (a : Int) (hl : l.length < 1000000) (hK : l.length < K) : Dl K l a = some (BM l a) := by
 let step : Nat → Int → Unit → (Unit → Option (Int ⊕ Unit)) → Option (Int ⊕ Unit) := fun i x _ c => bif ieq x a then some (.inl (i : Int)) else c ()
 have h := CL (l := l) (L := fun k (_ : Unit) i => Eb K l a k i) step (fun _ => some (.inr ())) (fun k s i _ => rfl) om K () 0 om om
 have g := Fo (step := step) (fun x => ieq x a) l 0 (fun x _ i c => rfl)
 rw [List.drop_zero] at h
 have e : Eb K l a K 0 = _ := h.trans g
 rw [Dl, e]
 exact GE _ _ fun w => some w
def BL (t : GTable) : Bool :=
 !(ilt t.Epoch 0) && (!(ilt 1099511627776 t.Epoch) && (!(ilt 5 (t.Ids.length : Int)) && (ieq (t.Incs.length : Int) (t.Ids.length : Int) && (!(ilt 6 (t.Owners.length : Int)) && (Da 0 t.Ids t.Incs && t.Owners.all fun o => !(ilt (BM t.Ids o) 0))))))
theorem OE {K : Nat} (t : GTable) (hl : t.Ids.length ≤ 5) (he : t.Incs.length = t.Ids.length) (hK : 100 ≤ K) : Dx K t.Epoch t.Owners t.Ids t.Incs K 0 0 = some (CG (Da 0 t.Ids t.Incs)) := by
 let step : Nat → Int → Int → (Int → Option (Unit ⊕ Unit)) → Option (Unit ⊕ Unit) := fun i x p c =>
  bif (ile x p) then some (.inl ()) else bif (ilt 99 x) then some (.inl ()) else bif (inr (i : Int) (len t.Incs)) then (elAt t.Incs (i : Int)).bind fun n => bif (ilt n 1) then some (.inl ()) else bif (ilt 1099511627776 n) then some (.inl ()) else c x else none
 have h := CL (l := t.Ids) (L := fun k p i => Dx K t.Epoch t.Owners t.Ids t.Incs k p i) step (fun _ => some (.inr ())) (fun k s i _ => rfl) om K 0 0 om om
 have g : ∀ (l : List Int) (i : Nat) (p : Int), t.Ids.drop i = l → goI step (fun _ => some (.inr ())) i l p = some (CG (Da p l (t.Incs.drop i))) := by
  intro l
  induction l with
  | nil => intro i p _; rw [goI, Da]; rfl
  | cons x l ih =>
   intro i p hd
   have hlt := Ew hd
   have hn : t.Incs.drop i = t.Incs[i] :: t.Incs.drop (i + 1) := List.drop_eq_getElem_cons om
   have hd2 : t.Ids.drop (i + 1) = l := by
    have := List.drop_eq_getElem_cons hlt
    rw [hd] at this
    injection this with _ h2; exact h2.symm
   have e1 : inr (i : Int) (len t.Incs) = true := decide_eq_true ⟨by omega, by show (i : Int) < (t.Incs.length : Int); omega⟩
   have e2 : elAt t.Incs (i : Int) = some t.Incs[i] := by rw [BD]; exact List.getElem?_eq_getElem om
   rw [goI]
   show (bif (ile x p) then _ else _) = _
   rw [e1, e2, cT, bS, ih (i + 1) x hd2, hn, Da]
   cases ile x p <;> cases ilt 99 x <;> cases ilt t.Incs[i] 1 <;> cases ilt 1099511627776 t.Incs[i] <;> rfl
 rw [List.drop_zero] at h
 have e : Dx K t.Epoch t.Owners t.Ids t.Incs K 0 0 = _ := h.trans (g t.Ids 0 0 rfl)
 rw [List.drop_zero] at e
 exact e
theorem Jg {K : Nat} (hK : 100 ≤ K) (t : GTable) : Er K t = some (BL t) := by
 rw [Er, BL, CC, CC, CC]
 cases h1 : ilt t.Epoch 0
 · cases h2 : ilt 1099511627776 t.Epoch
   · cases h3 : ilt 5 (t.Ids.length : Int)
     · cases h4 : ieq (t.Incs.length : Int) (t.Ids.length : Int)
       · rfl
       · cases h5 : ilt 6 (t.Owners.length : Int)
         · rw [Ad] at h3 h5
           rw [Al] at h4
           rw [OE t om om hK]
           cases Da 0 t.Ids t.Incs
           · rfl
           · let step : Int → Unit → (Unit → Option (Unit ⊕ Unit)) → Option (Unit ⊕ Unit) := fun x _ c => (Dl K t.Ids x).bind fun r => bif ilt r 0 then some (.inl ()) else c ()
             have h := Aq (l := t.Owners) (L := fun k (_ : Unit) i => EG K t.Epoch t.Owners t.Ids t.Incs k i) step (fun _ => some (.inr ())) (fun k s i _ => rfl) om (K := K) om ()
             have g := E7 (step := step) (fun o => !(ilt (BM t.Ids o) 0)) t.Owners (fun x _ c => by show (Dl K t.Ids x).bind _ = _; rw [G5 K t.Ids x om om, bS]; cases ilt (BM t.Ids x) 0 <;> rfl)
             have e : EG K t.Epoch t.Owners t.Ids t.Incs K 0 = _ := h.trans g
             simp only [cT, cF, CG, bS, Sum.elim_inr, e]
             cases t.Owners.all _ <;> rfl
         · rfl
     · rfl
   · rfl
 · rfl
theorem Gi {t : GTable} (h : BL t = true) : 0 ≤ t.Epoch ∧ t.Epoch ≤ 1099511627776 ∧ t.Ids.length ≤ 5 ∧ t.Incs.length = t.Ids.length ∧ t.Owners.length ≤ 6 ∧ Da 0 t.Ids t.Incs = true ∧ ∀ o ∈ t.Owners, 0 ≤ BM t.Ids o := by
 simp only [BL, Bool.and_eq_true, Bool.not_eq_true', Ad, Al, List.all_eq_true] at h
 obtain ⟨h1, h2, h3, h4, h5, h6, h7⟩ := h
 exact ⟨h1, h2, by omega, by omega, by omega, h6, h7⟩
def Ai (t : GTable) : GTable := bif BL t then t else noT
theorem F7 {α : Type} (l : List α) : appL [] l = l := List.nil_append l
theorem HM : BL noT = true := by decide
theorem F2 (t : GTable) : BL (Ai t) = true := by
 rw [Ai]
 cases h : BL t
 · exact HM
 · exact h
theorem Pj (t : GTable) : Ai (Ai t) = Ai t := by
 have := F2 t
 generalize Ai t = u at this ⊢
 rw [Ai, this]; rfl
theorem HG {K : Nat} (hK : 100 ≤ K) (t : GTable) : F96 K t = some (Ai t) := by
 rw [F96, Jg hK, bS, Ai]
 cases h : BL t
 · rfl
 · obtain ⟨_, _, h3, h4, h5, _⟩ := Gi h
   have e1 : apok 0 (len t.Owners) 8 = true := Bl (by show 0 + t.Owners.length ≤ _; omega) om
   have e2 : apok 0 (len t.Ids) 8 = true := Bl (by show 0 + t.Ids.length ≤ _; omega) om
   have e3 : apok 0 (len t.Incs) 8 = true := Bl (by show 0 + t.Incs.length ≤ _; omega) om
   simp only [cT, e1, e2, e3, F7]
def DZ (t : GTable) (id : Int) : Int := bif ilt (BM (Ai t).Ids id) 0 then 0 else (Ai t).Incs.getD (BM (Ai t).Ids id).toNat 0
theorem L8 {K : Nat} (hK : 100 ≤ K) (t : GTable) (id : Int) : F97 K t id = some (DZ t id) := by
 obtain ⟨_, _, h3, h4, _⟩ := Gi (F2 t)
 rw [F97, HG hK, bS, G5 K _ id om om, bS, DZ]
 cases h : ilt (BM (Ai t).Ids id) 0
 · have hn : ¬ CH (fun x => ieq x id) (Ai t).Ids < 0 := by rw [Ad] at h; exact Int.not_lt.2 h
   obtain ⟨q, x, hq, hx, _⟩ := Fp hn
   have hlt : q < (Ai t).Incs.length := by rw [h4]; exact (List.getElem?_eq_some_iff.1 hx).1
   have hf : BM (Ai t).Ids id = (q : Int) := hq
   have e1 : inr (q : Int) (len (Ai t).Incs) = true := decide_eq_true ⟨by omega, by show (q : Int) < ((Ai t).Incs.length : Int); omega⟩
   have e2 : elAt (Ai t).Incs (q : Int) = some (Ai t).Incs[q] := by rw [BD]; exact List.getElem?_eq_getElem hlt
   rw [hf, cF, cF, e1, e2, cT, bS, Int.toNat_natCast, Ge hlt]
 · rfl
def toT (t : GTable) (p : Int) : Int × Int × Int :=
 bif ilt p 0 || ile ((Ai t).Owners.length : Int) p then (0, 0, 4) else ((Ai t).Owners.getD p.toNat 0, DZ t ((Ai t).Owners.getD p.toNat 0), 0)
theorem Mf (t : GTable) (id : Int) : DZ (Ai t) id = DZ t id := by rw [DZ, DZ, Pj]
theorem Ir {K : Nat} (hK : 100 ≤ K) (t : GTable) (p : Int) : F60 K t p = some (toT t p) := by
 rw [F60, HG hK, bS, toT, CC]
 cases h1 : ilt p 0
 · cases h2 : ile ((Ai t).Owners.length : Int) p
   · rw [Ad] at h1
     rw [DA] at h2
     have e1 : inr p (len (Ai t).Owners) = true := decide_eq_true ⟨h1, h2⟩
     have e2 : elAt (Ai t).Owners p = some ((Ai t).Owners.getD p.toNat 0) := by
      show (Ai t).Owners[p.toNat]? = _
      rw [Ge om]; exact List.getElem?_eq_getElem om
     simp only [cF, e1, e2, cT, bS, L8 hK, Mf, Bool.or_false]
   · rfl
 · rfl
theorem MW {t : GTable} {p : Int} (h : ieq (toT t p).2.2 0 = true) : 0 ≤ p ∧ p < ((Ai t).Owners.length : Int) ∧ (toT t p).1 = (Ai t).Owners.getD p.toNat 0 := by
 rw [toT] at h ⊢
 cases hq : ilt p 0 || ile ((Ai t).Owners.length : Int) p
 · rw [Bool.or_eq_false_iff, Ad, DA] at hq
   exact ⟨hq.1, hq.2, rfl⟩
 · rw [hq] at h; cases h
abbrev B6 := List GMsg × List GMsg × List GMsg × List GMsg × List GMsg × List GMsg
abbrev S8 := List Int × List Bool × B6
def AJ (j : GJob) (c : List GMsg) : B6 := (toS j c 0, toS j c 1, toS j c 2, toS j c 3, toS j c 4, toS j c 5)
theorem Lj (j : GJob) (m : GMsg) (q : Int) : toS j [m] q = bif ieq (AM j m.To) q then [m] else [] := by
 rw [toS, List.filter_cons]
 cases ieq (AM j m.To) q <;> rfl
def stA (K : Nat) (j : GJob) (m : GMsg) (s : B6) (c : B6 → Option B6) : Option B6 :=
 (F94 K j m.To).bind fun r =>
 bif (ieq r 0) then (bif (apok (len s.1) 1 16) then c (appL s.1 [m], s.2.1, s.2.2.1, s.2.2.2.1, s.2.2.2.2.1, s.2.2.2.2.2) else none) else
 bif (ieq r 1) then (bif (apok (len s.2.1) 1 16) then c (s.1, appL s.2.1 [m], s.2.2.1, s.2.2.2.1, s.2.2.2.2.1, s.2.2.2.2.2) else none) else
 bif (ieq r 2) then (bif (apok (len s.2.2.1) 1 16) then c (s.1, s.2.1, appL s.2.2.1 [m], s.2.2.2.1, s.2.2.2.2.1, s.2.2.2.2.2) else none) else
 bif (ieq r 3) then (bif (apok (len s.2.2.2.1) 1 16) then c (s.1, s.2.1, s.2.2.1, appL s.2.2.2.1 [m], s.2.2.2.2.1, s.2.2.2.2.2) else none) else
 bif (ieq r 4) then (bif (apok (len s.2.2.2.2.1) 1 16) then c (s.1, s.2.1, s.2.2.1, s.2.2.2.1, appL s.2.2.2.2.1 [m], s.2.2.2.2.2) else none) else
 bif (ieq r 5) then bif (apok (len s.2.2.2.2.2) 1 16) then c (s.1, s.2.1, s.2.2.1, s.2.2.2.1, s.2.2.2.2.1, appL s.2.2.2.2.2 [m]) else none else none
theorem O0 {K : Nat} (j : GJob) (m : GMsg) (c : List GMsg) (hl : c.length ≤ 3000) (h0 : 0 ≤ AM j m.To) (h5 : AM j m.To ≤ 5) (k : B6 → Option B6) : stA K j m (AJ j c) k = k (AJ j (c ++ [m])) := by
 have ap : ∀ q : Int, apok (len (toS j c q)) 1 16 = true := fun q => by
  have := GM j c q
  exact decide_eq_true ⟨by show (toS j c q).length + 1 ≤ _; omega, by show ((toS j c q).length + 1) * 16 ≤ _; omega⟩
 rw [stA, HW, bS, AJ, AJ]
 simp only [OK, Lj, ap, cT]
 generalize AM j m.To = q at *
 rcases (by omega : q = 0 ∨ q = 1 ∨ q = 2 ∨ q = 3 ∨ q = 4 ∨ q = 5) with rfl | rfl | rfl | rfl | rfl | rfl <;> simp [ieq, appL]
theorem LD {K : Nat} (j : GJob) : ∀ (l : List GMsg) (c : List GMsg), c.length + l.length ≤ 3000 → (∀ m ∈ l, 0 ≤ AM j m.To ∧ AM j m.To ≤ 5) → goL (stA K j) (fun s => some s) l (AJ j c) = some (AJ j (c ++ l)) := by
 intro l
 induction l with
 | nil => intro c _ _; rw [goL, List.append_nil]
 | cons m l ih =>
  intro c hl hh
  simp only [List.length_cons] at hl
  obtain ⟨h0, h5⟩ := hh m List.mem_cons_self
  rw [goL, O0 j m c om h0 h5, ih (c ++ [m]) (by simp only [List.length_append, List.length_singleton]; omega) (fun y hy => hh y (List.mem_cons_of_mem _ hy)), List.append_assoc]; rfl
theorem JO {K : Nat} (g : GGraph) (j : GJob) (x : GPart) (a : List Int) (b : List Bool) (v : Int) (r : Bool) (l : List GMsg) (i : Int) (c : List GMsg) (hl : c.length + l.length ≤ 3000) (hK : l.length < K) (hh : ∀ m ∈ l, 0 ≤ AM j m.To ∧ AM j m.To ≤ 5) :
 BP K g.N g.Edges j.Prog j.Source j.Limit j.Parts x.P x.Step x.Vals x.Rest x.In a b v r l i K (toS j c 0) (toS j c 1) (toS j c 2) (toS j c 3) (toS j c 4) (toS j c 5) 0 = some (AJ j (c ++ l)) := by
 have h := Aq (l := l) (L := fun k (s : B6) p => BP K g.N g.Edges j.Prog j.Source j.Limit j.Parts x.P x.Step x.Vals x.Rest x.In a b v r l i k s.1 s.2.1 s.2.2.1 s.2.2.2.1 s.2.2.2.2.1 s.2.2.2.2.2 p) (stA K j) (fun s => some s) (fun k s p _ => rfl) om (K := K) hK (AJ j c)
 rw [LD j l c hl hh] at h
 exact h
def GR (K : Nat) (g : GGraph) (j : GJob) (x : GPart) (i : Nat) (y : Int) (s : S8) (c : S8 → Option (Int ⊕ S8)) : Option (Int ⊕ S8) :=
 (F92 K x.In (wadd .i64 x.P (wmul .i64 (i : Int) j.Parts))).bind fun r6057 =>
 bif (inr (i : Int) (len x.Rest)) then
 (elAt x.Rest (i : Int)).bind fun x6060 =>
 bif x6060 then
  (bif r6057.2 then
   ((F93 K g j x.Step (wadd .i64 x.P (wmul .i64 (i : Int) j.Parts)) y r6057.1 r6057.2).bind fun r6064 =>
   bif (ieq r6064.2.2.2 0) then
    ((BP K g.N g.Edges j.Prog j.Source j.Limit j.Parts x.P x.Step x.Vals x.Rest x.In s.1 s.2.1 r6064.1 r6064.2.2.1 r6064.2.1 (i : Int) K s.2.2.1 s.2.2.2.1 s.2.2.2.2.1 s.2.2.2.2.2.1 s.2.2.2.2.2.2.1 s.2.2.2.2.2.2.2 0).bind fun w6149 =>
    bif (apok (len s.1) 1 8) then
    bif (apok (len s.2.1) 1 1) then
    c (appL s.1 [r6064.1], appL s.2.1 [r6064.2.2.1], w6149)
    else none
    else none)
   else
   some (.inl r6064.2.2.2))
  else
  bif (apok (len s.1) 1 8) then
  bif (apok (len s.2.1) 1 1) then
  c (appL s.1 [y], appL s.2.1 [true], s.2.2)
  else none
  else none)
 else
 (F93 K g j x.Step (wadd .i64 x.P (wmul .i64 (i : Int) j.Parts)) y r6057.1 r6057.2).bind fun r6160 =>
 bif (ieq r6160.2.2.2 0) then
  ((BP K g.N g.Edges j.Prog j.Source j.Limit j.Parts x.P x.Step x.Vals x.Rest x.In s.1 s.2.1 r6160.1 r6160.2.2.1 r6160.2.1 (i : Int) K s.2.2.1 s.2.2.2.1 s.2.2.2.2.1 s.2.2.2.2.2.1 s.2.2.2.2.2.2.1 s.2.2.2.2.2.2.2 0).bind fun w6193 =>
  bif (apok (len s.1) 1 8) then
  bif (apok (len s.2.1) 1 1) then
  c (appL s.1 [r6160.1], appL s.2.1 [r6160.2.2.1], w6193)
  else none
  else none)
 else
 some (.inl r6160.2.2.2)
 else none
theorem Nd (n m : Nat) : ∀ (k v i : Nat) (h : i < (Ck k n m v).length), (Ck k n m v)[i] = v + i * m := by
 intro k
 induction k with
 | zero => intro v i h; exact absurd h (Nat.not_lt_zero _)
 | succ k ih =>
  intro v i h
  by_cases hv : v < n
  · have e : Ck (k + 1) n m v = v :: Ck k n m (v + m) := by rw [Ck, if_pos hv]
    simp only [e] at h ⊢
    cases i with
    | zero => simp
    | succ i =>
     have h' : i < (Ck k n m (v + m)).length := by simpa using h
     rw [List.getElem_cons_succ, ih (v + m) i h', Nat.succ_mul]; omega
  · have e : Ck (k + 1) n m v = [] := by rw [Ck, if_neg hv]
    simp only [e, List.length_nil] at h
    exact absurd h (Nat.not_lt_zero _)
theorem MC {g : GGraph} {j : GJob} (h1 : 1 ≤ j.Parts) (h6 : j.Parts ≤ 6) (hn : g.N ≤ 24) {p : Int} (hp : 0 ≤ p ∧ p < j.Parts) (i : Nat) (h : i < (Ar g j p).length) : (((Ar g j p)[i] : Nat) : Int) = p + (i : Int) * j.Parts := by
 obtain ⟨q, rfl⟩ := Int.eq_ofNat_of_zero_le hp.1
 have e : Ar g j (q : Int) = Ck 30 g.N.toNat j.Parts.toNat q := (Kr om om om om).symm
 simp only [e] at h ⊢
 rw [Nd]
 have : ((j.Parts.toNat : Nat) : Int) = j.Parts := by omega
 rw [Int.natCast_add, Int.natCast_mul, this]
def Gs (j : GJob) : Int ⊕ Tri → Int ⊕ S8
 | .inl e => .inl e
 | .inr w => .inr (w.1, w.2.1, AJ j w.2.2)
theorem M4 {j : GJob} (h1 : 1 ≤ j.Parts) (h6 : j.Parts ≤ 6) {v : Int} (h0 : 0 ≤ v) : AM j v = v % j.Parts ∧ 0 ≤ AM j v ∧ AM j v ≤ 5 := by
 have hm0 : 0 ≤ v % j.Parts := Int.emod_nonneg _ om
 have hm1 : v % j.Parts < j.Parts := Int.emod_lt_of_pos _ om
 have e : AM j v = v % j.Parts := by rw [AM, Ad.2 h0, Ad.2 h1, Ad.2 h6]; rfl
 rw [e]; exact ⟨rfl, hm0, by omega⟩
theorem N4 {K : Nat} (hK : 3000 ≤ K) (g : GGraph) (j : GJob) (x : GPart) (hR : As g j x = true) (hn : AE x) (hin : x.In.length ≤ 300) : ∀ (n i : Nat) (a : List Int) (b : List Bool) (c : List GMsg), i + n = x.Vals.length → keepP g i a b c →
 goI (GR K g j x) (fun s => some (.inr s)) i (x.Vals.drop i) (a, b, AJ j c) = some (Gs j (doA g j x ((Ar g j x.P).drop i) i a b c)) := by
 obtain ⟨hc, p1, p2, p3, p4, p5, p6, _⟩ := Do hR
 obtain ⟨hg, _, _, _, _, _, _, p7, p8⟩ := Cp hc
 obtain ⟨g1, g2, g3, _⟩ := B3 hg
 have hvl := FT g j g2 x.P
 rw [Bg] at p5 p6
 intro n
 induction n with
 | zero =>
  intro i a b c hi _
  have e1 : x.Vals.drop i = [] := List.drop_eq_nil_of_le om
  have e2 : (Ar g j x.P).drop i = [] := List.drop_eq_nil_of_le om
  rw [e1, e2]; rfl
 | succ n ih =>
  intro i a b c hi h
  have hlc := h.lc
  obtain ⟨v, hv⟩ : ∃ v, (Ar g j x.P)[i]'om = v := ⟨_, rfl⟩
  have hat0 := MC p7 p8 g2 ⟨p1, p2⟩ i om
  rw [hv] at hat0
  have hd2 : (Ar g j x.P).drop i = v :: (Ar g j x.P).drop (i + 1) := by rw [List.drop_eq_getElem_cons (by omega : i < (Ar g j x.P).length), hv]
  have hvm : v ∈ Ar g j x.P := hv ▸ List.getElem_mem _
  have hvn := ((Nt p7).1 hvm).1
  have hd1 : x.Vals.drop i = x.Vals.getD i 0 :: x.Vals.drop (i + 1) := by
   rw [List.drop_eq_getElem_cons (by omega : i < x.Vals.length), List.getD_eq_getElem?_getD, List.getElem?_eq_getElem (by omega : i < x.Vals.length)]; rfl
  have hv0 : 0 ≤ (i : Int) * j.Parts := Int.mul_nonneg om om
  have e1 : wmul .i64 (i : Int) j.Parts = (i : Int) * j.Parts := Iz (by unfold i64; omega)
  have e2 : wadd .i64 x.P ((i : Int) * j.Parts) = (v : Int) := by rw [Ej (by unfold i64; omega)]; omega
  have hnx := HZ (j := j) hn v h
  obtain ⟨la, lb, _, _, _, _⟩ := h
  obtain ⟨o3, o4⟩ := Hg (g := g) (j := j) (x := x) (i := i) (v := v)
  obtain ⟨r1, r2⟩ := Kx (l := x.Rest) (i := i) om false
  have a1 : apok (len a) 1 8 = true := decide_eq_true ⟨by show a.length + 1 ≤ _; omega, by show (a.length + 1) * 8 ≤ _; omega⟩
  have a2 : apok (len b) 1 1 = true := decide_eq_true ⟨by show b.length + 1 ≤ _; omega, by show (b.length + 1) * 1 ≤ _; omega⟩
  have hx : i64 (x.Vals.getD i 0) := by
   rw [List.getD_eq_getElem?_getD]
   cases hq : x.Vals[i]? with
   | none => show i64 0; unfold i64; omega
   | some y => exact hn.1 y (List.mem_of_getElem? hq)
  have hat := HY (l := x.In) (v := (v : Int)) hn.2
  have nx := ih (i + 1) _ _ _ om hnx
  have f99 := Kq (K := K) om g j x.Step (v : Int) (atS x.In (v : Int)).2 hx hat
  have hro := fun (aa : List Int) (bb : List Bool) (vv : Int) (rr : Bool) => JO (K := K) g j x aa bb vv rr (AC g j x i v).2.1 (i : Int) c om om (fun m hm => (M4 p7 p8 (o4 m hm).1).2)
  rw [hd1, hd2, goI, GR, doA, e1, e2, J8 x.In (v : Int) om om, r1, r2]
  simp only [cT, bS, f99, a1, a2]
  have eb : ∀ c, (AJ j c).1 = toS j c 0 ∧ (AJ j c).2.1 = toS j c 1 ∧ (AJ j c).2.2.1 = toS j c 2 ∧ (AJ j c).2.2.2.1 = toS j c 3 ∧ (AJ j c).2.2.2.2.1 = toS j c 4 ∧ (AJ j c).2.2.2.2.2 = toS j c 5 := fun c => ⟨rfl, rfl, rfl, rfl, rfl, rfl⟩
  obtain ⟨q0, q1, q2, q3, q4, q5⟩ := eb c
  rw [q0, q1, q2, q3, q4, q5]
  cases hs : (atS x.In (v : Int)).2
  · cases hy : x.Rest.getD i false
    · have hT : AC g j x i v = Az g j x.Step (v : Int) (x.Vals.getD i 0) (atS x.In (v : Int)).1 false := by rw [AC, hy, hs]; rfl
      rw [hT] at nx hro ⊢
      simp only [cF, cT, hro, bS]
      cases ieq (Az g j x.Step (v : Int) (x.Vals.getD i 0) (atS x.In (v : Int)).1 false).2.2.2 0
      · rfl
      · exact nx
    · have hT : AC g j x i v = (x.Vals.getD i 0, [], true, 0) := by rw [AC, hy, hs]; rfl
      rw [hT] at nx ⊢
      simp only [List.append_nil] at nx ⊢
      exact nx
  · have hT : AC g j x i v = Az g j x.Step (v : Int) (x.Vals.getD i 0) (atS x.In (v : Int)).1 true := by rw [AC, hs, Bool.not_true, Bool.and_false]; rfl
    rw [hT] at nx hro ⊢
    simp only [cF, cT, hro, bS]
    cases x.Rest.getD i false <;> cases ieq (Az g j x.Step (v : Int) (x.Vals.getD i 0) (atS x.In (v : Int)).1 true).2.2.2 0 <;> first | rfl | exact nx
def FC (K : Nat) (j : GJob) (s : B6) (q : Nat) (d : List (List GMsg)) (c : List (List GMsg) → Option (Int ⊕ List (List GMsg))) : Option (Int ⊕ List (List GMsg)) :=
 bif (ieq (q : Int) 0) then ((F95 K j.Prog s.1).bind fun r => bif (ieq r.2 0) then (bif (apok (len d) 1 24) then c (appL d [r.1]) else none) else some (.inl r.2)) else
 bif (ieq (q : Int) 1) then ((F95 K j.Prog s.2.1).bind fun r => bif (ieq r.2 0) then (bif (apok (len d) 1 24) then c (appL d [r.1]) else none) else some (.inl r.2)) else
 bif (ieq (q : Int) 2) then ((F95 K j.Prog s.2.2.1).bind fun r => bif (ieq r.2 0) then (bif (apok (len d) 1 24) then c (appL d [r.1]) else none) else some (.inl r.2)) else
 bif (ieq (q : Int) 3) then ((F95 K j.Prog s.2.2.2.1).bind fun r => bif (ieq r.2 0) then (bif (apok (len d) 1 24) then c (appL d [r.1]) else none) else some (.inl r.2)) else
 bif (ieq (q : Int) 4) then ((F95 K j.Prog s.2.2.2.2.1).bind fun r => bif (ieq r.2 0) then (bif (apok (len d) 1 24) then c (appL d [r.1]) else none) else some (.inl r.2)) else
 bif (ieq (q : Int) 5) then (F95 K j.Prog s.2.2.2.2.2).bind fun r => bif (ieq r.2 0) then (bif (apok (len d) 1 24) then c (appL d [r.1]) else none) else some (.inl r.2) else none
theorem LX {K : Nat} (hK : 3000 ≤ K) (j : GJob) (c : List GMsg) (hl : c.length ≤ 2000) (hv : ∀ m ∈ c, i64 m.V) (q : Nat) (hq : q < 6) (d : List (List GMsg)) (hd : d.length ≤ 6) (k : List (List GMsg) → Option (Int ⊕ List (List GMsg))) :
 FC K j (AJ j c) q d k = bif ieq (Ak j.Prog (toS j c (q : Int))).2 0 then k (d ++ [(Ak j.Prog (toS j c (q : Int))).1]) else some (.inl (Ak j.Prog (toS j c (q : Int))).2) := by
 have ap : apok (len d) 1 24 = true := decide_eq_true ⟨by show d.length + 1 ≤ _; omega, by show (d.length + 1) * 24 ≤ _; omega⟩
 have hlen := fun q => GM j c q
 have f := fun (q : Int) => IL (K := K) j.Prog (toS j c q) (fun m hm => hv m (FK hm).1) (by have := hlen q; omega) (by have := hlen q; omega)
 rw [FC, AJ]
 simp only [f, bS, ap, cT]
 rcases (by omega : q = 0 ∨ q = 1 ∨ q = 2 ∨ q = 3 ∨ q = 4 ∨ q = 5) with rfl | rfl | rfl | rfl | rfl | rfl <;> rfl
theorem Lu {K : Nat} (hK : 3000 ≤ K) (j : GJob) (c : List GMsg) (hl : c.length ≤ 2000) (hv : ∀ m ∈ c, i64 m.V) : ∀ (l : List Nat) (d : List (List GMsg)), (∀ q ∈ l, q < 6) → d.length + l.length ≤ 6 →
 goL (FC K j (AJ j c)) (fun d => some (.inr d)) l d = some (CJ j c l d) := by
 intro l
 induction l with
 | nil => intro d _ _; rfl
 | cons q l ih =>
  intro d hq hd
  simp only [List.length_cons] at hd
  rw [goL, LX hK j c hl hv q (hq q List.mem_cons_self) d om, CJ, ih _ (fun y hy => hq y (List.mem_cons_of_mem _ hy)) (by simp only [List.length_append, List.length_singleton]; omega)]
  cases ieq (Ak j.Prog (toS j c (q : Int))).2 0 <;> rfl
theorem KJ {K : Nat} (hK : 3000 ≤ K) (g : GGraph) (j : GJob) (x : GPart) (hn : AE x) (hin : x.In.length ≤ 300) (hp : i64 x.P) : F58 K g j x = some (doS g j x) := by
 rw [F58, DG om, Gt om g j x om om hp, bS, bS, doS]
 cases hc : ieq (Ah g j) 0
 · rfl
 · cases hR : As g j x
   · rfl
   · cases h40 : ieq x.Step 40
     · obtain ⟨_, p1, p2, p3, p4, p5, p6, _⟩ := Do hR
       obtain ⟨hg, _, _, _, _, _, _, p7, p8⟩ := Cp hc
       obtain ⟨g1, g2, g3, _⟩ := B3 hg
       have hvl := FT g j g2 x.P
       rw [Bg] at p5 p6
       have h := CL (l := x.Vals) (L := fun k (s : S8) i => CP K g.N g.Edges j.Prog j.Source j.Limit j.Parts x.P x.Step x.Vals x.Rest x.In k s.1 s.2.1 s.2.2.1 s.2.2.2.1 s.2.2.2.2.1 s.2.2.2.2.2.1 s.2.2.2.2.2.2.1 s.2.2.2.2.2.2.2 i) (GR K g j x) (fun s => some (.inr s)) (fun k s i _ => rfl) om K ([], [], AJ j []) 0 om om
       have h' : CP K g.N g.Edges j.Prog j.Source j.Limit j.Parts x.P x.Step x.Vals x.Rest x.In K [] [] [] [] [] [] [] [] 0 = some (Gs j (doA g j x (Ar g j x.P) 0 [] [] [])) := by
        rw [show CP K g.N g.Edges j.Prog j.Source j.Limit j.Parts x.P x.Step x.Vals x.Rest x.In K [] [] [] [] [] [] [] [] 0 = _ from h]
        have := N4 hK g j x hR hn hin x.Vals.length 0 [] [] [] om (Gp g)
        rwa [List.drop_zero] at this
       simp only [cT, cF, h', bS]
       cases hA : doA g j x (Ar g j x.P) 0 [] [] [] with
       | inl e => rfl
       | inr w =>
        have kw := IJ hn _ 0 [] [] [] (Gp g) w hA
        have hwl := kw.lc
        have hw : wadd .i64 x.Step 1 = x.Step + 1 := Ej (by unfold i64; omega)
        have t := FJ (N := j.Parts) (L := fun k d i => Cf K j.Prog j.Source j.Limit j.Parts x.P (x.Step + 1) w.1 w.2.1 (toS j w.2.2 0) (toS j w.2.2 1) (toS j w.2.2 2) (toS j w.2.2 3) (toS j w.2.2 4) (toS j w.2.2 5) k d i) (fun q d c => FC K j (AJ j w.2.2) q d c) (fun d => some (.inr d)) (fun k d i _ => rfl) om (K := K) om []
        have t' : Cf K j.Prog j.Source j.Limit j.Parts x.P (x.Step + 1) w.1 w.2.1 (toS j w.2.2 0) (toS j w.2.2 1) (toS j w.2.2 2) (toS j w.2.2 3) (toS j w.2.2 4) (toS j w.2.2 5) K [] 0 = some (CJ j w.2.2 (List.range j.Parts.toNat) []) := by
         rw [show Cf K j.Prog j.Source j.Limit j.Parts x.P (x.Step + 1) w.1 w.2.1 (toS j w.2.2 0) (toS j w.2.2 1) (toS j w.2.2 2) (toS j w.2.2 3) (toS j w.2.2 4) (toS j w.2.2 5) K [] 0 = _ from t]
         exact Lu hK j w.2.2 om kw.vc _ [] (fun q hq => by have := List.mem_range.1 hq; omega) (by rw [List.length_range]; simp only [List.length_nil]; omega)
        simp only [Gs, Sum.elim_inr, AJ, hw, t', bS, doB]
        cases CJ j w.2.2 (List.range j.Parts.toNat) [] <;> rfl
     · rfl
def BV (l : List GHeld) (p : Int) : Int := CH (fun h => ieq h.X.P p) l
theorem Hl (K : Nat) (w : GWorker) (p : Int) (hl : w.Held.length < 1000000) (hK : w.Held.length < K) : El K w p = some (BV w.Held p, w) := by
 let step : Nat → GHeld → Unit → (Unit → Option (Int ⊕ Unit)) → Option (Int ⊕ Unit) := fun i x _ c => bif ieq x.X.P p then some (.inl (i : Int)) else c ()
 have h := CL (l := w.Held) (L := fun k (_ : Unit) i => ED K w p k i) step (fun _ => some (.inr ())) (fun k s i _ => rfl) om K () 0 om om
 have g := Fo (step := step) (fun h => ieq h.X.P p) w.Held 0 (fun x _ i c => rfl)
 rw [List.drop_zero] at h
 have e : ED K w p K 0 = _ := h.trans g
 rw [El, e]
 exact GE _ _ fun q => some (q, w)
def AV (g : GGraph) (j : GJob) (w : GWorker) (x : GPart) : Bool := ieq (toT w.T x.P).2.2 0 && (ieq (toT w.T x.P).1 w.Id && (As g j x && ilt (BV w.Held x.P) 0))
theorem GQ {K : Nat} (hK : 1000 ≤ K) (w : GWorker) (g : GGraph) (j : GJob) (x : GPart) (hh : w.Held.length ≤ 100) (hx : x.In.length < 1000000 ∧ x.In.length < K) (hp : i64 x.P) : CN K w g j x = some (AV g j w x, w) := by
 rw [CN, Ir om, bS, AV, Gt hK g j x hx.1 hx.2 hp, Hl K w x.P om om]
 cases ieq (toT w.T x.P).2.2 0
 · rfl
 · cases ieq (toT w.T x.P).1 w.Id
   · rfl
   · cases As g j x <;> rfl
def CX (l : List GHeld) (x : GPart) : List GHeld := l.takeWhile (fun h => ilt h.X.P x.P) ++ [GHeld.mk x false false] ++ l.dropWhile (fun h => ilt h.X.P x.P)
theorem J4 (K : Nat) (w : GWorker) (x : GPart) (hl : w.Held.length < 1000000) : ∀ (k i : Nat), w.Held.length - i < k → i ≤ w.Held.length → Du K w x k (i : Int) = some (((i + ((w.Held.drop i).takeWhile fun h => ilt h.X.P x.P).length : Nat)) : Int) := by
 intro k
 induction k with
 | zero => intro i h; omega
 | succ k ih =>
  intro i hk hi
  rw [Du]
  rcases F5 w.Held i with ⟨h, e1, e2, e3, e4⟩ | ⟨e1, e2⟩
  · have hlt := Ew e1
    rw [e2, e3, e4, e1, List.takeWhile_cons]
    simp only [cT, bS]
    cases hp : ilt h.X.P x.P
    · simp
    · rw [cT, FS om, ih (i + 1) om om]
      simp; omega
  · rw [e1, e2]; simp
theorem O8 {α : Type} (p : α → Bool) (l : List α) : l.take (l.takeWhile p).length = l.takeWhile p := by
 conv => lhs; rw [← List.takeWhile_append_dropWhile (p := p) (l := l)]
 rw [List.takeWhile_append_dropWhile]
 induction l with
 | nil => rfl
 | cons x l ih =>
  rw [List.takeWhile_cons]
  cases p x
  · rfl
  · simp [ih]
theorem HC {α : Type} (p : α → Bool) (l : List α) : l.drop (l.takeWhile p).length = l.dropWhile p := by
 induction l with
 | nil => rfl
 | cons x l ih =>
  rw [List.takeWhile_cons, List.dropWhile_cons]
  cases p x
  · rfl
  · simp [ih]
theorem NM {α : Type} (p : α → Bool) (l : List α) : (l.takeWhile p).length ≤ l.length := (List.takeWhile_sublist p).length_le
theorem GH (K : Nat) (w : GWorker) (x : GPart) (hl : w.Held.length ≤ 100) (hK : 1000 ≤ K) : CK K w x = some { w with Held := CX w.Held x } := by
 have e : Du K w x K 0 = some (((w.Held.takeWhile fun h => ilt h.X.P x.P).length : Nat) : Int) := by
  have e := J4 K w x om K 0 om om
  rw [List.drop_zero, Nat.zero_add] at e; exact e
 have hle := NM (fun h => ilt h.X.P x.P) w.Held
 have hdl : (w.Held.dropWhile fun h => ilt h.X.P x.P).length ≤ w.Held.length := (List.dropWhile_sublist _).length_le
 have s1 : subL w.Held ((w.Held.takeWhile fun h => ilt h.X.P x.P).length : Int) (nlen (len w.Held)) = w.Held.dropWhile fun h => ilt h.X.P x.P := by
  show (w.Held.drop (Int.toNat _)).take _ = _
  simp only [CC, Int.toNat_natCast]
  rw [HC, List.take_of_length_le]
  rw [← HC, List.length_drop]; exact Nat.le_refl _
 have s2 : subL w.Held 0 ((w.Held.takeWhile fun h => ilt h.X.P x.P).length : Int) = w.Held.takeWhile fun h => ilt h.X.P x.P := by
  show (w.Held.drop 0).take ((((w.Held.takeWhile fun h => ilt h.X.P x.P).length : Nat) : Int).toNat - 0) = _
  rw [Int.toNat_natCast, List.drop_zero, Nat.sub_zero]
  exact O8 _ _
 have b1 : bnd ((w.Held.takeWhile fun h => ilt h.X.P x.P).length : Int) (nlen (len w.Held)) (len w.Held) = true := decide_eq_true ⟨by omega, by rw [CC]; omega, by show nlen (len w.Held) ≤ ((len w.Held : Nat) : Int); exact Int.le_refl _⟩
 have b2 : bnd 0 ((w.Held.takeWhile fun h => ilt h.X.P x.P).length : Int) (len w.Held) = true := decide_eq_true ⟨Int.le_refl _, by omega, by show _ ≤ ((w.Held.length : Nat) : Int); omega⟩
 have a1 : apok 0 (len (w.Held.dropWhile fun h => ilt h.X.P x.P)) 96 = true := Bl (by show 0 + (w.Held.dropWhile fun h => ilt h.X.P x.P).length ≤ _; omega) om
 have a2 : apok (len (w.Held.takeWhile fun h => ilt h.X.P x.P)) 1 96 = true := Bl (by show (w.Held.takeWhile fun h => ilt h.X.P x.P).length + 1 ≤ _; omega) om
 have a3 : apok (len (appL (w.Held.takeWhile fun h => ilt h.X.P x.P) [GHeld.mk x false false])) (len (w.Held.dropWhile fun h => ilt h.X.P x.P)) 96 = true := Bl (by show (appL (w.Held.takeWhile fun h => ilt h.X.P x.P) [GHeld.mk x false false]).length + (w.Held.dropWhile fun h => ilt h.X.P x.P).length ≤ _; rw [appL, List.length_append, List.length_singleton]; omega) om
 rw [CK, e, bS]
 simp only [s1, s2, b1, b2, Cz, F7, a1, a2, a3, cT]
 rfl
def DE (w : GWorker) (e : Int) : GWorker := { w with Buf := w.Buf.filter (fun d => ile e d.Epoch), Coming := w.Coming.filter (fun c => ile e c.Epoch) }
theorem H0 {K : Nat} (w : GWorker) (e : Int) (h1 : w.Buf.length ≤ 1000000) (h2 : w.Coming.length ≤ 1000000) (k1 : w.Buf.length < K) (k2 : w.Coming.length < K) : DT K w e = some (DE w e) := by
 let st1 : GData → List GData → (List GData → Option (List GData)) → Option (List GData) := fun x a c => bif ile e x.Epoch then (bif apok (len a) 1 56 then c (appL a [x]) else none) else c a
 have e1 := Aq (l := w.Buf) (L := fun k a i => DD K w e k a i) st1 (fun a => some a) (fun k s i _ => rfl) om k1 []
 have g1 := DC (step := st1) (fun d => ile e d.Epoch) (fun d => d) 56 om 1000000 om w.Buf [] (by simp; omega) (fun x _ a c => rfl)
 have f1 : DD K w e K [] 0 = some (w.Buf.filter fun d => ile e d.Epoch) := (e1.trans g1).trans (by simp)
 rw [DT, f1, bS]
 let st2 : GComing → List GComing → (List GComing → Option (List GComing)) → Option (List GComing) := fun x a c => bif ile e x.Epoch then (bif apok (len a) 1 96 then c (appL a [x]) else none) else c a
 have e2 := Aq (l := w.Coming) (L := fun k a i => DR K w e (w.Buf.filter fun d => ile e d.Epoch) k a i) st2 (fun a => some a) (fun k s i _ => rfl) om k2 []
 have g2 := DC (step := st2) (fun d => ile e d.Epoch) (fun d => d) 96 om 1000000 om w.Coming [] (by simp; omega) (fun x _ a c => rfl)
 have f2 : DR K w e (w.Buf.filter fun d => ile e d.Epoch) K [] 0 = some (w.Coming.filter fun d => ile e d.Epoch) := (e2.trans g2).trans (by simp)
 rw [f2]; rfl
def Ed (w : GWorker) (m : GMail) : GWorker := { w with Out := w.Out ++ [GPost.mk 0 0 m] }
theorem EN (K : Nat) (w : GWorker) (m : GMail) (h : w.Out.length ≤ 900000) : CU K w m = some (Ed w m) := by
 rw [CU, Bl (by show w.Out.length + 1 ≤ _; omega) om]; rfl
def BA : GPart := GPart.mk 0 0 [] [] []
def CY (w : GWorker) (p : Int) : GMail := GMail.mk 5 w.T.Epoch 0 w.Goal p 0 0 8 [] [] [] BA []
def GA (w : GWorker) (p : Int) : GWorker := Ed w (CY w p)
theorem G1 (K : Nat) (w : GWorker) (p : Int) (h : w.Out.length ≤ 900000) : EA K w p = some (GA w p) := by
 rw [EA, EN K _ _ h]; rfl
def EM (e s q p : Int) (d : GData) : Bool := ieq d.Epoch e && (ieq d.Step s && (ieq d.Q q && ieq d.P p))
def AO (l : List GData) (e s q p : Int) : Int := CH (EM e s q p) l
theorem I4 (K : Nat) (w : GWorker) (e s q p : Int) (hl : w.Buf.length < 1000000) (hK : w.Buf.length < K) : Di K w e s q p = some (AO w.Buf e s q p, w) := by
 let step : Nat → GData → Unit → (Unit → Option (Int ⊕ Unit)) → Option (Int ⊕ Unit) := fun i x _ c =>
  bif ieq x.Epoch e then (bif ieq x.Step s then (bif ieq x.Q q then (bif ieq x.P p then some (.inl (i : Int)) else c ()) else c ()) else c ()) else c ()
 have h := CL (l := w.Buf) (L := fun k (_ : Unit) i => CZ K w e s q p k i) step (fun _ => some (.inr ())) (fun k s i _ => rfl) om K () 0 om om
 have g := Fo (step := step) (EM e s q p) w.Buf 0 (fun x _ i c => by
  show (bif ieq x.Epoch e then (bif ieq x.Step s then (bif ieq x.Q q then (bif ieq x.P p then _ else _) else _) else _) else _) = _
  rw [EM]
  cases ieq x.Epoch e <;> cases ieq x.Step s <;> cases ieq x.Q q <;> cases ieq x.P p <;> rfl)
 rw [List.drop_zero] at h
 have e : CZ K w e s q p K 0 = _ := h.trans g
 rw [Di, e]
 exact GE _ _ fun q => some (q, w)
def AF (j : GJob) (e : Int) (m : GMail) : GTable × Bool := (GTable.mk e m.Owners m.Ids m.Incs, BL (GTable.mk e m.Owners m.Ids m.Incs) && (ilt 0 e && ieq (m.Owners.length : Int) j.Parts))
theorem Jz {K : Nat} (hK : 100 ≤ K) (j : GJob) (e : Int) (m : GMail) : F68 K j e m = some (AF j e m) := by
 rw [F68, Jg hK, bS, AF, CC]
 cases BL (GTable.mk e m.Owners m.Ids m.Incs) <;> cases ilt 0 e <;> rfl
def Df (m : GMail) : GMail := GMail.mk 2 m.Epoch 0 0 m.X.P 0 0 0 [] [] [] BA []
def C8 (g : GGraph) (j : GJob) (w : GWorker) (m : GMail) : GWorker := bif AV g j w m.X then Ed { w with Held := CX w.Held m.X } (Df m) else w
def Eg (g : GGraph) (j : GJob) (w : GWorker) (m : GMail) : GWorker :=
 bif (AF j m.Epoch m).2 then (bif ilt m.Epoch w.T.Epoch then w else bif ilt w.T.Epoch m.Epoch then C8 g j (DE { w with Goal := -1, T := (AF j m.Epoch m).1, Held := [], Out := [] } m.Epoch) m else C8 g j w m) else w
structure Sml (w : GWorker) : Prop where
 h : w.Held.length ≤ 50
 b : w.Buf.length ≤ 500000
 c : w.Coming.length ≤ 500000
 o : w.Out.length ≤ 500000
theorem E5 {α : Type} (p : α → Bool) (l : List α) : (l.filter p).length ≤ l.length := List.length_filter_le p l
theorem M9 {K : Nat} (hK : 1000000 ≤ K) (w : GWorker) (g : GGraph) (j : GJob) (m : GMail) (hw : Sml w) (hx : FitM 2000 m) (hp : i64 m.X.P) : EZ K w g j m = some (Eg g j w m) := by
 have hin : m.X.In.length < 1000000 ∧ m.X.In.length < K := by have := hx.x; omega
 rw [EZ, Jz om, bS, Eg]
 cases (AF j m.Epoch m).2
 · rfl
 · cases ilt m.Epoch w.T.Epoch
   · rw [cT, cT, cF, cF]
     cases ilt w.T.Epoch m.Epoch
     · rw [cF, cF, GQ om w g j m.X (by have := hw.h; omega) hin hp, bS, C8]
       cases AV g j w m.X
       · rfl
       · show (CK K w m.X).bind _ = _
         rw [GH K w m.X (by have := hw.h; omega) om, bS, EN K _ _ (by have := hw.o; show w.Out.length ≤ _; omega)]; rfl
     · rw [cT, cT, H0 (w := GWorker.mk w.Id (-1) w.Until (AF j m.Epoch m).1 [] w.Buf w.Coming []) m.Epoch (by have := hw.b; show w.Buf.length ≤ _; omega) (by have := hw.c; show w.Coming.length ≤ _; omega) (by have := hw.b; show w.Buf.length < _; omega) (by have := hw.c; show w.Coming.length < _; omega), bS]
       show (CN K (DE { w with Goal := -1, T := (AF j m.Epoch m).1, Held := [], Out := [] } m.Epoch) g j m.X).bind _ = _
       generalize hv : DE { w with Goal := -1, T := (AF j m.Epoch m).1, Held := [], Out := [] } m.Epoch = v
       have vh : v.Held = [] := by rw [← hv]; rfl
       have vo : v.Out = [] := by rw [← hv]; rfl
       rw [GQ om v g j m.X (by rw [vh]; simp) hin hp, bS, C8]
       cases AV g j v m.X
       · rfl
       · show (CK K v m.X).bind _ = _
         rw [GH K v m.X (by rw [vh]; simp) om, bS, EN K _ _ (by show v.Out.length ≤ _; rw [vo]; simp)]; rfl
   · rfl
def D4 (w : GWorker) (m : GMail) : GWorker := bif ieq m.Epoch w.T.Epoch then { w with Goal := m.Step } else w
theorem Os (K : Nat) (w : GWorker) (g : GGraph) (j : GJob) (m : GMail) : E8 K w g j m = some (D4 w m) := by
 rw [E8, D4]
 cases ieq m.Epoch w.T.Epoch <;> rfl
def Cm (w : GWorker) (m : GMail) : GWorker := bif ile w.T.Epoch m.Epoch && ilt (AO w.Buf m.Epoch m.Step m.Q m.P) 0 then { w with Buf := w.Buf ++ [GData.mk m.Epoch m.Step m.Q m.P m.Msgs] } else w
theorem HX {K : Nat} (w : GWorker) (g : GGraph) (j : GJob) (m : GMail) (hl : w.Buf.length ≤ 900000) (hK : 1000000 ≤ K) : DN K w g j m = some (Cm w m) := by
 rw [DN, I4 K w _ _ _ _ om om, bS, Cm]
 cases ile w.T.Epoch m.Epoch
 · rfl
 · cases ilt (AO w.Buf m.Epoch m.Step m.Q m.P) 0
   · rfl
   · simp only [cT, Bool.and_true]
     rw [Bl (by show w.Buf.length + 1 ≤ _; omega) om]; rfl
def DH (m : GMail) (x : GPart) : GMail := GMail.mk 7 m.Epoch 0 0 0 0 0 0 [] [] [] x []
def Fl (w : GWorker) (m : GMail) (h : GHeld) : GWorker :=
 bif h.Wait || (h.Given || ilt (BM m.Ids m.To) 0) then w else { w with Held := w.Held.set (BV w.Held m.P).toNat (GHeld.mk h.X h.Wait true), Out := w.Out ++ [GPost.mk m.To (m.Incs.getD (BM m.Ids m.To).toNat 0) (DH m h.X)] }
def D3 (w : GWorker) (m : GMail) : GWorker :=
 bif ieq m.Epoch w.T.Epoch && !(ilt (BV w.Held m.P) 0) then (match w.Held[(BV w.Held m.P).toNat]? with | some h => Fl w m h | none => w) else w
theorem NY {K : Nat} (hK : 1000 ≤ K) (w : GWorker) (g : GGraph) (j : GJob) (m : GMail) (hw : Sml w) (hm : FitM 2000 m) (hi : m.Incs.length = m.Ids.length) (hK2 : m.Ids.length < K) : Fb K w g j m = some (D3 w m) := by
 rw [Fb, Hl K w m.P (by have := hw.h; omega) (by have := hw.h; omega), bS, D3]
 cases ieq m.Epoch w.T.Epoch
 · rfl
 · cases hn : ilt (BV w.Held m.P) 0
   · simp only [cT, cF, Bool.true_and, Bool.not_false]
     rw [Ad] at hn
     obtain ⟨q, h, e1, e2, e3⟩ := Fp (p := fun h : GHeld => ieq h.X.P m.P) (l := w.Held) (by show ¬ BV w.Held m.P < 0; omega)
     have e1' : BV w.Held m.P = (q : Int) := e1
     have hql : q < w.Held.length := (List.getElem?_eq_some_iff.1 e2).1
     rw [e1', Int.toNat_natCast, e2]
     have b1 : inr (q : Int) (len w.Held) = true := decide_eq_true ⟨by omega, by show (q : Int) < (w.Held.length : Int); omega⟩
     have b2 : elAt w.Held (q : Int) = some h := by rw [BD]; exact e2
     rw [b1, b2, cT, bS]
     dsimp only
     rw [Fl, e1', Int.toNat_natCast]
     cases hW : h.Wait
     · cases h.Given
       · simp only [cF, Bool.false_or]
         let step : Nat → Int → Unit → (Unit → Option ((List GHeld × List GPost) ⊕ Unit)) → Option ((List GHeld × List GPost) ⊕ Unit) := fun i x _ c =>
          bif ieq x m.To then
           (bif inr (q : Int) (len w.Held) then (elAt w.Held (q : Int)).bind fun h => bif inr (i : Int) (len m.Incs) then (elAt m.Incs (i : Int)).bind fun n =>
            bif inr (q : Int) (len (putAt w.Held (q : Int) (GHeld.mk h.X h.Wait true))) then (elAt (putAt w.Held (q : Int) (GHeld.mk h.X h.Wait true)) (q : Int)).bind fun h' =>
            bif apok (len w.Out) 1 264 then some (.inl (putAt w.Held (q : Int) (GHeld.mk h.X h.Wait true), appL w.Out [GPost.mk m.To n (DH m h'.X)])) else none else none else none else none)
          else c ()
         have hs := CL (l := m.Ids) (L := fun k (_ : Unit) i => Ei K m ((q : Int), w) k i) step (fun _ => some (.inr ())) (fun k s i _ => rfl) (by have := hm.i; omega) K () 0 om om
         rw [List.drop_zero] at hs
         have go : ∀ (l : List Int) (i : Nat), m.Ids.drop i = l → goI step (fun _ => some (.inr ())) i l () = some (match l.findIdx? (fun x => ieq x m.To) with
          | some z => .inl (w.Held.set q (GHeld.mk h.X h.Wait true), w.Out ++ [GPost.mk m.To (m.Incs.getD (i + z) 0) (DH m h.X)]) | none => .inr ()) := by
          intro l
          induction l with
          | nil => intro i _; rfl
          | cons x l ih =>
           intro i hd
           have hlt := Ew hd
           have hd2 : m.Ids.drop (i + 1) = l := by
            have := List.drop_eq_getElem_cons hlt
            rw [hd] at this
            injection this with _ h2; exact h2.symm
           rw [goI, List.findIdx?_cons]
           show (bif ieq x m.To then _ else _) = _
           cases ieq x m.To
           · rw [cF, ih (i + 1) hd2]
             cases l.findIdx? (fun x => ieq x m.To) with
             | none => rfl
             | some z => simp [Nat.add_assoc, Nat.add_comm 1 z]
           · have c1 : inr (i : Int) (len m.Incs) = true := decide_eq_true ⟨by omega, by show (i : Int) < (m.Incs.length : Int); omega⟩
             have c2 : elAt m.Incs (i : Int) = some (m.Incs.getD i 0) := by rw [BD, Ge om]; exact List.getElem?_eq_getElem om
             have c3 : putAt w.Held (q : Int) (GHeld.mk h.X h.Wait true) = w.Held.set q (GHeld.mk h.X h.Wait true) := by show w.Held.set (Int.toNat q) _ = _; rw [Int.toNat_natCast]
             have c4 : inr (q : Int) (len (w.Held.set q (GHeld.mk h.X h.Wait true))) = true := decide_eq_true ⟨by omega, by show (q : Int) < ((w.Held.set q _).length : Int); rw [List.length_set]; omega⟩
             have c5 : elAt (w.Held.set q (GHeld.mk h.X h.Wait true)) (q : Int) = some (GHeld.mk h.X h.Wait true) := by rw [BD, List.getElem?_set_self hql]
             simp only [cT, b1, b2, bS, c1, c2, c3, c4, c5, Bl (show len w.Out + 1 ≤ 1000000 by have := hw.o; show w.Out.length + 1 ≤ _; omega) (show 264 ≤ 1000 by omega)]
             simp [appL]
         have e : Ei K m ((q : Int), w) K 0 = _ := hs.trans (go m.Ids 0 rfl)
         rw [e]
         have hfe : BM m.Ids m.To = (match m.Ids.findIdx? (fun x => ieq x m.To) with | some z => (z : Int) | none => -1) := rfl
         cases hf : m.Ids.findIdx? (fun x => ieq x m.To) with
         | none =>
          rw [hfe, hf]; rfl
         | some z =>
          rw [hfe, hf]
          have hz : ilt ((z : Nat) : Int) 0 = false := Ad.2 om
          simp only [bS, Sum.elim_inl, hz, cF, Nat.zero_add, Int.toNat_natCast, hW]
       · rfl
     · rfl
   · rfl
theorem Ea {α : Type} (f : α → Int) (hi : Int) : ∀ (l : List α) (lo : Int), l.Pairwise (fun a b => f a < f b) → (∀ x ∈ l, lo ≤ f x ∧ f x < hi) → (l.length : Int) ≤ max 0 (hi - lo)
 | [], lo, _, _ => by simp; omega
 | x :: l, lo, h, g => by
  have hx := g x List.mem_cons_self
  have := Ea f hi l (f x + 1) (List.pairwise_cons.1 h).2 fun y hy => ⟨by have := (List.pairwise_cons.1 h).1 y hy; omega, (g y (List.mem_cons_of_mem _ hy)).2⟩
  rw [List.length_cons]
  omega
structure HOk (l : List GHeld) : Prop where
 s : l.Pairwise (fun a b => a.X.P < b.X.P)
 r : ∀ h ∈ l, 0 ≤ h.X.P ∧ h.X.P < 6
theorem HOk.len {l : List GHeld} (h : HOk l) : l.length ≤ 6 := by
 have := Ea (fun h : GHeld => h.X.P) 6 l 0 h.s h.r
 omega
theorem HOk.nil : HOk [] := ⟨List.Pairwise.nil, fun h hh => absurd hh List.not_mem_nil⟩
theorem GW {l : List GHeld} {x : GPart} {h : GHeld} : h ∈ CX l x ↔ h ∈ l ∨ h = GHeld.mk x false false := by
 have : h ∈ l ↔ h ∈ l.takeWhile (fun h => ilt h.X.P x.P) ∨ h ∈ l.dropWhile (fun h => ilt h.X.P x.P) := by
  conv => lhs; rw [← List.takeWhile_append_dropWhile (p := fun h => ilt h.X.P x.P) (l := l)]
  rw [List.mem_append]
 rw [CX, List.mem_append, List.mem_append, List.mem_singleton, this]
 constructor
 · rintro ((h | h) | h)
   · exact .inl (.inl h)
   · exact .inr h
   · exact .inl (.inr h)
 · rintro ((h | h) | h)
   · exact .inl (.inl h)
   · exact .inr h
   · exact .inl (.inr h)
theorem Js {α : Type} {p : α → Bool} : ∀ {l : List α} {x : α}, x ∈ l.takeWhile p → p x = true
 | y :: l, x, h => by
  rw [List.takeWhile_cons] at h
  cases hp : p y
  · rw [hp] at h; exact absurd h List.not_mem_nil
  · rw [hp] at h
    rcases List.mem_cons.1 h with rfl | h
    · exact hp
    · exact Js h
theorem JS {l : List GHeld} {x : GPart} (hs : l.Pairwise (fun a b => a.X.P < b.X.P)) (hn : ∀ h ∈ l, h.X.P ≠ x.P) : (CX l x).Pairwise (fun a b => a.X.P < b.X.P) := by
 have e := List.takeWhile_append_dropWhile (p := fun h : GHeld => ilt h.X.P x.P) (l := l)
 have h1 : ∀ h ∈ l.takeWhile (fun h => ilt h.X.P x.P), h.X.P < x.P := fun h hh => by
  have := Js hh
  exact Ae.1 this
 have h2 : ∀ h ∈ l.dropWhile (fun h => ilt h.X.P x.P), x.P < h.X.P := by
  have key : ∀ (l : List GHeld), l.Pairwise (fun a b => a.X.P < b.X.P) → (∀ h ∈ l, h.X.P ≠ x.P) → ∀ h ∈ l.dropWhile (fun h => ilt h.X.P x.P), x.P < h.X.P := by
   intro l
   induction l with
   | nil => intro _ _ h hh; cases hh
   | cons y l ih =>
    intro hs hn h hh
    rw [List.dropWhile_cons] at hh
    cases hp : ilt y.X.P x.P
    · rw [hp] at hh
      rw [Ad] at hp
      have := hn y List.mem_cons_self
      rcases List.mem_cons.1 hh with rfl | hh
      · omega
      · have := (List.pairwise_cons.1 hs).1 h hh; omega
    · rw [hp] at hh
      exact ih (List.pairwise_cons.1 hs).2 (fun h hh => hn h (List.mem_cons_of_mem _ hh)) h hh
  exact key l hs hn
 rw [← e, List.pairwise_append] at hs
 rw [CX, List.append_assoc, List.pairwise_append]
 refine ⟨hs.1, ?_, ?_⟩
 · rw [List.singleton_append, List.pairwise_cons]
   exact ⟨h2, hs.2.1⟩
 · intro a ha b hb
   rw [List.singleton_append, List.mem_cons] at hb
   rcases hb with rfl | hb
   · exact h1 a ha
   · exact hs.2.2 a ha b hb
theorem Lx {l : List GHeld} {p : Int} : ilt (BV l p) 0 = true ↔ ∀ h ∈ l, h.X.P ≠ p := by
 rw [Ae]
 refine (Pt _ _).trans ?_
 simp only [Ao]
theorem I0 {g : GGraph} {j : GJob} {w : GWorker} {x : GPart} (h : AV g j w x = true) : 0 ≤ x.P ∧ x.P < ((Ai w.T).Owners.length : Int) ∧ (Ai w.T).Owners.getD x.P.toNat 0 = w.Id ∧ As g j x = true ∧ ∀ h ∈ w.Held, h.X.P ≠ x.P := by
 rw [AV, Bool.and_eq_true, Bool.and_eq_true, Bool.and_eq_true] at h
 obtain ⟨h1, h2, h3, h4⟩ := h
 obtain ⟨a, b, c⟩ := MW h1
 exact ⟨a, b, by rw [← c]; exact Al.1 h2, h3, Lx.1 h4⟩
theorem HOk.ins {g : GGraph} {j : GJob} {w : GWorker} {x : GPart} (h : HOk w.Held) (hm : AV g j w x = true) : HOk (CX w.Held x) := by
 obtain ⟨a, b, _, _, d⟩ := I0 hm
 have := (Gi (F2 w.T)).2.2.2.2.1
 refine ⟨JS h.s d, fun y hy => ?_⟩
 rcases GW.1 hy with hy | rfl
 · exact h.r y hy
 · exact ⟨a, by show x.P < 6; omega⟩
def Dp (m : GMail) : GMail := GMail.mk 8 m.Epoch 0 0 m.X.P 0 0 0 [] [] [] BA []
def isC (e p : Int) (c : GComing) : Bool := ieq c.Epoch e && ieq c.X.P p
def Ep (w : GWorker) (m : GMail) : GWorker := bif ilt m.Epoch w.T.Epoch || w.Coming.any (isC m.Epoch m.X.P) then w else Ed { w with Coming := w.Coming ++ [GComing.mk m.Epoch m.X] } (Dp m)
theorem MJ {K : Nat} (w : GWorker) (g : GGraph) (j : GJob) (m : GMail) (hw : Sml w) (hK : 1000000 ≤ K) : Fk K w g j m = some (Ep w m) := by
 let step : GComing → Unit → (Unit → Option (Unit ⊕ Unit)) → Option (Unit ⊕ Unit) := fun x _ c => bif ieq x.Epoch m.Epoch then (bif ieq x.X.P m.X.P then some (.inl ()) else c ()) else c ()
 have h := Aq (l := w.Coming) (L := fun k (_ : Unit) i => Dw K w m k i) step (fun _ => some (.inr ())) (fun k s i _ => rfl) (by have := hw.c; omega) (K := K) (by have := hw.c; omega) ()
 have e := E7 (step := step) (fun c => !(isC m.Epoch m.X.P c)) w.Coming (fun x _ c => by
  show (bif ieq x.Epoch m.Epoch then (bif ieq x.X.P m.X.P then _ else _) else _) = _
  rw [isC]
  cases ieq x.Epoch m.Epoch <;> cases ieq x.X.P m.X.P <;> rfl)
 have e1 : Dw K w m K 0 = _ := h.trans e
 have e2 : (w.Coming.all fun c => !(isC m.Epoch m.X.P c)) = !(w.Coming.any (isC m.Epoch m.X.P)) := by rw [List.not_any_eq_all_not]
 rw [Fk, e1, e2, Ep]
 cases ilt m.Epoch w.T.Epoch
 · cases w.Coming.any (isC m.Epoch m.X.P)
   · simp only [cF, Bool.not_false, CG, cT, bS, Sum.elim_inr, Bool.or_false]
     rw [Bl (by have := hw.c; show w.Coming.length + 1 ≤ _; omega) om, cT, EN K _ _ (by have := hw.o; show w.Out.length ≤ _; omega)]; rfl
   · rfl
 · rfl
def BS (w : GWorker) (m : GMail) : List GPart := (w.Held.filter fun h => ieq m.Epoch w.T.Epoch && (!(h.Wait) && !(h.Given))).map (·.X)
def Dt (w : GWorker) (m : GMail) : List GPart := (w.Coming.filter fun c => ieq c.Epoch m.Epoch).map (·.X)
def AN (g : GGraph) (j : GJob) (w : GWorker) (x : GPart) : GWorker := bif AV g j w x then { w with Held := CX w.Held x } else w
def Eu (g : GGraph) (j : GJob) (w : GWorker) (m : GMail) : GWorker :=
 bif (AF j m.Fresh m).2 then (bif ile m.Fresh w.T.Epoch then w else DE ((BS w m ++ Dt w m).foldl (AN g j) { w with T := (AF j m.Fresh m).1, Goal := -1, Held := [] }) m.Fresh) else w
theorem Gf {α σ β : Type} {step : α → σ → (σ → Option β) → Option β} {fin : σ → Option β} (P : σ → Prop) (f : σ → α → σ) : ∀ (l : List α) (s : σ), P s → (∀ x ∈ l, ∀ s, P s → P (f s x) ∧ ∀ c, step x s c = c (f s x)) →
 goL step fin l s = fin (l.foldl f s) ∧ P (l.foldl f s)
 | [], s, hs, _ => ⟨rfl, hs⟩
 | x :: l, s, hs, h => by
  obtain ⟨h1, h2⟩ := h x List.mem_cons_self s hs
  rw [goL, h2, List.foldl_cons]
  exact Gf P f l (f s x) h1 fun y hy => h y (List.mem_cons_of_mem _ hy)
abbrev WT : Type := Int × Int × Int × Int × List Int × List Int × List Int × List GHeld × List GData × List GComing × List GPost
abbrev wt (w : GWorker) : WT :=
 (w.Id, (w.Goal, (w.Until, (w.T.Epoch, (w.T.Owners, (w.T.Ids, (w.T.Incs, (w.Held, (w.Buf, (w.Coming, w.Out))))))))))
structure SmlP (x : GPart) : Prop where
 v : x.Vals.length ≤ 100
 r : x.Rest.length ≤ 100
 i : x.In.length ≤ 300
 p : i64 x.P
 n : AE x
theorem MV {K : Nat} (hK : 1000000 ≤ K) (g : GGraph) (j : GJob) (m : GMail) (l : List GPart) (hl : l.length ≤ 600000) (hp : ∀ x ∈ l, SmlP x) (w : GWorker) (hw : HOk w.Held) :
 Db K g j m l K w.Id w.Goal w.Until w.T.Epoch w.T.Owners w.T.Ids w.T.Incs w.Held w.Buf w.Coming w.Out 0 = some (wt (l.foldl (AN g j) w)) := by
 let step : GPart → GWorker → (GWorker → Option WT) → Option WT := fun x w c => (CN K w g j x).bind fun r => bif r.1 then (CK K r.2 x).bind fun r => c r else c r.2
 have h := Aq (l := l) (L := fun k (w : GWorker) i => Db K g j m l k w.Id w.Goal w.Until w.T.Epoch w.T.Owners w.T.Ids w.T.Incs w.Held w.Buf w.Coming w.Out i) step (fun w => some (wt w)) (fun k s i _ => rfl) om (K := K) om w
 have e := Gf (step := step) (fin := fun w => some (wt w)) (fun w => HOk w.Held) (AN g j) l w hw (fun x hx w hw => by
  have hs := hp x hx
  have hlen := hw.len
  have e1 := GQ (K := K) om w g j x om (by have := hs.i; omega) hs.p
  constructor
  · show HOk (AN g j w x).Held
    rw [AN]
    cases hm : AV g j w x
    · exact hw
    · exact hw.ins hm
  · intro c
    show (CN K w g j x).bind _ = _
    rw [e1, bS, AN]
    cases AV g j w x
    · rfl
    · rw [cT, cT, GH K w x om om, bS])
 exact h.trans e.1
theorem Nr {K : Nat} (hK : 1000000 ≤ K) (w : GWorker) (g : GGraph) (j : GJob) (m : GMail) (hw : Sml w) (h1 : ∀ h ∈ w.Held, SmlP h.X) (h2 : ∀ c ∈ w.Coming, SmlP c.X) : EO K w g j m = some (Eu g j w m) := by
 have a1 := hw.h
 have a2 := hw.c
 have a3 := hw.b
 rw [EO, Jz om, bS, Eu]
 cases (AF j m.Fresh m).2
 · rfl
 · cases ile m.Fresh w.T.Epoch
   · rw [cT, cT, cF, cF]
     generalize hr : AF j m.Fresh m = r
     let st1 : GHeld → List GPart → (List GPart → Option (List GPart)) → Option (List GPart) := fun x a c => bif ieq m.Epoch w.T.Epoch then (bif x.Wait then c a else bif x.Given then c a else bif apok (len a) 1 88 then c (appL a [x.X]) else none) else c a
     have e1 := Aq (l := w.Held) (L := fun k a i => C2 K w g j m r k a i) st1 (fun a => some a) (fun k s i _ => rfl) om (K := K) om []
     have g1 := DC (step := st1) (fun h : GHeld => ieq m.Epoch w.T.Epoch && (!(h.Wait) && !(h.Given))) (fun h => h.X) 88 om 1000000 om w.Held [] (by simp; omega) (fun x _ a c => by
      show (bif ieq m.Epoch w.T.Epoch then (bif x.Wait then c a else bif x.Given then c a else _) else c a) = _
      cases ieq m.Epoch w.T.Epoch <;> cases x.Wait <;> cases x.Given <;> rfl)
     have f1 : C2 K w g j m r K [] 0 = some (BS w m) := (e1.trans g1).trans (by simp [BS])
     rw [f1, bS]
     have hrl : (BS w m).length ≤ 50 := by rw [BS, List.length_map]; exact Nat.le_trans (E5 _ _) a1
     let st2 : GComing → List GPart → (List GPart → Option (List GPart)) → Option (List GPart) := fun x a c => bif ieq x.Epoch m.Epoch then (bif apok (len a) 1 88 then c (appL a [x.X]) else none) else c a
     have e2 := Aq (l := w.Coming) (L := fun k a i => DP K w g j m r k a i) st2 (fun a => some a) (fun k s i _ => rfl) om (K := K) om (BS w m)
     have g2 := DC (step := st2) (fun c : GComing => ieq c.Epoch m.Epoch) (fun c => c.X) 88 om 1000000 om w.Coming (BS w m) om (fun x _ a c => rfl)
     have f2 : DP K w g j m r K (BS w m) 0 = some (BS w m ++ Dt w m) := e2.trans g2
     rw [f2, bS]
     have hcl : (Dt w m).length ≤ 500000 := by rw [Dt, List.length_map]; exact Nat.le_trans (E5 _ _) a2
     have f3 := MV hK g j m (BS w m ++ Dt w m) (by rw [List.length_append]; omega) (fun x hx => by
      rcases List.mem_append.1 hx with hx | hx
      · obtain ⟨h, hh, rfl⟩ := List.mem_map.1 hx
        exact h1 h (List.mem_filter.1 hh).1
      · obtain ⟨c, hc, rfl⟩ := List.mem_map.1 hx
        exact h2 c (List.mem_filter.1 hc).1) { w with T := r.1, Goal := -1, Held := [] } HOk.nil
     have f3' : Db K g j m (BS w m ++ Dt w m) K w.Id (-1) w.Until r.1.Epoch r.1.Owners r.1.Ids r.1.Incs [] w.Buf w.Coming w.Out 0 = _ := f3
     rw [f3', bS]
     generalize hv : (BS w m ++ Dt w m).foldl (AN g j) { w with T := r.1, Goal := -1, Held := [] } = v
     have hbc : v.Buf = w.Buf ∧ v.Coming = w.Coming := by
      have key : ∀ (l : List GPart) (u : GWorker), (l.foldl (AN g j) u).Buf = u.Buf ∧ (l.foldl (AN g j) u).Coming = u.Coming := by
       intro l
       induction l with
       | nil => intro u; exact ⟨rfl, rfl⟩
       | cons x l ih =>
        intro u
        rw [List.foldl_cons]
        have := ih (AN g j u x)
        have e : (AN g j u x).Buf = u.Buf ∧ (AN g j u x).Coming = u.Coming := by rw [AN]; cases AV g j u x <;> exact ⟨rfl, rfl⟩
        exact ⟨this.1.trans e.1, this.2.trans e.2⟩
      rw [← hv]; exact key _ _
     show (DT K v m.Fresh).bind _ = _
     rw [H0 v m.Fresh (by rw [hbc.1]; omega) (by rw [hbc.2]; omega) (by rw [hbc.1]; omega) (by rw [hbc.2]; omega)]; rfl
   · rfl
theorem GO (K : Nat) (w : GWorker) (h : Sml w) : F30 K w = some w := by
 obtain ⟨h1, h2, h3, h4⟩ := h
 rw [F30, Bl (by show 0 + w.Held.length ≤ _; omega) om, Bl (by show 0 + w.Buf.length ≤ _; omega) om, Bl (by show 0 + w.Coming.length ≤ _; omega) om, Bl (by show 0 + w.Out.length ≤ _; omega) om]
 simp only [cT, F7]
def FD (g : GGraph) (j : GJob) (w : GWorker) (m : GMail) : GWorker :=
 bif ieq m.Kind 1 then Eg g j w m else bif ieq m.Kind 3 then D4 w m else bif ieq m.Kind 4 then Cm w m else bif ieq m.Kind 6 then D3 w m else bif ieq m.Kind 7 then Ep w m else bif ieq m.Kind 9 then Eu g j w m else w
def Ds (g : GGraph) (j : GJob) (w : GWorker) (m : GMail) : GWorker := bif ieq (Ah g j) 0 && Cc m then FD g j w m else w
theorem KG {K : Nat} (hK : 1000000 ≤ K) (g : GGraph) (j : GJob) (w : GWorker) (m : GMail) (hw : Sml w) (h1 : ∀ h ∈ w.Held, SmlP h.X) (h2 : ∀ c ∈ w.Coming, SmlP c.X) (hm : FitM 2000 m) (hp : i64 m.X.P) : F18 K g j w m = some (Ds g j w m) := by
 rw [F18, GO K w hw, bS, DG om, bS, Pk om m hm, Ds]
 cases ieq (Ah g j) 0
 · rfl
 · cases hr : Cc m
   · rfl
   · have hi : m.Incs.length = m.Ids.length := by
      simp only [Cc, Bool.and_eq_true, Al] at hr
      have := hr.2.2.2.2.2.2.1
      omega
     simp only [cT, bS, Bool.true_and, FD, M9 hK w g j m hw hm hp, Os, HX w g j m (by have := hw.b; omega) hK, NY (K := K) om w g j m hw hm hi (by have := hm.i; omega), MJ w g j m hw hK, Nr hK w g j m hw h1 h2]
     cases ieq m.Kind 1 <;> cases ieq m.Kind 3 <;> cases ieq m.Kind 4 <;> cases ieq m.Kind 6 <;> cases ieq m.Kind 7 <;> cases ieq m.Kind 9 <;> rfl
def DW (w : GWorker) (n : Int) : GWorker := bif ilt w.Until n then { w with Until := n } else w
theorem NU (K : Nat) (w : GWorker) (n : Int) (h : Sml w) : F22 K w n = some (DW w n) := by
 rw [F22, GO K w h, bS, DW]
 cases ilt w.Until n <;> rfl
theorem Gw (p : Int) : ∀ (r : List GMsg) (c : GMsg) (d w : List GMsg), Ct p r c d = .inr w → i64 c.V → (∀ x ∈ r, i64 x.V) → (∀ x ∈ d, i64 x.V) → w.length ≤ d.length + r.length + 1 ∧ ∀ x ∈ w, i64 x.V
 | [], c, d, w, h, hc, _, hd => by
  injection h with h
  subst h
  refine ⟨by simp, fun x hx => ?_⟩
  rcases List.mem_append.1 hx with hx | hx
  · exact hd x hx
  · rw [List.mem_singleton.1 hx]; exact hc
 | x :: r, c, d, w, h, hc, hr, hd => by
  rw [Ct] at h
  have hx := hr x List.mem_cons_self
  have hr' := fun y hy => hr y (List.mem_cons_of_mem _ hy)
  cases h1 : ieq c.To x.To
  · rw [h1, cF] at h
    have := Gw p r x (d ++ [c]) w h hx hr' (fun y hy => by
     rcases List.mem_append.1 hy with hy | hy
     · exact hd y hy
     · rw [List.mem_singleton.1 hy]; exact hc)
    rw [List.length_append] at this
    simp only [List.length_singleton] at this
    exact ⟨by simp only [List.length_cons]; omega, this.2⟩
  · rw [h1, cT] at h
    cases h2 : ieq (Aw p c.V x.V).2 0
    · rw [h2] at h; cases h
    · rw [h2, cT] at h
      have := Gw p r _ d w h (Gm hc hx) hr' hd
      exact ⟨by simp only [List.length_cons]; omega, this.2⟩
theorem F6 {p : Int} {l : List GMsg} (hl : ∀ x ∈ l, i64 x.V) : (Ak p l).1.length ≤ l.length ∧ ∀ x ∈ (Ak p l).1, i64 x.V := by
 have hn : ∀ x ∈ ([] : List GMsg), i64 x.V := fun x hx => absurd hx List.not_mem_nil
 have hs : ∀ x ∈ Ap l, i64 x.V := fun x hx => hl x ((CA l).mem_iff.1 hx)
 have hsl := Dy l
 rw [Ak]
 cases An p
 · rw [cF]
   generalize Ap l = m at *
   cases m with
   | nil => exact ⟨Nat.zero_le _, hn⟩
   | cons x r =>
    rw [EP]
    cases hq : Ct p r x [] with
    | inl e => exact ⟨Nat.zero_le _, hn⟩
    | inr w =>
     have := Gw p r x [] w hq (hs x List.mem_cons_self) (fun y hy => hs y (List.mem_cons_of_mem _ hy)) hn
     simp only [List.length_cons, List.length_nil] at hsl this
     exact ⟨by show w.length ≤ _; omega, this.2⟩
 · exact ⟨Nat.zero_le _, hn⟩
theorem J1 {g : GGraph} {j : GJob} {x : GPart} {l : List GMsg} (h : ieq (Ax g j x l).2 0 = true) : As g j (Ax g j x l).1 = true ∧ ieq (Ah g j) 0 = true := by
 rw [Ax] at h ⊢
 cases hc : ieq (Ah g j) 0
 · rw [hc, cF] at h
   have h' : ieq (Ah g j) 0 = true := h
   rw [hc] at h'; cases h'
 · rw [hc] at h
   cases hR : As g j x
   · rw [hR] at h; cases h
   · rw [hR] at h
     cases hI : ieq (nlen (len x.In)) 0
     · rw [hI] at h; cases h
     · rw [hI] at h
       cases hO : BW g.N j.Parts x.P l
       · rw [hO] at h; cases h
       · rw [hO] at h
         simp only [cT, Es] at h ⊢
         cases hB : ieq (Ak j.Prog l).2 0
         · rw [hB, cF] at h
           have h' : ieq (Ak j.Prog l).2 0 = true := h
           rw [hB] at h'; cases h'
         · obtain ⟨_, p1, p2, p3, p4, p5, p6, _⟩ := Do hR
           obtain ⟨r1, r2⟩ := It (p := j.Prog) (l := l)
           have hin : CF g.N j.Parts x.P (-1) (Ak j.Prog l).1 = true := Jt r1 fun m hm => by
            obtain ⟨s, hs, e⟩ := r2 m hm
            have := List.all_eq_true.1 hO s hs
            simp only [Bool.and_eq_true, C1, Ae, Al] at this
            rw [← e]
            exact ⟨by omega, this.2.1, this.2.2⟩
           refine ⟨?_, trivial⟩
           rw [cT, As]
           simp only [hc, C1.2 p1, Ae.2 p2, C1.2 p3, C1.2 p4, Al.2 p5, Al.2 p6, hin, Bool.and_true]
theorem KF {g : GGraph} {j : GJob} {x : GPart} : ∀ (l : List Nat) (i : Nat) (a : List Int) (b : List Bool) (c : List GMsg) (e : Int), doA g j x l i a b c = .inl e → ieq e 0 = false := by
 intro l
 induction l with
 | nil => intro i a b c e h; cases h
 | cons v l ih =>
  intro i a b c e h
  rw [doA] at h
  cases hq : ieq (AC g j x i v).2.2.2 0
  · rw [hq] at h
    injection h with h
    rw [← h]; exact hq
  · rw [hq] at h; exact ih _ _ _ _ _ h
theorem M5 {j : GJob} {c : List GMsg} : ∀ (l : List Nat) (d : List (List GMsg)), (∃ e, ieq e 0 = false ∧ CJ j c l d = .inl e) ∨ (CJ j c l d = .inr (d ++ l.map fun (q : Nat) => (Ak j.Prog (toS j c (q : Int))).1) ∧ ∀ q ∈ l, ieq (Ak j.Prog (toS j c (q : Int))).2 0 = true) := by
 intro l
 induction l with
 | nil => intro d; exact .inr ⟨by rw [CJ, List.map_nil, List.append_nil], fun q hq => absurd hq List.not_mem_nil⟩
 | cons q l ih =>
  intro d
  rw [CJ]
  cases hq : ieq (Ak j.Prog (toS j c (q : Int))).2 0
  · exact .inl ⟨_, hq, rfl⟩
  · rcases ih (d ++ [(Ak j.Prog (toS j c (q : Int))).1]) with h | ⟨h, h'⟩
    · exact .inl h
    · refine .inr ⟨by rw [cT, h]; simp, fun y hy => ?_⟩
      rcases List.mem_cons.1 hy with rfl | hy
      · exact hq
      · exact h' y hy
theorem Gz (g : GGraph) (j : GJob) {x : GPart} (hn : AE x) : (∃ e, ieq e 0 = false ∧ doS g j x = (BH, [], e)) ∨
 (ieq (Ah g j) 0 = true ∧ As g j x = true ∧ ieq x.Step 40 = false ∧ ∃ w, doA g j x (Ar g j x.P) 0 [] [] [] = .inr w ∧ keepP g (Ar g j x.P).length w.1 w.2.1 w.2.2 ∧
  (∀ q < j.Parts.toNat, ieq (Ak j.Prog (toS j w.2.2 (q : Int))).2 0 = true) ∧
  doS g j x = (GPart.mk x.P (x.Step + 1) w.1 w.2.1 [], (List.range j.Parts.toNat).map (fun (q : Nat) => (Ak j.Prog (toS j w.2.2 (q : Int))).1), 0)) := by
 rw [doS]
 cases hc : ieq (Ah g j) 0
 · exact .inl ⟨_, hc, rfl⟩
 · cases hR : As g j x
   · exact .inl ⟨_, rfl, rfl⟩
   · cases h40 : ieq x.Step 40
     · cases hA : doA g j x (Ar g j x.P) 0 [] [] [] with
       | inl e => exact .inl ⟨e, KF _ _ _ _ _ _ hA, rfl⟩
       | inr w =>
        have kw := IJ hn _ 0 [] [] [] (Gp g) w hA
        rw [Nat.zero_add] at kw
        rcases M5 (j := j) (c := w.2.2) (List.range j.Parts.toNat) [] with ⟨e, h1, h2⟩ | ⟨h, h'⟩
        · refine .inl ⟨e, h1, ?_⟩
          simp only [cT, cF, doB, h2, doC]
        · refine .inr ⟨rfl, rfl, rfl, w, rfl, kw, fun q hq => h' q (List.mem_range.2 hq), ?_⟩
          simp only [cT, cF, doB, h, doC, List.nil_append]
     · exact .inl ⟨_, rfl, rfl⟩
theorem LL {K : Nat} (hK : 3000 ≤ K) (g : GGraph) (j : GJob) {x : GPart} (hn : AE x) : Jk K (doS g j x).1 ∧ (doS g j x).2.1.length ≤ 6 ∧ ∀ l ∈ (doS g j x).2.1, l.length ≤ 2000 := by
 have hz : Jk K BH := by refine ⟨⟨?_, ?_⟩, ⟨?_, ?_⟩, ?_, ?_⟩ <;> simp [BH] <;> omega
 rcases Gz g j hn with ⟨e, _, h⟩ | ⟨hc, hR, _, w, _, kw, _, h⟩
 · rw [h]; exact ⟨hz, Nat.zero_le _, fun l hl => absurd hl List.not_mem_nil⟩
 · obtain ⟨hg, _, _, _, _, _, _, p7, p8⟩ := Cp hc
   obtain ⟨g1, g2, g3, _⟩ := B3 hg
   have hvl := FT g j g2 x.P
   have h1 := kw.la
   have h2 := kw.lb
   have h3 := kw.lc
   rw [h]
   refine ⟨⟨⟨by show w.1.length < _; omega, by show w.1.length < _; omega⟩, ⟨by show w.2.1.length < _; omega, by show w.2.1.length < _; omega⟩, by show 0 < 1000000; omega, by show 0 < K; omega⟩, ?_, fun l hl => ?_⟩
   · show ((List.range j.Parts.toNat).map _).length ≤ 6
     rw [List.length_map, List.length_range]; omega
   · obtain ⟨q, hq, rfl⟩ := List.mem_map.1 hl
     have := (F6 (p := j.Prog) (l := toS j w.2.2 (q : Int)) fun m hm => kw.vc m (FK hm).1).1
     have := GM j w.2.2 (q : Int)
     omega
def AR (w : GWorker) (p : Int) (q : Nat) (l : List GMsg) : GMail := GMail.mk 4 w.T.Epoch 0 w.Goal (q : Int) p 0 0 [] [] [] BA l
def BF (p : Int) (w : GWorker) (q : Nat) (l : List GMsg) : GWorker :=
 bif ieq (toT w.T (q : Int)).1 w.Id then Cm w (AR w p q l) else { w with Out := w.Out ++ [GPost.mk (toT w.T (q : Int)).1 (toT w.T (q : Int)).2.1 (AR w p q l)] }
def Bx (p : Int) : Nat → List (List GMsg) → GWorker → GWorker
 | _, [], w => w
 | q, l :: r, w => Bx p (q + 1) r (BF p w q l)
theorem Ks (w : GWorker) (m : GMail) : (Cm w m).Buf.length ≤ w.Buf.length + 1 ∧ (Cm w m).Out = w.Out := by
 rw [Cm]
 cases ile w.T.Epoch m.Epoch && ilt (AO w.Buf m.Epoch m.Step m.Q m.P) 0
 · exact ⟨by show w.Buf.length ≤ _; omega, rfl⟩
 · exact ⟨by show (w.Buf ++ _).length ≤ _; simp, rfl⟩
theorem Kh (p : Int) (w : GWorker) (q : Nat) (l : List GMsg) : (BF p w q l).Buf.length ≤ w.Buf.length + 1 ∧ (BF p w q l).Out.length ≤ w.Out.length + 1 := by
 rw [BF]
 cases ieq (toT w.T (q : Int)).1 w.Id
 · exact ⟨by show w.Buf.length ≤ _; omega, by show (w.Out ++ _).length ≤ _; simp⟩
 · have := Ks w (AR w p q l)
   exact ⟨this.1, by show (Cm w (AR w p q l)).Out.length ≤ _; rw [this.2]; omega⟩
theorem O2 {K : Nat} (hK : 1000000 ≤ K) (g : GGraph) (j : GJob) (h : GHeld) (r : GPart × List (List GMsg) × Int) (hr : r.2.1.length ≤ 100) (w : GWorker) (hb : w.Buf.length ≤ 800000) (ho : w.Out.length ≤ 800000) :
 C9 K g j h r K w.Id w.Goal w.Until w.T.Epoch w.T.Owners w.T.Ids w.T.Incs w.Held w.Buf w.Coming w.Out 0 = some (wt (Bx h.X.P 0 r.2.1 w)) := by
 let step : Nat → List GMsg → GWorker → (GWorker → Option WT) → Option WT := fun i l w c =>
  (F60 K w.T (i : Int)).bind fun t => bif ieq t.1 w.Id then (DN K w g j (AR w h.X.P i l)).bind fun r => c r
   else bif apok (len w.Out) 1 264 then c { w with Out := appL w.Out [GPost.mk t.1 t.2.1 (AR w h.X.P i l)] } else none
 have hs := CL (l := r.2.1) (L := fun k (w : GWorker) i => C9 K g j h r k w.Id w.Goal w.Until w.T.Epoch w.T.Owners w.T.Ids w.T.Incs w.Held w.Buf w.Coming w.Out i) step (fun w => some (wt w)) (fun k s i _ => rfl) om K w 0 om om
 have go : ∀ (l : List (List GMsg)) (i : Nat) (w : GWorker), w.Buf.length + l.length ≤ 900000 → w.Out.length + l.length ≤ 900000 → goI step (fun w => some (wt w)) i l w = some (wt (Bx h.X.P i l w)) := by
  intro l
  induction l with
  | nil => intro i w _ _; rfl
  | cons x l ih =>
   intro i w h1 h2
   rw [List.length_cons] at h1 h2
   have hl := Kh h.X.P w i x
   rw [goI, Bx, ← ih (i + 1) (BF h.X.P w i x) om om]
   show (F60 K w.T (i : Int)).bind _ = _
   rw [Ir om, bS, BF]
   cases ieq (toT w.T (i : Int)).1 w.Id
   · rw [cF, cF, Bl (by show w.Out.length + 1 ≤ _; omega) om]; rfl
   · rw [cT, cT, HX w g j _ om hK, bS]
 rw [List.drop_zero] at hs
 exact hs.trans (go r.2.1 0 w om om)
def Bz (g : GGraph) (j : GJob) (w : GWorker) (i : Nat) (h : GHeld) : List GDid × GWorker :=
 bif ieq (doS g j h.X).2.2 6 || ieq (doS g j h.X).2.2 1 then ([], w) else
 bif ieq (doS g j h.X).2.2 0 then
  ([GDid.mk (Bx h.X.P 0 (doS g j h.X).2.1 { w with Held := w.Held.set i (GHeld.mk (doS g j h.X).1 true h.Given) }).T.Epoch (Bx h.X.P 0 (doS g j h.X).2.1 { w with Held := w.Held.set i (GHeld.mk (doS g j h.X).1 true h.Given) }).Goal h.X.P],
   Bx h.X.P 0 (doS g j h.X).2.1 { w with Held := w.Held.set i (GHeld.mk (doS g j h.X).1 true h.Given) })
 else ([], GA { w with Held := w.Held.set i (GHeld.mk h.X true h.Given) } h.X.P)
theorem Kv {K : Nat} (hK : 1000000 ≤ K) (g : GGraph) (j : GJob) (w : GWorker) (i : Nat) (h : GHeld) (hi : w.Held[i]? = some h) (hx : SmlP h.X) (hb : w.Buf.length ≤ 800000) (ho : w.Out.length ≤ 800000) : DM K w g j (i : Int) = some (Bz g j w i h) := by
 have hlt : i < w.Held.length := (List.getElem?_eq_some_iff.1 hi).1
 have e1 : inr (i : Int) (len w.Held) = true := decide_eq_true ⟨by omega, by show (i : Int) < (w.Held.length : Int); omega⟩
 have e2 : elAt w.Held (i : Int) = some h := by rw [BD]; exact hi
 have p1 : ∀ (y : GHeld), putAt w.Held (i : Int) y = w.Held.set i y := fun y => by show w.Held.set (Int.toNat _) _ = _; rw [Int.toNat_natCast]
 have f1 := (LL (K := 3000) om g j hx.n).2.1
 rw [DM, e1, e2, cT, bS, KJ om g j h.X hx.n hx.i hx.p, bS, Bz]
 cases ieq (doS g j h.X).2.2 6
 · cases ieq (doS g j h.X).2.2 1
   · cases ieq (doS g j h.X).2.2 0
     · simp only [cF, Bool.or_false, p1]
       rw [G1 K _ _ (by show w.Out.length ≤ _; omega)]; rfl
     · simp only [cF, cT, Bool.or_false, p1]
       have e3 : inr (i : Int) (len (w.Held.set i (GHeld.mk h.X true h.Given))) = true := decide_eq_true ⟨by omega, by show (i : Int) < ((w.Held.set i _).length : Int); rw [List.length_set]; omega⟩
       have e4 : elAt (w.Held.set i (GHeld.mk h.X true h.Given)) (i : Int) = some (GHeld.mk h.X true h.Given) := by rw [BD, List.getElem?_set_self hlt]
       have e5 : putAt (w.Held.set i (GHeld.mk h.X true h.Given)) (i : Int) (GHeld.mk (doS g j h.X).1 true h.Given) = w.Held.set i (GHeld.mk (doS g j h.X).1 true h.Given) := by
        show (w.Held.set i _).set (Int.toNat _) _ = _; rw [Int.toNat_natCast, List.set_set]
       rw [e3, e4, cT, bS, e5]
       have hl := O2 hK g j h (doS g j h.X) om { w with Held := w.Held.set i (GHeld.mk (doS g j h.X).1 true h.Given) } (by show w.Buf.length ≤ _; omega) (by show w.Out.length ≤ _; omega)
       have hl' : C9 K g j h (doS g j h.X) K w.Id w.Goal w.Until w.T.Epoch w.T.Owners w.T.Ids w.T.Incs (w.Held.set i (GHeld.mk (doS g j h.X).1 true h.Given)) w.Buf w.Coming w.Out 0 = _ := hl
       rw [hl']; rfl
   · rfl
 · rfl
def Gd : GData := GData.mk 0 0 0 0 []
def Bw (b : List GData) (e s p : Int) : List Nat → Option (List (List GMsg))
 | [] => some []
 | q :: r => bif ilt (AO b e s (q : Int) p) 0 then none else (Bw b e s p r).map fun l => (b.getD (AO b e s (q : Int) p).toNat Gd).Msgs :: l
def EH (w : GWorker) (parts p : Int) (d : GData) : Bool := !(ieq d.Epoch w.T.Epoch && (ieq d.Step w.Goal && (ieq d.P p && (!(ilt d.Q 0) && !(ile parts d.Q)))))
def EJ (w : GWorker) (p : Int) (x : GPart) : GMail := GMail.mk 5 w.T.Epoch 0 w.Goal p 0 0 0 [] [] [] x []
def EY (g : GGraph) (j : GJob) (w : GWorker) (i : Nat) (h : GHeld) (ins : List (List GMsg)) : GWorker :=
 bif ieq (Ax g j h.X ins.flatten).2 0 then Ed { w with Held := w.Held.set i (GHeld.mk (Ax g j h.X ins.flatten).1 false false), Buf := w.Buf.filter (EH w j.Parts h.X.P) } (EJ w h.X.P (Ax g j h.X ins.flatten).1)
 else GA { w with Buf := w.Buf.filter (EH w j.Parts h.X.P) } h.X.P
def Cx (g : GGraph) (j : GJob) (w : GWorker) (i : Nat) (h : GHeld) : GWorker :=
 match Bw w.Buf w.T.Epoch w.Goal h.X.P (List.range j.Parts.toNat) with | none => w | some ins => EY g j w i h ins
abbrev WT2 : Type := Int × Int × Int × Int × List Int × List Int × List Int × List GHeld × List GData × List GComing × List GPost × List (List GMsg)
abbrev wt2 (w : GWorker) (a : List (List GMsg)) : WT2 := (w.Id, (w.Goal, (w.Until, (w.T.Epoch, (w.T.Owners, (w.T.Ids, (w.T.Incs, (w.Held, (w.Buf, (w.Coming, (w.Out, a)))))))))))
theorem NS {K : Nat} (hK : 1000000 ≤ K) (g : GGraph) (j : GJob) (w : GWorker) (i p : Int) (hb : w.Buf.length ≤ 900000) (hp : j.Parts ≤ 6) : ∃ r, Ek K i g.N g.Edges j.Prog j.Source j.Limit j.Parts p K w.Id w.Goal w.Until w.T.Epoch w.T.Owners w.T.Ids w.T.Incs w.Held w.Buf w.Coming w.Out [] 0 = some r ∧
 (match Bw w.Buf w.T.Epoch w.Goal p (List.range j.Parts.toNat) with | none => ∃ a, r = .inl (wt2 w a) | some ins => r = .inr (wt2 w ins)) := by
 let step : Nat → GWorker × List (List GMsg) → (GWorker × List (List GMsg) → Option (WT2 ⊕ WT2)) → Option (WT2 ⊕ WT2) := fun q s c =>
  (Di K s.1 s.1.T.Epoch s.1.Goal (q : Int) p).bind fun r => bif ilt r.1 0 then some (.inl (wt2 r.2 s.2)) else bif inr r.1 (len r.2.Buf) then (elAt r.2.Buf r.1).bind fun d => bif apok (len s.2) 1 24 then c (r.2, appL s.2 [d.Msgs]) else none else none
 have hs := FJ (N := j.Parts) (L := fun k (s : GWorker × List (List GMsg)) i' => Ek K i g.N g.Edges j.Prog j.Source j.Limit j.Parts p k s.1.Id s.1.Goal s.1.Until s.1.T.Epoch s.1.T.Owners s.1.T.Ids s.1.T.Incs s.1.Held s.1.Buf s.1.Coming s.1.Out s.2 i') step (fun s => some (.inr (wt2 s.1 s.2))) (fun k s i' _ => rfl) om (K := K) om (w, [])
 have go : ∀ (l : List Nat) (a : List (List GMsg)), a.length + l.length ≤ 100 → ∃ r, goL step (fun s => some (.inr (wt2 s.1 s.2))) l (w, a) = some r ∧ (match Bw w.Buf w.T.Epoch w.Goal p l with | none => ∃ a, r = .inl (wt2 w a) | some ins => r = .inr (wt2 w (a ++ ins))) := by
  intro l
  induction l with
  | nil => intro a _; exact ⟨_, rfl, by rw [Bw]; simp⟩
  | cons q l ih =>
   intro a ha
   rw [List.length_cons] at ha
   rw [goL, Bw]
   have e0 : step q (w, a) (goL step (fun s => some (.inr (wt2 s.1 s.2))) l) = bif ilt (AO w.Buf w.T.Epoch w.Goal (q : Int) p) 0 then some (.inl (wt2 w a)) else bif inr (AO w.Buf w.T.Epoch w.Goal (q : Int) p) (len w.Buf) then (elAt w.Buf (AO w.Buf w.T.Epoch w.Goal (q : Int) p)).bind fun d => bif apok (len a) 1 24 then goL step (fun s => some (.inr (wt2 s.1 s.2))) l (w, appL a [d.Msgs]) else none else none := by
    show (Di K w w.T.Epoch w.Goal (q : Int) p).bind _ = _
    rw [I4 K w _ _ _ _ om om]; rfl
   rw [e0]
   cases hn : ilt (AO w.Buf w.T.Epoch w.Goal (q : Int) p) 0
   · rw [cF, cF]
     rw [Ad] at hn
     obtain ⟨z, d, z1, z2, _⟩ := Fp (p := EM w.T.Epoch w.Goal (q : Int) p) (l := w.Buf) (by show ¬ AO w.Buf w.T.Epoch w.Goal (q : Int) p < 0; omega)
     have z1' : AO w.Buf w.T.Epoch w.Goal (q : Int) p = (z : Int) := z1
     have hz : z < w.Buf.length := (List.getElem?_eq_some_iff.1 z2).1
     have c1 : inr (z : Int) (len w.Buf) = true := decide_eq_true ⟨by omega, by show (z : Int) < (w.Buf.length : Int); omega⟩
     have c2 : elAt w.Buf (z : Int) = some d := by rw [BD]; exact z2
     have c3 : w.Buf.getD z Gd = d := by rw [List.getD_eq_getElem?_getD, z2]; rfl
     rw [z1', c1, c2, cT, bS, Bl (by show a.length + 1 ≤ _; omega) om, cT, appL, Int.toNat_natCast, c3]
     obtain ⟨r, r1, r2⟩ := ih (a ++ [d.Msgs]) (by simp; omega)
     refine ⟨r, r1, ?_⟩
     cases hi : Bw w.Buf w.T.Epoch w.Goal p l with
     | none => rw [hi] at r2; exact r2
     | some ins =>
      rw [hi] at r2
      show r = .inr (wt2 w (a ++ d.Msgs :: ins))
      rw [r2]; simp
   · exact ⟨_, rfl, a, rfl⟩
 obtain ⟨r, r1, r2⟩ := go (List.range j.Parts.toNat) [] (by simp; omega)
 exact ⟨r, hs.trans r1, by
  cases hi : Bw w.Buf w.T.Epoch w.Goal p (List.range j.Parts.toNat) with
  | none => rw [hi] at r2; exact r2
  | some ins => rw [hi] at r2; exact r2⟩
theorem GD {b : List GData} {e s p : Int} : ∀ {l : List Nat} {ins : List (List GMsg)}, Bw b e s p l = some ins → ins.length = l.length ∧ ∀ x ∈ ins, ∃ d ∈ b, d.Msgs = x
 | [], ins, h => by rw [Bw] at h; cases h; exact ⟨rfl, fun x hx => absurd hx List.not_mem_nil⟩
 | q :: l, ins, h => by
  rw [Bw] at h
  cases hn : ilt (AO b e s (q : Int) p) 0
  · rw [hn, cF] at h
    cases hi : Bw b e s p l with
    | none => rw [hi] at h; cases h
    | some i2 =>
     rw [hi] at h
     cases h
     obtain ⟨a1, a2⟩ := GD hi
     rw [Ad] at hn
     obtain ⟨z, d, z1, z2, _⟩ := Fp (p := EM e s (q : Int) p) (l := b) (by show ¬ AO b e s (q : Int) p < 0; omega)
     have z1' : AO b e s (q : Int) p = (z : Int) := z1
     have c3 : b.getD z Gd = d := by rw [List.getD_eq_getElem?_getD, z2]; rfl
     refine ⟨by simp [a1], fun x hx => ?_⟩
     rw [z1', Int.toNat_natCast, c3] at hx
     rcases List.mem_cons.1 hx with rfl | hx
     · exact ⟨d, List.mem_of_getElem? z2, rfl⟩
     · exact a2 x hx
  · rw [hn] at h; cases h
theorem I9 {α : Type} (c : Nat) : ∀ (l : List (List α)), (∀ x ∈ l, x.length ≤ c) → l.flatten.length ≤ c * l.length
 | [], _ => by simp
 | x :: l, h => by
  have h1 := h x List.mem_cons_self
  have h2 := I9 c l fun y hy => h y (List.mem_cons_of_mem _ hy)
  rw [List.flatten_cons, List.length_append, List.length_cons, Nat.mul_succ]; omega
structure SmlD (d : GData) : Prop where
 l : d.Msgs.length ≤ 100
 n : ∀ m ∈ d.Msgs, i64 m.V
theorem LT {K : Nat} (hK : 1000000 ≤ K) (g : GGraph) (j : GJob) (w : GWorker) (i : Nat) (h : GHeld) (hi : w.Held[i]? = some h) (hx : SmlP h.X) (hb : w.Buf.length ≤ 800000) (hd : ∀ d ∈ w.Buf, SmlD d) (ho : w.Out.length ≤ 800000) (hp : j.Parts ≤ 6) : DJ K w g j (i : Int) = some (Cx g j w i h) := by
 have hlt : i < w.Held.length := (List.getElem?_eq_some_iff.1 hi).1
 have e1 : inr (i : Int) (len w.Held) = true := decide_eq_true ⟨by omega, by show (i : Int) < (w.Held.length : Int); omega⟩
 have e2 : elAt w.Held (i : Int) = some h := by rw [BD]; exact hi
 have p1 : ∀ (y : GHeld), putAt w.Held (i : Int) y = w.Held.set i y := fun y => by show w.Held.set (Int.toNat _) _ = _; rw [Int.toNat_natCast]
 obtain ⟨r, r1, r2⟩ := NS hK g j w (i : Int) h.X.P om hp
 rw [DJ, e1, e2, cT, bS, r1, bS, Cx]
 cases hn : Bw w.Buf w.T.Epoch w.Goal h.X.P (List.range j.Parts.toNat) with
 | none => rw [hn] at r2; obtain ⟨a, rfl⟩ := r2; rfl
 | some ins =>
  rw [hn] at r2
  subst r2
  obtain ⟨n1, n2⟩ := GD hn
  rw [List.length_range] at n1
  have nf : ins.flatten.length ≤ 100 * ins.length := I9 100 ins fun x hx' => by obtain ⟨d, d1, rfl⟩ := n2 x hx'; exact (hd d d1).l
  let st : GData → List GData → (List GData → Option (List GData)) → Option (List GData) := fun x a c =>
   bif ieq x.Epoch w.T.Epoch then (bif ieq x.Step w.Goal then (bif ieq x.P h.X.P then (bif ilt x.Q 0 then (bif apok (len a) 1 56 then c (appL a [x]) else none) else bif ile j.Parts x.Q then (bif apok (len a) 1 56 then c (appL a [x]) else none) else c a)
    else bif apok (len a) 1 56 then c (appL a [x]) else none) else bif apok (len a) 1 56 then c (appL a [x]) else none) else bif apok (len a) 1 56 then c (appL a [x]) else none
  have s1 := Aq (l := w.Buf) (L := fun k a q => Cu K w.Id w.Goal w.Until w.T.Epoch w.T.Owners w.T.Ids w.T.Incs w.Held w.Buf w.Coming w.Out (i : Int) g.N g.Edges j.Prog j.Source j.Limit j.Parts h.X.P ins k a q) st (fun a => some a) (fun k s i _ => rfl) om (K := K) om []
  have s2 := DC (step := st) (EH w j.Parts h.X.P) (fun d => d) 56 om 1000000 om w.Buf [] (by simp; omega) (fun x _ a c => by
   show (bif ieq x.Epoch w.T.Epoch then (bif ieq x.Step w.Goal then (bif ieq x.P h.X.P then (bif ilt x.Q 0 then _ else _) else _) else _) else _) = _
   rw [EH]
   cases ieq x.Epoch w.T.Epoch <;> cases ieq x.Step w.Goal <;> cases ieq x.P h.X.P <;> cases ilt x.Q 0 <;> cases ile j.Parts x.Q <;> rfl)
  have s3 : Cu K w.Id w.Goal w.Until w.T.Epoch w.T.Owners w.T.Ids w.T.Incs w.Held w.Buf w.Coming w.Out (i : Int) g.N g.Edges j.Prog j.Source j.Limit j.Parts h.X.P ins K [] 0 = some (w.Buf.filter (EH w j.Parts h.X.P)) := (s1.trans s2).trans (by simp)
  dsimp only [Sum.elim_inr, wt2]
  rw [s3, bS, e1, e2, cT, bS, Lr om g j h.X ins hx.p hx.i hx.v hx.r om om om (fun m hm => by
   obtain ⟨x, x1, x2⟩ := List.mem_flatten.1 hm
   obtain ⟨d, d1, rfl⟩ := n2 x x1
   exact (hd d d1).n m x2), bS, EY]
  cases ieq (Ax g j h.X ins.flatten).2 0
  · rw [cF, cF, G1 K _ _ (by show w.Out.length ≤ _; omega)]; rfl
  · rw [cT, cT, EN K _ _ (by show w.Out.length ≤ _; omega), bS, p1]; rfl
theorem H2 {g : GGraph} {j : GJob} {x : GPart} (h : As g j x = true) (hn : AE x) : SmlP x := by
 obtain ⟨hc, p0, pj, _, _, hv, hr, hin⟩ := Do h
 obtain ⟨hg, _, _, _, _, _, _, _, j6⟩ := Cp hc
 obtain ⟨g1, g2, _, _⟩ := B3 hg
 have hl := FT g j g2 x.P
 obtain ⟨i1, i2⟩ := FG hin
 have h3 := Ea (fun m : GMsg => m.To) g.N x.In (-1) i1 fun m hm => by have := i2 m hm; omega
 have hcv : Bg g j x.P = ((Ar g j x.P).length : Int) := rfl
 exact ⟨by omega, by omega, by omega, by unfold i64; omega, hn⟩
structure WI (g : GGraph) (j : GJob) (id : Int) (n : Nat) (w : GWorker) : Prop where
 id : w.Id = id
 goal : -1 ≤ w.Goal ∧ w.Goal ≤ 1099511627776
 tab : BL w.T = true
 ok : HOk w.Held
 mine : ∀ h ∈ w.Held, h.X.P < (w.T.Owners.length : Int) ∧ w.T.Owners.getD h.X.P.toNat 0 = w.Id ∧ As g j h.X = true ∧ AE h.X
 bl : w.Buf.length ≤ n
 bd : ∀ d ∈ w.Buf, SmlD d
 cl : w.Coming.length ≤ n
 cd : ∀ c ∈ w.Coming, SmlP c.X
 ol : w.Out.length ≤ n
 od : ∀ p ∈ w.Out, FitM 100 p.M
section
variable {g : GGraph} {j : GJob} {id : Int} {n : Nat} {w : GWorker}
theorem WI.sml (h : WI g j id n w) (hn : n ≤ 400000) : Sml w := ⟨by have := h.ok.len; omega, by have := h.bl; omega, by have := h.cl; omega, by have := h.ol; omega⟩
theorem WI.hx (h : WI g j id n w) : ∀ y ∈ w.Held, SmlP y.X := fun y hy => H2 (h.mine y hy).2.2.1 (h.mine y hy).2.2.2
theorem WI.up (h : WI g j id n w) {m : Nat} (hm : n ≤ m) : WI g j id m w := { h with bl := Nat.le_trans h.bl hm, cl := Nat.le_trans h.cl hm, ol := Nat.le_trans h.ol hm }
theorem WI.own (h : WI g j id n w) : Ai w.T = w.T := by rw [Ai, h.tab]; rfl
theorem L9 (g : GGraph) (j : GJob) (id : Int) : WI g j id 0 (GWorker.mk id (-1) 0 noT [] [] [] []) :=
 ⟨rfl, ⟨by show (-1 : Int) ≤ -1; omega, by show (-1 : Int) ≤ _; omega⟩, HM, HOk.nil, fun h hh => absurd hh List.not_mem_nil, Nat.le_refl _, fun h hh => absurd hh List.not_mem_nil, Nat.le_refl _, fun h hh => absurd hh List.not_mem_nil, Nat.le_refl _, fun h hh => absurd hh List.not_mem_nil⟩
theorem WI.post (h : WI g j id n w) {m : GMail} (hm : FitM 100 m) : WI g j id (n + 1) (Ed w m) :=
 { id := h.id, goal := h.goal, tab := h.tab, ok := h.ok, mine := h.mine, bl := Nat.le_succ_of_le h.bl, bd := h.bd, cl := Nat.le_succ_of_le h.cl, cd := h.cd
   ol := by show (w.Out ++ _).length ≤ _; rw [List.length_append, List.length_singleton]; have := h.ol; omega
   od := fun p hp => by
    rcases List.mem_append.1 hp with hp | hp
    · exact h.od p hp
    · rw [List.mem_singleton.1 hp]; exact hm }
theorem WI.hold (h : WI g j id n w) {x : GPart} (hm : AV g j w x = true) (hn : AE x) : WI g j id n { w with Held := CX w.Held x } := by
 obtain ⟨m1, m2, m3, m4, m5⟩ := I0 hm
 rw [h.own] at m2 m3
 exact { h with
  ok := h.ok.ins hm
  mine := fun y hy => by
   rcases GW.1 hy with hy | rfl
   · exact h.mine y hy
   · exact ⟨m2, m3, m4, hn⟩ }
theorem WI.since (h : WI g j id n w) (e : Int) : WI g j id n (DE w e) :=
 { id := h.id, goal := h.goal, tab := h.tab, ok := h.ok, mine := h.mine, bl := Nat.le_trans (E5 _ _) h.bl, bd := fun d hd => h.bd d (List.mem_filter.1 hd).1
   cl := Nat.le_trans (E5 _ _) h.cl, cd := fun d hd => h.cd d (List.mem_filter.1 hd).1, ol := h.ol, od := h.od }
theorem WI.turn (h : WI g j id n w) {t : GTable} (ht : BL t = true) (out : List GPost) (ho : out = [] ∨ out = w.Out) : WI g j id n { w with T := t, Goal := -1, Held := [], Out := out } :=
 { id := h.id, goal := ⟨by show (-1 : Int) ≤ -1; omega, by show (-1 : Int) ≤ _; omega⟩, tab := ht, ok := HOk.nil, mine := fun y hy => absurd hy List.not_mem_nil, bl := h.bl, bd := h.bd, cl := h.cl, cd := h.cd
   ol := by rcases ho with rfl | rfl; exact Nat.zero_le _; exact h.ol
   od := by rcases ho with rfl | rfl; exact fun p hp => absurd hp List.not_mem_nil; exact h.od }
theorem HOk.set {l : List GHeld} (h : HOk l) {i : Nat} {y y' : GHeld} (hi : l[i]? = some y) (hp : y'.X.P = y.X.P) : HOk (l.set i y') := by
 have hlt := (List.getElem?_eq_some_iff.1 hi).1
 have he : l[i] = y := (List.getElem?_eq_some_iff.1 hi).2
 constructor
 · rw [List.pairwise_iff_getElem]
   intro a b ha hb hab
   rw [List.length_set] at ha hb
   have := (List.pairwise_iff_getElem.1 h.s) a b ha hb hab
   rw [List.getElem_set, List.getElem_set]
   split
   · subst_vars
     rw [if_neg om, hp]; exact this
   · split
     · subst_vars
       rw [hp]; exact this
     · exact this
 · intro z hz
   rcases List.mem_or_eq_of_mem_set hz with hz | rfl
   · exact h.r z hz
   · rw [hp]; exact h.r y (List.mem_of_getElem? hi)
theorem WI.set (h : WI g j id n w) {i : Nat} {y y' : GHeld} (hi : w.Held[i]? = some y) (hp : y'.X.P = y.X.P) (hr : As g j y'.X = true) (hn : AE y'.X) : WI g j id n { w with Held := w.Held.set i y' } := by
 have hy := h.mine y (List.mem_of_getElem? hi)
 exact { h with
  ok := h.ok.set hi hp
  mine := fun z hz => by
   rcases List.mem_or_eq_of_mem_set hz with hz | rfl
   · exact h.mine z hz
   · exact ⟨by rw [hp]; exact hy.1, by rw [hp]; exact hy.2.1, hr, hn⟩ }
theorem WI.data (h : WI g j id n w) {m : GMail} (hm : m.Msgs.length ≤ 100) (hv : ∀ y ∈ m.Msgs, i64 y.V) : WI g j id (n + 1) (Cm w m) := by
 rw [Cm]
 cases ile w.T.Epoch m.Epoch && ilt (AO w.Buf m.Epoch m.Step m.Q m.P) 0
 · exact h.up (Nat.le_succ n)
 · exact { id := h.id, goal := h.goal, tab := h.tab, ok := h.ok, mine := h.mine
           bl := by show (w.Buf ++ _).length ≤ _; rw [List.length_append, List.length_singleton]; have := h.bl; omega
           bd := fun d hd => by
            rcases List.mem_append.1 hd with hd | hd
            · exact h.bd d hd
            · rw [List.mem_singleton.1 hd]; exact ⟨hm, hv⟩
           cl := Nat.le_succ_of_le h.cl, cd := h.cd, ol := Nat.le_succ_of_le h.ol, od := h.od }
structure MI (m : GMail) : Prop where
 f : FitM 100 m
 p : i64 m.X.P
 x : AE m.X
 s : ∀ y ∈ m.Msgs, i64 y.V
theorem MI.sml {m : GMail} (h : MI m) (hr : Cc m = true) : SmlP m.X := by
 have := h.f
 exact ⟨this.v, this.r, by have := this.x; omega, h.p, h.x⟩
theorem FitM.up {c d : Nat} {m : GMail} (h : FitM c m) (hc : c ≤ d) : FitM d m := ⟨Nat.le_trans h.o hc, Nat.le_trans h.i hc, Nat.le_trans h.n hc, Nat.le_trans h.v hc, Nat.le_trans h.r hc, Nat.le_trans h.x hc, Nat.le_trans h.s hc⟩
theorem FB {j : GJob} {e : Int} {m : GMail} (h : (AF j e m).2 = true) : BL (AF j e m).1 = true ∧ (AF j e m).1.Epoch = e := by
 rw [AF, Bool.and_eq_true] at h
 exact ⟨h.1, rfl⟩
theorem H1 (h : WI g j id n w) {m : GMail} (hm : MI m) : WI g j id (n + 1) (C8 g j w m) := by
 rw [C8]
 cases hq : AV g j w m.X
 · exact h.up (Nat.le_succ n)
 · exact (h.hold hq hm.x).post ⟨by simp [Df], by simp [Df], by simp [Df], by simp [Df, BA], by simp [Df, BA], by simp [Df, BA], by simp [Df]⟩
theorem Ot (h : WI g j id n w) {m : GMail} (hm : MI m) : WI g j id (n + 1) (Eg g j w m) := by
 rw [Eg]
 cases ht : (AF j m.Epoch m).2
 · exact h.up (Nat.le_succ n)
 · cases ilt m.Epoch w.T.Epoch
   · cases ilt w.T.Epoch m.Epoch
     · exact H1 h hm
     · exact H1 ((h.turn (FB ht).1 [] (.inl rfl)).since m.Epoch) hm
   · exact h.up (Nat.le_succ n)
theorem Ns {m : GMail} (hr : Cc m = true) : 0 ≤ m.Step ∧ m.Step ≤ 1099511627776 := by
 simp only [Cc, Bool.and_eq_true] at hr
 exact (OP hr.2.2.1).1 m.Step (by simp)
theorem OC (h : WI g j id n w) {m : GMail} (hr : Cc m = true) : WI g j id n (D4 w m) := by
 have := Ns hr
 rw [D4]
 cases ieq m.Epoch w.T.Epoch
 · exact h
 · exact { h with goal := ⟨by show -1 ≤ m.Step; omega, this.2⟩ }
theorem L5 (h : WI g j id n w) {m : GMail} (hm : MI m) : WI g j id (n + 1) (D3 w m) := by
 rw [D3]
 cases ieq m.Epoch w.T.Epoch && !(ilt (BV w.Held m.P) 0)
 · exact h.up (Nat.le_succ n)
 · rw [cT]
   cases hq : w.Held[(BV w.Held m.P).toNat]? with
   | none => exact h.up (Nat.le_succ n)
   | some y =>
    dsimp only
    rw [Fl]
    cases y.Wait || (y.Given || ilt (BM m.Ids m.To) 0)
    · have hy := h.mine y (List.mem_of_getElem? hq)
      have hs := h.hx y (List.mem_of_getElem? hq)
      have h1 := h.set (y' := GHeld.mk y.X y.Wait true) hq rfl hy.2.2.1 hy.2.2.2
      have hin : y.X.In.length ≤ 100 := by
       obtain ⟨hc, _, _, _, _, _, _, hin⟩ := Do hy.2.2.1
       obtain ⟨hg, _⟩ := Cp hc
       obtain ⟨_, g2, _, _⟩ := B3 hg
       obtain ⟨i1, i2⟩ := FG hin
       have h3 := Ea (fun m : GMsg => m.To) g.N y.X.In (-1) i1 fun m hm => by have := i2 m hm; omega
       omega
      exact { id := h1.id, goal := h1.goal, tab := h1.tab, ok := h1.ok, mine := h1.mine, bl := Nat.le_succ_of_le h1.bl, bd := h1.bd, cl := Nat.le_succ_of_le h1.cl, cd := h1.cd
              ol := by show (w.Out ++ _).length ≤ _; rw [List.length_append, List.length_singleton]; have := h.ol; omega
              od := fun p hp => by
               rcases List.mem_append.1 hp with hp | hp
               · exact h.od p hp
               · rw [List.mem_singleton.1 hp]; exact ⟨by simp [DH], by simp [DH], by simp [DH], hs.v, hs.r, hin, by simp [DH]⟩ }
    · exact h.up (Nat.le_succ n)
theorem OH (h : WI g j id n w) {m : GMail} (hm : MI m) (hr : Cc m = true) : WI g j id (n + 1) (Ep w m) := by
 rw [Ep]
 cases ilt m.Epoch w.T.Epoch || w.Coming.any (isC m.Epoch m.X.P)
 · exact { id := h.id, goal := h.goal, tab := h.tab, ok := h.ok, mine := h.mine, bl := Nat.le_succ_of_le h.bl, bd := h.bd
           cl := by show (w.Coming ++ _).length ≤ _; rw [List.length_append, List.length_singleton]; have := h.cl; omega
           cd := fun c hc => by
            rcases List.mem_append.1 hc with hc | hc
            · exact h.cd c hc
            · rw [List.mem_singleton.1 hc]; exact hm.sml hr
           ol := by show (w.Out ++ _).length ≤ _; rw [List.length_append, List.length_singleton]; have := h.ol; omega
           od := fun p hp => by
            rcases List.mem_append.1 hp with hp | hp
            · exact h.od p hp
            · rw [List.mem_singleton.1 hp]; exact ⟨by simp [Dp], by simp [Dp], by simp [Dp], by simp [Dp, BA], by simp [Dp, BA], by simp [Dp, BA], by simp [Dp]⟩ }
 · exact h.up (Nat.le_succ n)
theorem KI (h : WI g j id n w) {x : GPart} (hx : AE x) : WI g j id n (AN g j w x) := by
 rw [AN]
 cases hq : AV g j w x
 · exact h
 · exact h.hold hq hx
theorem Jv : ∀ (l : List GPart) {w : GWorker}, WI g j id n w → (∀ x ∈ l, AE x) → WI g j id n (l.foldl (AN g j) w)
 | [], w, h, _ => h
 | x :: l, w, h, hx => by
  rw [List.foldl_cons]
  exact Jv l (KI h (hx x List.mem_cons_self)) fun y hy => hx y (List.mem_cons_of_mem _ hy)
theorem NQ (h : WI g j id n w) (m : GMail) : ∀ x ∈ BS w m ++ Dt w m, AE x := fun x hx => by
 rcases List.mem_append.1 hx with hx | hx
 · obtain ⟨y, hy, rfl⟩ := List.mem_map.1 hx
   exact (h.mine y (List.mem_filter.1 hy).1).2.2.2
 · obtain ⟨c, hc, rfl⟩ := List.mem_map.1 hx
   exact (h.cd c (List.mem_filter.1 hc).1).n
theorem NJ (h : WI g j id n w) (m : GMail) : WI g j id n (Eu g j w m) := by
 rw [Eu]
 cases ht : (AF j m.Fresh m).2
 · exact h
 · cases ile m.Fresh w.T.Epoch
   · exact (Jv _ (h.turn (FB ht).1 w.Out (.inr rfl)) (NQ h m)).since m.Fresh
   · exact h
theorem MG (h : WI g j id n w) {m : GMail} (hm : MI m) : WI g j id (n + 1) (Ds g j w m) := by
 rw [Ds]
 cases ieq (Ah g j) 0
 · exact h.up (Nat.le_succ n)
 · cases hr : Cc m
   · exact h.up (Nat.le_succ n)
   · simp only [Bool.and_true, cT]
     rw [FD]
     cases ieq m.Kind 1
     · cases ieq m.Kind 3
       · cases ieq m.Kind 4
         · cases ieq m.Kind 6
           · cases ieq m.Kind 7
             · cases ieq m.Kind 9
               · exact h.up (Nat.le_succ n)
               · exact (NJ h m).up (Nat.le_succ n)
             · exact OH h hm hr
           · exact L5 h hm
         · exact h.data hm.f.s hm.s
       · exact (OC h hr).up (Nat.le_succ n)
     · exact Ot h hm
theorem JQ (h : WI g j id n w) (k : Int) : WI g j id n (DW w k) := by
 rw [DW]
 cases ilt w.Until k
 · exact h
 · exact { h with }
theorem Ix (g : GGraph) (j : GJob) {x : GPart} (hn : AE x) (h : ieq (doS g j x).2.2 0 = true) : As g j (doS g j x).1 = true ∧ AE (doS g j x).1 ∧ (doS g j x).1.P = x.P ∧ (doS g j x).2.1.length ≤ 6 ∧ ∀ l ∈ (doS g j x).2.1, l.length ≤ 100 ∧ ∀ m ∈ l, i64 m.V := by
 rcases Gz g j hn with ⟨e, he, hq⟩ | ⟨hc, hR, h40, w, _, kw, _, hq⟩
 · rw [hq] at h; rw [h] at he; cases he
 · obtain ⟨_, p0, pj, s0, s40, hv, hr, _⟩ := Do hR
   obtain ⟨hg, _, _, _, _, _, _, _, j6⟩ := Cp hc
   obtain ⟨g1, g2, _, _⟩ := B3 hg
   have hcv : Bg g j x.P = ((Ar g j x.P).length : Int) := rfl
   rw [Ao] at h40
   rw [hq]
   refine ⟨?_, ⟨kw.va, fun m hm => absurd hm List.not_mem_nil⟩, rfl, ?_, fun l hl => ?_⟩
   · simp only [As, Bool.and_eq_true, C1, Ae, Al]
     have := kw.la
     have := kw.lb
     exact ⟨Al.1 hc, p0, pj, by omega, by omega, by omega, by omega, rfl⟩
   · show ((List.range j.Parts.toNat).map _).length ≤ 6
     rw [List.length_map, List.length_range]; omega
   · obtain ⟨q, hq, rfl⟩ := List.mem_map.1 hl
     obtain ⟨r1, r2⟩ := It (p := j.Prog) (l := toS j w.2.2 (q : Int))
     have h3 := Ea (fun m : GMsg => m.To) g.N _ 0 r1 fun m hm => by
      obtain ⟨s, hs, he⟩ := r2 m hm
      have := kw.vt s (FK hs).1
      omega
     exact ⟨by omega, (F6 fun m hm => kw.vc m (FK hm).1).2⟩
theorem Hh (p : Int) : ∀ (l : List (List GMsg)) (q n : Nat) {w : GWorker}, WI g j id n w → (∀ x ∈ l, x.length ≤ 100 ∧ ∀ m ∈ x, i64 m.V) → WI g j id (n + l.length) (Bx p q l w)
 | [], q, n, w, h, _ => h
 | x :: l, q, n, w, h, hx => by
  rw [Bx, List.length_cons, show n + (l.length + 1) = (n + 1) + l.length by omega]
  obtain ⟨x1, x2⟩ := hx x List.mem_cons_self
  refine Hh p l (q + 1) (n + 1) ?_ fun y hy => hx y (List.mem_cons_of_mem _ hy)
  rw [BF]
  cases ieq (toT w.T (q : Int)).1 w.Id
  · exact { id := h.id, goal := h.goal, tab := h.tab, ok := h.ok, mine := h.mine, bl := Nat.le_succ_of_le h.bl, bd := h.bd, cl := Nat.le_succ_of_le h.cl, cd := h.cd
            ol := by show (w.Out ++ _).length ≤ _; rw [List.length_append, List.length_singleton]; have := h.ol; omega
            od := fun p hp => by
             rcases List.mem_append.1 hp with hp | hp
             · exact h.od p hp
             · rw [List.mem_singleton.1 hp]; exact ⟨by simp [AR], by simp [AR], by simp [AR], by simp [AR, BA], by simp [AR, BA], by simp [AR, BA], x1⟩ }
  · exact h.data x1 x2
theorem I5 (w : GWorker) (p : Int) : FitM 100 (CY w p) := ⟨by simp [CY], by simp [CY], by simp [CY], by simp [CY, BA], by simp [CY, BA], by simp [CY, BA], by simp [CY]⟩
theorem Iy (h : WI g j id n w) {i : Nat} {y : GHeld} (hi : w.Held[i]? = some y) : WI g j id (n + 6) (Bz g j w i y).2 := by
 have hy := h.mine y (List.mem_of_getElem? hi)
 rw [Bz]
 cases ieq (doS g j y.X).2.2 6 || ieq (doS g j y.X).2.2 1
 · cases h0 : ieq (doS g j y.X).2.2 0
   · exact ((h.set (y' := GHeld.mk y.X true y.Given) hi rfl hy.2.2.1 hy.2.2.2).post (I5 _ _)).up om
   · obtain ⟨d1, d2, d3, d4, d5⟩ := Ix g j hy.2.2.2 h0
     exact (Hh y.X.P _ 0 n (h.set (y' := GHeld.mk (doS g j y.X).1 true y.Given) hi d3 d1 d2) d5).up om
 · exact h.up om
theorem Po {x : GPart} (hx : AE x) {l : List GMsg} (hl : ∀ m ∈ l, i64 m.V) : AE (Ax g j x l).1 := by
 have hz : AE BH := ⟨fun v hv => absurd hv List.not_mem_nil, fun m hm => absurd hm List.not_mem_nil⟩
 rw [Ax]
 cases ieq (Ah g j) 0
 · exact hz
 · cases As g j x
   · exact hz
   · cases ieq (nlen (len x.In)) 0
     · exact hz
     · cases BW g.N j.Parts x.P l
       · exact hz
       · simp only [cT]
         rw [Es]
         cases ieq (Ak j.Prog l).2 0
         · exact hz
         · exact ⟨hx.1, (F6 hl).2⟩
theorem Jx {x : GPart} {l : List GMsg} (h : ieq (Ax g j x l).2 0 = true) : (Ax g j x l).1.P = x.P := by
 have key : ∀ (a : GPart) (e : Int), ieq e 0 = true → ieq e 0 = true := fun _ _ h => h
 rw [Ax] at h ⊢
 cases hc : ieq (Ah g j) 0
 · rw [hc] at h
   simp only [cF] at h
   rw [hc] at h; cases h
 · rw [hc] at h
   cases hp : As g j x
   · rw [hp] at h; cases h
   · rw [hp] at h
     cases hi : ieq (nlen (len x.In)) 0
     · rw [hi] at h; cases h
     · rw [hi] at h
       cases ht : BW g.N j.Parts x.P l
       · rw [ht] at h; cases h
       · rw [ht] at h
         simp only [cT] at h ⊢
         rw [Es] at h ⊢
         cases hb : ieq (Ak j.Prog l).2 0
         · rw [hb] at h
           simp only [cF] at h
           rw [hb] at h; cases h
         · rfl
theorem Nh (h : WI g j id n w) {i : Nat} {y : GHeld} (hi : w.Held[i]? = some y) : WI g j id (n + 1) (Cx g j w i y) := by
 have hy := h.mine y (List.mem_of_getElem? hi)
 rw [Cx]
 cases hq : Bw w.Buf w.T.Epoch w.Goal y.X.P (List.range j.Parts.toNat) with
 | none => exact h.up (Nat.le_succ n)
 | some ins =>
  dsimp only
  have hins : ∀ m ∈ ins.flatten, i64 m.V := fun m hm => by
   obtain ⟨x, x1, x2⟩ := List.mem_flatten.1 hm
   obtain ⟨d, d1, rfl⟩ := (GD hq).2 x x1
   exact (h.bd d d1).n m x2
  have hb : ∀ {w' : GWorker}, WI g j id n w' → w'.Buf = w.Buf → WI g j id n { w' with Buf := w.Buf.filter (EH w j.Parts y.X.P) } := fun h' e =>
   { h' with bl := Nat.le_trans (E5 _ _) h.bl, bd := fun d hd => h.bd d (List.mem_filter.1 hd).1 }
  rw [EY]
  cases h0 : ieq (Ax g j y.X ins.flatten).2 0
  · exact (hb h rfl).post (I5 _ _)
  · have r1 := (J1 h0).1
    have r2 := Po (g := g) (j := j) hy.2.2.2 hins
    have r3 := H2 r1 r2
    have hin : (Ax g j y.X ins.flatten).1.In.length ≤ 100 := by
     obtain ⟨hc, _, _, _, _, _, _, hin⟩ := Do r1
     obtain ⟨hg, _⟩ := Cp hc
     obtain ⟨_, g2, _, _⟩ := B3 hg
     obtain ⟨i1, i2⟩ := FG hin
     have h3 := Ea (fun m : GMsg => m.To) g.N _ (-1) i1 fun m hm => by have := i2 m hm; omega
     omega
    exact (hb (h.set (y' := GHeld.mk (Ax g j y.X ins.flatten).1 false false) hi (Jx h0) r1 r2) rfl).post ⟨by simp [EJ], by simp [EJ], by simp [EJ], r3.v, r3.r, hin, by simp [EJ]⟩
end
theorem Gj {α σ β : Type} {step : α → σ → (σ → Option β) → Option β} {fin : σ → Option β} (P : Nat → σ → Prop) (f : σ → α → σ) : ∀ (l : List α) (s : σ), P l.length s → (∀ x ∈ l, ∀ n s, P (n + 1) s → P n (f s x) ∧ ∀ c, step x s c = c (f s x)) →
 goL step fin l s = fin (l.foldl f s) ∧ P 0 (l.foldl f s)
 | [], s, hs, _ => ⟨rfl, hs⟩
 | x :: l, s, hs, h => by
  obtain ⟨h1, h2⟩ := h x List.mem_cons_self l.length s hs
  rw [goL, h2, List.foldl_cons]
  exact Gj P f l (f s x) h1 fun y hy => h y (List.mem_cons_of_mem _ hy)
def BT (g : GGraph) (j : GJob) (s : GWorker × List GDid) (i : Nat) : GWorker × List GDid := match s.1.Held[i]? with
 | some h => bif h.Wait || (h.Given || !(ieq h.X.Step s.1.Goal)) then s else ((Bz g j s.1 i h).2, s.2 ++ (Bz g j s.1 i h).1)
 | none => s
def Am (g : GGraph) (j : GJob) (w : GWorker) : GWorker × List GDid := (List.range w.Held.length).foldl (BT g j) (w, [])
def ER (g : GGraph) (j : GJob) (w : GWorker) (i : Nat) : GWorker := match w.Held[i]? with
 | some h => bif h.Wait && ieq h.X.Step (w.Goal + 1) then Cx g j w i h else w
 | none => w
def E1 (g : GGraph) (j : GJob) (w : GWorker) : GWorker := (List.range w.Held.length).foldl (ER g j) w
section
variable {g : GGraph} {j : GJob} {id : Int} {n : Nat} {w : GWorker}
theorem F1 (p : Int) : ∀ (l : List (List GMsg)) (q : Nat) (w : GWorker), (Bx p q l w).Held = w.Held ∧ (Bx p q l w).T = w.T ∧ (Bx p q l w).Goal = w.Goal ∧ (Bx p q l w).Id = w.Id ∧ (Bx p q l w).Until = w.Until ∧ (Bx p q l w).Coming = w.Coming
 | [], _, _ => ⟨rfl, rfl, rfl, rfl, rfl, rfl⟩
 | x :: l, q, w => by
  obtain ⟨a, b, c, d, e, f⟩ := F1 p l (q + 1) (BF p w q x)
  have h : (BF p w q x).Held = w.Held ∧ (BF p w q x).T = w.T ∧ (BF p w q x).Goal = w.Goal ∧ (BF p w q x).Id = w.Id ∧ (BF p w q x).Until = w.Until ∧ (BF p w q x).Coming = w.Coming := by
   rw [BF]
   cases ieq (toT w.T (q : Int)).1 w.Id
   · exact ⟨rfl, rfl, rfl, rfl, rfl, rfl⟩
   · rw [cT, Cm]
     cases ile w.T.Epoch (AR w p q x).Epoch && ilt (AO w.Buf (AR w p q x).Epoch (AR w p q x).Step (AR w p q x).Q (AR w p q x).P) 0 <;> exact ⟨rfl, rfl, rfl, rfl, rfl, rfl⟩
  rw [Bx]
  exact ⟨a.trans h.1, b.trans h.2.1, c.trans h.2.2.1, d.trans h.2.2.2.1, e.trans h.2.2.2.2.1, f.trans h.2.2.2.2.2⟩
theorem HR (g : GGraph) (j : GJob) (w : GWorker) (i : Nat) (h : GHeld) : (Bz g j w i h).2.Held.length = w.Held.length ∧ (Bz g j w i h).2.T = w.T ∧ (Bz g j w i h).2.Goal = w.Goal ∧ (Bz g j w i h).1.length ≤ 1 := by
 rw [Bz]
 cases ieq (doS g j h.X).2.2 6 || ieq (doS g j h.X).2.2 1
 · cases ieq (doS g j h.X).2.2 0
   · exact ⟨List.length_set, rfl, rfl, Nat.zero_le _⟩
   · obtain ⟨a, b, c, _⟩ := F1 h.X.P (doS g j h.X).2.1 0 { w with Held := w.Held.set i (GHeld.mk (doS g j h.X).1 true h.Given) }
     exact ⟨(congrArg List.length a).trans List.length_set, b, c, Nat.le_refl _⟩
 · exact ⟨rfl, rfl, rfl, Nat.zero_le _⟩
theorem LO (g : GGraph) (j : GJob) (w : GWorker) (i : Nat) (h : GHeld) : (Cx g j w i h).Held.length = w.Held.length ∧ (Cx g j w i h).T = w.T ∧ (Cx g j w i h).Goal = w.Goal := by
 rw [Cx]
 cases Bw w.Buf w.T.Epoch w.Goal h.X.P (List.range j.Parts.toNat) with
 | none => exact ⟨rfl, rfl, rfl⟩
 | some ins =>
  dsimp only
  rw [EY]
  cases ieq (Ax g j h.X ins.flatten).2 0
  · exact ⟨rfl, rfl, rfl⟩
  · exact ⟨List.length_set, rfl, rfl⟩
abbrev WT3 : Type := Int × Int × Int × Int × List Int × List Int × List Int × List GHeld × List GData × List GComing × List GPost × List GDid
abbrev wt3 (w : GWorker) (a : List GDid) : WT3 := (w.Id, (w.Goal, (w.Until, (w.T.Epoch, (w.T.Owners, (w.T.Ids, (w.T.Incs, (w.Held, (w.Buf, (w.Coming, (w.Out, a)))))))))))
theorem Ja {K : Nat} (hK : 1000000 ≤ K) (h : WI g j id n w) (hn : n ≤ 300000) :
 C4 K g j w K w.Id w.Goal w.Until w.T.Epoch w.T.Owners w.T.Ids w.T.Incs w.Held w.Buf w.Coming w.Out [] 0 = some (wt3 (Am g j w).1 (Am g j w).2) ∧ WI g j id (n + 36) (Am g j w).1 ∧ (Am g j w).1.Held.length = w.Held.length ∧ (Am g j w).1.T = w.T ∧ (Am g j w).1.Goal = w.Goal := by
 have hl := h.ok.len
 let step : Nat → GWorker × List GDid → (GWorker × List GDid → Option WT3) → Option WT3 := fun i s c =>
  bif inr (i : Int) (len s.1.Held) then (elAt s.1.Held (i : Int)).bind fun x => bif x.Wait then c s else bif x.Given then c s else bif ieq x.X.Step s.1.Goal then (DM K s.1 g j (i : Int)).bind fun r => bif apok (len s.2) (len r.1) 24 then c (r.2, appL s.2 r.1) else none else c s else none
 have hs := FJ (N := nlen (len w.Held)) (L := fun k (s : GWorker × List GDid) i => C4 K g j w k s.1.Id s.1.Goal s.1.Until s.1.T.Epoch s.1.T.Owners s.1.T.Ids s.1.T.Incs s.1.Held s.1.Buf s.1.Coming s.1.Out s.2 i) step (fun s => some (wt3 s.1 s.2)) (fun k s i _ => rfl) (by rw [CC]; omega) (K := K) (by rw [CC]; omega) (w, [])
 have hN : (nlen (len w.Held)).toNat = w.Held.length := by rw [CC]; exact Int.toNat_natCast _
 rw [hN] at hs
 have e := Gj (step := step) (fin := fun s => some (wt3 s.1 s.2)) (fun m s => m ≤ 6 ∧ WI g j id (n + 36 - 6 * m) s.1 ∧ s.2.length + m ≤ 6 ∧ s.1.Held.length = w.Held.length ∧ s.1.T = w.T ∧ s.1.Goal = w.Goal) (BT g j) (List.range w.Held.length) (w, []) ⟨by simp; omega, h.up (by simp; omega), by simp; omega, rfl, rfl, rfl⟩ (fun i hi m s ⟨p1, p2, p3, p4, p5, p6⟩ => by
  have hi' : i < s.1.Held.length := by rw [p4]; exact List.mem_range.1 hi
  have hy : s.1.Held[i]? = some s.1.Held[i] := List.getElem?_eq_getElem hi'
  have c1 : inr (i : Int) (len s.1.Held) = true := decide_eq_true ⟨by omega, by show (i : Int) < (s.1.Held.length : Int); omega⟩
  have c2 : elAt s.1.Held (i : Int) = some s.1.Held[i] := by rw [BD]; exact hy
  have e0 : ∀ c, step i s c = bif s.1.Held[i].Wait then c s else bif s.1.Held[i].Given then c s else bif ieq s.1.Held[i].X.Step s.1.Goal then (DM K s.1 g j (i : Int)).bind fun r => bif apok (len s.2) (len r.1) 24 then c (r.2, appL s.2 r.1) else none else c s := fun c => by
   show (bif inr (i : Int) (len s.1.Held) then _ else _) = _
   rw [c1, c2, cT, bS]
  have stay : (m ≤ 6 ∧ WI g j id (n + 36 - 6 * m) s.1 ∧ s.2.length + m ≤ 6 ∧ s.1.Held.length = w.Held.length ∧ s.1.T = w.T ∧ s.1.Goal = w.Goal) := ⟨by omega, p2.up om, by omega, p4, p5, p6⟩
  rw [BT, hy]
  dsimp only
  simp only [e0]
  cases s.1.Held[i].Wait
  · cases s.1.Held[i].Given
    · cases ieq s.1.Held[i].X.Step s.1.Goal
      · exact ⟨stay, fun c => rfl⟩
      · have hsml := p2.sml om
        have hf := Kv hK g j s.1 i s.1.Held[i] hy (p2.hx _ (List.getElem_mem hi')) (by have := hsml.b; omega) (by have := hsml.o; omega)
        obtain ⟨k1, k2, k3, k4⟩ := HR g j s.1 i s.1.Held[i]
        refine ⟨⟨by omega, (Iy p2 hy).up om, ?_, k1.trans p4, k2.trans p5, k3.trans p6⟩, fun c => ?_⟩
        · show (s.2 ++ (Bz g j s.1 i s.1.Held[i]).1).length + m ≤ 6
          rw [List.length_append]; omega
        · simp only [cF, cT, Bool.or_false, Bool.not_true, hf, bS]
          rw [Bl (by show s.2.length + (Bz g j s.1 i s.1.Held[i]).1.length ≤ _; omega) om]; rfl
    · exact ⟨stay, fun c => rfl⟩
  · exact ⟨stay, fun c => rfl⟩)
 obtain ⟨e1, _, e2, _, e3, e4, e5⟩ := e
 exact ⟨hs.trans e1, e2, e3, e4, e5⟩
theorem Hb {K : Nat} (hK : 1000000 ≤ K) (hc : ieq (Ah g j) 0 = true) (h : WI g j id n w) (hn : n ≤ 300000) (hg : i64 (w.Goal + 1)) (a : List GDid) (b : Nat) (hb : b = w.Held.length) {r : WT3} (hr : len r.2.2.2.2.2.2.2.1 = b) :
 CS K g j r K w.Id w.Goal w.Until w.T.Epoch w.T.Owners w.T.Ids w.T.Incs w.Held w.Buf w.Coming w.Out 0 = some (wt (E1 g j w)) ∧ WI g j id (n + 6) (E1 g j w) ∧ (E1 g j w).T = w.T := by
 have hl := h.ok.len
 obtain ⟨_, _, _, _, _, _, _, _, j6⟩ := Cp hc
 let step : Nat → GWorker → (GWorker → Option WT) → Option WT := fun i s c =>
  bif inr (i : Int) (len s.Held) then (elAt s.Held (i : Int)).bind fun x => bif x.Wait then (bif ieq x.X.Step (wadd .i64 s.Goal 1) then (DJ K s g j (i : Int)).bind fun r => c r else c s) else c s else none
 have hs := FJ (N := nlen (len r.2.2.2.2.2.2.2.1)) (L := fun k (s : GWorker) i => CS K g j r k s.Id s.Goal s.Until s.T.Epoch s.T.Owners s.T.Ids s.T.Incs s.Held s.Buf s.Coming s.Out i) step (fun s => some (wt s)) (fun k s i _ => rfl) (by rw [hr]; show (b : Int) ≤ _; omega) (K := K) (by rw [hr]; show (b : Int).toNat < _; omega) w
 have hN : (nlen (len r.2.2.2.2.2.2.2.1)).toNat = w.Held.length := by rw [hr, hb]; exact Int.toNat_natCast _
 rw [hN] at hs
 have e := Gj (step := step) (fin := fun s => some (wt s)) (fun m s => m ≤ 6 ∧ WI g j id (n + 6 - m) s ∧ s.Held.length = w.Held.length ∧ s.T = w.T ∧ s.Goal = w.Goal) (ER g j) (List.range w.Held.length) w ⟨by simp; omega, h.up (by simp; omega), rfl, rfl, rfl⟩ (fun i hi m s ⟨p1, p2, p4, p5, p6⟩ => by
  have hi' : i < s.Held.length := by rw [p4]; exact List.mem_range.1 hi
  have hy : s.Held[i]? = some s.Held[i] := List.getElem?_eq_getElem hi'
  have c1 : inr (i : Int) (len s.Held) = true := decide_eq_true ⟨by omega, by show (i : Int) < (s.Held.length : Int); omega⟩
  have c2 : elAt s.Held (i : Int) = some s.Held[i] := by rw [BD]; exact hy
  have c3 : wadd .i64 s.Goal 1 = s.Goal + 1 := by rw [p6]; exact He (by have := hg.1; omega) (by have := hg.2; omega)
  have e0 : ∀ c, step i s c = bif s.Held[i].Wait then (bif ieq s.Held[i].X.Step (s.Goal + 1) then (DJ K s g j (i : Int)).bind fun r => c r else c s) else c s := fun c => by
   show (bif inr (i : Int) (len s.Held) then _ else _) = _
   rw [c1, c2, cT, bS, c3]
  have stay : (m ≤ 6 ∧ WI g j id (n + 6 - m) s ∧ s.Held.length = w.Held.length ∧ s.T = w.T ∧ s.Goal = w.Goal) := ⟨by omega, p2.up om, p4, p5, p6⟩
  rw [ER, hy]
  dsimp only
  simp only [e0]
  cases s.Held[i].Wait
  · exact ⟨stay, fun c => rfl⟩
  · cases ieq s.Held[i].X.Step (s.Goal + 1)
    · exact ⟨stay, fun c => rfl⟩
    · have hsml := p2.sml om
      have hf := LT hK g j s i s.Held[i] hy (p2.hx _ (List.getElem_mem hi')) (by have := hsml.b; omega) p2.bd (by have := hsml.o; omega) j6
      obtain ⟨k1, k2, k3⟩ := LO g j s i s.Held[i]
      refine ⟨⟨by omega, (Nh p2 hy).up om, k1.trans p4, k2.trans p5, k3.trans p6⟩, fun c => ?_⟩
      simp only [cT, Bool.and_self, hf, bS])
 obtain ⟨e1, _, e2, e3, e4, e5⟩ := e
 exact ⟨hs.trans e1, e2, e4⟩
def CD (g : GGraph) (j : GJob) (w : GWorker) (now : Int) : GWorker × List GPost × List GDid :=
 bif ieq (Ah g j) 0 && ilt now w.Until then ({ E1 g j (Am g j w).1 with Out := [] }, (E1 g j (Am g j w).1).Out, (Am g j w).2) else (w, [], [])
theorem NP {K : Nat} (hK : 1000000 ≤ K) (h : WI g j id n w) (hn : n ≤ 200000) (now : Int) : F14 K g j w now = some (CD g j w now) := by
 have hg : i64 (w.Goal + 1) := by have := h.goal; unfold i64; omega
 rw [F14, GO K w (h.sml om), bS, DG om, bS, CD]
 cases hc : ieq (Ah g j) 0
 · rfl
 · rw [cT, Bool.true_and]
   show (some (ilt now w.Until)).bind _ = _
   rw [bS]
   cases ilt now w.Until
   · rfl
   · obtain ⟨d1, d2, d3, d4, d5⟩ := Ja hK h om
     rw [cT, cT, d1, bS]
     obtain ⟨c1, _, _⟩ := Hb hK hc d2 om (by rw [d5]; exact hg) [] _ rfl (r := wt3 (Am g j w).1 (Am g j w).2) rfl
     have c1' : CS K g j (wt3 (Am g j w).1 (Am g j w).2) K (Am g j w).1.Id (Am g j w).1.Goal (Am g j w).1.Until (Am g j w).1.T.Epoch (Am g j w).1.T.Owners (Am g j w).1.T.Ids (Am g j w).1.T.Incs (Am g j w).1.Held (Am g j w).1.Buf (Am g j w).1.Coming (Am g j w).1.Out 0 = _ := c1
     dsimp only [wt3] at c1' ⊢
     rw [c1']; rfl
theorem M1 (h : WI g j id n w) (hK : n ≤ 200000) (now : Int) : WI g j id (n + 42) (CD g j w now).1 ∧ (CD g j w now).1.T = w.T ∧ (∀ p ∈ (CD g j w now).2.1, FitM 100 p.M) := by
 have hg : i64 (w.Goal + 1) := by have := h.goal; unfold i64; omega
 rw [CD]
 cases hc : ieq (Ah g j) 0
 · exact ⟨h.up om, rfl, fun p hp => absurd hp List.not_mem_nil⟩
 · rw [Bool.true_and]
   cases ilt now w.Until
   · exact ⟨h.up om, rfl, fun p hp => absurd hp List.not_mem_nil⟩
   · obtain ⟨_, d2, d3, d4, d5⟩ := Ja (Nat.le_refl 1000000) h om
     obtain ⟨_, c2, c3⟩ := Hb (Nat.le_refl 1000000) hc d2 om (by rw [d5]; exact hg) [] _ rfl (r := wt3 (Am g j w).1 (Am g j w).2) rfl
     exact ⟨{ c2 with ol := Nat.zero_le _, od := fun p hp => absurd hp List.not_mem_nil }, c3.trans d4, c2.od⟩
end
def Cd (g : GGraph) (j : GJob) (w : GWorker) (a : GAct) : GWorker × List GPost × List GDid :=
 bif ieq a.Kind 0 then (Ds g j w a.M, [], []) else bif ieq a.Kind 1 then CD g j w a.N else (DW w a.N, [], [])
section
variable {g : GGraph} {j : GJob} {id : Int} {n : Nat} {w : GWorker}
theorem Nu {K : Nat} (hK : 1000000 ≤ K) (h : WI g j id n w) (hn : n ≤ 200000) {a : GAct} (ha : MI a.M) : F13 K g j w a = some (Cd g j w a) := by
 rw [F13, Cd]
 cases ieq a.Kind 0
 · cases ieq a.Kind 1
   · rw [cF, cF, cF, cF, NU K w _ (h.sml om)]; rfl
   · rw [cF, cF, cT, cT, NP hK h hn]; rfl
 · rw [cT, cT, KG hK g j w a.M (h.sml om) h.hx h.cd (ha.f.up om) ha.p]; rfl
theorem Kn (h : WI g j id n w) (hn : n ≤ 200000) {a : GAct} (ha : MI a.M) : WI g j id (n + 42) (Cd g j w a).1 := by
 rw [Cd]
 cases ieq a.Kind 0
 · cases ieq a.Kind 1
   · exact (JQ h a.N).up om
   · exact (M1 h hn a.N).1
 · exact (MG h ha).up om
def Fa (m : GMail) : Int := [(m.Ids.length : Int), (m.Incs.length : Int), (m.X.Vals.length : Int), (m.X.Rest.length : Int), (m.X.In.length : Int), (m.Msgs.length : Int)].foldl (fun s x => bif ilt s x then x else s) (m.Owners.length : Int)
theorem Ni {K : Nat} (hK : 100 ≤ K) (m : GMail) : F12 K m = some (Fa m) := by
 let step : Int → Int → (Int → Option Int) → Option Int := fun x s c => bif ilt s x then c x else c s
 have hs := Aq (l := [(m.Ids.length : Int), (m.Incs.length : Int), (m.X.Vals.length : Int), (m.X.Rest.length : Int), (m.X.In.length : Int), (m.Msgs.length : Int)]) (L := fun k s i => DI K k s [(m.Ids.length : Int), (m.Incs.length : Int), (m.X.Vals.length : Int), (m.X.Rest.length : Int), (m.X.In.length : Int), (m.Msgs.length : Int)] i) step (fun s => some s) (fun k s i _ => rfl) (by simp) (K := K) (by simp; omega) (m.Owners.length : Int)
 have e := Gf (step := step) (fin := fun s => some s) (fun _ => True) (fun s x => bif ilt s x then x else s) [(m.Ids.length : Int), (m.Incs.length : Int), (m.X.Vals.length : Int), (m.X.Rest.length : Int), (m.X.In.length : Int), (m.Msgs.length : Int)] (m.Owners.length : Int) trivial (fun x _ s _ => ⟨trivial, fun c => by show (bif ilt s x then c x else c s) = _; cases ilt s x <;> rfl⟩)
 have e' : DI K K (nlen (len m.Owners)) [(nlen (len m.Ids)), (nlen (len m.Incs)), (nlen (len m.X.Vals)), (nlen (len m.X.Rest)), (nlen (len m.X.In)), (nlen (len m.Msgs))] 0 = some (Fa m) := hs.trans e.1
 rw [F12, e']; rfl
theorem Ig : ∀ (l : List Int) (s : Int), s ≤ l.foldl (fun s x => bif ilt s x then x else s) s ∧ ∀ x ∈ l, x ≤ l.foldl (fun s x => bif ilt s x then x else s) s
 | [], s => ⟨Int.le_refl _, fun x hx => absurd hx List.not_mem_nil⟩
 | y :: l, s => by
  obtain ⟨h1, h2⟩ := Ig l (bif ilt s y then y else s)
  have h3 : s ≤ (bif ilt s y then y else s) ∧ y ≤ (bif ilt s y then y else s) := by
   cases hq : ilt s y
   · rw [Ad] at hq; exact ⟨Int.le_refl _, hq⟩
   · rw [Ae] at hq; exact ⟨by rw [cT]; omega, Int.le_refl _⟩
  rw [List.foldl_cons]
  refine ⟨Int.le_trans h3.1 h1, fun x hx => ?_⟩
  rcases List.mem_cons.1 hx with rfl | hx
  · exact Int.le_trans h3.2 h1
  · exact h2 x hx
theorem Ml {m : GMail} (h : ilt 100 (Fa m) = false) : FitM 100 m := by
 rw [Ad] at h
 obtain ⟨h1, h2⟩ := Ig [(m.Ids.length : Int), (m.Incs.length : Int), (m.X.Vals.length : Int), (m.X.Rest.length : Int), (m.X.In.length : Int), (m.Msgs.length : Int)] (m.Owners.length : Int)
 have k : ∀ x ∈ [(m.Ids.length : Int), (m.Incs.length : Int), (m.X.Vals.length : Int), (m.X.Rest.length : Int), (m.X.In.length : Int), (m.Msgs.length : Int)], x ≤ 100 := fun x hx => Int.le_trans (h2 x hx) h
 have h0 : (m.Owners.length : Int) ≤ 100 := Int.le_trans h1 h
 have a1 := k (m.Ids.length : Int) (by simp)
 have a2 := k (m.Incs.length : Int) (by simp)
 have a3 := k (m.X.Vals.length : Int) (by simp)
 have a4 := k (m.X.Rest.length : Int) (by simp)
 have a5 := k (m.X.In.length : Int) (by simp)
 have a6 := k (m.Msgs.length : Int) (by simp)
 exact ⟨by omega, by omega, by omega, by omega, by omega, by omega, by omega⟩
theorem O3 {m : GMail} (h : WGMail m) (hf : FitM 100 m) : MI m := by
 obtain ⟨_, _, _, _, _, _, _, _, _, _, _, hx, hm, _⟩ := h
 exact ⟨hf, Fr hx.1, Kd hx, fun y hy => Fr (hm.2 y hy).2.1⟩
end
theorem Kf {α σ β : Type} {l : List α} {B : Int} (b : Nat) (hB : B = (b : Int)) {L : Nat → σ → Int → Option β} (step : Nat → α → σ → (σ → Option β) → Option β) (fin : σ → Option β)
 (h : ∀ k s (i : Nat), i ≤ l.length → L (k + 1) s i = bif ilt i (nlen (len l)) then (bif ilt i B then (bif inr i (len l) then (elAt l i).bind fun x => step i x s (fun s' => L k s' (wadd .i64 i 1)) else none) else fin s) else fin s)
 (hl : l.length < 4611686018427387904) : ∀ (k : Nat) (s : σ) (i : Nat), b - i < k → i ≤ l.length → L k s i = goI (fun i x s c => bif ilt (i : Int) B then step i x s c else fin s) fin i (l.drop i) s := by
 intro k
 induction k with
 | zero => intro s i h; omega
 | succ k ih =>
  intro s i hk hi
  rw [h k s i hi]
  rcases F5 l i with ⟨x, e1, e2, e3, e4⟩ | ⟨e1, e2⟩
  · have hlt := Ew e1
    rw [e1, e2, e3, e4]
    simp only [cT, bS, goI]
    cases hb : ilt (i : Int) B
    · rfl
    · rw [hB, Ae] at hb
      simp only [cT]
      congr 1
      funext s'
      rw [FS om]
      exact ih s' (i + 1) om om
  · rw [e1, e2]; rfl
section
variable {g : GGraph} {j : GJob} {id : Int}
theorem Nl (K : Nat) (g : GGraph) : F9 K g = some (ilt 200 (g.Edges.length : Int)) := by rw [F9]; rfl
theorem HF (g : GGraph) (j : GJob) : ∀ (l : List GPart) (w : GWorker), (l.foldl (AN g j) w).T = w.T
 | [], _ => rfl
 | x :: l, w => by
  rw [List.foldl_cons, HF g j l, AN]
  cases AV g j w x <;> rfl
theorem OB {α : Type} {l : List α} {n : Nat} (hn : 0 < n) (h : l.length * n ≤ reachBytes) : l.length < 4611686018427387904 := by
 have : l.length ≤ l.length * n := Nat.le_mul_of_pos_right _ hn
 have : reachBytes ≤ 140737488355328 := by unfold reachBytes; omega
 omega
end
def LZ (w : GWorker) (d : GDid) : Prop := ∃ h ∈ w.Held, h.X.P = d.P ∧ d.Step < h.X.Step
def OI (w : GWorker) (l : List GDid) : Prop := l.Nodup ∧ ∀ d ∈ l, d.Epoch ≤ w.T.Epoch ∧ (d.Epoch = w.T.Epoch → LZ w d)
def AP (w w' : GWorker) : Prop := w'.T.Epoch = w.T.Epoch ∧ ∀ h ∈ w.Held, ∃ h' ∈ w'.Held, h'.X.P = h.X.P ∧ h.X.Step ≤ h'.X.Step
section
variable {g : GGraph} {j : GJob} {id : Int} {n : Nat} {w w' : GWorker} {l : List GDid}
theorem AP.refl (w : GWorker) : AP w w := ⟨rfl, fun h hh => ⟨h, hh, rfl, Int.le_refl _⟩⟩
theorem AP.trans {u : GWorker} (a : AP u w) (b : AP w w') : AP u w' := ⟨b.1.trans a.1, fun h hh => by
 obtain ⟨h1, m1, p1, s1⟩ := a.2 h hh
 obtain ⟨h2, m2, p2, s2⟩ := b.2 h1 m1
 exact ⟨h2, m2, p2.trans p1, Int.le_trans s1 s2⟩⟩
theorem AP.same (hT : w'.T = w.T) (hH : w'.Held = w.Held) : AP w w' := ⟨by rw [hT], fun h hh => ⟨h, by rw [hH]; exact hh, rfl, Int.le_refl _⟩⟩
theorem AP.set {i : Nat} {y y' : GHeld} (hi : w.Held[i]? = some y) (hT : w'.T = w.T) (hH : w'.Held = w.Held.set i y') (hp : y'.X.P = y.X.P) (hs : y.X.Step ≤ y'.X.Step) : AP w w' := ⟨by rw [hT], fun h hh => by
 have hlt := (List.getElem?_eq_some_iff.1 hi).1
 obtain ⟨k, hk, e⟩ := List.getElem_of_mem hh
 by_cases hik : k = i
 · subst hik
   rw [List.getElem?_eq_getElem hk, Option.some.injEq] at hi
   exact ⟨y', by rw [hH]; exact List.mem_set hk _, by rw [hp, ← hi, e], by rw [← e, hi]; exact hs⟩
 · refine ⟨h, ?_, rfl, Int.le_refl _⟩
   rw [hH, ← e]
   have : (w.Held.set i y')[k]'(by rw [List.length_set]; exact hk) = w.Held[k] := List.getElem_set_ne (Ne.symm hik) _
   rw [← this]; exact List.getElem_mem _⟩
theorem OI.mono (h : OI w l) (hm : AP w w' ∨ w.T.Epoch < w'.T.Epoch) : OI w' l := ⟨h.1, fun d hd => by
 obtain ⟨h1, h2⟩ := h.2 d hd
 rcases hm with ⟨e, m⟩ | hm
 · refine ⟨by rw [e]; exact h1, fun hE => ?_⟩
   obtain ⟨x, hx, p, q⟩ := h2 (by rw [hE, e])
   obtain ⟨y, hy, p2, q2⟩ := m x hx
   exact ⟨y, hy, p2.trans p, by omega⟩
 · exact ⟨by omega, fun hE => by omega⟩⟩
theorem IE (w : GWorker) (m : GMail) : AP w (C8 g j w m) := by
 rw [C8]
 cases AV g j w m.X
 · exact .refl w
 · exact ⟨rfl, fun h hh => ⟨h, GW.2 (.inl hh), rfl, Int.le_refl _⟩⟩
theorem JH (w : GWorker) (m : GMail) : AP w (Ds g j w m) ∨ w.T.Epoch < (Ds g j w m).T.Epoch := by
 rw [Ds]
 cases ieq (Ah g j) 0 && Cc m
 · exact .inl (.refl w)
 · rw [cT, FD]
   cases ieq m.Kind 1
   · cases ieq m.Kind 3
     · cases ieq m.Kind 4
       · cases ieq m.Kind 6
         · cases ieq m.Kind 7
           · cases ieq m.Kind 9
             · exact .inl (.refl w)
             · simp only [cF, cT]
               rw [Eu]
               cases ht : (AF j m.Fresh m).2
               · exact .inl (.refl w)
               · cases hf : ile m.Fresh w.T.Epoch
                 · right
                   show w.T.Epoch < (List.foldl (AN g j) _ _).T.Epoch
                   rw [HF]
                   have := (FB ht).2
                   show w.T.Epoch < (AF j m.Fresh m).1.Epoch
                   rw [this]
                   rw [DA] at hf; omega
                 · exact .inl (.refl w)
           · simp only [cF, cT]
             rw [Ep]
             cases ilt m.Epoch w.T.Epoch || w.Coming.any (isC m.Epoch m.X.P)
             · exact .inl (.same rfl rfl)
             · exact .inl (.refl w)
         · simp only [cF, cT]
           rw [D3]
           cases ieq m.Epoch w.T.Epoch && !(ilt (BV w.Held m.P) 0)
           · exact .inl (.refl w)
           · rw [cT]
             cases hq : w.Held[(BV w.Held m.P).toNat]? with
             | none => exact .inl (.refl w)
             | some y =>
              dsimp only
              rw [Fl]
              cases y.Wait || (y.Given || ilt (BM m.Ids m.To) 0)
              · exact .inl (.set (y' := GHeld.mk y.X y.Wait true) hq rfl rfl rfl (Int.le_refl _))
              · exact .inl (.refl w)
       · simp only [cF, cT]
         rw [Cm]
         cases ile w.T.Epoch m.Epoch && ilt (AO w.Buf m.Epoch m.Step m.Q m.P) 0
         · exact .inl (.refl w)
         · exact .inl (.same rfl rfl)
     · simp only [cF, cT]
       rw [D4]
       cases ieq m.Epoch w.T.Epoch
       · exact .inl (.refl w)
       · exact .inl (.same rfl rfl)
   · rw [cT, Eg]
     cases ht : (AF j m.Epoch m).2
     · exact .inl (.refl w)
     · cases h1 : ilt m.Epoch w.T.Epoch
       · cases h2 : ilt w.T.Epoch m.Epoch
         · exact .inl (IE w m)
         · right
           rw [Ae] at h2
           have e := (IE (g := g) (j := j) (DE { w with Goal := -1, T := (AF j m.Epoch m).1, Held := [], Out := [] } m.Epoch) m).1
           show w.T.Epoch < (C8 g j _ m).T.Epoch
           rw [e]
           show w.T.Epoch < (AF j m.Epoch m).1.Epoch
           rw [(FB ht).2]; exact h2
       · exact .inl (.refl w)
theorem JJ (w : GWorker) (k : Int) : AP w (DW w k) := by
 rw [DW]
 cases ilt w.Until k
 · exact .refl w
 · exact .same rfl rfl
theorem L4 {x : GPart} (hn : AE x) (h : ieq (doS g j x).2.2 0 = true) : (doS g j x).1.Step = x.Step + 1 := by
 rcases Gz g j hn with ⟨e, he, hq⟩ | ⟨hc, hR, h40, w, _, kw, _, hq⟩
 · rw [hq] at h; rw [h] at he; cases he
 · rw [hq]
theorem Lf {x : GPart} {l : List GMsg} (h : ieq (Ax g j x l).2 0 = true) : (Ax g j x l).1.Step = x.Step := by
 rw [Ax] at h ⊢
 cases hc : ieq (Ah g j) 0
 · rw [hc] at h
   simp only [cF] at h
   rw [hc] at h; cases h
 · rw [hc] at h
   cases hp : As g j x
   · rw [hp] at h; cases h
   · rw [hp] at h
     cases hi : ieq (nlen (len x.In)) 0
     · rw [hi] at h; cases h
     · rw [hi] at h
       cases ht : BW g.N j.Parts x.P l
       · rw [ht] at h; cases h
       · rw [ht] at h
         simp only [cT] at h ⊢
         rw [Es] at h ⊢
         cases hb : ieq (Ak j.Prog l).2 0
         · rw [hb] at h
           simp only [cF] at h
           rw [hb] at h; cases h
         · rfl
theorem Ko {i : Nat} {y : GHeld} (hi : w.Held[i]? = some y) : AP w (Cx g j w i y) := by
 rw [Cx]
 cases Bw w.Buf w.T.Epoch w.Goal y.X.P (List.range j.Parts.toNat) with
 | none => exact .refl w
 | some ins =>
  dsimp only
  rw [EY]
  cases hq : ieq (Ax g j y.X ins.flatten).2 0
  · exact .same rfl rfl
  · exact .set (y' := GHeld.mk (Ax g j y.X ins.flatten).1 false false) hi rfl rfl (Jx hq) (by show y.X.Step ≤ (Ax g j y.X ins.flatten).1.Step; rw [Lf hq]; exact Int.le_refl _)
theorem Jd : ∀ (t : List Nat) (w : GWorker), AP w (t.foldl (ER g j) w)
 | [], w => .refl w
 | i :: t, w => by
  rw [List.foldl_cons]
  refine AP.trans ?_ (Jd t _)
  rw [ER]
  cases hi : w.Held[i]? with
  | none => exact .refl w
  | some y =>
   dsimp only
   cases y.Wait && ieq y.X.Step (w.Goal + 1)
   · exact .refl w
   · exact Ko hi
theorem HOk.one {t : List GHeld} (h : HOk t) {a b : GHeld} (ha : a ∈ t) (hb : b ∈ t) (e : a.X.P = b.X.P) : a = b := by
 obtain ⟨i, hi, rfl⟩ := List.getElem_of_mem ha
 obtain ⟨k, hk, rfl⟩ := List.getElem_of_mem hb
 have hp := List.pairwise_iff_getElem.1 h.s
 rcases Nat.lt_trichotomy i k with h1 | h1 | h1
 · have := hp i k hi hk h1; omega
 · subst h1; rfl
 · have := hp k i hk hi h1; omega
theorem OI.push {i : Nat} {y y' : GHeld} (h : OI w l) (hW : WI g j id n w) (hi : w.Held[i]? = some y) (hg : y.X.Step = w.Goal) (hT : w'.T = w.T) (hH : w'.Held = w.Held.set i y') (hp : y'.X.P = y.X.P) (hs : y'.X.Step = y.X.Step + 1) : OI w' (l ++ [GDid.mk w.T.Epoch w.Goal y.X.P]) := by
 have hlt := (List.getElem?_eq_some_iff.1 hi).1
 have hy := List.mem_of_getElem? hi
 have hm := h.mono (.inl (AP.set hi hT hH hp om))
 refine ⟨List.nodup_append.2 ⟨h.1, by simp, fun a ha b hb e => ?_⟩, fun d hd => ?_⟩
 · rw [List.mem_singleton] at hb
   subst hb; subst e
   obtain ⟨x, hx, p, q⟩ := (h.2 _ ha).2 rfl
   have : x = y := hW.ok.one hx hy p
   subst this
   have q' : w.Goal < x.X.Step := q
   omega
 · rcases List.mem_append.1 hd with hd | hd
   · exact hm.2 d hd
   · rw [List.mem_singleton] at hd
     subst hd
     refine ⟨by rw [hT]; exact Int.le_refl _, fun _ => ⟨y', by rw [hH]; exact List.mem_set hlt _, hp, ?_⟩⟩
     show w.Goal < y'.X.Step
     omega
theorem KX {i : Nat} {y : GHeld} (h : OI w l) (hW : WI g j id n w) (hi : w.Held[i]? = some y) (hg : y.X.Step = w.Goal) : OI (Bz g j w i y).2 (l ++ (Bz g j w i y).1) := by
 have hn := (hW.mine y (List.mem_of_getElem? hi)).2.2.2
 rw [Bz]
 cases h1 : ieq (doS g j y.X).2.2 6 || ieq (doS g j y.X).2.2 1
 · cases h0 : ieq (doS g j y.X).2.2 0
   · simp only [cF, List.append_nil]
     exact h.mono (.inl (.set (y' := GHeld.mk y.X true y.Given) hi rfl rfl rfl (Int.le_refl _)))
   · simp only [cF, cT]
     obtain ⟨a, b, c, _⟩ := F1 y.X.P (doS g j y.X).2.1 0 { w with Held := w.Held.set i (GHeld.mk (doS g j y.X).1 true y.Given) }
     obtain ⟨_, _, hP, _⟩ := Ix g j hn h0
     rw [b, c]
     exact OI.push (w := w) (y' := GHeld.mk (doS g j y.X).1 true y.Given) h hW hi hg b a hP (L4 hn h0)
 · simp only [cT, List.append_nil]
   exact h
theorem JA : ∀ (t : List Nat) (n : Nat) (st : GWorker × List GDid), WI g j id n st.1 → OI st.1 (l ++ st.2) → OI (t.foldl (BT g j) st).1 (l ++ (t.foldl (BT g j) st).2)
 | [], n, st, _, h => h
 | i :: t, n, st, hW, h => by
  rw [List.foldl_cons]
  have key : WI g j id (n + 6) (BT g j st i).1 ∧ OI (BT g j st i).1 (l ++ (BT g j st i).2) := by
   rw [BT]
   cases hi : st.1.Held[i]? with
   | none => exact ⟨hW.up om, h⟩
   | some y =>
    dsimp only
    cases hq : y.Wait || (y.Given || !(ieq y.X.Step st.1.Goal))
    · simp only [cF]
      have hg : y.X.Step = st.1.Goal := by
       simp only [Bool.or_eq_false_iff, Bool.not_eq_false'] at hq
       exact Al.1 hq.2.2
      refine ⟨Iy hW hi, ?_⟩
      rw [← List.append_assoc]
      exact KX h hW hi hg
    · exact ⟨hW.up om, h⟩
  exact JA t (n + 6) _ key.1 key.2
theorem JU (h : OI w l) (hW : WI g j id n w) (now : Int) : OI (CD g j w now).1 (l ++ (CD g j w now).2.2) := by
 rw [CD]
 cases ieq (Ah g j) 0 && ilt now w.Until
 · simp only [cF, List.append_nil]; exact h
 · simp only [cT]
   have h1 : OI (Am g j w).1 (l ++ (Am g j w).2) := JA _ n (w, []) hW (by rw [List.append_nil]; exact h)
   have h2 := h1.mono (.inl (Jd (g := g) (j := j) (List.range (Am g j w).1.Held.length) (Am g j w).1))
   exact h2.mono (.inl (.same rfl rfl))
theorem LN (h : OI w l) (hW : WI g j id n w) (a : GAct) : OI (Cd g j w a).1 (l ++ (Cd g j w a).2.2) := by
 rw [Cd]
 cases ieq a.Kind 0
 · cases ieq a.Kind 1
   · simp only [cF, List.append_nil]
     exact h.mono (.inl (JJ w a.N))
   · exact JU h hW a.N
 · simp only [cT, List.append_nil]
   exact h.mono (JH w a.M)
end
def hn4 : Hint := { H 4 with nt := 70, prot := 0, kp := 0 }
def I6 : Code := loopOf E 4 0
def Jy : Code := loopOf E 4 1
def F4_res (r1 : Bool) : Res := ⟨[(.one (mB r1))], []⟩
def De (K : Nat) (a0 : GGraph) (a1 : GJob) (a3 : List GAct) (v2 : Int) (r4 : GWorker × List GPost × List GDid) : Nat → Int → List GDid → Option ((Unit) ⊕ (List GDid))
 | 0, _, _ => none
 | k + 1, v5, v6 =>
  bif (ilt v5 (nlen (len r4.2.2))) then
   (bif (inr v5 (len r4.2.2)) then
   (elAt r4.2.2 v5).bind fun x7 =>
   bif (hasK 3 (len v6) (flat eGDid v6) [(i6 x7.Epoch), (i6 x7.Step), (i6 x7.P)]) then
    (some (.inl ()))
   else
   De K a0 a1 a3 v2 r4 k (wadd .i64 v5 1) (appL v6 [x7])
   else none)
  else
  some (.inr v6)
def Iv (a0 : GGraph) (a1 : GJob) (a3 : List GAct) (v2 : Int) (r4 : GWorker × List GPost × List GDid) (v5 : Int) (v6 : List GDid) : TS := .on (kq 192 2 <| kq 256 3 <| kq 320 5 <| kq 576 12 <| kq 640 1 <| kq 704 2 <| kq 896 2 <| kq 960 2 <| kq 1344 1 <| []) <| sq 192 [u0, (uS eGAct a3)] <| b1 256 a0 <| b2 320 a1 <| b0 576 r4.1 <| sq 640 [⟨(.ma 21 0), 0, nob⟩] <| sq 704 [u0, (uI v2)] <| sq 896 [u0, (uO 66 eGDid r4.2.2)] <| sq 960 [u0, (uI v5)] <| sq 1344 [⟨(.ms 66 3), 0, (sE eGDid v6)⟩] []
def MT (a0 : GGraph) (a1 : GJob) (a3 : List GAct) (v2 : Int) (r4 : GWorker × List GPost × List GDid) (w5 : Unit) : TS := .on (kq 512 2 <| []) <| sq 512 [u0, (uB false)] []
def Pq (a0 : GGraph) (a1 : GJob) (a3 : List GAct) (v2 : Int) (r4 : GWorker × List GPost × List GDid) (w5 : List GDid) : TS := .on (kq 192 2 <| kq 256 3 <| kq 320 5 <| kq 576 12 <| kq 640 1 <| kq 704 2 <| kq 1344 1 <| []) <| sq 192 [u0, (uS eGAct a3)] <| b1 256 a0 <| b2 320 a1 <| b0 576 r4.1 <| sq 640 [⟨(.ma 21 0), 0, nob⟩] <| sq 704 [u0, (uI v2)] <| sq 1344 [⟨(.ms 66 3), 0, (sE eGDid w5)⟩] []
theorem HQ (K : Nat) (a0 : GGraph) (a1 : GJob) (a3 : List GAct) (v2 : Int) (r4 : GWorker × List GPost × List GDid) : ∀ (k : Nat) (v5 : Int) (v6 : List GDid) (r : (Unit) ⊕ (List GDid)), De K a0 a1 a3 v2 r4 k v5 v6 = some r → (Sum.elim (fun w => LoopEv E H hn4 2 Jy (Iv a0 a1 a3 v2 r4 v5 v6) .ret (MT a0 a1 a3 v2 r4 w)) (fun w => LoopEv E H hn4 2 Jy (Iv a0 a1 a3 v2 r4 v5 v6) (.exit 2) (Pq a0 a1 a3 v2 r4 w))) r := by
 intro k
 induction k with
 | zero => intro v5 v6 r F; cases F
 | succ k ih =>
  intro v5 v6 r F
  rw [De] at F
  apply jc F <;> intro h7 F
  apply jn F; intro h8 F
  apply jb F; intro x9 h10 F
  have q12 {l} (z : HA hn4 l) := zi (nl r4.2.2) <| zT h7 <| zT h8 <| zS eGDid_len h10 3 <| z
  apply jc F <;> intro h11 F
  apply jr F
  exact lE <| q12 <| zT h11 <| zr1 <| z0
  exact lN2 (q12 <| zF h11 <| zf1 <| zT h8 <| zS eGDid_len h10 3 <| zF h11 <| zV (app_ok (enc := eGDid) (v6 : List GDid) [x9]) <| zi (wadd .i64 v5 1) <| z0) (ih _ _ _ F)
  apply jr F
  exact lE <| zi (nl r4.2.2) <| zF h7 <| z0
def Dq (K : Nat) (a0 : GGraph) (a1 : GJob) (a3 : List GAct) : Nat → Int → Int → Int → Int → List Int → List Int → List Int → List GHeld → List GData → List GComing → List GPost → Int → List GDid → Option ((Unit) ⊕ (Unit))
 | 0, _, _, _, _, _, _, _, _, _, _, _, _, _ => none
 | k + 1, v2, v4, v5, v6, v7, v8, v9, v10, v11, v12, v13, v14, v15 =>
  bif (ilt v14 (nlen (len a3))) then
   (bif (ilt v14 40) then
    (bif (inr v14 (len a3)) then
    (elAt a3 v14).bind fun x16 =>
    (F12 K x16.M).bind fun r17 =>
    bif (ilt 100 r17) then
     (Dq K a0 a1 a3 k v2 v4 v5 v6 v7 v8 v9 v10 v11 v12 v13 (wadd .i64 v14 1) v15)
    else
    (F13 K a0 a1 (GWorker.mk v2 v4 v5 (GTable.mk v6 v7 v8 v9) v10 v11 v12 v13) x16).bind fun r18 =>
    (De K a0 a1 a3 v14 r18 K 0 v15).bind fun y19 =>
    Sum.elim (fun w20 =>
     some (.inl ()))
     (fun w21 =>
     Dq K a0 a1 a3 k r18.1.Id r18.1.Goal r18.1.Until r18.1.T.Epoch r18.1.T.Owners r18.1.T.Ids r18.1.T.Incs r18.1.Held r18.1.Buf r18.1.Coming r18.1.Out (wadd .i64 v14 1) w21) y19
    else none)
   else
   some (.inr ()))
  else
  some (.inr ())
def I3 (a0 : GGraph) (a1 : GJob) (a3 : List GAct) (v2 : Int) (v4 : Int) (v5 : Int) (v6 : Int) (v7 : List Int) (v8 : List Int) (v9 : List Int) (v10 : List GHeld) (v11 : List GData) (v12 : List GComing) (v13 : List GPost) (v14 : Int) (v15 : List GDid) : TS := .on (kq 192 2 <| kq 256 3 <| kq 320 5 <| kq 576 12 <| kq 640 1 <| kq 704 2 <| kq 1344 1 <| []) <| sq 192 [u0, (uS eGAct a3)] <| b1 256 a0 <| b2 320 a1 <| sq 576 [(uX 38 11), (uI v2), (uI v4), (uI v5), (uI v6), (uS e6 v7), (uS e6 v8), (uS e6 v9), (uO 69 eGHeld v10), (uO 112 eGData v11), (uO 113 eGComing v12), (uO 86 eGPost v13)] <| sq 640 [⟨(.ma 21 0), 0, nob⟩] <| sq 704 [u0, (uI v14)] <| sq 1344 [⟨(.ms 66 3), 0, (sE eGDid v15)⟩] []
def On (a0 : GGraph) (a1 : GJob) (a3 : List GAct) (w2 : Unit) : TS := .on (kq 512 2 <| []) <| sq 512 [u0, (uB false)] []
def Oe (a0 : GGraph) (a1 : GJob) (a3 : List GAct) (w2 : Unit) : TS := .on [] []
theorem Jn (K : Nat) (a0 : GGraph) (a1 : GJob) (a3 : List GAct) : ∀ (k : Nat) (v2 : Int) (v4 : Int) (v5 : Int) (v6 : Int) (v7 : List Int) (v8 : List Int) (v9 : List Int) (v10 : List GHeld) (v11 : List GData) (v12 : List GComing) (v13 : List GPost) (v14 : Int) (v15 : List GDid) (r : (Unit) ⊕ (Unit)), Dq K a0 a1 a3 k v2 v4 v5 v6 v7 v8 v9 v10 v11 v12 v13 v14 v15 = some r → (Sum.elim (fun w => LoopEv E H hn4 0 I6 (I3 a0 a1 a3 v2 v4 v5 v6 v7 v8 v9 v10 v11 v12 v13 v14 v15) .ret (On a0 a1 a3 w)) (fun w => LoopEv E H hn4 0 I6 (I3 a0 a1 a3 v2 v4 v5 v6 v7 v8 v9 v10 v11 v12 v13 v14 v15) (.exit 0) (Oe a0 a1 a3 w))) r := by
 intro k
 induction k with
 | zero => intro v2 v4 v5 v6 v7 v8 v9 v10 v11 v12 v13 v14 v15 r F; cases F
 | succ k ih =>
  intro v2 v4 v5 v6 v7 v8 v9 v10 v11 v12 v13 v14 v15 r F
  rw [Dq] at F
  apply jc F <;> intro h16 F
  have q30 {l} (z : HA hn4 l) := zi (nl a3) <| IU h16 <| z
  apply jc F <;> intro h17 F
  apply jn F; intro h18 F
  apply jb F; intro x19 h20 F
  apply jb F; intro r21 h22 F
  have q31 {l} (z : HA hn4 l) := zT h17 <| zT h18 <| zU eGAct_len h20 2 17 <| zl (O4 K x19.M _ h22) <| z
  apply jc F <;> intro h23 F
  exact lN2 (q30 <| q31 <| zT (igt_eq h23) <| zi (wadd .i64 v14 1) <| z0) (ih _ _ _ _ _ _ _ _ _ _ _ _ _ _ F)
  apply jb F; intro r24 h25 F
  have q32 {l} (z : HA hn4 l) := zF (igt_eq h23) <| zT h18 <| zS eGAct_len h20 19 <| zc (KQ K a0 a1 (GWorker.mk v2 v4 v5 (GTable.mk v6 v7 v8 v9) v10 v11 v12 v13) x19 _ h25) <| z
  apply jb F; intro y27 h26 F
  refine js F (fun w28 hx F => ?_) fun w29 hx F => ?_
  subst hx
  apply jr F
  exact lE <| q30 <| q31 <| q32 <| zo (HQ K a0 a1 a3 v14 r24 K 0 v15 _ h26) <| z0
  subst hx
  exact lN2 (q30 <| q31 <| q32 <| zo (HQ K a0 a1 a3 v14 r24 K 0 v15 _ h26) <| zi (wadd .i64 v14 1) <| z0) (ih _ _ _ _ _ _ _ _ _ _ _ _ _ _ F)
  apply jr F
  exact lE <| q30 <| zF h17 <| z0
  apply jr F
  exact lE <| zi (nl a3) <| H4 h16 <| zf1 <| z0
def F4 (K : Nat) (a0 : GGraph) (a1 : GJob) (a2 : Int) (a3 : List GAct) : Option (Bool) :=
 (F9 K a0).bind fun r6 =>
 bif r6 then
  (some true)
 else
 (F11 K a2).bind fun r11 =>
 (Dq K a0 a1 a3 K r11.Id r11.Goal r11.Until r11.T.Epoch r11.T.Owners r11.T.Ids r11.T.Incs r11.Held r11.Buf r11.Coming r11.Out 0 []).bind fun y4 =>
 Sum.elim (fun w5 =>
  some false)
  (fun w7 =>
  some true) y4
theorem F4_ok (K : Nat) (a0 : GGraph) (a1 : GJob) (a2 : Int) (a3 : List GAct) (r : Bool) (F : F4 K a0 a1 a2 a3 = some r) : Evt E H 4 [.agg (eGGraph a0), .agg (eGJob a1), .one (i6 a2), .one (sE eGAct a3)] (F4_res r) := by
 rw [F4] at F
 apply jb F; intro r6 h7 F
 apply jc F <;> intro h8 F
 apply jr F
 exact fpC hn4 <| zl (H8 K a0 _ h7) <| zT h8 <| zX (.call 10 [] (Res.mk [(.one (mB true))] [])) knows10 <| zX (ff (leadsAny (Res.mk [(.one (mB true))] []))) lk <| z0
 apply jb F; intro r11 h12 F
 have q13 {l} (z : HA hn4 l) := zl (H8 K a0 _ h7) <| zF h8 <| zc (Pf K a2 _ h12) <| z
 apply jb F; intro y5 h4 F
 refine js F (fun w9 hx F => ?_) fun w10 hx F => ?_
 subst hx
 apply jr F
 exact fpC hn4 <| q13 <| zo (Jn K a0 a1 a3 K r11.Id r11.Goal r11.Until r11.T.Epoch r11.T.Owners r11.T.Ids r11.T.Incs r11.Held r11.Buf r11.Coming r11.Out 0 [] _ h4) <| z0
 subst hx
 apply jr F
 exact fpC hn4 <| q13 <| zo (Jn K a0 a1 a3 K r11.Id r11.Goal r11.Until r11.T.Epoch r11.T.Owners r11.T.Ids r11.T.Incs r11.Held r11.Buf r11.Coming r11.Out 0 [] _ h4) <| zX (.call 10 [] (Res.mk [(.one (mB true))] [])) knows10 <| zX (ff (leadsAny (Res.mk [(.one (mB true))] []))) lk <| z0
theorem HD (x : GDid) : ∀ s : List GDid, hasKey 3 s.length (flat eGDid s) (eGDid x) = true ↔ x ∈ s
 | [] => by simp [hasKey]
 | d :: s => by
  have ih := HD x s
  have e : hasKey 3 (s.length + 1) (flat eGDid (d :: s)) (eGDid x) = bor (band (ieq d.Epoch x.Epoch) (band (ieq d.Step x.Step) (band (ieq d.P x.P) true))) (hasKey 3 s.length (flat eGDid s) (eGDid x)) := rfl
  rw [List.length_cons, e, List.mem_cons, ← ih]
  simp only [bor, band, Bool.or_eq_true, Bool.and_eq_true, Al, and_true]
  refine or_congr ⟨fun ⟨a, b, c⟩ => ?_, fun h => by rw [h]; exact ⟨rfl, rfl, rfl⟩⟩ Iff.rfl
  cases x; cases d
  simp only at a b c
  rw [a, b, c]
theorem NG {x : GDid} {s : List GDid} (h : x ∉ s) : hasK 3 (len s) (flat eGDid s) [.lit (.int .i64 x.Epoch), .lit (.int .i64 x.Step), .lit (.int .i64 x.P)] = false := by
 cases hq : hasKey 3 s.length (flat eGDid s) (eGDid x)
 · exact hq
 · exact absurd ((HD x s).1 hq) h
section
variable {g : GGraph} {j : GJob} {id : Int} {n : Nat} {w : GWorker}
theorem N9 {K : Nat} (hK : 1000000 ≤ K) (l : List GAct) (v : Int) (r : GWorker × List GPost × List GDid) (s : List GDid) (hl : r.2.2.length ≤ 1000) (hn : (s ++ r.2.2).Nodup) : De K g j l v r K 0 s = some (.inr (s ++ r.2.2)) := by
 let step : Nat → GDid → List GDid → (List GDid → Option (Unit ⊕ List GDid)) → Option (Unit ⊕ List GDid) := fun i x s c =>
  bif hasK 3 (len s) (flat eGDid s) [.lit (.int .i64 x.Epoch), .lit (.int .i64 x.Step), .lit (.int .i64 x.P)] then some (.inl ()) else c (appL s [x])
 have hs := CL (l := r.2.2) (L := fun k s i => De K g j l v r k i s) step (fun s => some (.inr s)) (fun k s i _ => rfl) om K s 0 om om
 have go : ∀ (t : List GDid) (i : Nat) (s : List GDid), (s ++ t).Nodup → goI step (fun s => some (.inr s)) i t s = some (.inr (s ++ t)) := by
  intro t
  induction t with
  | nil => intro i s _; rw [List.append_nil]; rfl
  | cons x t ih =>
   intro i s h
   have hx : x ∉ s := fun hx => by
    have := (List.nodup_append.1 h).2.2 x hx x List.mem_cons_self
    exact this rfl
   rw [goI]
   show (bif hasK 3 (len s) (flat eGDid s) [.lit (.int .i64 x.Epoch), .lit (.int .i64 x.Step), .lit (.int .i64 x.P)] then _ else _) = _
   rw [NG hx, cF]
   have := ih (i + 1) (s ++ [x]) (by rw [List.append_assoc]; exact h)
   rw [List.append_assoc] at this
   exact this
 rw [List.drop_zero] at hs
 exact hs.trans (go r.2.2 0 s hn)
theorem G3 : ∀ (t : List Nat) (st : GWorker × List GDid), (t.foldl (BT g j) st).2.length ≤ st.2.length + t.length
 | [], st => Nat.le_refl _
 | i :: t, st => by
  rw [List.foldl_cons, List.length_cons]
  have h1 := G3 t (BT g j st i)
  have h2 : (BT g j st i).2.length ≤ st.2.length + 1 := by
   rw [BT]
   cases st.1.Held[i]? with
   | none => exact Nat.le_succ _
   | some y =>
    dsimp only
    cases y.Wait || (y.Given || !(ieq y.X.Step st.1.Goal))
    · simp only [cF, List.length_append]
      have := (HR g j st.1 i y).2.2.2
      omega
    · exact Nat.le_succ _
  omega
theorem Mz (h : WI g j id n w) (a : GAct) : (Cd g j w a).2.2.length ≤ 6 := by
 rw [Cd]
 cases ieq a.Kind 0
 · cases ieq a.Kind 1
   · exact Nat.zero_le _
   · simp only [cF, cT]
     rw [CD]
     cases ieq (Ah g j) 0 && ilt a.N w.Until
     · exact Nat.zero_le _
     · have := G3 (g := g) (j := j) (List.range w.Held.length) (w, [])
       rw [List.length_range] at this
       have := h.ok.len
       show (Am g j w).2.length ≤ 6
       rw [Am]
       simp only [List.length_nil] at *
       omega
 · exact Nat.zero_le _
theorem Hi {β : Type} {step : Nat → GAct → GWorker × List GDid → (GWorker × List GDid → Option β) → Option β} {fin : GWorker × List GDid → Option β} : ∀ (l : List GAct) (i n : Nat) (s : GWorker × List GDid),
 (∀ x ∈ l, ∀ (i n : Nat) (s : GWorker × List GDid), WI g j id n s.1 → OI s.1 s.2 → n ≤ 100000 → ∃ s', WI g j id (n + 42) s'.1 ∧ OI s'.1 s'.2 ∧ ∀ c, step i x s c = c s') →
 WI g j id n s.1 → OI s.1 s.2 → n + 42 * (40 - i) ≤ 100000 → ∃ s', goI (fun i x s c => bif ilt (i : Int) 40 then step i x s c else fin s) fin i l s = fin s'
 | [], i, n, s, _, _, _, _ => ⟨s, rfl⟩
 | x :: l, i, n, s, hs, h, ho, hn => by
  rw [goI]
  cases hi : ilt (i : Int) 40
  · exact ⟨s, rfl⟩
  · rw [Ae] at hi
    obtain ⟨s1, h1, o1, e1⟩ := hs x List.mem_cons_self i n s h ho om
    obtain ⟨s2, e2⟩ := Hi l (i + 1) (n + 42) s1 (fun y hy => hs y (List.mem_cons_of_mem _ hy)) h1 o1 om
    exact ⟨s2, by rw [cT, e1, e2]⟩
theorem LR {K : Nat} (hK : 1000000 ≤ K) (g : GGraph) (j : GJob) (id : Int) (l : List GAct) (hl : l.length < 4611686018427387904) (hw : ∀ a ∈ l, WGAct a) : F4 K g j id l = some true := by
 rw [F4, Nl, bS]
 cases ilt 200 (g.Edges.length : Int)
 · rw [cF]
   let step : Int → GAct → GWorker × List GDid → (GWorker × List GDid → Option (Unit ⊕ Unit)) → Option (Unit ⊕ Unit) := fun i x s c => (F12 K x.M).bind fun r => bif ilt 100 r then c s else (F13 K g j s.1 x).bind fun r => (De K g j l i r K 0 s.2).bind fun y => Sum.elim (fun _ => some (.inl ())) (fun u => c (r.1, u)) y
   have hs := Kf 40 rfl (l := l) (L := fun k (s : GWorker × List GDid) i => Dq K g j l k s.1.Id s.1.Goal s.1.Until s.1.T.Epoch s.1.T.Owners s.1.T.Ids s.1.T.Incs s.1.Held s.1.Buf s.1.Coming s.1.Out i s.2) (fun (i : Nat) => step (i : Int)) (fun _ => some (.inr ())) (fun k s i _ => rfl) om K (GWorker.mk id (-1) 0 noT [] [] [] [], []) 0 om om
   obtain ⟨s, hg⟩ := Hi (g := g) (j := j) (id := id) (step := fun (i : Nat) => step (i : Int)) (fin := fun _ => some (.inr ())) l 0 0 (GWorker.mk id (-1) 0 noT [] [] [] [], []) (fun x hx i n s h ho hn => by
    have e0 : ∀ c, step (i : Int) x s c = bif ilt 100 (Fa x.M) then c s else (F13 K g j s.1 x).bind fun r => (De K g j l (i : Int) r K 0 s.2).bind fun y => Sum.elim (fun _ => some (.inl ())) (fun u => c (r.1, u)) y := fun c => by
     show (F12 K x.M).bind _ = _
     rw [Ni om]; rfl
    simp only [e0]
    cases hq : ilt 100 (Fa x.M)
    · have hm := O3 (hw x hx).2.2.1 (Ml hq)
      have ha := LN ho h x
      refine ⟨((Cd g j s.1 x).1, s.2 ++ (Cd g j s.1 x).2.2), Kn h om hm, ha, fun c => ?_⟩
      rw [cF, Nu hK h om hm, bS, N9 hK l (i : Int) (Cd g j s.1 x) s.2 (by have := Mz h x; omega) ha.1]; rfl
    · exact ⟨s, h.up om, ho, fun c => rfl⟩) (L9 g j id) ⟨List.nodup_nil, fun d hd => absurd hd List.not_mem_nil⟩ om
   rw [List.drop_zero] at hs
   have e : Dq K g j l K id (-1) 0 0 [] [] [] [] [] [] [] 0 [] = some (.inr ()) := hs.trans hg
   show ((Dq K g j l K id (-1) 0 0 [] [] [] [] [] [] [] 0 []).bind _) = _
   rw [e]; rfl
 · rfl
theorem law4 (g : GGraph) (j : GJob) (id : Int) (l : List GAct) (_ : WGGraph g) (_ : WGJob j) (_ : (Lit.int .i64 id).wf = true) (hl : l.length * 264 ≤ reachBytes ∧ ∀ y ∈ l, WGAct y) : F4 1000000 g j id l = some true :=
 LR (Nat.le_refl _) g j id l (OB om hl.1) hl.2
end
end
end Go.Proofs.Ytbaihlhoedbpkaa.Tm

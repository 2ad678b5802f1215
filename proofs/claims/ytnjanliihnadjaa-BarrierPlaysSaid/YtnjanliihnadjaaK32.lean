/- The tree machine: what a row's reading tells of an argument: a typed thing that stands there. Conditions: none. -/
import Derived.Test.YtnjanliihnadjaaK31
import Derived.ChangeArms
import Derived.SizedLaws
import Derived.ProofKit
namespace Go.Proofs.Ytnjanliihnadjaa.Tm
open Go Go.RowKit

section
variable {P : Program} {w : World}

/-- What is read at type t, and is small, is en of something that is as W says. -/
def Rd (P : Program) (w : World) (t : TypeId) {α : Type} (en : α → List T) (W : α → Prop) : Prop :=
  ∀ (H : Type) (enc : TypeId × Value → H) (fuel : Nat) (cs : List Value) (x : DataW H × List MemPlace), DataW.trod enc P w 0 (fun _ => true) true fuel t cs = some x →
    (x.1.weights P t).all (· ≤ reachBytes) = true → ∃ y, W y ∧ RTs w (fun b => b < w.heap.size) (en y) cs

theorem rts_one {S : Nat → Prop} {t : T} {v : Value} (h : RT w S t v) : RTs w S [t] [v] :=
  ⟨rfl, fun j t' u a b => by
    cases j with
    | zero => cases a; cases b; exact h
    | succ j => cases a⟩
theorem rts_nil {S : Nat → Prop} : RTs w S [] [] := ⟨rfl, fun j t u a => by cases a⟩
theorem rts_app {S : Nat → Prop} {a b : List T} {u v : List Value} (h : RTs w S a u) (g : RTs w S b v) : RTs w S (a ++ b) (u ++ v) := by
  refine ⟨by simp [h.1, g.1], fun j t x ht hx => ?_⟩
  rcases Nat.lt_or_ge j a.length with q | q
  · rw [List.getElem?_append_left q] at ht
    rw [List.getElem?_append_left (by rw [h.1]; exact q)] at hx
    exact h.2 j t x ht hx
  · rw [List.getElem?_append_right q] at ht
    rw [List.getElem?_append_right (by rw [h.1]; exact q), h.1] at hx
    exact g.2 _ t x ht hx

theorem rd_int {t : TypeId} {k : IntKind} (hu : P.underlying t = some (.int k)) : Rd P w t (eInt k) (fun n => (Lit.int k n).wf = true) := by
  intro H enc fuel cs x h _
  obtain ⟨n, rfl, _, hw⟩ := DataW.trod_int hu h
  exact ⟨n, hw, rts_one (.lit rfl)⟩
theorem rd_bool {t : TypeId} (hu : P.underlying t = some .bool) : Rd P w t eBool (fun _ => True) := by
  intro H enc fuel cs x h _
  obtain ⟨b, rfl, _⟩ := DataW.trod_bool hu h
  exact ⟨b, trivial, rts_one (.lit rfl)⟩
theorem rd_string {t : TypeId} (hu : P.underlying t = some .string) : Rd P w t eStr (fun s => s.size ≤ reachBytes) := by
  intro H enc fuel cs x h hz
  obtain ⟨s, rfl, rfl, _⟩ := DataW.trod_string hu h
  refine ⟨s, ?_, rts_one (.lit rfl)⟩
  have e : (DataW.weights P t (.lit (.string s.data.toList) : DataW H)) = [s.data.toList.length] := by simp [DataW.weights]
  simp only [e, List.all_cons, List.all_nil, Bool.and_true, decide_eq_true_eq, Array.length_toList] at hz
  exact hz

theorem addr_add_add (a : Addr) (m n : Nat) : (a.add m).add n = a.add (m + n) := by
  unfold Addr.add
  by_cases h1 : m = 0
  · subst h1; simp
  · by_cases h2 : n = 0
    · subst h2; simp [h1]
    · rw [if_neg h1, if_neg h2, if_neg (by omega), Nat.add_assoc]

theorem cells_get {a : Addr} {n : Nat} {us : List Value} (h : w.cells? 0 a n = some us) : us.length = n ∧ ∀ (j : Nat) u, us[j]? = some u → w.cell? (a.add j) = some u := by
  unfold World.cells? at h
  rw [if_pos (Nat.zero_le _)] at h
  have hl : us.length = n := by simpa using mapM_some_length h
  refine ⟨hl, fun j u hj => ?_⟩
  have hlt : j < n := by rw [← hl]; exact (List.getElem?_eq_some_iff.1 hj).1
  have := mapM_some_get h j j (by simp [hlt])
  rw [this, hj]

theorem rd_slice {t e : TypeId} {α : Type} {en : α → List T} {W : α → Prop} {z bb : Nat} (hu : P.underlying t = some (.slice e)) (hz : P.cellsOf e = z) (hbb : P.bytesOf e = bb) (hl : ∀ x, (en x).length = z) (z0 : 0 < z) (he : Rd P w e en W) :
    Rd P w t (eSl en) (fun l => l.length * bb ≤ reachBytes ∧ ∀ y ∈ l, W y) := by
  intro H enc fuel cs x h hw
  subst hbb
  rcases DataW.trod_slice hu h with ⟨rfl, rfl⟩ | ⟨a, len', cap, elems, rest, n, rfl, rfl, rfl, _, hc, _, hel, hem, _, _⟩
  · exact ⟨[], ⟨by simp, fun y hy => (nomatch hy)⟩, rts_one .nil⟩
  · have ew : (DataW.weights P t (.slice (elems.map (·.1)) (rest.map (·.1)) : DataW H)) = ((elems.map (·.1)).length + (rest.map (·.1)).length) * P.bytesOf e :: (DataW.weightsAll P e (elems.map (·.1)) ++ DataW.weightsAll P e (rest.map (·.1))) := by
      simp [DataW.weights, hu]
    simp only [ew, List.all_cons, List.all_append, Bool.and_eq_true, decide_eq_true_eq, List.length_map] at hw
    obtain ⟨w1, w2, _⟩ := hw
    have wAll : ∀ (l : List (DataW H)), (DataW.weightsAll P e l).all (· ≤ reachBytes) = true → ∀ d ∈ l, (d.weights P e).all (· ≤ reachBytes) = true := by
      intro l
      induction l with
      | nil => intro _ d hd; cases hd
      | cons y l ih =>
        intro hq d hd
        have eq1 : DataW.weightsAll P e (y :: l) = y.weights P e ++ DataW.weightsAll P e l := by simp [DataW.weightsAll]
        rw [eq1, List.all_append, Bool.and_eq_true] at hq
        rcases List.mem_cons.1 hd with r | r
        · subst r; exact hq.1
        · exact ih hq.2 d r
    -- each element
    have each : ∀ i, i < len' → ∃ (y : α) (us : List Value), W y ∧ w.cells? 0 (a.add (i * z)) z = some us ∧ RTs w (fun b => b < w.heap.size) (en y) us := by
      intro i hi
      have h1 := hem i hi
      rw [hz] at h1
      rw [List.getElem?_eq_getElem (by omega : i < elems.length)] at h1
      obtain ⟨us, hus, htr⟩ := Option.bind_eq_some_iff.1 h1
      obtain ⟨y, hy, hr⟩ := he H enc n us elems[i] htr (wAll _ w2 _ (List.mem_map.2 ⟨elems[i], List.getElem_mem _, rfl⟩))
      exact ⟨y, us, hy, hus, hr⟩
    -- all of them
    have all : ∀ m, m ≤ len' → ∃ (l : List α) (vs : List Value), l.length = m ∧ (∀ y ∈ l, W y) ∧ RTs w (fun b => b < w.heap.size) (flat en l) vs ∧ vs.length = m * z ∧ ∀ (j : Nat) u, vs[j]? = some u → w.cell? (a.add j) = some u := by
      intro m
      induction m with
      | zero => intro _; exact ⟨[], [], rfl, fun y hy => (nomatch hy), rts_nil, by simp, fun j u hu => (nomatch hu)⟩
      | succ m ih =>
        intro hm
        obtain ⟨l, vs, h1, h2, h3, h4, h5⟩ := ih (by omega)
        obtain ⟨y, us, hy, hus, hr⟩ := each m (by omega)
        obtain ⟨g1, g2⟩ := cells_get hus
        refine ⟨l ++ [y], vs ++ us, by simp [h1], fun q hq => ?_, ?_, by simp [h4, g1, Nat.succ_mul], fun j u hj => ?_⟩
        · rcases List.mem_append.1 hq with r | r
          · exact h2 q r
          · rw [List.mem_singleton.1 r]; exact hy
        · have : flat en (l ++ [y]) = flat en l ++ en y := by simp [flat]
          rw [this]; exact rts_app h3 hr
        · rcases Nat.lt_or_ge j vs.length with q | q
          · rw [List.getElem?_append_left q] at hj; exact h5 j u hj
          · rw [List.getElem?_append_right q] at hj
            have := g2 _ u hj
            rw [← this]
            have e0 : m * z + (j - vs.length) = j := by omega
            have e1 : Addr.add (Addr.add a (m * z)) (j - vs.length) = Addr.add a j := by
              rw [addr_add_add, e0]
            rw [← e1]
    obtain ⟨l, vs, h1, h2, h3, h4, h5⟩ := all len' (Nat.le_refl _)
    refine ⟨l, ⟨?_, h2⟩, ?_⟩
    · refine Nat.le_trans (Nat.mul_le_mul_right _ ?_) w1
      omega
    · cases l with
      | nil =>
        have : len' = 0 := h1.symm
        subst this
        exact rts_one .nil
      | cons y l =>
        have hv : 0 < vs.length := by
          rw [h4, ← h1]; exact Nat.mul_pos (by simp) z0
        have hb : a.block < w.heap.size := by
          have := h5 0 vs[0] (List.getElem?_eq_getElem hv)
          unfold World.cell? at this
          cases hh : w.heap[(a.add 0).block]? with
          | none => simp [hh] at this
          | some o => exact (Array.getElem?_eq_some_iff.1 hh).1
        have e1 : len (y :: l) = len' := h1
        show RTs w _ [.sl (len (y :: l)) (flat en (y :: l))] _
        rw [e1]
        exact rts_one (.sl hb hc h3.1 h5 h3.2)

/-! ### Structures: field behind field -/
def RdFs (P : Program) (w : World) (fts : List (TypeId × Nat × Nat)) {β : Type} (en : β → List T) (W : β → Prop) : Prop :=
  ∀ (H : Type) (enc : TypeId × Value → H) (n : Nat) (cs : List Value) (xs : List (DataW H × List MemPlace)), xs.length = fts.length →
    (∀ (i : Nat) (f : TypeId × Nat × Nat), fts[i]? = some f → DataW.trod enc P w 0 (fun _ => true) true n f.1 ((cs.drop f.2.1).take f.2.2) = xs[i]?) →
    (DataW.weightsEach P (fts.map (·.1)) (xs.map (·.1))).all (· ≤ reachBytes) = true →
    ∃ y, W y ∧ RTs w (fun b => b < w.heap.size) (en y) (fts.flatMap fun f => (cs.drop f.2.1).take f.2.2)

theorem rdFs_nil : RdFs P w [] (fun _ : Unit => []) (fun _ => True) := by
  intro H enc n cs xs _ _ _
  exact ⟨(), trivial, rts_nil⟩

theorem rdFs_cons {t : TypeId} {o z : Nat} {fts : List (TypeId × Nat × Nat)} {α β : Type} {en : α → List T} {W : α → Prop} {en' : β → List T} {W' : β → Prop} (h : Rd P w t en W) (h' : RdFs P w fts en' W') :
    RdFs P w ((t, o, z) :: fts) (fun p : α × β => en p.1 ++ en' p.2) (fun p => W p.1 ∧ W' p.2) := by
  intro H enc n cs xs hl hx hw
  cases xs with
  | nil => cases hl
  | cons x xs =>
    have e : (DataW.weightsEach P (((t, o, z) :: fts).map (·.1)) ((x :: xs).map (·.1))) = x.1.weights P t ++ DataW.weightsEach P (fts.map (·.1)) (xs.map (·.1)) := by simp [DataW.weightsEach]
    rw [e, List.all_append, Bool.and_eq_true] at hw
    obtain ⟨y, hy, r⟩ := h H enc n _ x (hx 0 _ rfl) hw.1
    obtain ⟨y', hy', r'⟩ := h' H enc n cs xs (by simpa using hl) (fun i f hf => hx (i + 1) f (by simpa using hf)) hw.2
    refine ⟨(y, y'), ⟨hy, hy'⟩, ?_⟩
    rw [List.flatMap_cons]
    exact rts_app r r'

def contig : Nat → List (TypeId × Nat × Nat) → Option Nat
  | o, [] => some o
  | o, (_, p, z) :: r => bif Nat.beq p o then contig (o + z) r else none

theorem contig_flat {cs : List Value} : ∀ {fts : List (TypeId × Nat × Nat)} {o m : Nat}, contig o fts = some m → o ≤ m ∧ (fts.flatMap fun f => (cs.drop f.2.1).take f.2.2) = (cs.drop o).take (m - o)
  | [], o, m, h => by
    have : o = m := by simpa [contig] using h
    subst this; simp
  | (t, p, z) :: r, o, m, h => by
    rw [contig] at h
    cases hb : Nat.beq p o with
    | false => rw [hb] at h; cases h
    | true =>
      rw [hb, cond_true] at h
      have hp : p = o := Nat.eq_of_beq_eq_true hb
      subst hp
      obtain ⟨h1, h2⟩ := contig_flat (cs := cs) h
      refine ⟨by omega, ?_⟩
      rw [List.flatMap_cons, h2]
      show (cs.drop p).take z ++ _ = _
      have : cs.drop (p + z) = (cs.drop p).drop z := by rw [List.drop_drop]
      rw [this, show m - p = z + (m - (p + z)) by omega, List.take_add]

theorem rd_struct {t : TypeId} {fs : Array Field} {fts : List (TypeId × Nat × Nat)} {β : Type} {en : β → List T} {W : β → Prop} {m : Nat} (hu : P.underlying t = some (.struct fs))
    (hf : fs.toList.map (fun f => (f.type, f.offset, P.cellsOf f.type)) = fts) (hc : contig 0 fts = some m) (hm : P.cellsOf t = m) (h : RdFs P w fts en W) : Rd P w t en W := by
  intro H enc fuel cs x hx hw
  obtain ⟨xs, n, rfl, rfl, hl, hn, hg⟩ := DataW.trod_struct hu hx
  have ew : (DataW.weights P t (.agg (xs.map (·.1)) : DataW H)) = DataW.weightsEach P (fs.toList.map (·.type)) (xs.map (·.1)) := by simp [DataW.weights, hu]
  rw [ew] at hw
  have e1 : fts.map (·.1) = fs.toList.map (·.type) := by rw [← hf, List.map_map]; rfl
  have hlen : fts.length = fs.size := by rw [← hf]; simp
  obtain ⟨y, hy, r⟩ := h H enc n cs xs (by omega) (fun i f hi => by
    rw [← hf, List.getElem?_map] at hi
    cases hq : fs.toList[i]? with
    | none => rw [hq] at hi; cases hi
    | some g =>
      rw [hq] at hi
      cases hi
      exact hg i g (by rw [← Array.getElem?_toList]; exact hq)) (by rw [e1]; exact hw)
  refine ⟨y, hy, ?_⟩
  rw [(contig_flat (cs := cs) hc).2, List.drop_zero, Nat.sub_zero, List.take_of_length_le (by rw [hl, hm]; exact Nat.le_refl _)] at r
  exact r

theorem rd_map {t : TypeId} {α β : Type} {en : α → List T} {W : α → Prop} {en' : β → List T} {W' : β → Prop} (f : α → β) (he : ∀ x, en' (f x) = en x) (hw : ∀ x, W x → W' (f x)) (h : Rd P w t en W) : Rd P w t en' W' := by
  intro H enc fuel cs x hx hz
  obtain ⟨y, hy, r⟩ := h H enc fuel cs x hx hz
  exact ⟨f y, hw y hy, by rw [he]; exact r⟩

theorem cells_of {k : Nat} {y : Ty} (h : TyOk P k y) : P.cellsOf k = y.size := by
  obtain ⟨i, z, h1, h2, h3, h4, h5⟩ := h.info
  simp [Program.cellsOf, h1, h2]

/-! ### Arguments -/
theorem weight_at {H : Type} {ts : List TypeId} {ds : List (DataW H)} (h : (DataW.weightsEach P ts ds).all (· ≤ reachBytes) = true) {j : Nat} {t : TypeId} {d : DataW H} (ht : ts[j]? = some t) (hd : ds[j]? = some d) : (d.weights P t).all (· ≤ reachBytes) = true :=
  List.all_eq_true.2 fun n hn => List.all_eq_true.1 h n (DataW.weights_mem_each ht hd n hn)

section
variable {H : Type} {enc : TypeId × Value → H} {r : Reach} {base : Nat} {t : TypeId} {v : Value} {d : DataW H} {ps : List MemPlace} {α : Type} {en : α → List T} {W : α → Prop}

theorem arg_cells (hd : DataW.Trod enc P w 0 (fun _ => true) true t v d ps) (hz : (d.weights P t).all (· ≤ reachBytes) = true) (h : Rd P w t en W) : ∃ y, W y ∧ RTs w (fun b => b < w.heap.size) (en y) v.cells.toList := by
  obtain ⟨fuel, hf⟩ := hd
  exact h H enc fuel v.cells.toList (d, ps) hf hz

theorem arg_agg {fs : Array Field} (hu : P.underlying t = some (.struct fs)) (hval : Value.okWide P w r base t v) (hd : DataW.Trod enc P w 0 (fun _ => true) true t v d ps) (hz : (d.weights P t).all (· ≤ reachBytes) = true) (h : Rd P w t en W) :
    ∃ y, W y ∧ ArgIs w (.agg (en y)) v := by
  obtain ⟨y, hy, hr⟩ := arg_cells hd hz h
  simp only [Value.okWide, hu] at hval
  obtain ⟨cs, rfl, _⟩ := hval
  exact ⟨y, hy, cs.toList, rfl, hr⟩

theorem arg_one {g : α → T} (hg : ∀ y, en y = [g y]) (hv : v.cells = #[v]) (hd : DataW.Trod enc P w 0 (fun _ => true) true t v d ps) (hz : (d.weights P t).all (· ≤ reachBytes) = true) (h : Rd P w t en W) :
    ∃ y, W y ∧ ArgIs w (.one (g y)) v := by
  obtain ⟨y, hy, hr⟩ := arg_cells hd hz h
  rw [hg, hv] at hr
  exact ⟨y, hy, hr.2 0 _ _ rfl rfl⟩

theorem one_slice {e : TypeId} (hu : P.underlying t = some (.slice e)) (hval : Value.okWide P w r base t v) : v.cells = #[v] := by
  obtain ⟨a, l, c, rfl⟩ := Go.WideShapes.okWide_slice hu hval; rfl
theorem one_string (hu : P.underlying t = some .string) (hval : Value.okWide P w r base t v) : v.cells = #[v] := by
  obtain ⟨s, rfl⟩ := Go.WideShapes.okWide_string hu hval; rfl
theorem one_int {k : IntKind} (hu : P.underlying t = some (.int k)) (hval : Value.okWide P w r base t v) : v.cells = #[v] := by
  obtain ⟨n, rfl⟩ := Go.WideShapes.okWide_int hu hval; rfl
theorem one_bool (hu : P.underlying t = some .bool) (hval : Value.okWide P w r base t v) : v.cells = #[v] := by
  obtain ⟨b, rfl⟩ := Go.WideShapes.okWide_bool hu hval; rfl
end
end
end Go.Proofs.Ytnjanliihnadjaa.Tm

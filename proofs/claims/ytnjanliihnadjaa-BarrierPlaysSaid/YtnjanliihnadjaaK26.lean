/- The tree machine: functions. Conditions: none. -/
import Derived.Test.YtnjanliihnadjaaK25
namespace Go.Proofs.Ytnjanliihnadjaa.Tm
open Go

section
variable {P : Program} {G : Ctx} {s : St} {cf : FuncId → List AD → Option Res} {ts ts' : TS} {o : Out} {E : Env}

/-! ### How a function begins -/
theorem get_of (l : List (Nat × Ent)) (k : Nat) : (TS.of l).get k = walk l k := by
  rw [TS.get_eq]
  have h : ∀ l : List (Nat × Ent), hasBit (maskOf l) k = l.any fun x => Nat.beq x.1 k := by
    intro l
    induction l with
    | nil => exact bit_zero k
    | cons x l ih =>
      show hasBit (setBit (maskOf l) x.1) k = _
      rw [hasBit_set, ih, List.any_cons]
      congr 1
      rw [Bool.eq_iff_iff, decide_eq_true_eq, beq_iff]; exact eq_comm
  show (bif hasBit (maskOf l) k then walk l k else Ent.no) = _
  rw [h]
  cases hq : l.any fun x => Nat.beq x.1 k with
  | true => rfl
  | false => rw [walk_none l k hq]; rfl

theorem walk_append (l r : List (Nat × Ent)) (k : Nat) (h : l.any (fun x => Nat.beq x.1 k) = false) : walk (l ++ r) k = walk r k := by
  induction l with
  | nil => rfl
  | cons x l ih =>
    simp only [List.any_cons, Bool.or_eq_false_iff] at h
    rw [List.cons_append, walk_cons, if_neg (fun e => by rw [(beq_iff _ _).2 e.symm] at h; cases h.1), ih h.2]

theorem walk_append_left (l r : List (Nat × Ent)) (k : Nat) (h : l.any (fun x => Nat.beq x.1 k) = true) : walk (l ++ r) k = walk l k := by
  induction l with
  | nil => cases h
  | cons x l ih =>
    rw [List.cons_append, walk_cons, walk_cons]
    by_cases hk : k = x.1
    · rw [if_pos hk, if_pos hk]
    · rw [if_neg hk, if_neg hk]
      simp only [List.any_cons, Bool.or_eq_true] at h
      exact ih (h.resolve_left fun e => hk ((beq_iff _ _).1 e).symm)

def initEnt : RC → Ent
  | .im t => ⟨.im, 0, t⟩
  | .own e t => ⟨.own e, 0, t⟩
  | .nil => ⟨.im, 0, .sl 0 []⟩

theorem initRC_eq (k : Nat) (c : RC) : initRC k c = (k, initEnt c) := by cases c <;> rfl

theorem initCells_any (i : Nat) : ∀ (cs : List RC) (x k : Nat), (initCells i x cs).any (fun y => Nat.beq y.1 k) = decide (∃ q, q < cs.length ∧ k = key i (x + q))
  | [], x, k => by simp [initCells]
  | c :: cs, x, k => by
    simp only [initCells, initRC_eq, List.any_cons, initCells_any i cs]
    rw [Bool.eq_iff_iff, Bool.or_eq_true, beq_iff, decide_eq_true_eq, decide_eq_true_eq]
    constructor
    · rintro (h | ⟨q, h1, h2⟩)
      · exact ⟨0, by simp, h.symm⟩
      · exact ⟨q + 1, by simpa using h1, by rw [h2, show Nat.succ x + q = x + (q + 1) by omega]⟩
    · rintro ⟨q, h1, h2⟩
      cases q with
      | zero => exact .inl h2.symm
      | succ q => exact .inr ⟨q, by simpa using h1, by rw [h2, show Nat.succ x + q = x + (q + 1) by omega]⟩

theorem initCells_walk (i : Nat) : ∀ (cs : List RC) (x q : Nat) (c : RC), cs[q]? = some c → walk (initCells i x cs) (key i (x + q)) = initEnt c
  | [], x, q, c, h => by simp at h
  | d :: cs, x, q, c, h => by
    simp only [initCells, initRC_eq, walk_cons]
    match q, h with
    | 0, h => simp at h; subst h; exact if_pos rfl
    | q + 1, h =>
      rw [if_neg (by rw [key_eq, key_eq]; omega), show x + (q + 1) = Nat.succ x + q by omega]
      exact initCells_walk i cs (Nat.succ x) q c (by simpa using h)

/-- What key (i, x) holds at the beginning, argument i being a. -/
def argEnt (a : AD) (x : Nat) : Ent := match a, x with
  | .one _, 0 => ⟨.one, 0, nob⟩
  | .one t, 1 => ⟨.im, 0, t⟩
  | .one _, _ => Ent.no
  | .agg ts, 0 => ⟨.agg ts.length, 0, nob⟩
  | .agg ts, x + 1 => match ts[x]? with | some t => ⟨.im, 0, t⟩ | none => Ent.no
  | .box e cs, 0 => ⟨.box e cs.length, 0, nob⟩
  | .box _ cs, x + 1 => match cs[x]? with | some c => initEnt c | none => Ent.no

def lenA : AD → Nat
  | .one _ => 1
  | .agg ts => ts.length
  | .box _ cs => cs.length

theorem smallArg_iff (a : AD) : smallArg a = true → lenA a ≤ 62 := by
  cases a <;> simp only [smallArg, lenA] <;> intro h
  · omega
  · exact (ble_iff _ _).1 h
  · exact (ble_iff _ _).1 h

theorem initArg_any (i : Nat) (a : AD) (k : Nat) : (initArg i a).any (fun y => Nat.beq y.1 k) = decide (∃ x, x ≤ lenA a ∧ k = key i x) := by
  have hc : ∀ (m : Nat) (e : Ent) (cs : List RC), ((key i 0, e) :: initCells i 1 cs).any (fun y => Nat.beq y.1 k) = decide (∃ x, x ≤ cs.length ∧ k = key i x) := by
    intro m e cs
    simp only [List.any_cons, initCells_any]
    rw [Bool.eq_iff_iff, Bool.or_eq_true, beq_iff, decide_eq_true_eq, decide_eq_true_eq]
    constructor
    · rintro (h | ⟨q, h1, h2⟩)
      · exact ⟨0, Nat.zero_le _, h.symm⟩
      · exact ⟨1 + q, by omega, h2⟩
    · rintro ⟨x, h1, h2⟩
      cases x with
      | zero => exact .inl h2.symm
      | succ x => exact .inr ⟨x, by omega, by rw [h2, Nat.add_comm]⟩
  cases a with
  | one t =>
    have := hc 0 ⟨.one, 0, nob⟩ [.im t]
    exact this
  | agg ts =>
    have := hc 0 ⟨.agg ts.length, 0, nob⟩ (ts.map RC.im)
    rw [List.length_map] at this
    exact this
  | box e cs => exact hc 0 ⟨.box e cs.length, 0, nob⟩ cs

theorem initArg_walk (i : Nat) (a : AD) (x : Nat) (hx : x ≤ lenA a) : walk (initArg i a) (key i x) = argEnt a x := by
  cases a with
  | one t =>
    match x, hx with
    | 0, _ => rw [initArg, walk_cons, if_pos rfl]; rfl
    | 1, _ => rw [initArg, walk_cons, if_neg (by rw [key_eq, key_eq]; omega), walk_cons, if_pos rfl]; rfl
    | x + 2, hx => simp [lenA] at hx
  | agg ts =>
    match x, hx with
    | 0, _ => rw [initArg, walk_cons, if_pos rfl]; rfl
    | x + 1, hx =>
      simp only [lenA] at hx
      rw [initArg, walk_cons, if_neg (by rw [key_eq, key_eq]; omega), Nat.add_comm x 1, initCells_walk i _ 1 x (.im ts[x]) (by simp [show x < ts.length by omega]), Nat.add_comm 1 x]
      simp only [argEnt, List.getElem?_eq_getElem (show x < ts.length by omega), initEnt]
  | box e cs =>
    match x, hx with
    | 0, _ => rw [initArg, walk_cons, if_pos rfl]; rfl
    | x + 1, hx =>
      simp only [lenA] at hx
      rw [initArg, walk_cons, if_neg (by rw [key_eq, key_eq]; omega), Nat.add_comm x 1, initCells_walk i _ 1 x cs[x] (List.getElem?_eq_getElem (by omega)), Nat.add_comm 1 x]
      simp only [argEnt, List.getElem?_eq_getElem (show x < cs.length by omega)]

theorem argEnt_out (a : AD) (x : Nat) (hx : lenA a < x) : argEnt a x = Ent.no := by
  cases a with
  | one t =>
    match x, hx with
    | x + 2, _ => rfl
    | 0, hx => simp [lenA] at hx
    | 1, hx => simp [lenA] at hx
  | agg ts =>
    match x, hx with
    | 0, hx => simp [lenA] at hx
    | x + 1, hx => simp only [lenA] at hx; simp only [argEnt, List.getElem?_eq_none (show ts.length ≤ x by omega)]
  | box e cs =>
    match x, hx with
    | 0, hx => simp [lenA] at hx
    | x + 1, hx => simp only [lenA] at hx; simp only [argEnt, List.getElem?_eq_none (show cs.length ≤ x by omega)]

theorem initArgs_get : ∀ (as : List AD) (i0 i x : Nat), (∀ a ∈ as, lenA a ≤ 62) → x < 64 → walk (initArgs i0 as) (key i x) = if i0 ≤ i then (match as[i - i0]? with | some a => argEnt a x | none => Ent.no) else Ent.no
  | [], i0, i, x, _, _ => by simp [initArgs]; rfl
  | a :: as, i0, i, x, hs, hx => by
    simp only [initArgs]
    have ha := hs a (by simp)
    have ih := initArgs_get as (i0 + 1) i x (fun a h => hs a (by simp [h])) hx
    by_cases hi : i = i0
    · subst hi
      rw [if_pos (Nat.le_refl _), Nat.sub_self, List.getElem?_cons_zero]
      by_cases hxl : x ≤ lenA a
      · rw [walk_append_left _ _ _ (by rw [initArg_any]; exact decide_eq_true ⟨x, hxl, rfl⟩), initArg_walk i a x hxl]
      · rw [walk_append _ _ _ (by rw [initArg_any]; refine decide_eq_false ?_; rintro ⟨y, h1, h2⟩; rw [key_eq, key_eq] at h2; omega), ih, if_neg (by omega)]; exact (argEnt_out a x (by omega)).symm
    · rw [walk_append _ _ _ (by rw [initArg_any]; refine decide_eq_false ?_; rintro ⟨y, h1, h2⟩; rw [key_eq, key_eq] at h2; omega), ih]
      by_cases h1 : i0 ≤ i
      · rw [if_pos (by omega), if_pos h1, show i - i0 = (i - (i0 + 1)) + 1 by omega, List.getElem?_cons_succ]
      · rw [if_neg (by omega), if_neg h1]

/-- A cell's value at the beginning. -/
def cvOf (w : World) : AD → Value → Nat → Value
  | .agg _, .agg us, x + 1 => us.getD x undef
  | .box _ _, .pointer (some a), x + 1 => (match w.heap[a.block]? with | some (.cells c _ _) => c.getD x undef | _ => undef)
  | _, v, _ => v
def cvInit (as : List AD) (vs : List Value) (w : World) (k : Nat) : Value := match as[k / 64]?, vs[k / 64]? with
  | some a, some v => cvOf w a v (k % 64)
  | _, _ => undef

def ctxInit (as : List AD) (vs : List Value) (w : World) (ow : Nat → Ow) (nt : Nat) : Ctx :=
  { w0 := w, X := fun b => ∃ k, ow b = .key k, S0 := fun b => ow b = .st, nt := nt, prot := protOf 0 as, pv := fun i => vs.getD i undef }

def stInit (as : List AD) (vs : List Value) (w : World) (ow : Nat → Ow) (nt : Nat) : St :=
  { ts := TS.of (initArgs 0 as), a := { tmps := vs.toArray ++ Array.replicate (nt - vs.toArray.size) undef, defers := [] }, w := w, cv := cvInit as vs w, ow := ow, pd := fun _ => none }

theorem protOf_bit : ∀ (as : List AD) (i0 i : Nat), hasBit (protOf i0 as) i = true → i0 ≤ i ∧ ∃ e cs, as[i - i0]? = some (.box e cs)
  | [], i0, i, h => by rw [show protOf i0 [] = 0 from rfl, bit_zero] at h; cases h
  | a :: as, i0, i, h => by
    have rec_ : hasBit (protOf (Nat.succ i0) as) i = true → i0 ≤ i ∧ ∃ e cs, (a :: as)[i - i0]? = some (.box e cs) := fun h => by
      obtain ⟨h1, e, cs, h2⟩ := protOf_bit as (Nat.succ i0) i h
      exact ⟨by omega, e, cs, by rw [show i - i0 = (i - Nat.succ i0) + 1 by omega]; simpa using h2⟩
    cases a with
    | one t => exact rec_ h
    | agg ts => exact rec_ h
    | box e cs =>
      have h' : hasBit (setBit (protOf (Nat.succ i0) as) i0) i = true := h
      rw [hasBit_set, Bool.or_eq_true, decide_eq_true_eq] at h'
      rcases h' with h' | h'
      · subst h'; exact ⟨Nat.le_refl _, e, cs, by simp⟩
      · exact rec_ h'

theorem init_ok {as : List AD} {vs : List Value} {w : World} {ow : Nat → Ow} (en : Entry P as vs w ow) (hs : ∀ a ∈ as, lenA a ≤ 62) (nt : Nat) : Ok P (ctxInit as vs w ow nt) (stInit as vs w ow nt) := by
  have hget : ∀ i x, x < 64 → (stInit as vs w ow nt).ts.get (key i x) = (match as[i]? with | some a => argEnt a x | none => Ent.no) := fun i x hx => by
    show (TS.of (initArgs 0 as)).get _ = _
    rw [get_of, initArgs_get as 0 i x hs hx, if_pos (Nat.zero_le _), Nat.sub_zero]
  have hcv : ∀ i x a v, x < 64 → as[i]? = some a → vs[i]? = some v → (stInit as vs w ow nt).cv (key i x) = cvOf w a v x := fun i x a v hx ha hv => by
    show cvInit as vs w (key i x) = _
    rw [cvInit, key_div hx, key_mod hx, ha, hv]
  have hv : ∀ i a, as[i]? = some a → ∃ v, vs[i]? = some v ∧ ArgOk P w ow i a v := fun i a hi => by
    have hlt : i < vs.length := by rw [en.len]; exact (List.getElem?_eq_some_iff.1 hi).1
    exact ⟨vs[i], List.getElem?_eq_getElem hlt, en.arg i a _ hi (List.getElem?_eq_getElem hlt)⟩
  have htmp : ∀ i v, vs[i]? = some v → (stInit as vs w ow nt).a.tmps.getD i undef = v := fun i v hi => by
    have hlt := (List.getElem?_eq_some_iff.1 hi).1
    show (vs.toArray ++ _).getD i undef = v
    rw [Array.getD_eq_getD_getElem?, Array.getElem?_append_left (by simpa using hlt)]
    simp [hi]
  exact {
    keep := Keep.refl _ _
    nt := by show nt ≤ (vs.toArray ++ _).size; simp; omega
    df := rfl
    lt := en.lt
    ex := fun b hb => by
      show ow b = .st ∨ w.heap.size ≤ b ∨ ∃ k, ow b = .key k
      cases h1 : ow b with
      | st => exact .inl rfl
      | key k => exact .inr (.inr ⟨k, rfl⟩)
      | no => exact absurd h1 hb
      | pd i => exact absurd h1 (en.pd b i)
    s0 := fun b hb => hb
    cell := fun k _ => by
      obtain ⟨i, x, hx, rfl⟩ : ∃ i x, x < 64 ∧ k = key i x := ⟨k / 64, k % 64, Nat.mod_lt _ (by omega), by rw [key_eq]; omega⟩
      rw [CellOk, hget i x hx]
      cases hi : as[i]? with
      | none => exact trivial
      | some a =>
        obtain ⟨v, hvi, harg⟩ := hv i a hi
        rw [hcv i x a v hx hi hvi]
        cases a with
        | one t =>
          match x with
          | 0 => exact trivial
          | 1 => exact harg
          | x + 2 => exact trivial
        | agg ts =>
          match x with
          | 0 => exact trivial
          | x + 1 =>
            obtain ⟨us, rfl, hrt⟩ := harg
            simp only [argEnt]
            cases ht : ts[x]? with
            | none => exact trivial
            | some t =>
              have hlt : x < us.length := by rw [hrt.1]; exact (List.getElem?_eq_some_iff.1 ht).1
              have := hrt.2 x t us[x] ht (List.getElem?_eq_getElem hlt)
              dsimp only [cvOf]
              rw [Array.getD_eq_getD_getElem?]
              simp only [List.getElem?_toArray, List.getElem?_eq_getElem hlt, Option.getD_some]
              exact this
        | box e cs =>
          match x with
          | 0 => exact trivial
          | x + 1 =>
            obtain ⟨b, us, rfl, hl, hb, ho, hc⟩ := harg
            simp only [argEnt]
            cases ht : cs[x]? with
            | none => exact trivial
            | some c =>
              have hlt : x < us.length := by rw [hl]; exact (List.getElem?_eq_some_iff.1 ht).1
              have := hc x c us[x] ht (List.getElem?_eq_getElem hlt)
              dsimp only [cvOf]
              rw [hb]
              dsimp only
              rw [Array.getD_eq_getD_getElem?]
              simp only [List.getElem?_toArray, List.getElem?_eq_getElem hlt, Option.getD_some]
              cases c with
              | im t => exact this
              | own e t => rw [Nat.add_comm 1 x] at this; exact this
              | nil => rw [show us[x] = _ from this]; exact .nil
    main := fun i _ => by
      rw [MainOk, hget i 0 (by omega)]
      cases hi : as[i]? with
      | none => exact trivial
      | some a =>
        obtain ⟨v, hvi, harg⟩ := hv i a hi
        have ha := hs a (List.mem_of_getElem? hi)
        cases a with
        | one t =>
          show _ = _
          rw [htmp i v hvi, hcv i 1 _ v (by omega) hi hvi]
          rfl
        | agg ts =>
          obtain ⟨us, rfl, hrt⟩ := harg
          refine ⟨ha, ?_⟩
          rw [htmp i _ hvi]
          congr 2
          have := cvals_eq (cv := (stInit as vs w ow nt).cv) (s := i) (o := 1) (vs := us) fun m v hm => by
            have hlt := (List.getElem?_eq_some_iff.1 hm).1
            rw [hrt.1] at hlt
            simp only [lenA] at ha
            rw [hcv i (1 + m) _ _ (by omega) hi hvi, Nat.add_comm 1 m]
            dsimp only [cvOf]
            rw [Array.getD_eq_getD_getElem?]
            simp [hm]
          rw [hrt.1] at this
          exact this.symm
        | box e cs =>
          obtain ⟨b, us, rfl, hl, hb, ho, hc⟩ := harg
          refine ⟨ha, b, by rw [hcv i 0 _ _ (by omega) hi hvi]; rfl, htmp i _ hvi, ?_, ho⟩
          show w.heap[b]? = _
          rw [hb]
          congr 3
          have := cvals_eq (cv := (stInit as vs w ow nt).cv) (s := i) (o := 1) (vs := us) fun m v hm => by
            have hlt := (List.getElem?_eq_some_iff.1 hm).1
            rw [hl] at hlt
            simp only [lenA] at ha
            rw [hcv i (1 + m) _ _ (by omega) hi hvi, Nat.add_comm 1 m]
            dsimp only [cvOf]
            rw [hb]
            dsimp only
            rw [Array.getD_eq_getD_getElem?]
            simp [hm]
          rw [hl] at this
          exact this.symm
    pok := fun i x hx => by cases hx
    prot := fun i hi _ => by
      obtain ⟨_, e, cs, h2⟩ := protOf_bit as 0 i hi
      obtain ⟨v, hvi, harg⟩ := hv i _ (by simpa using h2)
      rw [hcv i 0 _ _ (by omega) (by simpa using h2) hvi]
      obtain ⟨b, us, rfl, _⟩ := harg
      show _ = vs.getD i undef
      rw [List.getD_eq_getElem?_getD, hvi]; rfl }

end
end Go.Proofs.Ytnjanliihnadjaa.Tm

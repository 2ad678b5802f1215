/- The tree machine: slices that are made. Conditions: none. -/
import Derived.Test.YtnjanliihnadjaaK12
namespace Go.Proofs.Ytnjanliihnadjaa.Tm
open Go

section
variable {P : Program} {G : Ctx} {s : St} {cf : FuncId → List AD → Option Res} {ts ts' : TS} {o : Out} {E : Env}

theorem madeCells_eq (z : Array Value) : ∀ n : Nat, (madeCells z (n * z.size)).toList = (List.replicate n z.toList).flatten
  | 0 => by simp [madeCells]
  | n + 1 => by
    rw [List.replicate_succ', List.flatten_append, ← madeCells_eq z n]
    apply List.ext_getElem?
    intro j
    have e1 : (n + 1) * z.size = n * z.size + z.size := by rw [Nat.add_mul, Nat.one_mul]
    have hget : ∀ m j, j < m → (madeCells z m).toList[j]? = some z[j % z.size]! := fun m j hj => by simp [madeCells, hj]
    have hout : ∀ m j, ¬ j < m → (madeCells z m).toList[j]? = none := fun m j hj => by simp [madeCells, hj]
    have hl : (madeCells z (n * z.size)).toList.length = n * z.size := by simp [madeCells]
    rw [List.getElem?_append, hl]
    by_cases h1 : j < n * z.size
    · rw [if_pos h1, hget _ _ h1, hget _ _ (by omega)]
    · rw [if_neg h1]
      simp only [List.flatten_cons, List.flatten_nil, List.append_nil]
      by_cases h2 : j < n * z.size + z.size
      · rw [hget _ _ (by omega)]
        have h3 : j - n * z.size < z.size := by omega
        have h4 : j % z.size = j - n * z.size := by
          have : j = (j - n * z.size) + n * z.size := by omega
          rw [this, Nat.add_mul_mod_self_right, Nat.mod_eq_of_lt h3]; omega
        rw [h4]
        simp [h3]
      · rw [hout _ _ (by omega)]
        simp; omega

theorem zeroT_ok (w : World) (S : Nat → Prop) {v : Value} (h : isOne v = true) : RT w S (zeroT v) v := by
  unfold zeroT
  split
  · exact .nil
  · exact .lit (by rw [← isOne_eq]; exact h)

theorem makeD_ok (h : Ok P G s) (hE : EnvOk P E) {t : TypeId} {l c : D} {vl vc : Value} (hl : DOk True s l vl) (hc : DOk True s c vc) {kk : D → Prog} (hr : Runs cf (makeD E t l c kk) s.ts o ts') :
    ∃ d v s', (Instr.makeSlice t vl vc).run P s.w = .ok v s'.w ∧ Ok P G s' ∧ s'.a = s.a ∧ DOk False s' d v ∧ Runs cf (kk d) s'.ts o ts' := by
  obtain ⟨y, e, hy, hd, hr1⟩ := tslice_ok hE hr
  obtain ⟨i, hi, hli, hr2⟩ := tinfo_ok hE hr1
  obtain ⟨i', hi', hli', hr3⟩ := zeroOf_ok hE hr2
  rw [hli] at hli'; cases hli'
  obtain ⟨rfl, hr4⟩ := litOf_ok hl hr3
  obtain ⟨rfl, hr5⟩ := litOf_ok hc hr4
  dsimp only at hr5
  split at hr5
  · rename_i k1 l k2 c
    have hr6 := Runs.test hr5
    dsimp only at hr6
    obtain ⟨it, z, hi1, hi2, hi3, hi4, hi5⟩ := hi.info
    cases hb : mkok l c i.bytes && Nat.beq i.zero.length i.size with
    | false => rw [hb] at hr6; exact (Runs.fail hr6).elim
    | true =>
      rw [hb] at hr6
      rw [Bool.and_eq_true, beq_iff, decide_eq_true_eq] at hb
      obtain ⟨⟨rfl, b2, b3, b4⟩, b5⟩ := hb
      obtain ⟨n, rfl⟩ := Int.eq_ofNat_of_zero_le b2
      have hzs : z.cells.size = i.size := by have := congrArg List.length hi5; simpa [b5] using this
      have hbytes : it.bytes * n ≤ 281474976710656 := by
        have : ((n * i.bytes : Nat) : Int) ≤ 140737488355328 := by rw [Int.natCast_mul]; exact b4
        rw [hi3, Nat.mul_comm]; omega
      obtain ⟨w', hrun, hown, hgr⟩ := run_make_full s.w 0 t e it z i.size (by rw [hy.under, hd]) hi1 hi4 hi2 k1 k2 n hbytes (by simp only [maxLen]; omega) (Nat.zero_le _)
      have hkp : Keep (fun _ => False) s.w w' := ⟨hgr.os, hgr.tape, hgr.output, hgr.size, fun k hk _ => hgr.block k hk (by simp)⟩
      have hrts : ∀ S, RTs w' S (List.replicate n (i.zero.map zeroT)).flatten (madeCells z.cells (n * i.size)).toList := fun S => by
        rw [← hzs, madeCells_eq, hi5]
        have hz : ∀ v ∈ i.zero, RT w' S (zeroT v) v := fun v hv => zeroT_ok w' S (List.all_eq_true.1 hi.one v hv)
        have hall : (List.replicate n (i.zero.map zeroT)).flatten = ((List.replicate n i.zero).flatten).map zeroT := by simp [List.map_flatten]
        rw [hall]
        refine ⟨by simp, fun j t u ht hu => ?_⟩
        rw [List.getElem?_map, hu] at ht
        simp at ht; subst ht
        refine hz u ?_
        have := List.mem_of_getElem? hu
        simp only [List.mem_flatten, List.mem_replicate] at this
        obtain ⟨l, ⟨_, rfl⟩, hm⟩ := this
        exact hm
      have hoo : OwnOk P w' s.S e (.sl n (List.replicate n (i.zero.map zeroT)).flatten) (.slice (some ⟨s.w.heap.size, 0, none⟩) n n) :=
        ⟨n, _, rfl, .inr ⟨it, _, hi1, by rw [hi2]; exact hown, hrts _⟩⟩
      obtain ⟨ok1, ev1⟩ := h.fresh 0 hkp (fun _ h => h.elim) ⟨e, _, _⟩ hoo (fun b hb => .inr (by
        cases hb
        refine ⟨Nat.le_refl _, ?_⟩
        rcases hown.2 with ⟨h1, _⟩ | ⟨g, cap, cur, h1, _, hg, _⟩
        · cases h1
        · cases h1; exact (Array.getElem?_eq_some_iff.1 hg).1))
      simp only [cond_true, Int.toNat_natCast] at hr6
      exact ⟨.one (.new e (.sl n (List.replicate n (i.zero.map zeroT)).flatten)), .slice (some ⟨s.w.heap.size, 0, none⟩) n n, _, hrun, ok1, rfl, ⟨id, upd_same s.pd 0 _⟩, Runs.sl hr6⟩
  · exact (Runs.fail hr5).elim

theorem run_buildSlice' (w : World) (t e : TypeId) (len : Nat) (parts : Array (Nat × Value)) (cells : Array Value) (ie : TypeInfo) (z : Value)
    (hu : P.underlying t = some (.slice e)) (hie : P.info? e = some ie) (hz : ie.zero = some z) (hsmall : ¬ len * ie.size > 2 ^ 24)
    (h : Instr.fill (fun i => some (i * ie.size, ie.size)) (madeCells z.cells (len * ie.size)) parts.toList = some cells) :
    (Instr.buildSlice t len parts).run P w = .ok (.slice (some ⟨w.heap.size, 0, none⟩) len len) (w.alloc (.cells cells e)) := by
  by_cases hpos : len * ie.size = 0
  · have hm : madeCells z.cells (len * ie.size) = #[] := by rw [hpos]; simp [madeCells, Array.range_zero']
    rw [hm] at h
    simp [Instr.buildSlice, run_underlying hu, sizeOf, typeInfo, hie, hpos, Array.range_zero', h, newRow]
  · exact run_buildSlice w t e len parts cells ie z hu hie hz hsmall hpos h

theorem buildSliceD_ok (h : Ok P G s) (hE : EnvOk P E) {t : TypeId} {len : Nat} {parts : Array (Nat × Operand)} {kk : D → Prog} (hr : Runs cf (buildSliceD E t len parts.toList kk) s.ts o ts') :
    ∃ d v s', (Instr.buildSlice t len (parts.map fun (i, x) => (i, s.a.eval x))).run P s.w = .ok v s'.w ∧ Ok P G s' ∧ s'.a = s.a ∧ DOk False s' d v ∧ Runs cf (kk d) s'.ts o ts' := by
  obtain ⟨y, e, hy, hd, hr1⟩ := tslice_ok hE hr
  obtain ⟨i, hi, hli, hr2⟩ := tsize_ok hE hr1
  obtain ⟨i', hi', hli', hr3⟩ := zeroOf_ok hE hr2
  rw [hli] at hli'; cases hli'
  obtain ⟨ds, hd1, hd2, hr4⟩ := opds_ok h hr3
  obtain ⟨it, z, hi1, hi2, hi3, hi4, hi5⟩ := hi.info
  dsimp only at hr4
  cases hb : Nat.ble (len * i.size) 16777216 && Nat.ble len 16777216 && Nat.beq i.zero.length i.size with
  | false => rw [hb] at hr4; exact (Runs.fail hr4).elim
  | true =>
    rw [hb] at hr4
    rw [Bool.and_eq_true, Bool.and_eq_true, ble_iff, ble_iff, beq_iff] at hb
    obtain ⟨⟨b1, b2⟩, b3⟩ := hb
    have hzs : z.cells.size = i.size := by have := congrArg List.length hi5; simpa [b3] using this
    have hz0 : CVsOk True s 0 (List.replicate len (i.zero.map zeroCV)).flatten (madeCells z.cells (len * it.size)).toList := by
      rw [hi2, ← hzs, madeCells_eq, hi5]
      have hall : (List.replicate len (i.zero.map zeroCV)).flatten = ((List.replicate len i.zero).flatten).map zeroCV := by simp [List.map_flatten]
      rw [hall]
      refine zeroCVs_ok _ _ _ fun v hv => ?_
      simp only [List.mem_flatten, List.mem_replicate] at hv
      obtain ⟨l, ⟨_, rfl⟩, hm⟩ := hv
      exact List.all_eq_true.1 hi.one v hm
    obtain ⟨cs', arr', hf, hc, hr5⟩ := fillD_ok (E := E) (ts' := ts') (cf := cf) (o := o) h (pm := fun j => some (j * it.size, it.size)) (fun j kk hr => ⟨_, rfl, by rw [hi2]; exact hr⟩) hd1 hd2 hz0 hr4
    obtain ⟨tl, s1, ok1, sm1, rt1, _, hr6⟩ := freezes_ok h hc.weak hr5
    have hsz : arr'.size = len * it.size := by
      have hfs : ∀ (l : List (Nat × Value)) (a b : Array Value), Instr.fill (fun j => some (j * it.size, it.size)) a l = some b → b.size = a.size := by
        intro l
        induction l with
        | nil => intro a b hh; cases hh; rfl
        | cons p l ih =>
          intro a b hh
          obtain ⟨q, v⟩ := p
          simp only [Instr.fill] at hh
          split at hh
          · cases hh
          · rw [ih _ _ hh]
            have : ∀ (xs : List (Value × Nat)) (c : Array Value), (xs.foldl (fun (cs : Array Value) (x : Value × Nat) => cs.setIfInBounds (q * it.size + x.2) x.1) c).size = c.size := by
              intro xs
              induction xs with
              | nil => intro c; rfl
              | cons x xs ih2 => intro c; rw [List.foldl_cons, ih2]; simp
            rw [← Array.foldl_toList]
            exact this _ _
      rw [hfs _ _ _ hf, size_madeCells]
    have hrun := run_buildSlice' s.w t e len (parts.map fun (i, x) => (i, s.a.eval x)) arr' it z (by rw [hy.under, hd]) hi1 hi4 (by rw [hi2]; omega) (by rw [Array.toList_map]; exact hf)
    have hlit := World.ownsRow_lit (base := 0) (e := e) (size := it.size) s1.w arr' len (Nat.zero_le _) (by simp only [maxLen]; omega) hsz
    have hoo : OwnOk P (s1.w.alloc (.cells arr' e)) s1.S e (.sl len tl) (.slice (some ⟨s1.w.heap.size, 0, none⟩) len len) :=
      ⟨len, tl, rfl, .inr ⟨it, _, hi1, hlit, rt1.mono (fun _ h => h) fun b hb => heap_alloc_old _ _ _ (ok1.lt b (by rw [show s1.ow b = .st from hb]; intro hh; cases hh))⟩⟩
    obtain ⟨ok2, ev2⟩ := ok1.fresh 0 (keep_alloc s1.w (.cells arr' e) (fun _ => False)) (fun _ h => h.elim) ⟨e, _, _⟩ hoo (fun b hb => .inr (by
      cases hb
      refine ⟨Nat.le_refl _, ?_⟩
      rw [show (s1.w.alloc (.cells arr' e)).heap = s1.w.heap.push _ from rfl, Array.size_push]; exact Nat.lt_succ_self _))
    refine ⟨.one (.new e (.sl len tl)), .slice (some ⟨s.w.heap.size, 0, none⟩) len len, _, ?_, ok2, sm1.a, ⟨id, ?_⟩, hr6⟩
    · rw [hrun]
      show _ = Result.ok _ (s1.w.alloc _)
      rw [sm1.w]
    · rw [← sm1.w]; exact upd_same s1.pd 0 _
end
end Go.Proofs.Ytnjanliihnadjaa.Tm

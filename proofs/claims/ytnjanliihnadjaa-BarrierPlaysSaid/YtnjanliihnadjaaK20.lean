/- The tree machine: every operation, guarded or not. Conditions: none. -/
import Derived.Test.YtnjanliihnadjaaK19
namespace Go.Proofs.Ytnjanliihnadjaa.Tm
open Go

section
variable {P : Program} {G : Ctx} {s : St} {cf : FuncId → List AD → Option Res} {ts ts' : TS} {o : Out} {E : Env}

theorem zeroCVs_all {z : List Value} (h : z.all isOne = true) : CVsOk True s 0 (z.map zeroCV) z := zeroCVs_ok _ _ _ fun v hv => List.all_eq_true.1 h v hv

/-- Each operation does what the model says. -/
theorem stepOp_ok {op : Oper} {hh : Hint} {kk : Unit → Prog} (h : Ok P G s) (hE : EnvOk P E) (hm : Meets P cf) (hd : ∀ i, op.dst = some i → i < s.a.tmps.size ∧ hasBit G.prot i = false)
    (hr : Runs cf (stepOp E hh op kk) s.ts o ts') {Q : Exit → Act → World → Prop} : op.wp P s.a s.w (After P G cf kk o ts') Q := by
  obtain ⟨dst, p, ty, pos, af, gd⟩ := op
  have hd1 : ∀ i, dst = some i → i < s.a.tmps.size := fun i hi => (hd i hi).1
  cases p with
  | move x =>
    obtain ⟨d, hD, hr1⟩ := opd_ok h hr
    have hrun : (execOp s.a.eval ⟨dst, .move x, ty, pos, af, gd⟩).run P s.w = .ok (.value (s.a.eval x)) s.w := rfl
    rw [Oper.wp, hrun, Oper.upon_value]
    exact dst_ok h hd1 hD.weak hr1
  | assign x =>
    obtain ⟨d, hD, hr1⟩ := opd_ok h hr
    have hrun : (execOp s.a.eval ⟨dst, .assign x, ty, pos, af, gd⟩).run P s.w = .ok (.value (s.a.eval x)) s.w := rfl
    rw [Oper.wp, hrun, Oper.upon_value]
    cases dst with
    | none => exact ⟨s, rfl, rfl, h, hr1⟩
    | some i =>
      obtain ⟨s', ok', ha, hw, hr2⟩ := assignD_ok h (hd1 i rfl) hD hr1
      exact ⟨s', ha, hw, ok', hr2⟩
  | pick c a b =>
    refine step_pure (op := ⟨dst, .pick c a b, ty, pos, af, gd⟩) (X := opPick c a b) (m := do pure (if ← asBool (s.a.eval c) then s.a.eval a else s.a.eval b)) h hd1 ?_ (by simp [execOp]) hr
    refine Pure.opd h fun d hD => ?_
    intro cf kk o ts' hr1
    obtain ⟨_, hr2⟩ := litOf_ok hD hr1
    generalize hv : s.a.eval c = v at hr2
    cases v <;> try exact (Runs.fail hr2).elim
    rename_i r
    have hr3 := Runs.test hr2
    cases r with
    | true =>
      obtain ⟨d', hD', hr4⟩ := opd_ok h hr3
      exact ⟨d', _, by simp [asBool], hD'.weak, hr4⟩
    | false =>
      obtain ⟨d', hD', hr4⟩ := opd_ok h hr3
      exact ⟨d', _, by simp [asBool], hD'.weak, hr4⟩
  | alloc t =>
    have hr0 : Runs cf (opAlloc E hh dst t kk) s.ts o ts' := hr
    unfold opAlloc at hr0
    obtain ⟨y, hy, _, hr1⟩ := zeroOf_ok hE hr0
    cases dst with
    | none => exact (Runs.fail hr1).elim
    | some d =>
      obtain ⟨y', s', hy', hul, ok', ha, hw, hr2⟩ := boxD_ok hE h (hd1 d rfl) (hd d rfl).2 (zeroCVs_all hy.one) hr1
      obtain ⟨z, hz1, hz2⟩ := hy.run_zero s.w
      have hrun : (execOp s.a.eval ⟨some d, .alloc t, ty, pos, af, gd⟩).run P s.w = .ok (.value (.pointer (some ⟨s.w.heap.size, 0, none⟩))) (s.w.alloc (.cells y.zero.toArray t)) := by
        have : z.cells = y.zero.toArray := by rw [← hz2]
        simp [execOp, Instr.alloc, hz1, newVar, this]
        rfl
      rw [Oper.wp, hrun, Oper.upon_value]
      exact ⟨s', ha, hw, ok', hr2⟩
  | box t x =>
    obtain ⟨d, hD, hr1⟩ := opd_ok h hr
    obtain ⟨cs, us, hc, hcl, hone, hr2⟩ := cvs_ok h hD hr1
    cases dst with
    | none => exact (Runs.fail hr2).elim
    | some i =>
      obtain ⟨y', s', hy', hul, ok', ha, hw, hr3⟩ := boxD_ok hE h (hd1 i rfl) (hd i rfl).2 hc hr2
      have hrun : (execOp s.a.eval ⟨some i, .box t x, ty, pos, af, gd⟩).run P s.w = .ok (.value (.pointer (some ⟨s.w.heap.size, 0, none⟩))) (s.w.alloc (.cells us.toArray t)) := by
        simp [execOp, Instr.box, newVar, hcl]
        rfl
      rw [Oper.wp, hrun, Oper.upon_value]
      exact ⟨s', ha, hw, ok', hr3⟩
  | build t ps => exact step_pure (op := ⟨dst, .build t ps, ty, pos, af, gd⟩) h hd1 (buildD_ok h hE) rfl hr
  | buildSlice t n ps => exact step_mem (op := ⟨dst, .buildSlice t n ps, ty, pos, af, gd⟩) hd1 (buildSliceD_ok h hE hr) rfl
  | load t a => exact step_pure (op := ⟨dst, .load t a, ty, pos, af, gd⟩) (X := opLoad E t a) h hd1 (Pure.opd h fun d hD => loadD_ok h hE hD) rfl hr
  | store t a x =>
    cases dst with
    | some i => exact (Runs.fail hr).elim
    | none =>
      have hr0 : Runs cf (opd a fun a => opd x fun x => storeD E t a x kk) s.ts o ts' := hr
      obtain ⟨da, hDa, hr1⟩ := opd_ok h hr0
      obtain ⟨dx, hDx, hr2⟩ := opd_ok h hr1
      obtain ⟨s', g1, g2, g3, g4⟩ := storeD_ok h hE hDa hDx hr2
      have hrun : (execOp s.a.eval ⟨none, .store t a x, ty, pos, af, gd⟩).run P s.w = .ok .skip s'.w := by
        simp [execOp, g1]
      rw [Oper.wp, hrun, Oper.upon_skip]
      exact ⟨s', g3, rfl, g2, g4⟩
  | nilCheck x =>
    obtain ⟨d, hD, hr1⟩ := opd_ok h hr
    obtain ⟨g1, d', g2, g3⟩ := nilCheckD_ok (P := P) (kk := fun d => dstK E dst ty d kk) hD hr1
    rw [Oper.wp, g1 x s.a rfl, Oper.upon_value]
    exact dst_ok h hd1 g2 g3
  | binOp b t x y yt => exact step_pure (op := ⟨dst, .binOp b t x y yt, ty, pos, af, gd⟩) (X := opBin E b t x y) h hd1 (Pure.opd h fun d hD => Pure.opd h fun d' hD' => binD_ok hE hD hD' x y) rfl hr
  | unOp u t x => exact step_pure (op := ⟨dst, .unOp u t x, ty, pos, af, gd⟩) (X := opUn u x) h hd1 (Pure.opd h fun d hD => unD_ok hD) rfl hr
  | convert t1 t2 x => exact step_pure (op := ⟨dst, .convert t1 t2 x, ty, pos, af, gd⟩) (X := opConv E t1 t2 x) h hd1 (Pure.opd h fun d hD => convD_ok h hE hD) rfl hr
  | makeSlice t l c =>
    obtain ⟨dl, hDl, hr1⟩ := opd_ok h hr
    obtain ⟨dc, hDc, hr2⟩ := opd_ok h hr1
    exact step_mem (op := ⟨dst, .makeSlice t l c, ty, pos, af, gd⟩) hd1 (makeD_ok h hE hDl hDc hr2) rfl
  | slice t x lo hi mx =>
    obtain ⟨d, hD, hr1⟩ := opd_ok h hr
    obtain ⟨dlo, hlo, hr2⟩ := opdo_ok h hr1
    obtain ⟨dhi, hhi, hr3⟩ := opdo_ok h hr2
    obtain ⟨dmx, hmx, hr4⟩ := opdo_ok h hr3
    exact step_mem (op := ⟨dst, .slice t x lo hi mx, ty, pos, af, gd⟩) hd1 (sliceD_ok h hE hD hlo hhi hmx hr4) rfl
  | fieldAddr t x f => exact step_pure (op := ⟨dst, .fieldAddr t x f, ty, pos, af, gd⟩) (X := opFieldAddr E t x f) h hd1 (Pure.opd h fun d hD => fieldAddrD_ok hE hD) rfl hr
  | field t x f => exact step_pure (op := ⟨dst, .field t x f, ty, pos, af, gd⟩) (X := opField E t x f) h hd1 (Pure.opd h fun d hD => fieldD_ok hE hD) rfl hr
  | indexAddr t x i => exact step_pure (op := ⟨dst, .indexAddr t x i, ty, pos, af, gd⟩) (X := opIndexAddr E t x i) h hd1 (Pure.opd h fun d hD => Pure.opd h fun d' hD' => indexAddrD_ok h hE hD hD') rfl hr
  | index t x i => exact step_pure (op := ⟨dst, .index t x i, ty, pos, af, gd⟩) (X := opIndex E t x i) h hd1 (Pure.opd h fun d hD => Pure.opd h fun d' hD' => indexD_ok hE hD hD') rfl hr
  | extract x i => exact step_pure (op := ⟨dst, .extract x i, ty, pos, af, gd⟩) (X := opExtract x i) h hd1 (extract_ok h) rfl hr
  | call c =>
    obtain ⟨callee, args, tys⟩ := c
    obtain ⟨ds, hds, hr1⟩ := opdl_ok (xs := args.toList) h hr
    cases callee with
    | builtin b => exact call_builtin_ok (op := ⟨dst, .call ⟨.builtin b, args, tys⟩, ty, pos, af, gd⟩) h hE rfl hd1 hds hr1
    | value f =>
      have hr2 : Runs cf (opd f fun f => litOf f fun v => callV E ds v fun d => dstK E dst ty d kk) s.ts o ts' := hr1
      obtain ⟨df, hDf, hr3⟩ := opd_ok h hr2
      obtain ⟨_, hr4⟩ := litOf_ok hDf hr3
      generalize hv : s.a.eval f = v at hr4
      unfold callV at hr4
      split at hr4
      · rename_i g first captured
        cases hb : first.isEmpty && captured.isEmpty with
        | false => rw [hb] at hr4; exact (Runs.fail hr4).elim
        | true =>
          rw [hb] at hr4
          rw [Bool.and_eq_true, Array.isEmpty_iff, Array.isEmpty_iff] at hb
          obtain ⟨rfl, rfl⟩ := hb
          exact call_func_ok (op := ⟨dst, .call ⟨.value f, args, tys⟩, ty, pos, af, gd⟩) h hm rfl hd1 hv hds hr4
      · exact (Runs.fail hr4).elim
    | invoke _ _ => exact (Runs.fail hr1).elim
  | _ => exact (Runs.fail hr).elim

/-- A slot that is not written. -/
theorem setUndef_ok {op : Oper} {kk : Unit → Prog} (h : Ok P G s) (hd : ∀ i, op.dst = some i → i < s.a.tmps.size) (hr : Runs cf (setUndef op kk) s.ts o ts') : After P G cf kk o ts' (s.a.put op.dst undef) s.w := by
  unfold setUndef at hr
  cases hdst : op.dst with
  | none => rw [hdst] at hr; exact ⟨s, rfl, rfl, h, hr⟩
  | some d =>
    rw [hdst] at hr
    have hkd : key d 0 / 64 = d := key_div (by omega)
    have hr1 := (Runs.get hr).put
    have ok1 := (h.openM d).bump (key d 0) .und nob undef (by rw [hkd]) (fun _ => by
      rw [CellOk, show (s.bump (key d 0) .und nob undef).ts.get (key d 0) = ⟨.und, Nat.succ (s.ts.get (key d 0)).ver, nob⟩ from get_same _ _ _]; trivial) (fun hb => by cases hb)
    refine ⟨{ s.bump (key d 0) .und nob undef with a := s.a.put (some d) undef }, rfl, rfl, (ok1.put undef).closeM ?_, hr1⟩
    rw [MainOk, show (s.bump (key d 0) .und nob undef).ts.get (key d 0) = ⟨.und, Nat.succ (s.ts.get (key d 0)).ver, nob⟩ from get_same _ _ _]
    simp [Act.put, hd d hdst]

end
end Go.Proofs.Ytnjanliihnadjaa.Tm

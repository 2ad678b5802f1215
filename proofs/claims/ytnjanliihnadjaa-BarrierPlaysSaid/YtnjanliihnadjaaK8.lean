/- The tree machine: element addresses, conversions, least and greatest, parts of tuples. Conditions: none. -/
import Derived.Test.YtnjanliihnadjaaK7
namespace Go.Proofs.Ytnjanliihnadjaa.Tm
open Go

section
variable {P : Program} {G : Ctx} {s : St} {cf : FuncId → List AD → Option Res} {ts ts' : TS} {o : Out} {E : Env}

theorem indexAddrD_ok (h : Ok P G s) (hE : EnvOk P E) {t : TypeId} {x i : D} {vx vi : Value} (hx : DOk True s x vx) (hi : DOk True s i vi) : Pure P s (indexAddrD E t x i) (Instr.indexAt t vx vi) := by
  intro cf kk o ts' hr
  obtain ⟨rfl, hr0⟩ := litOf_ok hi hr
  dsimp only at hr0
  split at hr0
  · rename_i k i
    obtain ⟨y, hy, _, hr1⟩ := tdesc_ok hE hr0
    have hu := hy.run_under s.w
    dsimp only at hr1
    generalize hdd : y.d = dd at hr1 hu
    split at hr1
    · rename_i e
      obtain ⟨ye, hye, _, hr2⟩ := tsize_ok hE hr1
      dsimp only at hr2
      split at hr2
      · rename_i n cs
        have hr3 := Runs.test hr2
        cases hb : inr i n with
        | false => rw [hb] at hr3; exact (Runs.fail hr3).elim
        | true =>
          rw [hb] at hr3
          have b1 : 0 ≤ i ∧ i < (n : Int) := by simpa using hb
          have hx' : RT s.w s.S (.sl n cs) vx := hx
          cases hx' with
          | nil => omega
          | @sl n cs ad c vs h1 h2 h3 h4 h5 =>
            refine ⟨.ai (i.toNat * ye.size) cs, _, ?_, ⟨ad, vs, h1, ⟨h3, h5⟩, h4, rfl⟩, hr3⟩
            simp only [Instr.indexAt, asIntOf, Sem.run_bind, Sem.run_pure, Result.andThen_ok, hu, if_pos b1, hye.run_size]
      · rename_i p v ty n cs
        have hr3 := Runs.test hr2
        cases hb : inr i n with
        | false => rw [hb] at hr3; exact (Runs.fail hr3).elim
        | true =>
          rw [hb] at hr3
          have b1 : 0 ≤ i ∧ i < (n : Int) := by simpa using hb
          obtain ⟨c1, c2, c3, c4⟩ := hx
          obtain ⟨c5, c6⟩ := c3 trivial
          obtain ⟨c7, c8, _⟩ := c4 c5
          have hcell := h.cell p (by intro h; cases h)
          simp only [CellOk, c6, c8, c7] at hcell
          obtain ⟨⟨n', cs', he, hrow⟩, _⟩ := hcell
          cases he
          rcases hrow with ⟨_, rfl, _⟩ | ⟨inf, xs, hinf, ho, hrt⟩
          · omega
          · rcases ho.2 with ⟨_, rfl⟩ | ⟨g, cap, cur, hv, _⟩
            · omega
            · subst hv
              refine ⟨.el p v (i.toNat * ye.size), .pointer (some ⟨g, i.toNat * ye.size, none⟩), ?_, ⟨c2, False.elim, fun _ => ⟨g, n, cap, c7, rfl⟩⟩, hr3⟩
              simp only [Instr.indexAt, asIntOf, Sem.run_bind, Sem.run_pure, Result.andThen_ok, hu, if_pos b1, hye.run_size, mk_add, Nat.zero_add]
      · exact (Runs.fail hr2).elim
    · rename_i n e
      obtain ⟨ye, hye, _, hr2⟩ := tsize_ok hE hr1
      dsimp only at hr2
      split at hr2
      · rename_i j v off
        have hr3 := Runs.test hr2
        cases hb : decide (0 ≤ i ∧ i < (n : Int)) with
        | false => rw [hb] at hr3; exact (Runs.fail hr3).elim
        | true =>
          rw [hb] at hr3
          have b1 : 0 ≤ i ∧ i < (n : Int) := by simpa using hb
          obtain ⟨a1, a2, a3⟩ := hx
          obtain ⟨b, hb1, hb2⟩ := a3 (a2 trivial).1 (a2 trivial).2
          subst hb2
          refine ⟨.ad j v (off + i.toNat * ye.size), .pointer (some ⟨b, off + i.toNat * ye.size, none⟩), ?_, ⟨a1, False.elim, fun _ _ => ⟨b, hb1, rfl⟩⟩, hr3⟩
          simp only [Instr.indexAt, Instr.sureAddr, asIntOf, Sem.run_bind, Sem.run_pure, Result.andThen_ok, hu, if_pos b1, hye.run_size, mk_add]
      · exact (Runs.fail hr2).elim
    · exact (Runs.fail hr1).elim
  · exact (Runs.fail hr0).elim

theorem nilCheckD_ok {x : D} {vx : Value} (hx : DOk True s x vx) {kk : D → Prog} (hr : Runs cf (nilCheckD x kk) s.ts o ts') :
    (∀ op : Operand, ∀ a : Act, a.eval op = vx → ∀ dst ty pos af gd, (execOp a.eval ⟨dst, .nilCheck op, ty, pos, af, gd⟩).run P s.w = .ok (.value vx) s.w) ∧ ∃ d, DOk False s d vx ∧ Runs cf (kk d) s.ts o ts' := by
  have ptr : ∀ ad, vx = .pointer (some ad) → ∀ op : Operand, ∀ a : Act, a.eval op = vx → ∀ dst ty pos af gd, (execOp a.eval ⟨dst, .nilCheck op, ty, pos, af, gd⟩).run P s.w = .ok (.value vx) s.w := by
    intro ad hv op a ha dst ty pos af gd
    simp only [execOp, ha, hv]
    rfl
  cases x with
  | ad j n off =>
    have hx' := hx
    obtain ⟨h1, h2, h3⟩ := hx'
    obtain ⟨b, hb1, hb2⟩ := h3 (h2 trivial).1 (h2 trivial).2
    exact ⟨ptr _ hb2, _, hx.weak, hr⟩
  | el p n i =>
    have hx' := hx
    obtain ⟨h1, h2, h3⟩ := hx'
    obtain ⟨g, l, c, hb1, hb2⟩ := h3 (h2 trivial).1
    exact ⟨ptr _ hb2, _, hx.weak, hr⟩
  | ai i cs =>
    have hx' := hx
    obtain ⟨ad, vs, a1, a2, a3, a4⟩ := hx'
    exact ⟨ptr _ a4, _, hx.weak, hr⟩
  | agg cs => exact (Runs.fail hr).elim
  | tup sh cs => exact (Runs.fail hr).elim
  | one c =>
    cases c <;> try exact (Runs.fail hr).elim
    rename_i t
    cases t <;> try exact (Runs.fail hr).elim
    rename_i v
    cases v <;> try exact (Runs.fail hr).elim
    rename_i fn a b
    cases fn <;> try exact (Runs.fail hr).elim
    have h1 := lit_inv hx
    refine ⟨fun op a ha dst ty pos af gd => ?_, _, hx.weak, hr⟩
    simp only [execOp, ha, h1]
    rfl

theorem convD_ok (h : Ok P G s) (hE : EnvOk P E) {t1 t2 : TypeId} {x : D} {vx : Value} (hx : DOk True s x vx) : Pure P s (convD E t1 t2 x) (convert t1 t2 vx) := by
  intro cf kk o ts' hr
  obtain ⟨y1, hy1, _, hr1⟩ := tdesc_ok hE hr
  obtain ⟨y2, hy2, _, hr2⟩ := tdesc_ok hE hr1
  have hu1 := hy1.run_under s.w
  have hu2 := hy2.run_under s.w
  dsimp only at hr2
  generalize hd1 : y1.d = d1 at hr2 hu1
  generalize hd2 : y2.d = d2 at hr2 hu2
  split at hr2
  · have h1 := lit_inv hx; subst h1
    exact Pure.intR (by simp [convert, hu1, hu2, Conv.intToInt]) cf kk o ts' hr2
  · have h1 := lit_inv hx; subst h1
    exact Pure.lit rfl (by simp [convert, hu1, hu2]) cf kk o ts' hr2
  · rename_i e c _
    obtain ⟨ye, hye, _, hr3⟩ := tdesc_ok hE hr2
    have hue := hye.run_under s.w
    dsimp only at hr3
    generalize hd3 : ye.d = d3 at hr3 hue
    split at hr3
    · cases hp : peek c with
      | lit v => rw [hp] at hr3; exact (Runs.fail hr3).elim
      | sl n cs =>
        rw [hp] at hr3
        dsimp only at hr3
        replace hr3 := Runs.test hr3
        cases hn : isby cs n with
        | false => rw [hn] at hr3; exact (Runs.fail hr3).elim
        | true =>
          rw [hn] at hr3
          rw [Bool.and_eq_true] at hn
          have hn' := (beq_iff _ _).1 hn.1
          simp only [cond_true] at hr3
          cases hb : bytesOf cs with
          | none => rw [hb] at hn; exact absurd hn.2 (by decide)
          | some l =>
            simp only [bstr, hb, Option.getD_some] at hr3
            obtain ⟨A, cap, rfl, hrd⟩ := peek_ok h hx hp
            refine Pure.lit rfl ?_ cf kk o ts' hr3
            rw [run_convert_bytes_string s.w t1 t2 e A n cap (by rw [hy1.under, hd1]) (by rw [hye.under, hd3]) (by rw [hy2.under, hd2])]
            have hfold : ∀ (ns : List Int) (b : ByteArray), ns.foldl (fun r n => r.push (UInt8.ofNat n.toNat)) b = ⟨b.data ++ (ns.map fun n => UInt8.ofNat n.toNat).toArray⟩ := by
              intro ns
              induction ns with
              | nil => intro b; simp
              | cons n ns ih => intro b; simp only [List.foldl_cons, ih, List.map_cons]; simp [ByteArray.push]
            rcases hrd with ⟨rfl, rfl⟩ | ⟨ad, vs, rfl, _, hrt, hcl⟩
            · cases hb
              cases A with
              | none => rfl
              | some ad => rw [run_bytesToString s.w ad 0 cap [] (by simp [loadCells, loadCellsFrom])]; rfl
            · obtain ⟨ns, h1, h2⟩ := bytesOf_ok hb hrt
              have hl : vs.length = n := hrt.1.trans hn'
              rw [run_bytesToString s.w ad n cap ns (by rw [← hl, run_loadCells_list s.w ad vs hcl, h1]), hfold, h2]
              simp
    · exact (Runs.fail hr3).elim
  · exact (Runs.fail hr2).elim

theorem litsOf_ok {L : Prop} : ∀ {ds : List D} {vs : List Value} {kk : List Value → Prog}, ds.length = vs.length → (∀ (j : Nat) d v, ds[j]? = some d → vs[j]? = some v → DOk L s d v) → Runs cf (litsOf ds kk) ts o ts' → Runs cf (kk vs) ts o ts'
  | [], [], _, _, _, hr => hr
  | [], v :: vs, _, h, _, _ => by simp at h
  | d :: ds, [], _, h, _, _ => by simp at h
  | d :: ds, v :: vs, kk, hl, h, hr => by
    obtain ⟨rfl, hr1⟩ := litOf_ok (h 0 d v rfl rfl) hr
    exact litsOf_ok (ds := ds) (vs := vs) (by simpa using hl) (fun j d' v' hd hv => h (j + 1) d' v' (by simpa using hd) (by simpa using hv)) hr1

theorem minD_ok (lt : Int → Int → Bool) (f : Value → Value → Sem Value) (hf : ∀ k k' a b, f (.int k a) (.int k' b) = pure (.int k (if lt b a = true then b else a))) : ∀ (r : List Value) (v : Value), Pure P s (minD lt v r) (r.foldlM f v)
  | [], v => by
    cases v <;> try exact Pure.fail
    exact Pure.lit rfl rfl
  | w :: r, v => by
    cases v <;> try exact Pure.fail
    cases w <;> try exact Pure.fail
    rename_i k a k' b
    unfold minD
    refine Pure.test ?_
    have ih := minD_ok lt f hf r (.int k (if lt b a = true then b else a))
    have e : (bif lt b a then b else a) = if lt b a = true then b else a := by cases lt b a <;> rfl
    rw [e]
    refine ih.congr ?_
    simp only [List.foldlM_cons, hf, pure_bind]

theorem extract_ok (h : Ok P G s) {x : Operand} {i : Nat} : Pure P s (opExtract x i) (Instr.extract (s.a.eval x) i) := by
  intro cf kk o ts' hr
  cases x with
  | tmp q =>
    have hr1 := Runs.get hr
    cases hk : (s.ts.get (key q 0)).k <;> rw [hk] at hr1 <;> try exact (Runs.fail hr1).elim
    rename_i sh
    have hmn := h.main q (by intro h; cases h)
    simp only [MainOk, hk] at hmn
    have hv : s.a.eval (.tmp q) = .tuple (tupVals s.cv q 1 sh).toArray := hmn.2
    have key : ∀ (sh : List Nat) (x i : Nat) (n : Nat), sh[i]? = some n → (tupVals s.cv q x sh)[i]? = some (match n with | 0 => s.cv (key q (x + shLen (sh.take i))) | n + 1 => .agg (cvals s.cv q (x + shLen (sh.take i)) n).toArray) := by
      intro sh
      induction sh with
      | nil => intro x i n h; simp at h
      | cons m r ih =>
        intro x i n hn
        cases i with
        | zero => simp at hn; subst hn; cases m <;> simp [tupVals, shLen]
        | succ i =>
          have hn' : r[i]? = some n := by simpa using hn
          cases m with
          | zero => simp only [tupVals, List.getElem?_cons_succ, List.take_succ_cons, shLen]; rw [ih _ _ _ hn', show Nat.succ x + shLen (r.take i) = x + (1 + shLen (r.take i)) by omega]
          | succ m => simp only [tupVals, List.getElem?_cons_succ, List.take_succ_cons, shLen]; rw [ih _ _ _ hn', show x + m + shLen (r.take i) = x + (m + shLen (r.take i)) by omega]
    have hr2 : Runs cf (extractS q i sh kk) s.ts o ts' := hr1
    unfold extractS at hr2
    cases hs : sh[i]? with
    | none => rw [hs] at hr2; exact (Runs.fail hr2).elim
    | some n =>
      have hkey := key sh 1 i n hs
      rw [hs] at hr2
      have hrun : ∀ v, (tupVals s.cv q 1 sh)[i]? = some v → (Instr.extract (s.a.eval (.tmp q)) i).run P s.w = .ok v s.w := fun v hv' => by
        rw [hv]; simp [Instr.extract, hv']
      cases n with
      | zero =>
        obtain ⟨c, hc, hr3⟩ := cell_ok h 0 hr2
        refine ⟨.one c, _, hrun _ hkey, ?_, hr3⟩
        have := hc.weak
        rwa [show Nat.succ (shLen (sh.take i)) = 1 + shLen (sh.take i) by omega] at this
      | succ n =>
        obtain ⟨cs, hl, hcs, hr3⟩ := cells_ok h (τ := 0) hr2
        refine ⟨.agg cs, _, hrun _ hkey, ⟨_, rfl, ?_⟩, hr3⟩
        have := hcs.weak
        rwa [show Nat.succ (shLen (sh.take i)) = 1 + shLen (sh.take i) by omega] at this
  | _ => exact (Runs.fail hr).elim
end
end Go.Proofs.Ytnjanliihnadjaa.Tm

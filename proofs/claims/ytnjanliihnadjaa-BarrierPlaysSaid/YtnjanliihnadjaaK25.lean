/- The tree machine: code. Conditions: none. -/
import Derived.Test.YtnjanliihnadjaaK24
import Derived.Scope
namespace Go.Proofs.Ytnjanliihnadjaa.Tm
open Go

section
variable {P : Program} {G : Ctx} {s : St} {cf : FuncId → List AD → Option Res} {ts ts' : TS} {o : Out} {E : Env}

def exOf : Ex → Exit
  | .normal => .normal
  | .exit id => .exit id
  | .ret => .ret

/-- Where the machine comes to. -/
def QE (P : Program) (G : Ctx) (ex : Ex) (ts' : TS) : Exit → Act → World → Prop := fun e a w => e = exOf ex ∧ ∃ s', s'.a = a ∧ s'.w = w ∧ Ok P G s' ∧ s'.ts = ts'

theorem drawSchedule (hm : P.follows .mixedOrders = true) (ops : Array Oper) (t : Nat) : Region.schedule (P.follows .mixedOrders) ops t = Region.linearise .any ops t := by
  unfold Region.schedule
  rw [hm]; simp

theorem region_ok (hE : EnvOk P E) (hm : Meets P cf) {hh : Hint} (hnt : hh.nt ≤ G.nt) (hp : hh.prot = G.prot) {id : Nat} {ops : Array Oper} {draw : Bool} {ex : Ex} (h : Ok P G s)
    (hr : codeRegion E hh cf ops draw s.ts = some (ex, ts')) : (Code.region id ops draw).wp P (QE P G ex ts') s.a s.w := by
  unfold codeRegion at hr
  cases h1 : runOps E hh cf ops ops.toList s.ts with
  | none => rw [h1] at hr; cases hr
  | some x =>
    obtain ⟨ts1, fs⟩ := x
    rw [h1] at hr
    dsimp only at hr
    cases h2 : (!draw || (indep ops fs && edgesOk 0 ops.toList)) with
    | false => rw [h2] at hr; cases hr
    | true =>
      rw [h2, cond_true, clean_eq] at hr
      cases hr
      have fin : ∀ s', Ok P G s' → (∀ k, s'.ts.get k = ts1.get k) → QE P G .normal (cleaned ts1 hh.keep) .normal s'.a s'.w := fun s' h3 h4 =>
        ⟨rfl, { s' with ts := cleaned ts1 hh.keep }, rfl, rfl, clean_ok (h3.ext (ts1 := ts1) fun k => (h4 k).symm) hh.keep, rfl⟩
      cases draw with
      | false =>
        refine wp_region ?_
        have := seq_ok (Q := QE P G .normal (cleaned ts1 hh.keep)) hE hm hnt hp (pre := []) (l := ops.toList) rfl h h1 fun s' h3 h4 => fin s' h3 fun k => by rw [h4]
        simpa using this
      | true =>
        simp only [Bool.not_true, Bool.false_or, Bool.and_eq_true] at h2
        obtain ⟨hi, he⟩ := h2
        obtain ⟨hfl, c, hc0, hcn, hst⟩ := runOps_trace h1
        refine wp_region_draw fun t => ?_
        rw [drawSchedule hE.mixed]
        have hF : ∀ i, i < ops.size → ∃ f, fs[i]? = some f := fun i hi => ⟨fs[i]'(by rw [hfl]; simpa using hi), List.getElem?_eq_getElem _⟩
        let F : Nat → Foot := fun i => fs.getD i ⟨0, 0⟩
        have hFi : ∀ i f, fs[i]? = some f → F i = f := fun i f hf => by show fs.getD i _ = f; rw [List.getD_eq_getElem?_getD, hf]; rfl
        have hlen : ops.toList.length = ops.size := by simp
        have hany := any_ok (c := c) (F := F) (n := ops.size) (Q := QE P G .normal (cleaned ts1 hh.keep)) hE hm hnt hp rfl (fun i op hi hop => by
          obtain ⟨f, hf, ou, hou⟩ := hst i op (by rw [Array.getElem?_toList]; exact hop)
          exact ⟨ou, by rw [hFi i f hf]; exact hou⟩) (fun i j hij hj => by
          obtain ⟨f, hf⟩ := hF i (by omega)
          obtain ⟨g, hg⟩ := hF j hj
          obtain ⟨m, a1, a2⟩ := indepL_ok hi i j f g hij hf hg
          rw [hFi i f hf, hFi j g hg]
          exact ⟨m, a1, by rwa [Nat.zero_add] at a2⟩) he (fun s' h3 h4 => fin s' h3 fun k => by rw [h4 k]; rw [hlen] at hcn; rw [hcn])
        have h0 := hany ops.size (Array.replicate ops.size false) { s with w := { s.w with drawn := s.w.drawn + 1 } } (by simp) (h.drew _) (fun i op hi hl => by
            simp [Array.getD_eq_getD_getElem?, Array.getElem?_replicate] at hl
            split at hl <;> simp at hl) (fun k => .inr ⟨fun i hi hl => by
            simp [Array.getD_eq_getD_getElem?, Array.getElem?_replicate] at hl
            split at hl <;> simp at hl, by rw [hc0]⟩) (Nat.le_trans (List.length_filter_le _ _) (by simp))
        exact wpAny_sound ops.size t _ _ _ h0

theorem cond_ok {c : Operand} {x y : Code} {X Y : TS → Option (Ex × TS)} {ex : Ex} (h : Ok P G s) (hx : ∀ s, Ok P G s → X s.ts = some (ex, ts') → x.wp P (QE P G ex ts') s.a s.w) (hy : ∀ s, Ok P G s → Y s.ts = some (ex, ts') → y.wp P (QE P G ex ts') s.a s.w)
    (hr : codeCond cf c X Y s.ts = some (ex, ts')) : (Code.cond c x y).wp P (QE P G ex ts') s.a s.w := by
  unfold codeCond at hr
  cases h1 : (condP c fun b => .ret (.bool b)).run cf s.ts 0 0 with
  | none => rw [h1] at hr; cases hr
  | some z =>
    obtain ⟨ou, ts1, R, W⟩ := z
    rw [h1] at hr
    have hrun : Runs cf (condP c fun b => .ret (.bool b)) s.ts ou ts1 := ⟨_, _, _, _, h1⟩
    obtain ⟨d, hd, hr1⟩ := opd_ok h hrun
    obtain ⟨_, hr2⟩ := litOf_ok hd hr1
    generalize hv : s.a.eval c = v at hr2
    cases v <;> try exact (Runs.fail hr2).elim
    rename_i b
    have hr3 := Runs.test hr2
    obtain ⟨rfl, rfl⟩ := Runs.ret hr3
    dsimp only at hr
    refine wp_cond_split hv (fun hb => ?_) (fun hb => ?_)
    · subst hb; exact hx s h hr
    · subst hb; exact hy s h hr

theorem exists_least {p : Nat → Prop} (h : ∃ n, p n) : ∃ n, p n ∧ ∀ m, p m → n ≤ m := by
  obtain ⟨n, hn⟩ := h
  induction n using Nat.strongRecOn with
  | _ n ih =>
    by_cases hm : ∃ m, m < n ∧ p m
    · obtain ⟨m, h1, h2⟩ := hm; exact ih m h1 h2
    · exact ⟨n, hn, fun m hp => Nat.le_of_not_lt fun h => hm ⟨m, h, hp⟩⟩

theorem loop_ok {hh : Hint} {lbl : Nat} {c : Code} {B : TS → Option (Ex × TS)} (hB : ∀ s ex ts', Ok P G s → B s.ts = some (ex, ts') → c.wp P (QE P G ex ts') s.a s.w) {fuel : Nat} {ex : Ex} (h : Ok P G s)
    (hr : loopN B (loopHead hh lbl) fuel s.ts = some (ex, ts')) : (Code.loop c).wp P (QE P G ex ts') s.a s.w := by
  have step : ∀ n ts, loopN B (loopHead hh lbl) (n + 1) ts = match B (loopHead hh lbl ts) with
      | some (.normal, ts') => loopN B (loopHead hh lbl) n ts'
      | some (e, ts') => some (e, ts')
      | none => none := fun n ts => by
    have : loopN B (loopHead hh lbl) (n + 1) ts = match fTS (loopHead hh lbl ts) B with
      | some (.normal, ts') => loopN B (loopHead hh lbl) n ts'
      | some (e, ts') => some (e, ts')
      | none => none := rfl
    rw [this, fTS_eq]
  let I : Nat → Act → World → Prop := fun n a w => ∃ s, s.a = a ∧ s.w = w ∧ Ok P G s ∧ loopN B (loopHead hh lbl) n s.ts = some (ex, ts')
  classical
  let μ : Act → World → Nat := fun a w => if hex : ∃ n, I n a w then Classical.choose (exists_least hex) else 0
  have hμ : ∀ a w (hex : ∃ n, I n a w), I (μ a w) a w ∧ ∀ m, I m a w → μ a w ≤ m := fun a w hex => by
    have : μ a w = Classical.choose (exists_least hex) := dif_pos hex
    rw [this]; exact Classical.choose_spec (exists_least hex)
  refine wp_loop (fun a w => ∃ n, I n a w) μ ⟨fuel, s, rfl, rfl, h, hr⟩ ?_
  intro a w hex
  obtain ⟨⟨s, rfl, rfl, hok, hrun⟩, _⟩ := hμ a w hex
  cases hn : μ s.a s.w with
  | zero =>
    rw [hn] at hrun
    have h0 : (none : Option (Ex × TS)) = some (ex, ts') := hrun
    cases h0
  | succ m =>
    rw [hn, step] at hrun
    obtain ⟨s1, h1, h2, h3, h4⟩ := loopHead_ok hok hh lbl
    rw [← h4] at hrun
    rw [← h2, ← h3]
    cases hb : B s1.ts with
    | none => rw [hb] at hrun; cases hrun
    | some z =>
      obtain ⟨ex1, ts1⟩ := z
      rw [hb] at hrun
      refine Code.wp_mono ?_ (hB s1 ex1 ts1 h1 hb)
      rintro e a' w' ⟨rfl, s2, rfl, rfl, h5, h6⟩
      cases ex1 with
      | normal =>
        have hI2 : I m s2.a s2.w := ⟨s2, rfl, rfl, h5, by rw [h6]; exact hrun⟩
        exact ⟨⟨m, hI2⟩, Nat.lt_succ_of_le ((hμ s2.a s2.w ⟨m, hI2⟩).2 m hI2)⟩
      | exit id => cases hrun; exact ⟨rfl, s2, rfl, rfl, h5, h6⟩
      | ret => cases hrun; exact ⟨rfl, s2, rfl, rfl, h5, h6⟩

/-- Code does what the machine says. -/
theorem code_ok (hE : EnvOk P E) (hm : Meets P cf) {hh : Hint} (hnt : hh.nt ≤ G.nt) (hp : hh.prot = G.prot) (fuel : Nat) : ∀ (c : Code) (l : Nat) (s : St) (ex : Ex) (ts' : TS), Ok P G s → code E hh cf fuel c l s.ts = some (ex, ts') → c.wp P (QE P G ex ts') s.a s.w := by
  intro c
  induction c with
  | skip =>
    intro l s ex ts' h hr
    have hr' : some (Ex.normal, s.ts) = some (ex, ts') := hr
    cases hr'
    exact wp_skip ⟨rfl, s, rfl, rfl, h, rfl⟩
  | region id ops draw =>
    intro l s ex ts' h hr
    have h1 : (atRegion hh id).nt = hh.nt ∧ (atRegion hh id).prot = hh.prot := by
      unfold atRegion
      cases (hh.keeps.find? fun x => Nat.beq x.1 id).map (·.2) <;> exact ⟨rfl, rfl⟩
    exact region_ok hE hm (hh := atRegion hh id) (by rw [h1.1]; exact hnt) (by rw [h1.2]; exact hp) h hr
  | seq a b iha ihb =>
    intro l s ex ts' h hr
    have hr' : exSeq (code E hh cf fuel b l) (code E hh cf fuel a l s.ts) = some (ex, ts') := hr
    refine wp_seq ?_
    cases h1 : code E hh cf fuel a l s.ts with
    | none => rw [h1] at hr'; cases hr'
    | some z =>
      obtain ⟨ex1, ts1⟩ := z
      rw [h1] at hr'
      refine Code.wp_mono ?_ (iha l s ex1 ts1 h h1)
      rintro e a' w' ⟨rfl, s2, rfl, rfl, h5, h6⟩
      cases ex1 with
      | normal => exact ihb l s2 ex ts' h5 (by rw [h6]; exact hr')
      | exit id => cases hr'; exact ⟨rfl, s2, rfl, rfl, h5, h6⟩
      | ret => cases hr'; exact ⟨rfl, s2, rfl, rfl, h5, h6⟩
  | cond c x y ihx ihy =>
    intro l s ex ts' h hr
    exact cond_ok (X := code E hh cf fuel x l) (Y := code E hh cf fuel y l) h (fun s h hr => ihx l s ex ts' h hr) (fun s h hr => ihy l s ex ts' h hr) hr
  | block id b ih =>
    intro l s ex ts' h hr
    have hr' : exBlock id (code E hh cf fuel b id s.ts) = some (ex, ts') := hr
    refine wp_block ?_
    cases h1 : code E hh cf fuel b id s.ts with
    | none => rw [h1] at hr'; cases hr'
    | some z =>
      obtain ⟨ex1, ts1⟩ := z
      rw [h1] at hr'
      refine Code.wp_mono ?_ (ih id s ex1 ts1 h h1)
      rintro e a' w' ⟨rfl, s2, rfl, rfl, h5, h6⟩
      cases ex1 with
      | normal => cases hr'; exact ⟨rfl, s2, rfl, rfl, h5, h6⟩
      | ret => cases hr'; exact ⟨rfl, s2, rfl, rfl, h5, h6⟩
      | exit j =>
        have hr2 : (bif Nat.beq j id then some (Ex.normal, ts1) else some (Ex.exit j, ts1)) = some (ex, ts') := hr'
        show if j = id then QE P G ex ts' .normal s2.a s2.w else QE P G ex ts' (.exit j) s2.a s2.w
        cases hb : Nat.beq j id with
        | true =>
          rw [hb] at hr2; cases hr2
          rw [if_pos ((beq_iff _ _).1 hb)]
          exact ⟨rfl, s2, rfl, rfl, h5, h6⟩
        | false =>
          rw [hb] at hr2; cases hr2
          rw [if_neg (fun e => by rw [(beq_iff _ _).2 e] at hb; cases hb)]
          exact ⟨rfl, s2, rfl, rfl, h5, h6⟩
  | loop b ih =>
    intro l s ex ts' h hr
    refine loop_ok (B := tailed hh l (code E hh cf fuel b l)) (fun s ex ts' h hr => ?_) h hr
    rw [tailed_eq] at hr
    cases h1 : code E hh cf fuel b l s.ts with
    | none => rw [h1] at hr; cases hr
    | some z =>
      obtain ⟨ex1, ts1⟩ := z
      rw [h1] at hr
      refine Code.wp_mono ?_ (ih l s ex1 ts1 h h1)
      rintro e a' w' ⟨rfl, s2, rfl, rfl, h5, h6⟩
      obtain ⟨s3, g1, g2, g3, g4⟩ := loopTail_ok h5 hh l
      rw [h6] at g4
      cases ex1 with
      | normal => cases hr; exact ⟨rfl, s2, rfl, rfl, h5, h6⟩
      | exit id => cases hr; exact ⟨rfl, s3, g2, g3, g1, g4⟩
      | ret => cases hr; exact ⟨rfl, s3, g2, g3, g1, g4⟩
  | rangeFunc f ps asg b _ _ => intro l s ex ts' h hr; have hr' : (none : Option (Ex × TS)) = some (ex, ts') := hr; cases hr'
  | exit id =>
    intro l s ex ts' h hr
    have hr' : some (Ex.exit id, s.ts) = some (ex, ts') := hr
    cases hr'
    exact wp_exit ⟨rfl, s, rfl, rfl, h, rfl⟩
  | scope b ih =>
    intro l s ex ts' h hr
    refine wp_scope_straight (Code.wp_mono ?_ (ih l s ex ts' h hr))
    rintro e a' w' ⟨rfl, s2, rfl, rfl, h5, h6⟩
    cases ex <;> exact ⟨rfl, s2, rfl, rfl, h5, h6⟩
  | label i =>
    intro l s ex ts' h hr
    have hr' : some (Ex.normal, s.ts) = some (ex, ts') := hr
    cases hr'
    exact wp_label ⟨rfl, s, rfl, rfl, h, rfl⟩
  | goto i => intro l s ex ts' h hr; have hr' : (none : Option (Ex × TS)) = some (ex, ts') := hr; cases hr'
  | ret =>
    intro l s ex ts' h hr
    have hr' : some (Ex.ret, s.ts) = some (ex, ts') := hr
    cases hr'
    exact wp_ret ⟨rfl, s, rfl, rfl, h, rfl⟩
  | refuse w => intro l s ex ts' h hr; have hr' : (none : Option (Ex × TS)) = some (ex, ts') := hr; cases hr'

end
end Go.Proofs.Ytnjanliihnadjaa.Tm

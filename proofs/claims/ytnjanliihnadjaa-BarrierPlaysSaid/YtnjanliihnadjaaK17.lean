/- The tree machine: what comes back from a call. Conditions: none. -/
import Derived.Test.YtnjanliihnadjaaK16
namespace Go.Proofs.Ytnjanliihnadjaa.Tm
open Go

section
variable {P : Program} {G : Ctx} {s sf : St} {cf : FuncId → List AD → Option Res} {ts ts' : TS} {o : Out} {E : Env}

/-- A state some of whose lent rows are frozen. -/
structure Frz (lent : List CV) (s sf : St) : Prop where
  w : sf.w = s.w
  a : sf.a = s.a
  cv : sf.cv = s.cv
  ent : ∀ k, sf.ts.get k = s.ts.get k ∨ (isLent lent k = true ∧ (∃ e, (s.ts.get k).k = .own e) ∧ sf.ts.get k = ⟨.im, (s.ts.get k).ver, (s.ts.get k).t⟩)
  ow : ∀ b, sf.ow b = s.ow b ∨ (sf.ow b = .st ∧ ∃ p, s.ow b = .key p ∧ isLent lent p = true)

theorem Frz.refl (lent : List CV) (s : St) : Frz lent s s := ⟨rfl, rfl, rfl, fun _ => .inl rfl, fun _ => .inl rfl⟩

theorem freezeAll_ok (lent0 : List CV) : ∀ {lent : List CV} {s : St} {kk : Unit → Prog}, Ok P G s → (∀ c ∈ lent, c ∈ lent0) → (∀ p n e t, CV.ref p n e t ∈ lent → (s.ts.get p).ver = n ∧ (s.ts.get p).t = t) → Runs cf (freezeAll lent kk) s.ts o ts' →
    ∃ sf, Ok P G sf ∧ Frz lent0 s sf ∧ (∀ k, isLent lent k = true → (sf.ts.get k).k = .im) ∧ Runs cf (kk ()) sf.ts o ts'
  | [], s, kk, h, _, _, hr => ⟨s, h, Frz.refl _ s, fun k hk => by simp [isLent] at hk, hr⟩
  | c :: lent, s, kk, h, hm, hv, hr => by
    have skip : Runs cf (freezeAll lent kk) s.ts o ts' → (∀ k, isLent (c :: lent) k = true → isLent lent k = true ∨ (s.ts.get k).k = .im) → ∃ sf, Ok P G sf ∧ Frz lent0 s sf ∧ (∀ k, isLent (c :: lent) k = true → (sf.ts.get k).k = .im) ∧ Runs cf (kk ()) sf.ts o ts' := by
      intro hr1 hc
      obtain ⟨sf, h1, h2, h3, h4⟩ := freezeAll_ok lent0 h (fun c hc => hm c (by simp [hc])) (fun p n e t hp => hv p n e t (by simp [hp])) hr1
      refine ⟨sf, h1, h2, fun k hk => ?_, h4⟩
      rcases hc k hk with h5 | h5
      · exact h3 k h5
      · rcases h2.ent k with h6 | ⟨_, _, h6⟩
        · rw [h6]; exact h5
        · rw [h6]
    cases c with
    | im t => exact skip hr fun k hk => .inl hk
    | new e t => exact skip hr fun k hk => .inl hk
    | nil => exact skip hr fun k hk => .inl hk
    | ref p n e t =>
      obtain ⟨hv1, hv2⟩ := hv p n e t (by simp)
      have hr1 := Runs.get hr
      cases hs : stillOwn (s.ts.get p) n with
      | true =>
        rw [hs] at hr1
        obtain ⟨⟨e', he'⟩, _⟩ := stillOwn_iff hs
        have hr2 := Runs.put hr1
        obtain ⟨ok1, ev1, _⟩ := h.froze he'
        have hts : (s.froze p).ts = s.ts.put p ⟨.im, (s.ts.get p).ver, t⟩ := by rw [← hv2]; rfl
        rw [← hts] at hr2
        have hent : ∀ k, (s.froze p).ts.get k = if k = p then ⟨.im, (s.ts.get p).ver, (s.ts.get p).t⟩ else s.ts.get k := fun k => TS.get_put _ _ _ _
        obtain ⟨sf, h1, h2, h3, h4⟩ := freezeAll_ok lent0 (s := s.froze p) ok1 (fun c hc => hm c (by simp [hc])) (fun p' n' e'' t' hp => by
          have := hv p' n' e'' t' (by simp [hp])
          rw [hent]; split
          · rename_i hpp; subst hpp; exact this
          · exact this) hr2
        have hlp : isLent lent0 p = true := isLent_mem (hm (.ref p n e t) (by simp))
        have hc := h.cell p (by intro h; cases h)
        simp only [CellOk, he'] at hc
        refine ⟨sf, h1, ⟨h2.w, h2.a, h2.cv, fun k => ?_, fun b => ?_⟩, fun k hk => ?_, h4⟩
        · have h5 := hent k
          by_cases hkp : k = p
          · subst hkp
            rw [if_pos rfl] at h5
            right
            refine ⟨hlp, ⟨e', he'⟩, ?_⟩
            rcases h2.ent k with h6 | ⟨_, ⟨_, h6⟩, _⟩
            · rw [h6, h5]
            · rw [h5] at h6; cases h6
          · rw [if_neg hkp] at h5
            rcases h2.ent k with h6 | ⟨a1, ⟨a2, a3⟩, a4⟩
            · exact .inl (h6.trans h5)
            · rw [h5] at a3 a4; exact .inr ⟨a1, ⟨a2, a3⟩, a4⟩
        · have h5 : (s.froze p).ow b = s.ow b ∨ ((s.froze p).ow b = .st ∧ s.ow b = .key p) := by
            by_cases hb : (s.cv p).ownBlock = some b
            · exact .inr ⟨give_at hb, hc.2 b hb⟩
            · exact .inl (give_off hb)
          rcases h2.ow b with h6 | ⟨a1, p', a2, a3⟩
          · rcases h5 with h5 | ⟨h5, h7⟩
            · exact .inl (h6.trans h5)
            · exact .inr ⟨h6.trans h5, p, h7, hlp⟩
          · rcases h5 with h5 | ⟨h5, h7⟩
            · exact .inr ⟨a1, p', h5 ▸ a2, a3⟩
            · rw [h5] at a2; cases a2
        · simp only [isLent, List.any_cons, Bool.or_eq_true] at hk
          rcases hk with hk | hk
          · have := (beq_iff _ _).1 hk; subst this
            rcases h2.ent p with h6 | ⟨_, _, h6⟩
            · rw [h6, hent, if_pos rfl]
            · rw [h6]
          · exact h3 k hk
      | false =>
        rw [hs] at hr1
        simp only [cond_false] at hr1
        cases hk : (s.ts.get p).k <;> simp only [hk] at hr1 <;> try exact (Runs.fail hr1).elim
        refine skip hr1 fun k hk' => ?_
        simp only [isLent, List.any_cons, Bool.or_eq_true] at hk'
        rcases hk' with hk' | hk'
        · have := (beq_iff _ _).1 hk'; subst this; exact .inr hk
        · exact .inl hk'

/-! ### Trees that lead nowhere -/
theorem RT.nolead {w : World} {S S' : Nat → Prop} {t : T} {v : Value} (h : RT w S t v) (hn : hasSl t = false) : RT w S' t v := by
  cases h with
  | lit h => exact .lit h
  | nil => cases hn
  | sl => cases hn

theorem OwnOk.nolead {w : World} {S S' : Nat → Prop} {e : TypeId} {t : T} {v : Value} (h : OwnOk P w S e t v) (hn : leadsT t = false) : OwnOk P w S' e t v := by
  obtain ⟨n, cs, rfl, h⟩ := h
  refine ⟨n, cs, rfl, h.imp id ?_⟩
  rintro ⟨i, xs, hi, ho, hr⟩
  refine ⟨i, xs, hi, ho, hr.1, fun j t u ht hu => (hr.2 j t u ht hu).nolead ?_⟩
  simp only [leadsT, List.any_eq_false] at hn
  simpa using hn t (List.mem_of_getElem? ht)

/-! ### The boxes, one by one -/
theorem boxes_at {w' : World} {ow1 : Nat → Ow} {vs : List Value} {as : List AD} {lent : List CV} {bs : List (Nat × Nat)} (ar : ARel s vs as lent bs) :
    ∀ (i0 : Nat) (rss : List (List RC)), BoxesOk P w' ow1 i0 as vs rss → ∀ i j n, (i, j, n) ∈ bm as bs i0 → ∃ (rs : List RC) (us : List Value) (b e : Nat), boxAt as rss i0 i = some rs ∧ s.cv (key j 0) = .pointer (some ⟨b, 0, none⟩) ∧ (s.ts.get (key j 0)).k = .box e n ∧
      s.a.tmps.getD j undef = .pointer (some ⟨b, 0, none⟩) ∧ rs.length = n ∧ us.length = n ∧ w'.heap[b]? = some (.cells us.toArray e (0, 0)) ∧ ow1 b = .key (key i 0) ∧
      ∀ (q : Nat) c u, rs[q]? = some c → us[q]? = some u → RCOk P w' ow1 (.key (key i (1 + q))) c u := by
  have bmle := fun as bs i0 x h => putBoxes_run.bmle as bs i0 x h
  induction ar with
  | nil => intro i0 rss _ i j n hm; simp [bm] at hm
  | one _ _ ih => intro i0 rss hb i j n hm; exact ih (i0 + 1) rss hb i j n hm
  | agg _ _ ih => intro i0 rss hb i j n hm; exact ih (i0 + 1) rss hb i j n hm
  | @box j0 n0 e b cs vs as lent bs hk hn hp ht hb ho hl hc r ih =>
    intro i0 rss hbx i j n hm
    match rss, hbx with
    | [], hbx => exact hbx.elim
    | rs :: rss, hbx =>
      obtain ⟨⟨b', us, h1, h2, h3, h4, h5, h6⟩, h7⟩ := hbx
      simp only [bm, List.mem_cons] at hm
      rcases hm with hm | hm
      · cases hm
        cases h1
        exact ⟨rs, us, b, e, by simp [boxAt], hp, hk, ht, h2.trans hl, by omega, h4, h5, h6⟩
      · have := bmle _ _ _ _ hm
        dsimp only at this
        obtain ⟨rs', us', b2, e2, a1, a2⟩ := ih (i0 + 1) rss h7 i j n hm
        exact ⟨rs', us', b2, e2, by simp only [boxAt]; rw [if_neg (by omega)]; exact a1, a2⟩

theorem bm_bs {vs : List Value} {as : List AD} {lent : List CV} {bs : List (Nat × Nat)} (ar : ARel s vs as lent bs) : ∀ i0, (bm as bs i0).map (·.2) = bs := by
  induction ar with
  | nil => intro _; rfl
  | one _ _ ih => intro i0; exact ih (i0 + 1)
  | agg _ _ ih => intro i0; exact ih (i0 + 1)
  | box _ _ _ _ _ _ _ _ _ ih => intro i0; simp only [bm, List.map_cons]; rw [ih (i0 + 1)]

/-! ### The state behind the call -/
def inBoxes (L : List (Nat × Nat × Nat)) (k : Nat) : Bool := (keyIn L k).isSome && !(Nat.beq (k % 64) 0)

def cvAfter (sf : St) (L : List (Nat × Nat × Nat)) (w' : World) (k : Nat) : Value := bif inBoxes L k then
    (match sf.cv (key (k / 64) 0) with
      | .pointer (some a) => (match w'.heap[a.block]? with | some (.cells c _ _) => c.getD (k % 64 - 1) undef | _ => undef)
      | _ => undef)
  else sf.cv k

def rest (sf : St) (L : List (Nat × Nat × Nat)) (b : Nat) : Ow := match sf.ow b with
  | .st => .st
  | .key k => bif (keyIn L k).isSome then .no else .key k
  | _ => .no

def owAfter (sf : St) (L : List (Nat × Nat × Nat)) (ld : Bool) (ow1 : Nat → Ow) (b : Nat) : Ow := match ow1 b with
  | .pd i => .pd i
  | .key k => .key (keyOut L k)
  | .st => bif ld then .st else rest sf L b
  | .no => rest sf L b

def pdAfter (cs : List RC) (us : List Value) (i : Nat) : Option Pd := match cs[i]?, us[i]? with
  | some (.own e t), some u => some ⟨e, t, u⟩
  | _, _ => none

theorem inBoxes_mem {L : List (Nat × Nat × Nat)} (hL : LOk L) {i j n q : Nat} (h : (i, j, n) ∈ L) (hq : q < n) (hn : n ≤ 62) : inBoxes L (key j (1 + q)) = true := by
  simp only [inBoxes, keyIn_mem hL h (show 1 + q ≤ n by omega) hn, key_mod (show 1 + q < 64 by omega), Option.isSome_some, Bool.true_and, Bool.not_eq_true']
  cases hb : Nat.beq (1 + q) 0 with
  | false => rfl
  | true => have := (beq_iff _ _).1 hb; omega

theorem inBoxes_some {L : List (Nat × Nat × Nat)} (h62 : ∀ x ∈ L, x.2.2 ≤ 62) {k : Nat} (h : inBoxes L k = true) : ∃ i j n q, (i, j, n) ∈ L ∧ q < n ∧ k = key j (1 + q) := by
  simp only [inBoxes, Bool.and_eq_true, Bool.not_eq_true'] at h
  obtain ⟨h1, h2⟩ := h
  cases hk : keyIn L k with
  | none => rw [hk] at h1; cases h1
  | some k' =>
    obtain ⟨i, j, n, x, a1, a2, a3, _⟩ := keyIn_some hk
    have h3 := h62 _ a1
    dsimp only at h3
    subst a2
    rw [key_mod (by omega)] at h2
    cases x with
    | zero => exact absurd ((beq_iff 0 0).2 rfl) (by rw [h2]; decide)
    | succ x => exact ⟨i, j, n, x, a1, by omega, by rw [Nat.add_comm 1 x]⟩

theorem inBoxes_head {L : List (Nat × Nat × Nat)} (i : Nat) : inBoxes L (key i 0) = false := by
  simp only [inBoxes, key_mod (show 0 < 64 by omega)]
  rw [show Nat.beq 0 0 = true from rfl]; simp

theorem keep_lt {w0 : World} {X : Nat → Prop} {w : World} (h : Keep X w0 w) : w0.heap.size ≤ w.heap.size := h.size

/-- Behind the call: all stands. -/
theorem back_ok (okf : Ok P G sf) {vs : List Value} {as : List AD} {lent : List CV} {bs : List (Nat × Nat)} (ar : ARel s vs as lent bs) (fz : Frz lent s sf) (hL : LOk (bm as bs 0)) (hfr : FreeBoxes s lent (bm as bs 0))
    {r : Res} {v : Value} {w' : World} {ow1 : Nat → Ow} (lv : Leave P as vs s.w (ow0 s lent (bm as bs 0)) r v w' ow1) (hfz : leadsAny r = true → ∀ k, isLent lent k = true → (sf.ts.get k).k = .im) {ts1 : TS}
    (hbx : ∀ i j n, (i, j, n) ∈ bm as bs 0 → ∃ rs, boxAt as r.boxes 0 i = some rs ∧ rs.length = n ∧ ∀ (q : Nat) c, rs[q]? = some c → ts1.get (key j (1 + q)) = rcEnt (Nat.succ (sf.ts.get (key j (1 + q))).ver) c)
    (hts : ∀ k, (∀ i j n, (i, j, n) ∈ bm as bs 0 → ∀ q, q < n → k ≠ key j (1 + q)) → ts1.get k = sf.ts.get k) :
    ∃ s', s'.w = w' ∧ s'.a = sf.a ∧ s'.ts = ts1 ∧ Ok P G s' ∧ DOk False s' (resD r.vals) v := by
  obtain ⟨us, hul, hv, hrc⟩ := lv.vals
  have boxes := boxes_at ar 0 r.boxes lv.boxes
  have heads := fun x hx => (arel_boxes ar 0 x hx)
  have h62 : ∀ x ∈ bm as bs 0, x.2.2 ≤ 62 := fun x hx => (heads x hx).1
  generalize hLL : bm as bs 0 = L at *
  -- whose the blocks were
  have hA : ∀ b, sf.ow b = .st → ow0 s lent L b = .st := fun b hb => by
    rcases fz.ow b with h1 | ⟨_, p, h1, h2⟩
    · exact ow0_st (h1 ▸ hb)
    · exact ow0_lent h1 h2
  have hkeyof : ∀ b k, sf.ow b = .key k → s.ow b = .key k := fun b k hb => by
    rcases fz.ow b with h1 | ⟨h1, _⟩
    · exact h1 ▸ hb
    · rw [h1] at hb; cases hb
  have hlk : ∀ k k', keyIn L k = some k' → isLent lent k = false := fun k k' hk => by
    obtain ⟨i, j, n, x, a1, rfl, a3, _⟩ := keyIn_some hk
    exact hfr i j n a1 x a3
  have hG : ∀ b, ow0 s lent L b ≠ .no → sf.ow b ≠ .no := fun b hb => by
    rcases fz.ow b with h1 | ⟨h1, _⟩
    · rw [h1]; intro hno; exact hb (by simp only [ow0, hno])
    · rw [h1]; intro h; cases h
  have hsz : s.w.heap.size = sf.w.heap.size := by rw [fz.w]
  have hkp : Keep (fun b => ∃ k, ow0 s lent L b = .key k) sf.w w' := by rw [fz.w]; exact lv.keep
  have hx1 : ∀ b, (∃ k, ow0 s lent L b = .key k) → ∃ k k', sf.ow b = .key k ∧ keyIn L k = some k' := by
    rintro b ⟨k', hb⟩
    rcases ow0_inv (s := s) (lent := lent) (L := L) (b := b) with h1 | ⟨k, k2, h1, h2, h3, h4⟩ | h1
    · rw [h1.1] at hb; cases hb
    · rcases fz.ow b with h5 | ⟨_, p, h5, h6⟩
      · exact ⟨k, k2, h5.trans h2, h4⟩
      · rw [h2] at h5; cases h5; rw [h3] at h6; cases h6
    · rw [h1] at hb; cases hb
  have hfresh : ∀ b, ow1 b ≠ .no → sf.ow b ≠ .no ∨ G.w0.heap.size ≤ b := fun b hb => by
    rcases lv.ex b hb with h1 | h1 | ⟨k, h1⟩
    · exact .inl (hG b (by rw [h1]; intro h; cases h))
    · exact .inr (Nat.le_trans (Nat.le_trans okf.keep.size (Nat.le_of_eq hsz.symm)) h1)
    · exact .inl (hG b (by rw [h1]; intro h; cases h))
  have hrest : ∀ b, rest sf L b ≠ .no → sf.ow b ≠ .no := fun b hb hno => hb (by simp only [rest, hno])
  have how1 : ∀ b, owAfter sf L (leadsAny r) ow1 b ≠ .no → ow1 b ≠ .no ∨ sf.ow b ≠ .no := fun b hb => by
    cases h1 : ow1 b with
    | no => exact .inr (hrest b (by simp only [owAfter, h1] at hb; exact hb))
    | _ => exact .inl (by intro h; cases h)
  have hst : ∀ b, sf.ow b = .st → owAfter sf L (leadsAny r) ow1 b = .st := fun b hb => by
    have h1 := lv.st b (hA b hb)
    simp only [owAfter, h1]
    cases leadsAny r
    · simp only [cond_false, rest, hb]
    · rfl
  -- a row or a box that was not handed over stays
  have hstay : ∀ b k, sf.ow b = .key k → keyIn L k = none → (leadsAny r = true → isLent lent k = false) → w'.heap[b]? = sf.w.heap[b]? ∧ owAfter sf L (leadsAny r) ow1 b = sf.ow b := fun b k hb hk hld => by
    rw [hb]
    have hsb := hkeyof b k hb
    have hr1 : rest sf L b = .key k := by simp only [rest, hb, hk]; rfl
    have hlt := okf.lt b (by rw [hb]; intro h; cases h)
    cases hl : isLent lent k with
    | false =>
      have h0 := ow0_none (L := L) hsb hl hk
      refine ⟨hkp.block b hlt (by rintro ⟨k', h⟩; rw [h0] at h; cases h), ?_⟩
      have h1 : ow1 b = .no := by
        cases h2 : ow1 b with
        | no => rfl
        | _ =>
          exfalso
          rcases lv.ex b (by rw [h2]; intro h; cases h) with h3 | h3 | ⟨k', h3⟩
          · rw [h0] at h3; cases h3
          · omega
          · rw [h0] at h3; cases h3
      simp only [owAfter, h1, hr1]
    | true =>
      have h0 := ow0_lent (L := L) hsb hl
      refine ⟨hkp.block b hlt (by rintro ⟨k', h⟩; rw [h0] at h; cases h), ?_⟩
      have h1 := lv.st b h0
      cases hq : leadsAny r with
      | true => rw [hld hq] at hl; cases hl
      | false => simp only [owAfter, h1, cond_false, hr1]
  have hw : ∀ b, sf.ow b = .st → w'.heap[b]? = sf.w.heap[b]? := fun b hb => hkp.block b (okf.lt b (by rw [hb]; intro h; cases h)) (by rintro ⟨k', h⟩; rw [hA b hb] at h; cases h)
  let s' : St := { ts := ts1, a := sf.a, w := w', cv := cvAfter sf L w', ow := owAfter sf L (leadsAny r) ow1, pd := pdAfter (cellsR r.vals) us }
  have hcv0 : ∀ k, inBoxes L k = false → s'.cv k = sf.cv k := fun k hk => by show cvAfter sf L w' k = _; simp only [cvAfter, hk, cond_false]
  have hout : ∀ k, inBoxes L k = false → ts1.get k = sf.ts.get k := fun k hk => hts k fun i j n hm q hq e => by
    rw [e, inBoxes_mem hL hm hq (h62 _ hm)] at hk; cases hk
  have hS1 : leadsAny r = true → ∀ b, ow1 b = .st → s'.S b := fun hq b hb => by
    show owAfter sf L (leadsAny r) ow1 b = .st
    simp only [owAfter, hb, hq, cond_true]
  -- a cell that came
  have came : ∀ (c : RC) (u : Value) (oo oo' : Ow), RCOk P w' ow1 oo c u → (leadsAny r = false → c.leads = false) → (∀ b, ow1 b = oo → s'.ow b = oo') → oo ≠ .st → match c with
      | .im t => RT s'.w s'.S t u
      | .own e t => OwnOk P s'.w s'.S e t u ∧ ∀ b, u.ownBlock = some b → s'.ow b = oo'
      | .nil => u = .slice none 0 0 := by
    intro c u oo oo' hc hl ho _
    cases c with
    | im t =>
      cases hq : leadsAny r with
      | true => exact RT.mono hc (hS1 hq) (fun _ _ => rfl)
      | false => exact RT.nolead hc (hl hq)
    | own e t =>
      refine ⟨?_, fun b hb => ho b (hc.2 b hb)⟩
      cases hq : leadsAny r with
      | true => exact hc.1.mono (hS1 hq) (fun _ _ => rfl) (fun _ _ => rfl)
      | false => exact hc.1.nolead (hl hq)
    | nil => exact hc
  have hnl : leadsAny r = false → (∀ c ∈ cellsR r.vals, c.leads = false) ∧ ∀ rs ∈ r.boxes, ∀ c ∈ rs, c.leads = false := fun hq => by
    simp only [leadsAny, Bool.or_eq_false_iff, List.any_eq_false] at hq
    refine ⟨fun c hc => ?_, fun rs hrs c hc => ?_⟩
    · obtain ⟨x, hx, hcx⟩ := List.mem_flatMap.1 hc
      have := hq.1 x hx
      cases x with
      | one c' => simp only [rvCells, List.mem_singleton] at hcx; subst hcx; simpa [RV.leads] using this
      | agg cs =>
        simp only [rvCells] at hcx
        simp only [RV.leads, List.any_eq_true, not_exists, not_and] at this
        simpa using this c hcx
    · have := hq.2 rs hrs
      simp only [List.any_eq_true, not_exists, not_and] at this
      simpa using this c hc
  refine ⟨s', rfl, rfl, rfl, Goes.ok (s := sf) (hm := none) (hc := none) ?_ okf, ?_⟩
  · exact {
      keep := ⟨_, hkp, fun b hb => by
        obtain ⟨k, k', h1, h2⟩ := hx1 b hb
        exact okf.ex' b (by rw [h1]; intro h; cases h) (by rw [h1]; intro h; cases h)⟩
      nt := rfl
      df := rfl
      lt := fun b hb => by
        rcases how1 b hb with h1 | h1
        · exact .inr (lv.lt b h1)
        · exact .inl h1
      ex := fun b hb => by
        rcases how1 b hb with h1 | h1
        · rcases hfresh b h1 with h2 | h2
          · exact .inl h2
          · exact .inr (.inl h2)
        · exact .inl h1
      S := fun b hb => hst b hb
      w := fun b hb => hw b hb
      ver := fun k => by
        cases hk : inBoxes L k with
        | false => rw [show s'.ts.get k = sf.ts.get k from hout k hk]; exact ⟨Nat.le_refl _, fun _ => ⟨hcv0 k hk, id⟩⟩
        | true =>
          obtain ⟨i, j, n, q, hm, hq, rfl⟩ := inBoxes_some h62 hk
          obtain ⟨rs, h1, h2, h3⟩ := hbx i j n hm
          have h4 := h3 q rs[q] (List.getElem?_eq_getElem (by omega))
          have h5 : (s'.ts.get (key j (1 + q))).ver = Nat.succ (sf.ts.get (key j (1 + q))).ver := by rw [show s'.ts.get (key j (1 + q)) = _ from h4]; cases rs[q] <;> rfl
          exact ⟨by omega, fun h => by omega⟩
      cell := fun k _ => by
        cases hk : inBoxes L k with
        | false =>
          refine .inr ⟨(nomatch ·), hout k hk, hcv0 k hk, fun e he b hb hob => ?_⟩
          refine hstay b k hob ?_ ?_
          · cases hki : keyIn L k with
            | none => rfl
            | some k' =>
              exfalso
              obtain ⟨i, j, n, x, a1, rfl, a3, _⟩ := keyIn_some hki
              cases x with
              | zero =>
                obtain ⟨_, e2, b2, h1, _⟩ := heads _ a1
                dsimp only at h1
                rcases fz.ent (key j 0) with h5 | ⟨_, ⟨_, h5⟩, _⟩
                · rw [h5, h1] at he; cases he
                · rw [h1] at h5; cases h5
              | succ x => rw [Nat.add_comm x 1, inBoxes_mem hL a1 (show x < n by omega) (h62 _ a1)] at hk; cases hk
          · intro hq
            cases hl : isLent lent k with
            | false => rfl
            | true => rw [hfz hq k hl] at he; cases he
        | true =>
          left
          obtain ⟨i, j, n, q, hm, hq, rfl⟩ := inBoxes_some h62 hk
          obtain ⟨rs, h1, h2, h3⟩ := hbx i j n hm
          obtain ⟨rs', us', b, e, g1, g2, g3, g4, g5, g6, g7, g8, g9⟩ := boxes i j n hm
          rw [h1] at g1; cases g1
          have hqr : rs[q]? = some rs[q] := List.getElem?_eq_getElem (by omega)
          have hqu : us'[q]? = some us'[q] := List.getElem?_eq_getElem (by omega)
          have h4 := h3 q rs[q] hqr
          have h5 := g9 q rs[q] us'[q] hqr hqu
          have hcv : s'.cv (key j (1 + q)) = us'[q] := by
            show cvAfter sf L w' _ = _
            have hn := h62 _ hm; dsimp only at hn
            simp only [cvAfter, hk, cond_true, key_div (show 1 + q < 64 by omega), key_mod (show 1 + q < 64 by omega), fz.cv, g2, g7]
            rw [show 1 + q - 1 = q by omega]
            simp [show q < us'.length by omega]
          have h6 := came rs[q] us'[q] (.key (key i (1 + q))) (.key (key j (1 + q))) h5 (fun hq' => (hnl hq').2 rs (by
              have hb : ∀ (as : List AD) (rss : List (List RC)) (i0 i : Nat) (rs : List RC), boxAt as rss i0 i = some rs → rs ∈ rss := by
                intro as
                induction as with
                | nil => intro rss i0 i rs h; cases h
                | cons a as ih =>
                  intro rss i0 i rs h
                  cases a with
                  | one _ => exact ih rss (i0 + 1) i rs h
                  | agg _ => exact ih rss (i0 + 1) i rs h
                  | box _ _ =>
                    cases rss with
                    | nil => cases h
                    | cons x rss =>
                      simp only [boxAt] at h
                      split at h
                      · cases h; simp
                      · exact List.mem_cons_of_mem _ (ih rss (i0 + 1) i rs h)
              exact hb _ _ _ _ _ h1) _ (List.getElem_mem _)) (fun b hb => by
            show owAfter sf L (leadsAny r) ow1 b = _
            have hn := h62 _ hm; dsimp only at hn
            simp only [owAfter, hb, keyOut_mem hL hm (show 1 + q < 64 by omega)]) (by intro h; cases h)
          rw [CellOk, show s'.ts.get (key j (1 + q)) = _ from h4, hcv]
          cases hc : rs[q] with
          | im t => rw [hc] at h6; exact h6
          | own e2 t => rw [hc] at h6; exact h6
          | nil => rw [hc] at h6; rw [h6]; exact .nil
      main := fun i _ => by
        by_cases hi : ∃ i0 n, (i0, i, n) ∈ L
        · left
          obtain ⟨i0, n, hm⟩ := hi
          obtain ⟨rs', us', b, e, g1, g2, g3, g4, g5, g6, g7, g8, g9⟩ := boxes i0 i n hm
          have hn := h62 _ hm; dsimp only at hn
          have hh := hout (key i 0) (inBoxes_head i)
          have hse : sf.ts.get (key i 0) = s.ts.get (key i 0) := by
            rcases fz.ent (key i 0) with h5 | ⟨_, ⟨_, h5⟩, _⟩
            · exact h5
            · rw [g3] at h5; cases h5
          rw [MainOk, show s'.ts.get (key i 0) = _ from hh, hse, g3]
          refine ⟨hn, b, by rw [hcv0 _ (inBoxes_head i), fz.cv, g2], by rw [show s'.a = s.a from fz.a]; exact g4, ?_, ?_⟩
          · rw [show s'.w = w' from rfl, g7]
            congr 3
            have := cvals_eq (cv := s'.cv) (s := i) (o := 1) (vs := us') fun m v hmv => by
              have hlt := (List.getElem?_eq_some_iff.1 hmv).1
              have hk := inBoxes_mem hL hm (show m < n by omega) hn
              show cvAfter sf L w' _ = _
              simp only [cvAfter, hk, cond_true, key_div (show 1 + m < 64 by omega), key_mod (show 1 + m < 64 by omega), fz.cv, g2, g7]
              rw [show 1 + m - 1 = m by omega]
              simp [hmv]
            rw [← g6]; exact this.symm
          · show owAfter sf L (leadsAny r) ow1 b = _
            simp only [owAfter, g8, keyOut_mem hL hm (show 0 < 64 by omega)]
        · refine .inr ⟨(nomatch ·), hout _ (inBoxes_head i), rfl, fun o ho => hcv0 _ ?_, fun e n he b hb => hstay b _ hb ?_ fun hq => ?_⟩
          · cases hk : inBoxes L (key i o) with
            | false => rfl
            | true =>
              obtain ⟨i0, j, n, q, hm, hq, he⟩ := inBoxes_some h62 hk
              have hn := h62 _ hm; dsimp only at hn
              have : i = j := by rw [key_eq, key_eq] at he; omega
              subst this; exact absurd ⟨i0, n, hm⟩ hi
          · cases hk : keyIn L (key i 0) with
            | none => rfl
            | some k' =>
              obtain ⟨i0, j, n, x, hm, he, hx, _⟩ := keyIn_some hk
              have hn := h62 _ hm; dsimp only at hn
              have : i = j := by rw [key_eq, key_eq] at he; omega
              subst this; exact absurd ⟨i0, n, hm⟩ hi
          · cases hl : isLent lent (key i 0) with
            | false => rfl
            | true => rw [hfz hq _ hl] at he; cases he
      pok := fun i x hx => by
        left
        have hx' : pdAfter (cellsR r.vals) us i = some x := hx
        unfold pdAfter at hx'
        split at hx'
        · rename_i e t u h1 h2
          cases hx'
          exact came (.own e t) u (.pd i) (.pd i) (hrc i _ u h1 h2) (fun hq => (hnl hq).1 _ (List.mem_of_getElem? h1)) (fun b hb => by show owAfter sf L (leadsAny r) ow1 b = _; simp only [owAfter, hb]) (by intro h; cases h)
        · cases hx'
      prot := fun i _ hb => by
        have hh := hout (key i 0) (inBoxes_head i)
        rw [show s'.ts.get (key i 0) = _ from hh] at hb
        exact ⟨hb, hcv0 _ (inBoxes_head i)⟩ }
  · -- the result
    have hcs : CVsOk False s' 0 ((cellsR r.vals).map RC.cv) us := by
      refine ⟨by simp [hul], fun j c u hc hu => ?_⟩
      rw [List.getElem?_map] at hc
      cases hx : (cellsR r.vals)[j]? with
      | none => rw [hx] at hc; cases hc
      | some rc =>
        rw [hx] at hc; cases hc
        have h1 := came rc u (.pd j) (.pd j) (hrc j rc u hx hu) (fun hq => (hnl hq).1 _ (List.mem_of_getElem? hx)) (fun b hb => by show owAfter sf L (leadsAny r) ow1 b = _; simp only [owAfter, hb]) (by intro h; cases h)
        cases rc with
        | im t => exact h1
        | own e t =>
          refine ⟨id, ?_⟩
          show pdAfter (cellsR r.vals) us (0 + j) = _
          simp only [pdAfter, Nat.zero_add, hx, hu]
        | nil => exact h1
    have tup : ∀ l : List RV, l = r.vals → v = .tuple (tupOf (l.map shR) us).toArray → DOk False s' (.tup (l.map fun | .one _ => 0 | .agg cs => cs.length + 1) (l.flatMap fun | .one c => [c.cv] | .agg cs => cs.map RC.cv)) v := by
      intro l hl hv'
      refine ⟨us, ?_, ?_⟩
      · rw [hv']; congr 3
      · have : (l.flatMap fun | .one c => [c.cv] | .agg cs => cs.map RC.cv) = (cellsR r.vals).map RC.cv := by
          rw [← hl, cellsR, List.map_flatMap]
          congr 1; funext x; cases x <;> rfl
        rw [this]; exact hcs
    match hr : r.vals, hv, tup with
    | [], hv, tup => exact tup [] rfl hv
    | [.one c], hv, _ =>
      have h1 : (cellsR r.vals).map RC.cv = [c.cv] := by rw [hr]; rfl
      rw [h1] at hcs
      match us, hv, hcs with
      | [], _, hcs => exact absurd hcs.1 (by simp)
      | u :: ur, hv, hcs => rw [hv]; exact hcs.2 0 c.cv u rfl rfl
    | [.agg cs], hv, _ =>
      have h1 : (cellsR r.vals).map RC.cv = cs.map RC.cv := by rw [hr]; simp [cellsR, rvCells]
      rw [h1] at hcs
      exact ⟨us, hv, hcs⟩
    | x :: y :: l, hv, tup =>
      have h1 := tup (x :: y :: l) rfl (by cases x <;> exact hv)
      cases x <;> exact h1

end
end Go.Proofs.Ytnjanliihnadjaa.Tm

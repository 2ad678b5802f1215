/- The tree machine: a call, seen from the caller. Conditions: none. -/
import Derived.Test.YtnjanliihnadjaaK15
namespace Go.Proofs.Ytnjanliihnadjaa.Tm
open Go

section
variable {P : Program} {G : Ctx} {s : St} {cf : FuncId → List AD → Option Res} {ts ts' : TS} {o : Out} {E : Env}

def isLent (lent : List CV) (k : Nat) : Bool := lent.any fun
  | .ref p _ _ _ => Nat.beq p k
  | _ => false

theorem isLent_mem {lent : List CV} {p n : Nat} {e : TypeId} {t : T} (h : CV.ref p n e t ∈ lent) : isLent lent p = true :=
  List.any_eq_true.2 ⟨_, h, (beq_iff _ _).2 rfl⟩
theorem isLent_inv {lent : List CV} {k : Nat} (h : isLent lent k = true) : ∃ n e t, CV.ref k n e t ∈ lent := by
  obtain ⟨c, hc, he⟩ := List.any_eq_true.1 h
  cases c <;> simp only at he <;> try cases he
  rename_i p n e t
  have := (beq_iff _ _).1 he; subst this
  exact ⟨n, e, t, hc⟩

/-- Whose a block is, when the callee begins. -/
def ow0 (s : St) (lent : List CV) (L : List (Nat × Nat × Nat)) : Nat → Ow := fun b => match s.ow b with
  | .st => .st
  | .key k => bif isLent lent k then .st else match keyIn L k with
    | some k' => .key k'
    | none => .no
  | _ => .no

theorem ow0_st {lent : List CV} {L : List (Nat × Nat × Nat)} {b : Nat} (h : s.ow b = .st) : ow0 s lent L b = .st := by simp only [ow0, h]
theorem ow0_lent {lent : List CV} {L : List (Nat × Nat × Nat)} {b k : Nat} (h : s.ow b = .key k) (hl : isLent lent k = true) : ow0 s lent L b = .st := by simp only [ow0, h, hl, cond_true]
theorem ow0_key {lent : List CV} {L : List (Nat × Nat × Nat)} {b k k' : Nat} (h : s.ow b = .key k) (hl : isLent lent k = false) (hk : keyIn L k = some k') : ow0 s lent L b = .key k' := by simp only [ow0, h, hl, hk, cond_false]
theorem ow0_none {lent : List CV} {L : List (Nat × Nat × Nat)} {b k : Nat} (h : s.ow b = .key k) (hl : isLent lent k = false) (hk : keyIn L k = none) : ow0 s lent L b = .no := by simp only [ow0, h, hl, hk, cond_false]
theorem ow0_inv {lent : List CV} {L : List (Nat × Nat × Nat)} {b : Nat} :
    (ow0 s lent L b = .st ∧ (s.ow b = .st ∨ ∃ k, s.ow b = .key k ∧ isLent lent k = true)) ∨ (∃ k k', ow0 s lent L b = .key k' ∧ s.ow b = .key k ∧ isLent lent k = false ∧ keyIn L k = some k') ∨ ow0 s lent L b = .no := by
  cases h : s.ow b with
  | st => exact .inl ⟨ow0_st h, .inl rfl⟩
  | key k =>
    cases hl : isLent lent k with
    | true => exact .inl ⟨ow0_lent h hl, .inr ⟨k, rfl, hl⟩⟩
    | false =>
      cases hk : keyIn L k with
      | none => exact .inr (.inr (ow0_none h hl hk))
      | some k' => exact .inr (.inl ⟨k, k', ow0_key h hl hk, rfl, hl, hk⟩)
  | no => exact .inr (.inr (by simp only [ow0, h]))
  | pd i => exact .inr (.inr (by simp only [ow0, h]))

theorem peek_rt (h : Ok P G s) {lent : List CV} {L : List (Nat × Nat × Nat)} {τ : Nat} {c : CV} {v : Value} (hc : CVOk True s τ c v) (hm : c ∈ lent) : RT s.w (fun b => ow0 s lent L b = .st) (peek c) v := by
  have mn : ∀ b, s.S b → ow0 s lent L b = .st := fun b hb => ow0_st hb
  cases c with
  | im t => exact RT.mono hc mn (fun _ _ => rfl)
  | nil => rw [show v = _ from hc]; exact .nil
  | new e t => exact absurd trivial hc.1
  | ref p n e t =>
    obtain ⟨_, _, c3, c4⟩ := hc
    obtain ⟨c5, c6⟩ := c3 trivial
    obtain ⟨c7, c8, _⟩ := c4 c5
    have hcell := h.cell p (by intro h; cases h)
    simp only [CellOk, c6, c7, c8] at hcell
    exact (hcell.1.mono mn (fun _ _ => rfl) (fun _ _ => rfl)).rt fun b hb => ow0_lent (hcell.2 b hb) (isLent_mem hm)

theorem peeks_rt (h : Ok P G s) {lent : List CV} {L : List (Nat × Nat × Nat)} {τ : Nat} {cs : List CV} {us : List Value} (hc : CVsOk True s τ cs us) (hm : ∀ c ∈ cs, c ∈ lent) :
    RTs s.w (fun b => ow0 s lent L b = .st) (cs.map peek) us := by
  refine ⟨by simp [hc.1], fun j t u ht hu => ?_⟩
  rw [List.getElem?_map] at ht
  cases hx : cs[j]? with
  | none => rw [hx] at ht; cases ht
  | some c => rw [hx] at ht; cases ht; exact peek_rt h (hc.2 j c u hx hu) (hm c (List.mem_of_getElem? hx))

/-- No key of a box is lent. -/
def FreeBoxes (s : St) (lent : List CV) (L : List (Nat × Nat × Nat)) : Prop := ∀ i j n, (i, j, n) ∈ L → ∀ x, x ≤ n → isLent lent (key j x) = false

theorem free_boxes {vs : List Value} {as : List AD} {lent : List CV} {bs : List (Nat × Nat)} (ar : ARel s vs as lent bs) (h : lent.all (apartFrom bs) = true)
    (hown : ∀ p n e t, CV.ref p n e t ∈ lent → ∃ e', (s.ts.get p).k = .own e') (hbox : ∀ x ∈ bm as bs 0, ∃ e, (s.ts.get (key x.2.1 0)).k = .box e x.2.2) : FreeBoxes s lent (bm as bs 0) := by
  intro i j n hm x hx
  cases hl : isLent lent (key j x) with
  | false => rfl
  | true =>
    exfalso
    obtain ⟨v, e, t, hc⟩ := isLent_inv hl
    have h1 := List.all_eq_true.1 h _ hc
    simp only [apartFrom, List.all_eq_true] at h1
    have h2 := h1 _ (bm_mem ar 0 _ hm).2
    simp only [inBox] at h2
    cases x with
    | zero =>
      obtain ⟨e', he'⟩ := hown _ _ _ _ hc
      obtain ⟨e2, he2⟩ := hbox _ hm
      rw [he'] at he2; cases he2
    | succ x =>
      have a1 : Nat.ble (key j 1) (key j (x + 1)) = true := (ble_iff _ _).2 (by rw [key_eq, key_eq]; omega)
      have a2 : Nat.ble (key j (x + 1)) (key j n) = true := (ble_iff _ _).2 (by rw [key_eq, key_eq]; omega)
      simp [a1, a2] at h2

theorem arel_lent {vs : List Value} {as : List AD} {lent : List CV} {bs : List (Nat × Nat)} (ar : ARel s vs as lent bs) : ∀ p n e t, CV.ref p n e t ∈ lent → (s.ts.get p).ver = n ∧ (s.ts.get p).k = .own e ∧ (s.ts.get p).t = t := by
  induction ar with
  | nil => intro p n e t h; cases h
  | one hc _ ih =>
    intro p n e t h
    simp only [List.mem_cons] at h
    rcases h with rfl | h
    · have h1 := hc.2.2.1 trivial; exact ⟨h1.1, h1.2, (hc.2.2.2 h1.1).2.1⟩
    · exact ih p n e t h
  | agg hc _ ih =>
    intro p n e t h
    simp only [List.mem_append] at h
    rcases h with h | h
    · obtain ⟨j, hj⟩ := List.getElem?_of_mem h
      have hlt := (List.getElem?_eq_some_iff.1 hj).1
      have h1 := hc.2 j _ _ hj (List.getElem?_eq_getElem (by rw [hc.1]; exact hlt))
      have h2 := h1.2.2.1 trivial
      exact ⟨h2.1, h2.2, (h1.2.2.2 h2.1).2.1⟩
    · exact ih p n e t h
  | box _ _ _ _ _ _ _ _ _ ih => exact ih

theorem arel_boxes {vs : List Value} {as : List AD} {lent : List CV} {bs : List (Nat × Nat)} (ar : ARel s vs as lent bs) : ∀ (i0 : Nat), ∀ x ∈ bm as bs i0, x.2.2 ≤ 62 ∧
    ∃ e b, (s.ts.get (key x.2.1 0)).k = .box e x.2.2 ∧ s.cv (key x.2.1 0) = .pointer (some ⟨b, 0, none⟩) ∧ s.a.tmps.getD x.2.1 undef = .pointer (some ⟨b, 0, none⟩) ∧ s.ow b = .key (key x.2.1 0) := by
  induction ar with
  | nil => intro i0 x hx; cases hx
  | one _ _ ih => intro i0 x hx; exact ih (i0 + 1) x hx
  | agg _ _ ih => intro i0 x hx; exact ih (i0 + 1) x hx
  | @box j n e b cs vs as lent bs hk hn hp ht hb ho hl hc r ih =>
    intro i0 x hx
    simp only [bm, List.mem_cons] at hx
    rcases hx with rfl | hx
    · exact ⟨hn, e, b, hk, hp, ht, ho⟩
    · exact ih (i0 + 1) x hx

theorem entry_args (h : Ok P G s) {L : List (Nat × Nat × Nat)} (hL : LOk L) {lent0 : List CV} (hfr : FreeBoxes s lent0 L) {vs : List Value} {as : List AD} {lent : List CV} {bs : List (Nat × Nat)} (ar : ARel s vs as lent bs) :
    ∀ i0, (∀ x ∈ bm as bs i0, x ∈ L) → (∀ c ∈ lent, c ∈ lent0) → ∀ (i : Nat) a v, as[i]? = some a → vs[i]? = some v → ArgOk P s.w (ow0 s lent0 L) (i0 + i) a v := by
  induction ar with
  | nil => intro i0 _ _ i a v ha; simp at ha
  | @one c v vs as lent bs hc r ih =>
    intro i0 h1 h2 i a v' ha hv
    match i, ha, hv with
    | 0, ha, hv =>
      simp at ha hv; subst ha; subst hv
      exact peek_rt h hc (h2 _ (by simp))
    | i + 1, ha, hv =>
      have := ih (i0 + 1) (fun x hx => h1 x hx) (fun c hc => h2 c (by simp [hc])) i a v' (by simpa using ha) (by simpa using hv)
      rwa [show i0 + 1 + i = i0 + (i + 1) by omega] at this
  | @agg cs us vs as lent bs hc r ih =>
    intro i0 h1 h2 i a v' ha hv
    match i, ha, hv with
    | 0, ha, hv =>
      simp at ha hv; subst ha; subst hv
      exact ⟨us, rfl, peeks_rt h hc fun c hc => h2 c (by simp [hc])⟩
    | i + 1, ha, hv =>
      have := ih (i0 + 1) (fun x hx => h1 x hx) (fun c hc => h2 c (by simp [hc])) i a v' (by simpa using ha) (by simpa using hv)
      rwa [show i0 + 1 + i = i0 + (i + 1) by omega] at this
  | @box j n e b cs vs as lent bs hk hn hp ht hb ho hl hc r ih =>
    intro i0 h1 h2 i a v' ha hv
    have hmem : (i0, j, n) ∈ L := h1 _ (by simp [bm])
    match i, ha, hv with
    | 0, ha, hv =>
      simp at ha hv; subst ha; subst hv
      refine ⟨b, cvals s.cv j 1 n, rfl, by rw [cvals_length, hl], hb, ow0_key ho (hfr _ _ _ hmem 0 (Nat.zero_le _)) (keyIn_mem hL hmem (Nat.zero_le _) hn), fun q c u hq hu => ?_⟩
      have hqn : q < n := by rw [← hl]; exact (List.getElem?_eq_some_iff.1 hq).1
      rw [cvals_get _ _ _ _ _ hqn] at hu
      cases hu
      have hbc := hc q c hq
      have hcell := h.cell (key j (1 + q)) (by intro h; cases h)
      have hfree := hfr _ _ _ hmem (1 + q) (by omega)
      have hki := keyIn_mem hL hmem (x := 1 + q) (by omega) hn
      cases c with
      | im t =>
        obtain ⟨g1, g2⟩ := hbc
        simp only [CellOk, g1, g2] at hcell
        exact hcell.mono (fun b hb => ow0_st hb) (fun _ _ => rfl)
      | own ty t =>
        obtain ⟨g1, g2⟩ := hbc
        simp only [CellOk, g1, g2] at hcell
        exact ⟨hcell.1.mono (fun b hb => ow0_st hb) (fun _ _ => rfl) (fun _ _ => rfl), fun b hb => ow0_key (hcell.2 b hb) hfree hki⟩
      | nil => exact hbc.elim
    | i + 1, ha, hv =>
      have := ih (i0 + 1) (fun x hx => h1 x (by simp [bm, hx])) h2 i a v' (by simpa using ha) (by simpa using hv)
      rwa [show i0 + 1 + i = i0 + (i + 1) by omega] at this

theorem entry_ok (h : Ok P G s) {vs : List Value} {as : List AD} {lent : List CV} {bs : List (Nat × Nat)} (ar : ARel s vs as lent bs) (ha : lent.all (apartFrom bs) = true) (hd : distinctSlots bs = true) :
    FreeBoxes s lent (bm as bs 0) ∧ LOk (bm as bs 0) ∧ Entry P as vs s.w (ow0 s lent (bm as bs 0)) := by
  have hL := bm_ok ar hd 0
  have hfr := free_boxes ar ha (fun p n e t hc => ⟨e, (arel_lent ar p n e t hc).2.1⟩) fun x hx => by
    obtain ⟨_, e, b, h1, _⟩ := arel_boxes ar 0 x hx; exact ⟨e, h1⟩
  refine ⟨hfr, hL, ar.len, fun b hb => h.lt b fun hno => hb (by simp only [ow0, hno]), fun b i hb => ?_, fun i a v hai hvi => ?_⟩
  · rcases ow0_inv (s := s) (lent := lent) (L := bm as bs 0) (b := b) with h1 | ⟨_, _, h1, _⟩ | h1
    · rw [h1.1] at hb; cases hb
    · rw [h1] at hb; cases hb
    · rw [h1] at hb; cases hb
  · have := entry_args h hL hfr ar 0 (fun x hx => hx) (fun c hc => hc) i a v hai hvi
    rwa [Nat.zero_add] at this

/-! ### What the machine's state is behind the call -/
def rcEnt (ver : Nat) : RC → Ent
  | .im t => ⟨.im, ver, t⟩
  | .own e t => ⟨.own e, ver, t⟩
  | .nil => ⟨.im, ver, .sl 0 []⟩

theorem putRCs_run {j : Nat} : ∀ {rs : List RC} {x : Nat} {ts : TS} {kk : Unit → Prog}, x + rs.length ≤ 63 → Runs cf (putRCs j x [] rs kk) ts o ts' →
    ∃ ts1, Runs cf (kk ()) ts1 o ts' ∧ (∀ (q : Nat) c, rs[q]? = some c → ts1.get (key j (x + q)) = rcEnt (Nat.succ (ts.get (key j (x + q))).ver) c) ∧
      ∀ k, (∀ q, q < rs.length → k ≠ key j (x + q)) → ts1.get k = ts.get k
  | [], x, ts, kk, _, hr => ⟨ts, hr, fun q c h => by simp at h, fun _ _ => rfl⟩
  | c :: rs, x, ts, kk, hx, hr => by
    simp only [List.length_cons] at hx
    have h1 : Runs cf (putRCs j (Nat.succ x) [] rs kk) (ts.put (key j x) (rcEnt (Nat.succ (ts.get (key j x)).ver) c)) o ts' := by
      cases c <;> exact (Runs.get hr).put
    obtain ⟨ts1, g1, g2, g3⟩ := putRCs_run (by omega) h1
    refine ⟨ts1, g1, fun q c' hq => ?_, fun k hk => ?_⟩
    · match q, hq with
      | 0, hq =>
        simp at hq; subst hq
        rw [Nat.add_zero, g3 _ fun q hq => by rw [key_eq, key_eq]; omega, get_same]
      | q + 1, hq =>
        have := g2 q c' (by simpa using hq)
        rw [show Nat.succ x + q = x + (q + 1) by omega] at this
        rw [this, get_ne _ _ (by rw [key_eq, key_eq]; omega)]
    · rw [g3 k fun q hq => by have := hk (q + 1) (by simpa using hq); rwa [show Nat.succ x + q = x + (q + 1) by omega], get_ne _ _ (by have := hk 0 (by simp); exact this)]

/-- What box i became. -/
def boxAt : List AD → List (List RC) → Nat → Nat → Option (List RC)
  | .box _ _ :: as, rs :: bs, i0, i => if i = i0 then some rs else boxAt as bs (i0 + 1) i
  | .box _ _ :: _, [], _, _ => none
  | .one _ :: as, bs, i0, i => boxAt as bs (i0 + 1) i
  | .agg _ :: as, bs, i0, i => boxAt as bs (i0 + 1) i
  | [], _, _, _ => none

theorem putBoxes_run : ∀ {as : List AD} {bs : List (Nat × Nat)} {rss : List (List RC)} {ts : TS} {kk : Unit → Prog} {i0 : Nat}, LOk (bm as bs i0) → (∀ x ∈ bm as bs i0, x.2.2 ≤ 62 ∧ i0 ≤ x.1) → (bm as bs i0).map (·.2) = bs →
    Runs cf (putBoxes bs rss kk) ts o ts' →
    ∃ ts1, Runs cf (kk ()) ts1 o ts' ∧ (∀ i j n, (i, j, n) ∈ bm as bs i0 → ∃ rs, boxAt as rss i0 i = some rs ∧ rs.length = n ∧ ∀ (q : Nat) c, rs[q]? = some c → ts1.get (key j (1 + q)) = rcEnt (Nat.succ (ts.get (key j (1 + q))).ver) c) ∧
      ∀ k, (∀ i j n, (i, j, n) ∈ bm as bs i0 → ∀ q, q < n → k ≠ key j (1 + q)) → ts1.get k = ts.get k
  | [], bs, rss, ts, kk, i0, _, _, hbs, hr => by
    simp only [bm, List.map_nil] at hbs
    subst hbs
    cases rss with
    | nil => exact ⟨ts, hr, fun i j n h => by simp [bm] at h, fun _ _ => rfl⟩
    | cons _ _ => exact (Runs.fail hr).elim
  | .one _ :: as, bs, rss, ts, kk, i0, hL, h62, hbs, hr => putBoxes_run (as := as) (i0 := i0 + 1) hL (fun x hx => ⟨(h62 x hx).1, by have h1 : x ∈ bm as bs (i0 + 1) := hx; exact (bmle as bs (i0 + 1) x h1)⟩) hbs hr
  | .agg _ :: as, bs, rss, ts, kk, i0, hL, h62, hbs, hr => putBoxes_run (as := as) (i0 := i0 + 1) hL (fun x hx => ⟨(h62 x hx).1, by have h1 : x ∈ bm as bs (i0 + 1) := hx; exact (bmle as bs (i0 + 1) x h1)⟩) hbs hr
  | .box e cs :: as, bs, rss, ts, kk, i0, hL, h62, hbs, hr => by
    cases bs with
    | nil => cases rss with
      | nil => exact ⟨ts, hr, fun i j n h => by simp [bm] at h, fun _ _ => rfl⟩
      | cons _ _ => exact (Runs.fail hr).elim
    | cons b bs => cases rss with
     | nil => exact (Runs.fail hr).elim
     | cons rs rss =>
      obtain ⟨j, n⟩ := b
      have hr : Runs cf ((bif Nat.beq rs.length n then (fun k => putRCs j 1 [] rs fun _ => putBoxes bs rss k) else C.fail) kk) ts o ts' := hr
      cases hb : Nat.beq rs.length n with
      | false => rw [hb] at hr; exact (Runs.fail hr).elim
      | true =>
        rw [hb] at hr
        have hl := (beq_iff _ _).1 hb
        have h0 := h62 (i0, j, n) (by simp [bm])
        obtain ⟨ts1, g1, g2, g3⟩ := putRCs_run (by have := h0.1; dsimp only at this; omega) hr
        have hne : ∀ x ∈ bm as bs (i0 + 1), x.1 ≠ i0 ∧ x.2.1 ≠ j := fun x hx => by
          have h1 := bmle as bs (i0 + 1) x hx
          refine ⟨by omega, fun e => ?_⟩
          have := hL.js x (by simp [bm, hx]) (i0, j, n) (by simp [bm]) e
          subst this; dsimp only at h1; omega
        have hbs' : (bm as bs (i0 + 1)).map (·.2) = bs := by
          simp only [bm, List.map_cons, List.cons.injEq, true_and] at hbs; exact hbs
        obtain ⟨ts2, f1, f2, f3⟩ := putBoxes_run (as := as) (i0 := i0 + 1) ⟨fun x hx y hy => hL.js x (by simp [bm, hx]) y (by simp [bm, hy]), fun x hx y hy => hL.is x (by simp [bm, hx]) y (by simp [bm, hy])⟩
          (fun x hx => ⟨(h62 x (by simp [bm, hx])).1, bmle as bs (i0 + 1) x hx⟩) hbs' g1
        refine ⟨ts2, f1, fun i j' n' hm => ?_, fun k hk => ?_⟩
        · simp only [bm, List.mem_cons] at hm
          rcases hm with hm | hm
          · cases hm
            refine ⟨rs, by simp [boxAt], hl, fun q c hq => ?_⟩
            rw [f3 _ fun i' j2 n2 hm2 q2 hq2 he => ?_, g2 q c hq]
            have h1 := hne _ hm2
            have h2 := (h62 _ (by simp [bm, hm2] : (i', j2, n2) ∈ bm (.box e cs :: as) ((j, n) :: bs) i0)).1
            have h3 : q < n := by rw [← hl]; exact (List.getElem?_eq_some_iff.1 hq).1
            have h4 := h0.1
            dsimp only at h1 h2 h4
            have h5 := h1.2
            rw [key_eq, key_eq] at he
            omega
          · obtain ⟨rs', a1, a2, a3⟩ := f2 i j' n' hm
            have h1 := hne _ hm
            refine ⟨rs', by simp only [boxAt]; rw [if_neg (by exact h1.1)]; exact a1, a2, fun q c hq => ?_⟩
            rw [a3 q c hq, g3 _ fun q2 hq2 he => ?_]
            have h2 := (h62 _ (by simp [bm, hm] : (i, j', n') ∈ bm (.box e cs :: as) ((j, n) :: bs) i0)).1
            have h3 : q < n' := by rw [← a2]; exact (List.getElem?_eq_some_iff.1 hq).1
            have h4 := h0.1
            dsimp only at h1 h2 h4
            have h5 := h1.2
            rw [key_eq, key_eq] at he
            omega
        · rw [f3 k fun i' j2 n2 hm2 => hk i' j2 n2 (by simp [bm, hm2]), g3 k fun q hq => hk i0 j n (by simp [bm]) q (by omega)]
where
  bmle : ∀ (as : List AD) (bs : List (Nat × Nat)) (i0 : Nat) (x : Nat × Nat × Nat), x ∈ bm as bs i0 → i0 ≤ x.1
    | [], _, _, _, h => by simp [bm] at h
    | .one _ :: as, bs, i0, x, h => by have := bmle as bs (i0 + 1) x h; omega
    | .agg _ :: as, bs, i0, x, h => by have := bmle as bs (i0 + 1) x h; omega
    | .box _ _ :: as, [], i0, x, h => by simp [bm] at h
    | .box _ _ :: as, (j, n) :: bs, i0, x, h => by
      simp only [bm, List.mem_cons] at h
      rcases h with rfl | h
      · exact Nat.le_refl _
      · have := bmle as bs (i0 + 1) x h; omega

end
end Go.Proofs.Ytnjanliihnadjaa.Tm

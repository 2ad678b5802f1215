/- The tree machine: a region that draws its order comes to the same. Conditions: none. -/
import Derived.Test.YtnjanliihnadjaaK22
namespace Go.Proofs.Ytnjanliihnadjaa.Tm
open Go

section
variable {P : Program} {G : Ctx} {s : St} {cf : FuncId → List AD → Option Res} {ts ts' : TS} {o : Out} {E : Env}

theorem edges_back : ∀ {l : List Oper} {b : Nat}, edgesOk b l = true → ∀ (i : Nat) op, l[i]? = some op → ∀ e ∈ op.after, Region.binds .any e = true → e.on < b + i
  | [], b, _, i, op, h, _, _ => by simp at h
  | op0 :: l, b, h, i, op, hi, e, he => by
    simp only [edgesOk, Bool.and_eq_true, List.all_eq_true] at h
    match i, hi with
    | 0, hi =>
      simp at hi; subst hi
      have h1 := h.1 e (by simpa using he)
      intro hb
      rw [hb, Bool.not_true, Bool.false_or] at h1
      have := Nat.le_of_ble_eq_true h1
      omega
    | i + 1, hi =>
      have := edges_back h.2 i op (by simpa using hi) e he
      exact fun hb => by have := this hb; omega

/-- What an operation waits for: it, or what something it waits for waits for. -/
theorem bit_shift (i k : Nat) : hasBit (Nat.shiftLeft 1 i) k = decide (k = i) := by
  have : Nat.shiftLeft 1 i = setBit 0 i := by show _ = 0 ||| (1 <<< i); rw [Nat.zero_or]; rfl
  rw [this, hasBit_set]
  have : hasBit 0 k = false := by
    show Nat.beq (Nat.land (Nat.shiftRight 0 k) 1) 1 = false
    have : Nat.shiftRight 0 k = 0 := Nat.zero_shiftRight k
    rw [this]; rfl
  rw [this, Bool.or_false]
theorem bit_lor (x y k : Nat) : hasBit (Nat.lor x y) k = (hasBit x k || hasBit y k) := by
  have e : ∀ m j : Nat, hasBit m j = m.testBit j := by
    intro m j
    show Nat.beq (Nat.land (Nat.shiftRight m j) 1) 1 = _
    have : Nat.land (Nat.shiftRight m j) 1 = (m >>> j) &&& 1 := rfl
    rw [this, Nat.testBit, Nat.and_comm, Bool.eq_iff_iff, beq_iff]
    have h2 := Nat.and_one_is_mod (m >>> j)
    rw [Nat.and_comm, h2, bne_iff_ne]
    have := Nat.mod_lt (m >>> j) (show 0 < 2 by omega)
    omega
  rw [e, e, e, show Nat.lor x y = x ||| y from rfl, Nat.testBit_or]
theorem bit_zero (k : Nat) : hasBit 0 k = false := by
  show Nat.beq (Nat.land (Nat.shiftRight 0 k) 1) 1 = false
  have : Nat.shiftRight 0 k = 0 := Nat.zero_shiftRight k
  rw [this]; rfl

theorem befOne_bit (acc : List Nat) : ∀ (es : List Edge) (k : Nat), hasBit (befOne acc es) k = true → ∃ e ∈ es, Region.binds .any e = true ∧ (k = e.on ∨ hasBit (acc.getD e.on 0) k = true)
  | [], k, h => by rw [show befOne acc [] = 0 from rfl, bit_zero] at h; cases h
  | e :: es, k, h => by
    have h' : hasBit (bif Region.binds .any e then Nat.lor (Nat.lor (Nat.shiftLeft 1 e.on) (acc.getD e.on 0)) (befOne acc es) else befOne acc es) k = true := h
    have rec_ : hasBit (befOne acc es) k = true → ∃ e' ∈ e :: es, Region.binds .any e' = true ∧ (k = e'.on ∨ hasBit (acc.getD e'.on 0) k = true) := fun h1 => by
      obtain ⟨e', he', h2⟩ := befOne_bit acc es k h1
      exact ⟨e', by simp [he'], h2⟩
    cases hb : Region.binds .any e with
    | false => rw [hb] at h'; exact rec_ h'
    | true =>
      rw [hb, cond_true, bit_lor, bit_lor, Bool.or_eq_true, Bool.or_eq_true, bit_shift, decide_eq_true_eq] at h'
      rcases h' with (h1 | h1) | h1
      · exact ⟨e, by simp, hb, .inl h1⟩
      · exact ⟨e, by simp, hb, .inr h1⟩
      · exact rec_ h1

/-- A set that holds with an operation what it waits for. -/
theorem befs_closed (S : Nat → Prop) : ∀ (l : List Oper) (acc : List Nat), (∀ (i : Nat) m, acc[i]? = some m → S i → ∀ k, hasBit m k = true → S k) →
    (∀ (i : Nat) op, l[i]? = some op → S (acc.length + i) → ∀ e ∈ op.after, Region.binds .any e = true → S e.on) → ∀ (i : Nat) m, (befs l acc)[i]? = some m → S i → ∀ k, hasBit m k = true → S k
  | [], acc, h, _ => h
  | op :: l, acc, h, hc => by
    refine befs_closed S l (acc ++ [befOne acc op.after.toList]) (fun i m hi hS k hk => ?_) (fun i op' hi hS e he => hc (i + 1) op' (by simpa using hi) (by simpa [Nat.add_assoc, Nat.add_comm 1 i] using hS) e he)
    rw [List.getElem?_append] at hi
    split at hi
    · exact h i m hi hS k hk
    · rename_i hlt
      have hi0 : i = acc.length := by
        have := (List.getElem?_eq_some_iff.1 hi).1
        simp at this; omega
      subst hi0
      simp at hi
      subst hi
      obtain ⟨e, he, hbe, h1⟩ := befOne_bit acc _ k hk
      have hSe := hc 0 op rfl (by simpa using hS) e (by simpa using he) hbe
      rcases h1 with h1 | h1
      · exact h1 ▸ hSe
      · cases hg : acc[e.on]? with
        | none => rw [List.getD_eq_getElem?_getD, hg, show ((none : Option Nat).getD 0) = 0 from rfl, bit_zero] at h1; cases h1
        | some m => rw [List.getD_eq_getElem?_getD, hg] at h1; exact h e.on m hg hSe k h1

/-- The value of a key where just the operations of S were done. -/
def At (n : Nat) (c : Nat → TS) (F : Nat → Foot) (S : Nat → Prop) (k : Nat) (x : Ent) : Prop :=
  (∃ i, i < n ∧ S i ∧ hasBit (F i).W k = true ∧ (∀ i', i' < n → S i' → hasBit (F i').W k = true → i' ≤ i) ∧ x = (c (i + 1)).get k) ∨
  ((∀ i, i < n → S i → hasBit (F i).W k = false) ∧ x = (c 0).get k)

theorem At.unique {n : Nat} {c : Nat → TS} {F : Nat → Foot} {S S' : Nat → Prop} {k : Nat} {x y : Ent} (h : At n c F S k x) (g : At n c F S' k y) (he : ∀ i, i < n → hasBit (F i).W k = true → (S i ↔ S' i)) : x = y := by
  rcases h with ⟨i, a1, a2, a3, a4, a5⟩ | ⟨a1, a2⟩ <;> rcases g with ⟨j, b1, b2, b3, b4, b5⟩ | ⟨b1, b2⟩
  · have h1 := a4 j b1 ((he j b1 b3).2 b2) b3
    have h2 := b4 i a1 ((he i a1 a3).1 a2) a3
    have : i = j := by omega
    subst this; rw [a5, b5]
  · have := b1 i a1 ((he i a1 a3).1 a2); rw [a3] at this; cases this
  · have := a1 j b1 ((he j b1 b3).2 b2); rw [b3] at this; cases this
  · rw [a2, b2]

section
variable {n : Nat} {c : Nat → TS} {F : Nat → Foot} {hh : Hint} {ops : Array Oper}

/-- The way in the order of the text. -/
theorem at_text (hrun : ∀ i op, i < n → ops[i]? = some op → ∃ ou, run1 E hh cf ops op (c i) = some (ou, c (i + 1), (F i).R, (F i).W)) (hn : n = ops.size) : ∀ j, j ≤ n → ∀ k, At n c F (fun i => i < j) k ((c j).get k)
  | 0, _, k => .inr ⟨fun i _ h => absurd h (Nat.not_lt_zero _), rfl⟩
  | j + 1, hj, k => by
    have ih := at_text hrun hn j (by omega) k
    obtain ⟨ou, h1⟩ := hrun j ops[j] (by omega) (Array.getElem?_eq_getElem (by omega))
    obtain ⟨ts2', _, h2, _, _⟩ := run_local (ts2 := c j) h1 (fun _ _ => rfl)
    cases hw : hasBit (F j).W k with
    | true => exact .inl ⟨j, by omega, Nat.lt_succ_self j, hw, fun i' _ h _ => by omega, rfl⟩
    | false =>
      rw [(h2 k hw).2]
      rcases ih with ⟨i, a1, a2, a3, a4, a5⟩ | ⟨a1, a2⟩
      · refine .inl ⟨i, a1, by omega, a3, fun i' b1 b2 b3 => ?_, a5⟩
        by_cases hi : i' = j
        · subst hi; rw [hw] at b3; cases b3
        · exact a4 i' b1 (by omega) b3
      · refine .inr ⟨fun i b1 b2 => ?_, a2⟩
        by_cases hi : i = j
        · subst hi; exact hw
        · exact a1 i b1 (by omega)

/-- Two operations that touch the same key: one waits for the other. -/
def Waits (n : Nat) (F : Nat → Foot) (ms : List Nat) : Prop := ∀ i j, i < j → j < n → ∃ m, ms[j]? = some m ∧ (footApart (F i) (F j) = true ∨ hasBit m i = true)

theorem any_ok (hE : EnvOk P E) (hm : Meets P cf) (hnt : hh.nt ≤ G.nt) (hp : hh.prot = G.prot) (hn : n = ops.size)
    (hrun : ∀ i op, i < n → ops[i]? = some op → ∃ ou, run1 E hh cf ops op (c i) = some (ou, c (i + 1), (F i).R, (F i).W)) (hw : Waits n F (befs ops.toList [])) (hed : edgesOk 0 ops.toList = true)
    {Q : Exit → Act → World → Prop} (hQ : ∀ s', Ok P G s' → (∀ k, s'.ts.get k = (c n).get k) → Q .normal s'.a s'.w) :
    ∀ (fuel : Nat) (listed : Array Bool) (s : St), listed.size = n → Ok P G s → (∀ i op, ops[i]? = some op → listed.getD i false = true → ∀ e ∈ op.after, Region.binds .any e = true → listed.getD e.on false = true) →
      (∀ k, At n c F (fun i => listed.getD i false = true) k (s.ts.get k)) → ((List.range n).filter fun i => !listed.getD i false).length ≤ fuel → wpAny P .any ops Q fuel listed s.a s.w := by
  have hback : ∀ i op, ops[i]? = some op → ∀ e ∈ op.after, Region.binds .any e = true → e.on < i := fun i op hi e he hb => by
    have := edges_back hed i op (by rw [Array.getElem?_toList]; exact hi) e he hb
    omega
  have hreadyiff : ∀ (listed : Array Bool), listed.size = n → ∀ i, i ∈ Region.ready .any ops listed ↔ i < n ∧ listed.getD i false = false ∧ ∃ op, ops[i]? = some op ∧ ∀ e ∈ op.after, Region.binds .any e = true → listed.getD e.on false = true := fun listed hls i => by
    simp only [Region.ready, List.mem_filter, List.mem_range, Bool.and_eq_true, Bool.not_eq_true', ← hn]
    constructor
    · rintro ⟨h1, h2, h3⟩
      have e1 : listed.getD i true = listed.getD i false := by simp [Array.getD, hls, h1]
      rw [e1] at h2
      refine ⟨h1, h2, ops[i], Array.getElem?_eq_getElem (by omega), fun e he hb => ?_⟩
      rw [Array.getElem?_eq_getElem (by omega)] at h3
      simp only [Option.map_some, Option.getD_some] at h3
      have h4 := (Array.all_eq_true_iff_forall_mem.1 h3) e he
      rw [hb] at h4
      simpa using h4
    · rintro ⟨h1, h2, op, h3, h4⟩
      have e1 : listed.getD i true = listed.getD i false := by simp [Array.getD, hls, h1]
      rw [e1]
      refine ⟨h1, h2, ?_⟩
      rw [h3]
      simp only [Option.map_some, Option.getD_some]
      refine Array.all_eq_true_iff_forall_mem.2 fun e he => ?_
      cases hb : Region.binds .any e with
      | false => rfl
      | true => rw [h4 e he hb, Bool.or_true]
  -- nothing ready: all is done
  have hdone : ∀ (listed : Array Bool) (s : St), listed.size = n → Ok P G s → (∀ k, At n c F (fun i => listed.getD i false = true) k (s.ts.get k)) → Region.ready .any ops listed = [] → Q .normal s.a s.w := by
    intro listed s hls hok hat hr
    have hall : ∀ i, i < n → listed.getD i false = true := by
      intro i
      induction i using Nat.strongRecOn with
      | _ i ih =>
        intro hi
        cases hq : listed.getD i false with
        | true => rfl
        | false =>
          exfalso
          have hop : ops[i]? = some ops[i] := Array.getElem?_eq_getElem (by omega)
          have : i ∈ Region.ready .any ops listed := (hreadyiff listed hls i).2 ⟨hi, hq, _, hop, fun e he hbe => by
            have hb := hback i _ hop e he hbe
            exact ih e.on hb (by omega)⟩
          rw [hr] at this; cases this
    refine hQ s hok fun k => (hat k).unique (at_text hrun hn n (Nat.le_refl _) k) fun i hi _ => ⟨fun _ => hi, fun _ => hall i hi⟩
  intro fuel
  induction fuel with
  | zero =>
    intro listed s hls hok hcl hat hcount
    have hr : Region.ready .any ops listed = [] := by
      apply List.eq_nil_iff_forall_not_mem.2
      intro i hi
      have := (hreadyiff listed hls i).1 hi
      have hmem : i ∈ (List.range n).filter fun i => !listed.getD i false := by simp only [List.mem_filter, List.mem_range, Bool.not_eq_true']; exact ⟨this.1, this.2.1⟩
      have hpos := List.length_pos_of_mem hmem
      omega
    exact ⟨hr, hdone listed s hls hok hat hr⟩
  | succ fuel ih =>
    intro listed s hls hok hcl hat hcount
    refine ⟨hdone listed s hls hok hat, fun j hj => ?_⟩
    obtain ⟨hjn, hjl, op, hop, hje⟩ := (hreadyiff listed hls j).1 hj
    obtain ⟨ou, hr⟩ := hrun j op hjn hop
    -- what is listed holds what it waits for; so does j
    have hclosed : ∀ (i : Nat) m, (befs ops.toList [])[i]? = some m → (listed.getD i false = true ∨ i = j) → ∀ k, hasBit m k = true → (listed.getD k false = true ∨ k = j) := by
      refine befs_closed (fun i => listed.getD i false = true ∨ i = j) ops.toList [] (fun i m h => by simp at h) fun i op' hi hS e he hbe => ?_
      rw [Array.getElem?_toList] at hi
      simp only [List.length_nil, Nat.zero_add] at hS
      rcases hS with hS | hS
      · exact .inl (hcl i op' hi hS e he hbe)
      · subst hS; rw [hop] at hi; cases hi; exact .inl (hje e he hbe)
    have hclosed0 : ∀ (i : Nat) m, (befs ops.toList [])[i]? = some m → listed.getD i false = true → ∀ k, hasBit m k = true → listed.getD k false = true := by
      refine befs_closed (fun i => listed.getD i false = true) ops.toList [] (fun i m h => by simp at h) fun i op' hi hS e he hbe => ?_
      rw [Array.getElem?_toList] at hi
      simp only [List.length_nil, Nat.zero_add] at hS
      exact hcl i op' hi hS e he hbe
    -- whoever shares a key with j that one of the two writes: it was done just if it stands ahead
    have hconf : ∀ i, i < n → i ≠ j → footApart (F (min i j)) (F (max i j)) = false → (listed.getD i false = true ↔ i < j) := by
      intro i hi hij hap
      by_cases hlt : i < j
      · rw [Nat.min_eq_left (by omega), Nat.max_eq_right (by omega)] at hap
        obtain ⟨m, h1, h2⟩ := hw i j hlt hjn
        rw [hap] at h2
        have h3 := h2.resolve_left (by decide)
        exact ⟨fun _ => hlt, fun _ => (hclosed j m h1 (.inr rfl) i h3).resolve_right hij⟩
      · rw [Nat.min_eq_right (by omega), Nat.max_eq_left (by omega)] at hap
        obtain ⟨m, h1, h2⟩ := hw j i (by omega) hi
        rw [hap] at h2
        have h3 := h2.resolve_left (by decide)
        refine ⟨fun h => ?_, fun h => absurd h hlt⟩
        have := hclosed0 i m h1 h j h3
        rw [hjl] at this; cases this
    have hconfR : ∀ i k, i < n → i ≠ j → hasBit (F i).W k = true → hasBit (F j).R k = true ∨ hasBit (F j).W k = true → (listed.getD i false = true ↔ i < j) := by
      intro i k hi hij h1 h2
      refine hconf i hi hij ?_
      cases hap : footApart (F (min i j)) (F (max i j)) with
      | false => rfl
      | true =>
        exfalso
        rw [footApart_iff] at hap
        by_cases hlt : i < j
        · rw [Nat.min_eq_left (by omega), Nat.max_eq_right (by omega)] at hap
          have := hap.1 k h1
          rcases h2 with h2 | h2
          · rw [this.1] at h2; cases h2
          · rw [this.2] at h2; cases h2
        · rw [Nat.min_eq_right (by omega), Nat.max_eq_left (by omega)] at hap
          rcases h2 with h2 | h2
          · rw [hap.2 k h2] at h1; cases h1
          · rw [(hap.1 k h2).2] at h1; cases h1
    have hagree : ∀ k, hasBit (F j).R k = true → s.ts.get k = (c j).get k := fun k hk =>
      (hat k).unique (at_text hrun hn j (by omega) k) fun i hi hiw => by
        by_cases hij : i = j
        · subst hij; rw [hjl]; simp
        · exact hconfR i k hi hij hiw (.inl hk)
    obtain ⟨ts2', g1, g2, _, g4⟩ := run_local (ts2 := s.ts) hr hagree
    refine run1_ok hop hok hE hm hnt hp g1 fun s' ok' he => ?_
    have hget : ∀ i, (listed.setIfInBounds j true).getD i false = (decide (i = j) || listed.getD i false) := fun i => by
      by_cases hij : i = j
      · subst hij; simp [hls, hjn]
      · simp [Array.getD_eq_getD_getElem?, Array.getElem?_setIfInBounds_ne (Ne.symm hij), hij]
    refine ih (listed.setIfInBounds j true) s' (by simp [hls]) ok' (fun i op' hi hl e he' hbe => ?_) (fun k => ?_) ?_
    · rw [hget, Bool.or_eq_true, decide_eq_true_eq] at hl
      rw [hget, Bool.or_eq_true]
      rcases hl with hl | hl
      · subst hl; rw [hop] at hi; cases hi; exact .inr (hje e he' hbe)
      · exact .inr (hcl i op' hi hl e he' hbe)
    · rw [he]
      cases hwk : hasBit (F j).W k with
      | true =>
        have hv : ts2'.get k = (c (j + 1)).get k := (g4 k hwk).resolve_left (by rw [bit_zero]; decide)
        refine .inl ⟨j, hjn, by show (listed.setIfInBounds j true).getD j false = true; rw [hget]; simp, hwk, fun i' h1 h2 h3 => ?_, hv⟩
        by_cases hij : i' = j
        · omega
        · dsimp only at h2
          rw [hget, Bool.or_eq_true, decide_eq_true_eq] at h2
          exact Nat.le_of_lt ((hconfR i' k h1 hij h3 (.inr hwk)).1 (h2.resolve_left hij))
      | false =>
        rw [(g2 k hwk).1]
        rcases hat k with ⟨i, a1, a2, a3, a4, a5⟩ | ⟨a1, a2⟩
        · refine .inl ⟨i, a1, by show (listed.setIfInBounds j true).getD i false = true; rw [hget, show listed.getD i false = true from a2, Bool.or_true], a3, fun i' b1 b2 b3 => ?_, a5⟩
          dsimp only at b2
          rw [hget, Bool.or_eq_true, decide_eq_true_eq] at b2
          rcases b2 with b2 | b2
          · subst b2; rw [hwk] at b3; cases b3
          · exact a4 i' b1 b2 b3
        · refine .inr ⟨fun i b1 b2 => ?_, a2⟩
          dsimp only at b2
          rw [hget, Bool.or_eq_true, decide_eq_true_eq] at b2
          rcases b2 with b2 | b2
          · subst b2; exact hwk
          · exact a1 i b1 b2
    · have hlt : ((List.range n).filter fun i => !(listed.setIfInBounds j true).getD i false).length < ((List.range n).filter fun i => !listed.getD i false).length := by
        have hsub : ((List.range n).filter fun i => !(listed.setIfInBounds j true).getD i false) = ((List.range n).filter fun i => !listed.getD i false).filter fun i => !decide (i = j) := by
          rw [List.filter_filter]
          apply List.filter_congr
          intro i _
          rw [hget, Bool.not_or]
        rw [hsub]
        apply List.length_filter_lt_length_iff_exists.2
        exact ⟨j, by simp only [List.mem_filter, List.mem_range, Bool.not_eq_true']; exact ⟨hjn, hjl⟩, by simp⟩
      omega

end
end
end Go.Proofs.Ytnjanliihnadjaa.Tm

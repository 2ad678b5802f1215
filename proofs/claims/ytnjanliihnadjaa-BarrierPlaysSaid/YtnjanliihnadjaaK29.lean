/- The tree machine: lists and structures as cells. Conditions: none. -/
import Derived.Test.YtnjanliihnadjaaK28
namespace Go.Proofs.Ytnjanliihnadjaa.Tm
open Go

def eInt (k : IntKind) (n : Int) : List T := [.lit (.int k n)]
def eBool (b : Bool) : List T := [.lit (.bool b)]
def eStr (s : ByteArray) : List T := [.lit (.string s)]
def eVal (v : Value) : List T := [.lit v]
-- OPS
def len {α : Type} (l : List α) : Nat := l.length
def flat {α : Type} (enc : α → List T) (l : List α) : List T := l.flatMap enc
def elAt {α : Type} (l : List α) (i : Int) : Option α := l[i.toNat]?
def putAt {α : Type} (l : List α) (i : Int) (x : α) : List α := l.set i.toNat x
def appL {α : Type} (a b : List α) : List α := a ++ b
def subL {α : Type} (l : List α) (a b : Int) : List α := (l.drop a.toNat).take (b.toNat - a.toNat)
def repL {α : Type} (n : Int) (x : α) : List α := List.replicate n.toNat x
def copyL {α : Type} (src dst : List α) : List α := src.take dst.length ++ dst.drop src.length
def strOf (l : List Int) : ByteArray := ⟨(l.map fun n => UInt8.ofNat n.toNat).toArray⟩
def isFn (v : Value) (g : Nat) : Bool := match v with
  | .func (.func f) a b => Nat.beq f g && a.isEmpty && b.isEmpty
  | _ => false
def isNilFn (v : Value) : Bool := match v with
  | .nilFunc => true
  | _ => false
def bs (l : List Nat) : ByteArray := ⟨(l.map UInt8.ofNat).toArray⟩
-- END
def fnV (g : Nat) : Value := .func (.func g) #[] #[]
/-- The bodies of a code's loops, outer ones first. -/
noncomputable def loops (c : Code) : List Code := Code.rec (motive := fun _ => List Code) [] (fun _ _ _ => []) (fun _ _ a b => a ++ b) (fun _ _ _ a b => a ++ b) (fun _ _ a => a) (fun b a => b :: a) (fun _ _ _ _ _ _ => []) (fun _ => []) (fun _ a => a) (fun _ => []) (fun _ => []) [] (fun _ => []) c
noncomputable def loopOf (E : Env) (f : FuncId) (i : Nat) : Code := match lookF E.fns f with
  | some fn => (match fn.body with | some c => (loops c).getD i .skip | none => .skip)
  | none => .skip
def eSl {α : Type} (enc : α → List T) (l : List α) : List T := [.sl (len l) (flat enc l)]

theorem eInt_len (k : IntKind) (n : Int) : (eInt k n).length = 1 := rfl
theorem eBool_len (b : Bool) : (eBool b).length = 1 := rfl
theorem eStr_len (b : ByteArray) : (eStr b).length = 1 := rfl
theorem eVal_len (b : Value) : (eVal b).length = 1 := rfl
theorem eSl_len {α : Type} (enc : α → List T) (l : List α) : (eSl enc l).length = 1 := rfl
theorem eInt_ns (k : IntKind) (n : Int) : (eInt k n).any hasSl = false := rfl
theorem eBool_ns (b : Bool) : (eBool b).any hasSl = false := rfl
theorem eStr_ns (b : ByteArray) : (eStr b).any hasSl = false := rfl

theorem isFn_eq {v : Value} {g : Nat} (h : isFn v g = true) : v = fnV g := by
  unfold isFn at h
  split at h
  · simp only [Bool.and_eq_true, beq_iff, Array.isEmpty_iff] at h
    obtain ⟨⟨rfl, rfl⟩, rfl⟩ := h; rfl
  · cases h
theorem isNilFn_eq {v : Value} (h : isNilFn v = true) : v = .nilFunc := by
  unfold isNilFn at h
  split at h
  · rfl
  · cases h

section
variable {α : Type} {enc : α → List T} {z : Nat}

theorem flat_len (h : ∀ x, (enc x).length = z) (l : List α) : (flat enc l).length = l.length * z := by
  induction l with
  | nil => simp [flat]
  | cons x l ih =>
    have : flat enc (x :: l) = enc x ++ flat enc l := rfl
    rw [this, List.length_append, h, ih, List.length_cons, Nat.succ_mul, Nat.add_comm]

theorem flat_ns (h : ∀ x, (enc x).any hasSl = false) (l : List α) : (flat enc l).any hasSl = false := by
  induction l with
  | nil => rfl
  | cons x l ih =>
    have : flat enc (x :: l) = enc x ++ flat enc l := rfl
    rw [this, List.any_append, h, ih]; rfl

theorem leqm_flat (h : ∀ x, (enc x).length = z) (l : List α) : leqm (flat enc l) (len l) z = true := (beq_iff _ _).2 (flat_len h l)

theorem flat_drop (h : ∀ x, (enc x).length = z) (l : List α) (n : Nat) : (flat enc l).drop (n * z) = flat enc (l.drop n) := by
  induction l generalizing n with
  | nil => simp [flat]
  | cons x l ih =>
    cases n with
    | zero => simp
    | succ n =>
      have : flat enc (x :: l) = enc x ++ flat enc l := rfl
      rw [this, List.drop_succ_cons, ← ih n, List.drop_append, h]
      rw [List.drop_eq_nil_of_le (by rw [h, Nat.succ_mul]; omega), List.nil_append]
      congr 1; rw [Nat.succ_mul]; omega

theorem flat_take (h : ∀ x, (enc x).length = z) (l : List α) (n : Nat) : (flat enc l).take (n * z) = flat enc (l.take n) := by
  induction l generalizing n with
  | nil => simp [flat]
  | cons x l ih =>
    cases n with
    | zero => simp [flat]
    | succ n =>
      have e1 : flat enc (x :: l) = enc x ++ flat enc l := rfl
      have e2 : flat enc (x :: l.take n) = enc x ++ flat enc (l.take n) := rfl
      rw [List.take_succ_cons, e1, e2, ← ih n, List.take_append, h]
      rw [List.take_of_length_le (by rw [h, Nat.succ_mul]; omega)]
      congr 2; rw [Nat.succ_mul]; omega

theorem sub_flat (h : ∀ x, (enc x).length = z) {l : List α} {i : Int} {x : α} (hx : elAt l i = some x) (off n : Nat) (hn : off + n ≤ z) : ((flat enc l).drop (nadd (nidx i z) off)).take n = ((enc x).drop off).take n := by
  have hl : i.toNat < l.length := (List.getElem?_eq_some_iff.1 hx).1
  have he : l.drop i.toNat = x :: l.drop (i.toNat + 1) := by
    rw [List.drop_eq_getElem_cons hl]
    congr 1
    exact (List.getElem?_eq_some_iff.1 hx).2
  show ((flat enc l).drop (i.toNat * z + off)).take n = _
  rw [← List.drop_drop, flat_drop h, he]
  have : flat enc (x :: l.drop (i.toNat + 1)) = enc x ++ flat enc (l.drop (i.toNat + 1)) := rfl
  rw [this, List.drop_append_of_le_length (by rw [h]; omega), List.take_append_of_le_length (by rw [List.length_drop, h]; omega)]

theorem sub_flat0 (h : ∀ x, (enc x).length = z) {l : List α} {i : Int} {x : α} (hx : elAt l i = some x) (n : Nat) (hn : n ≤ z) : ((flat enc l).drop (nidx i z)).take n = (enc x).take n := by
  have := sub_flat h hx 0 n (by omega)
  simpa [nadd] using this

theorem flat_app (a b : List α) : lapp (flat enc a) (flat enc b) = flat enc (appL a b) := by simp [flat, lapp, appL]
theorem len_app (a b : List α) : nadd (len a) (len b) = len (appL a b) := by simp [len, nadd, appL]
theorem app_ok (a b : List α) : nadd (len a) (len b) = len (appL a b) ∧ lapp (flat enc a) (flat enc b) = flat enc (appL a b) := ⟨len_app a b, flat_app a b⟩

theorem sub_ok (h : ∀ x, (enc x).length = z) {l : List α} {lo hi : Int} (hb : bnd lo hi (len l) = true) : nsub lo hi = len (subL l lo hi) ∧ lsub (flat enc l) lo hi z = flat enc (subL l lo hi) := by
  have hb' : 0 ≤ lo ∧ lo ≤ hi ∧ hi ≤ (l.length : Int) := of_decide_eq_true hb
  refine ⟨?_, ?_⟩
  · simp only [nsub, len, subL, List.length_take, List.length_drop]; omega
  · simp only [lsub, subL]; rw [flat_drop h, flat_take h]

theorem rep_ok (n : Int) (x : α) : nint n = len (repL n x) ∧ lrep n (enc x) = flat enc (repL n x) := by
  refine ⟨by simp [nint, len, repL], ?_⟩
  simp only [lrep, repL, flat, List.flatMap]
  rw [List.map_replicate]

theorem rep_okC {n : Int} {x : α} {cs : List T} (hc : enc x = cs) : nint n = len (repL n x) ∧ lrep n cs = flat enc (repL n x) := by
  subst hc; exact rep_ok n x

theorem inr_lt {l : List α} {i : Int} (h : inr i (len l) = true) : 0 ≤ i ∧ i.toNat < l.length := by
  have : 0 ≤ i ∧ i < (l.length : Int) := of_decide_eq_true h
  omega

theorem set_ok (h : ∀ x, (enc x).length = z) {l : List α} {i : Int} {x y : α} (hx : elAt l i = some x) (off : Nat) (ts : List T) (hn : off + ts.length ≤ z) (hy : lset (enc x) off ts = enc y) :
    len l = len (putAt l i y) ∧ lset (flat enc l) (nadd (nidx i z) off) ts = flat enc (putAt l i y) := by
  have hl : i.toNat < l.length := (List.getElem?_eq_some_iff.1 hx).1
  have hxx : l[i.toNat] = x := (List.getElem?_eq_some_iff.1 hx).2
  refine ⟨by simp [len, putAt], ?_⟩
  have e1 : flat enc l = flat enc (l.take i.toNat) ++ (enc x ++ flat enc (l.drop (i.toNat + 1))) := by
    have : l = l.take i.toNat ++ (x :: l.drop (i.toNat + 1)) := by
      rw [← hxx, ← List.drop_eq_getElem_cons hl, List.take_append_drop]
    conv => lhs; rw [this]
    simp [flat]
  have e2 : flat enc (putAt l i y) = flat enc (l.take i.toNat) ++ (enc y ++ flat enc (l.drop (i.toNat + 1))) := by
    rw [putAt, List.set_eq_take_append_cons_drop, if_pos hl]
    simp [flat]
  have hlen : (flat enc (l.take i.toNat)).length = i.toNat * z := by rw [flat_len h, List.length_take, Nat.min_eq_left (by omega)]
  rw [e2, ← hy, e1]
  simp only [lset, nadd, nidx]
  rw [List.take_append, hlen, List.take_of_length_le (by rw [hlen]; omega), show i.toNat * z + off - i.toNat * z = off by omega, List.take_append_of_le_length (by rw [h]; omega)]
  rw [List.drop_append, hlen, List.drop_eq_nil_of_le (by rw [hlen]; omega), show i.toNat * z + off + ts.length - i.toNat * z = off + ts.length by omega, List.drop_append_of_le_length (by rw [h]; omega)]
  simp [List.append_assoc]

theorem set_ok0 (h : ∀ x, (enc x).length = z) {l : List α} {i : Int} {x y : α} (hx : elAt l i = some x) (ts : List T) (hn : ts.length ≤ z) (hy : lset (enc x) 0 ts = enc y) :
    len l = len (putAt l i y) ∧ lset (flat enc l) (nidx i z) ts = flat enc (putAt l i y) := by
  have := set_ok h hx 0 ts (by omega) hy
  simpa [nadd] using this

theorem lfits_flat (h : ∀ x, (enc x).length = z) {l : List α} {i : Int} {x : α} (hx : elAt l i = some x) (off n : Nat) (hn : off + n ≤ z) : lfits (nadd (nidx i z) off) n (flat enc l) = true := by
  have hl : i.toNat < l.length := (List.getElem?_eq_some_iff.1 hx).1
  refine (ble_iff _ _).2 ?_
  rw [flat_len h]
  show i.toNat * z + off + n ≤ _
  have : (i.toNat + 1) * z ≤ l.length * z := Nat.mul_le_mul_right _ hl
  rw [Nat.succ_mul] at this; omega
theorem lfits_flat0 (h : ∀ x, (enc x).length = z) {l : List α} {i : Int} {x : α} (hx : elAt l i = some x) (n : Nat) (hn : n ≤ z) : lfits (nidx i z) n (flat enc l) = true := by
  have := lfits_flat h hx 0 n (by omega)
  simpa [nadd] using this

theorem copy_ok (h : ∀ x, (enc x).length = z) (a b : List α) : len b = len (copyL a b) ∧ lcopy (flat enc a) (flat enc b) (len a) (len b) z = flat enc (copyL a b) := by
  refine ⟨by simp [len, copyL]; omega, ?_⟩
  simp only [lcopy, copyL, len]
  rw [flat_take h, flat_drop h]
  have e1 : a.take (min a.length b.length) = a.take b.length := by
    rcases Nat.le_total a.length b.length with h1 | h1
    · rw [Nat.min_eq_left h1, List.take_of_length_le (Nat.le_refl _), List.take_of_length_le h1]
    · rw [Nat.min_eq_right h1]
  have e2 : b.drop (min a.length b.length) = b.drop a.length := by
    rcases Nat.le_total a.length b.length with h1 | h1
    · rw [Nat.min_eq_left h1]
    · rw [Nat.min_eq_right h1, List.drop_eq_nil_of_le (Nat.le_refl _), List.drop_eq_nil_of_le h1]
  rw [e1, e2]
  simp [flat]

theorem isby_ok (l : List Int) : isby (flat (eInt .u8) l) (len l) = true := by
  have h1 : (flat (eInt .u8) l).length = l.length := by rw [flat_len (z := 1) (fun _ => rfl)]; omega
  have h2 : (bytesOf (flat (eInt .u8) l)).isSome = true := by
    induction l with
    | nil => rfl
    | cons x l ih =>
      have ih := ih (by rw [flat_len (z := 1) (fun _ => rfl)]; omega)
      show (match bytesOf (flat (eInt .u8) l) with | some l => some (UInt8.ofNat x.toNat :: l) | none => none).isSome = true
      cases h : bytesOf (flat (eInt .u8) l) with
      | none => rw [h] at ih; cases ih
      | some _ => rfl
  show (Nat.beq _ _ && _) = true
  rw [h2, Bool.and_true]
  exact (beq_iff _ _).2 h1

theorem bytes_flat (l : List Int) : bytesOf (flat (eInt .u8) l) = some (l.map fun n => UInt8.ofNat n.toNat) := by
  induction l with
  | nil => rfl
  | cons x l ih =>
    show (match bytesOf (flat (eInt .u8) l) with | some l => some (UInt8.ofNat x.toNat :: l) | none => none) = _
    rw [ih]; rfl
theorem bstr_ok (l : List Int) : bstr (flat (eInt .u8) l) = strOf l := by simp only [bstr, bytes_flat, Option.getD_some, strOf]
end

theorem bnot_eq {c v : Bool} (h : c = v) : bnot c = !v := by subst h; rfl
theorem bnot_t {c : Bool} (h : c = true) : bnot c = false := by subst h; rfl
theorem bnot_f {c : Bool} (h : c = false) : bnot c = true := by subst h; rfl
theorem beqb_t {c v : Bool} (h : c = v) : beqb c true = v := by subst h; cases c <;> rfl
theorem beqb_ft {c : Bool} (h : c = true) : beqb c false = false := by subst h; rfl
theorem beqb_ff {c : Bool} (h : c = false) : beqb c false = true := by subst h; rfl
theorem ine_t {a b : Int} (h : ieq a b = true) : ine a b = false := by simp only [ieq, ine, bne] at h ⊢; rw [h]; rfl
theorem ine_f {a b : Int} (h : ieq a b = false) : ine a b = true := by simp only [ieq, ine, bne] at h ⊢; rw [h]; rfl
theorem igt_eq {a b : Int} {v : Bool} (h : ilt b a = v) : igt a b = v := h
theorem ige_eq {a b : Int} {v : Bool} (h : ile b a = v) : ige a b = v := h
theorem band_tt {a b : Bool} (h : a = true) (g : b = true) : band a b = true := by subst h; subst g; rfl
theorem band_f1 {a b : Bool} (h : a = false) : band a b = false := by subst h; rfl
theorem band_f2 {a b : Bool} (h : a = true) (g : b = false) : band a b = false := by subst h; subst g; rfl
/-- A state, by its keys and what they hold. -/
def maskK : List Nat → Nat
  | [] => 0
  | k :: r => setBit (maskK r) k
def TS.on (ks : List Nat) (l : List (Nat × Ent)) : TS := ⟨maskK ks, l⟩

def ansOf : Cond → Ans
  | .test _ v => .test v
  | .int _ n => .int n
  | .sl _ _ n l => .sl n l
  | .sub _ _ _ l => .sub l
  | .call _ _ r => .call r
  | .loop _ _ _ ex ts => .loop ex ts
def ansL : List Cond → List Ans
  | [] => []
  | c :: cs => ansOf c :: ansL cs

theorem holdAll_app {E : Env} {H : FuncId → Hint} {h : Hint} : ∀ {a b : List Cond}, HoldAll E H h a → HoldAll E H h b → HoldAll E H h (a ++ b)
  | [], _, _, g => g
  | _ :: _, _, h, g => ⟨h.1, holdAll_app h.2 g⟩
theorem hasSl_lit (v : Value) : hasSl (.lit v) = false := rfl
theorem leads_ok {r : Res} {v : Bool} (h : leadsAny r = v) : leadsAny r = v := h

/-- By a hint that is written out. -/
theorem fn_playH {E : Env} {H : FuncId → Hint} (h : Hint) {f : FuncId} {ads : List AD} {r : Res} {os : List Ans} {cs : List Cond} (hh : hintT E H f ads = h) (hp : (fnT E H f ads).play os = some (.res r, cs)) (hc : HoldAll E H h cs) : Evt E H f ads r := by
  subst hh; exact fn_play E H hp hc

theorem fn_playC {E : Env} {H : FuncId → Hint} (h : Hint) {f : FuncId} {ads : List AD} {r : Res} {cs : List Cond} (hc : HoldAll E H h cs) (hh : hintT E H f ads = h) (hp : (fnT E H f ads).play (ansL cs) = some (.res r, cs)) : Evt E H f ads r := fn_playH h hh hp hc
theorem loop_nextC {E : Env} {H : FuncId → Hint} {h : Hint} {l : Nat} {c : Code} {ts ts1 : TS} {cs : List Cond} (hc : HoldAll E H h cs) (hp : (roundF E h l c ts).play (ansL cs) = some (.code .normal ts1, cs)) {ex : Ex} {ts' : TS} (hn : LoopEv E H h l c ts1 ex ts') :
    LoopEv E H h l c ts ex ts' := loop_next (E := E) (H := H) hp hc hn
theorem loop_endC {E : Env} {H : FuncId → Hint} {h : Hint} {l : Nat} {c : Code} {ts ts' : TS} {ex : Ex} {cs : List Cond} (hc : HoldAll E H h cs) (hp : (roundF E h l c ts).play (ansL cs) = some (.code ex ts', cs)) (hx : match ex with | .normal => False | _ => True) :
    LoopEv E H h l c ts ex ts' := loop_end (E := E) (H := H) hp (by cases ex <;> first | exact hx | trivial) hc

/-! ### The steps of a printed proof -/
section
variable {α β γ : Type} {G : Prop}
theorem cond_some {c : Bool} {a b : Option α} {r : α} (h : (bif c then a else b) = some r) (h1 : c = true → a = some r → G) (h2 : c = false → b = some r → G) : G := by
  cases c
  · exact h2 rfl h
  · exact h1 rfl h
theorem bind_some {o : Option α} {f : α → Option β} {r : β} (h : o.bind f = some r) (k : ∀ x, o = some x → f x = some r → G) : G := by
  cases o with
  | none => cases h
  | some x => exact k x rfl h
theorem sum_some {x : α ⊕ β} {f : α → Option γ} {g : β → Option γ} {r : γ} (h : Sum.elim f g x = some r) (h1 : ∀ a, x = .inl a → f a = some r → G) (h2 : ∀ b, x = .inr b → g b = some r → G) : G := by
  cases x with
  | inl a => exact h1 a rfl h
  | inr b => exact h2 b rfl h
end
end Go.Proofs.Ytnjanliihnadjaa.Tm

/- What the row of WorkerMine leans on: printed functions and plain laws. Conditions: none. -/
import Derived.Test.YtbaihlhoedbpkaaTy
import Derived.Test.YtbaihlhoedbpkaaTab
import Derived.Test.YtbaihlhoedbpkaaKn
import Derived.Test.YtbaihlhoedbpkaaWf
import Derived.IntWalk
import Derived.KernelRfl
import Derived.OpenShut
import Derived.Test.YtbaihlhoedbpkaaBWorkerMine1
set_option linter.unusedVariables false
set_option linter.unusedSimpArgs false
namespace Go.Proofs.Ytbaihlhoedbpkaa.Tm
open Go
noncomputable section
def F39 (K : Nat) (a1 : GGraph) (a2 : GJob) (a3 : Int) : Option (List Int) :=
 (DX K a1 a2 a3 K [] 0).bind fun w4 =>
 some w4
theorem NJ (K : Nat) (a1 : GGraph) (a2 : GJob) (a3 : Int) (r : List Int) (F : F39 K a1 a2 a3 = some r) : Evt E H 39 [.agg (eGGraph a1), .agg (eGJob a2), .one (i6 a3)] (Lc r) := by
 rw [F39] at F
 apply jb F; intro w5 h4 F
 apply jr F
 exact fpC GS <| zo (Os K a1 a2 a3 K [] 0 _ h4) <| z0
def AK : Hint := { H 17 with nt := 102, prot := 0, kp := 0 }
def Jx : Code := loopOf E 17 0
def K9 : Code := loopOf E 17 1
def O0 (r1 : Bool) : Res := ⟨[(.one (mB r1))], []⟩
def CK (K : Nat) (a1 : GPart) (r2 : List Int) (v3 : Int) (x4 : GMsg) : Nat → Bool → Int → Option (Bool)
 | 0, _, _ => none
 | k + 1, v5, v6 =>
  bif (ilt v6 (nlen (len r2))) then
   (bif v5 then
    (CK K a1 r2 v3 x4 k true (wadd .i64 v6 1))
   else
   bif (inr v6 (len r2)) then
   (elAt r2 v6).bind fun x7 =>
   CK K a1 r2 v3 x4 k (ieq x7 x4.To) (wadd .i64 v6 1)
   else none)
  else
  some v5
def Ke (a1 : GPart) (r2 : List Int) (v3 : Int) (x4 : GMsg) (v5 : Bool) (v6 : Int) : TS := .on (kq 320 6 <| kq 448 2 <| kq 512 2 <| kq 576 2 <| kq 640 2 <| kq 704 2 <| []) <| b6 320 a1 <| sq 448 [u0, (uO 3 e6 r2)] <| sq 512 [u0, (uI v3)] <| sq 576 [u0, (uI x4.To)] <| sq 640 [u0, (uB v5)] <| sq 704 [u0, (uI v6)] []
def K6 (a1 : GPart) (r2 : List Int) (v3 : Int) (x4 : GMsg) (w5 : Bool) : TS := .on (kq 320 6 <| kq 448 2 <| kq 512 2 <| kq 576 2 <| kq 640 2 <| []) <| b6 320 a1 <| sq 448 [u0, (uO 3 e6 r2)] <| sq 512 [u0, (uI v3)] <| sq 576 [u0, (uI x4.To)] <| sq 640 [u0, (uB w5)] []
theorem Oo (K : Nat) (a1 : GPart) (r2 : List Int) (v3 : Int) (x4 : GMsg) : ∀ (k : Nat) (v5 : Bool) (v6 : Int) (r : Bool), CK K a1 r2 v3 x4 k v5 v6 = some r → LoopEv E H AK 2 K9 (Ke a1 r2 v3 x4 v5 v6) (.exit 2) (K6 a1 r2 v3 x4 r) := by
 intro k
 induction k with
 | zero => intro v5 v6 r F; cases F
 | succ k ih =>
  intro v5 v6 r F
  rw [CK] at F
  apply jc F <;> intro h7 F
  apply jc F <;> intro h8 F
  exact lN1 (zi (nl r2) <| zT h7 <| Fp h8 <| zi (wadd .i64 v6 1) <| z0) (ih _ _ _ F)
  apply jn F; intro h9 F
  apply jb F; intro x10 h11 F
  exact lN1 (zi (nl r2) <| zT h7 <| zB3 h8 <| zT h9 <| zB1 h8 <| zX (.sub (flat e6 r2) (nidx v6 1) 1 [(i6 x10)]) ⟨rfl, sub_flat0 (eInt_len _) h11 1 (by decide)⟩ <| B2 h8 <| zi (wadd .i64 v6 1) <| z0) (ih _ _ _ F)
  apply jr F
  exact lE <| zi (nl r2) <| zF h7 <| z0
def DF (K : Nat) (a1 : GPart) (r2 : List Int) : Nat → Int → Option ((Unit) ⊕ (Unit))
 | 0, _ => none
 | k + 1, v3 =>
  bif (ilt v3 (nlen (len a1.In))) then
   (bif (inr v3 (len a1.In)) then
   (elAt a1.In v3).bind fun x4 =>
   (CK K a1 r2 v3 x4 K false 0).bind fun w5 =>
   bif w5 then
    (bif (ilt 0 v3) then
     (bif (inr (wsub .i64 v3 1) (len a1.In)) then
     (elAt a1.In (wsub .i64 v3 1)).bind fun x6 =>
     bif (ile x4.To x6.To) then
      (some (.inl ()))
     else
     DF K a1 r2 k (wadd .i64 v3 1)
     else none)
    else
    DF K a1 r2 k (wadd .i64 v3 1))
   else
   some (.inl ())
   else none)
  else
  some (.inr ())
def Js (a1 : GPart) (r2 : List Int) (v3 : Int) : TS := .on (kq 320 6 <| kq 448 2 <| kq 512 2 <| []) <| b6 320 a1 <| sq 448 [u0, (uO 3 e6 r2)] <| sq 512 [u0, (uI v3)] []
def Mw (a1 : GPart) (r2 : List Int) (w3 : Unit) : TS := .on (kq 384 2 <| []) <| sq 384 [u0, (uB false)] []
def Kk (a1 : GPart) (r2 : List Int) (w3 : Unit) : TS := .on [] []
theorem HO (K : Nat) (a1 : GPart) (r2 : List Int) : ∀ (k : Nat) (v3 : Int) (r : (Unit) ⊕ (Unit)), DF K a1 r2 k v3 = some r → (Sum.elim (fun w => LoopEv E H AK 0 Jx (Js a1 r2 v3) .ret (Mw a1 r2 w)) (fun w => LoopEv E H AK 0 Jx (Js a1 r2 v3) (.exit 0) (Kk a1 r2 w))) r := by
 intro k
 induction k with
 | zero => intro v3 r F; cases F
 | succ k ih =>
  intro v3 r F
  rw [DF] at F
  apply jc F <;> intro h4 F
  apply jn F; intro h5 F
  apply jb F; intro x6 h7 F
  apply jb F; intro w9 h8 F
  have q16 {l} (z : HA AK l) := zi (nl a1.In) <| zT h4 <| zT h5 <| zU eGMsg_len h7 0 1 <| zo (Oo K a1 r2 v3 x6 K false 0 _ h8) <| z
  apply jc F <;> intro h10 F
  have q17 {l} (z : HA AK l) := zB3 (bnot_t h10) <| z
  apply jc F <;> intro h11 F
  apply jn F; intro h12 F
  apply jb F; intro x13 h14 F
  have q18 {l} (z : HA AK l) := zC4 (igt_eq h11) <| zi (wsub .i64 v3 1) <| zC1 (igt_eq h11) <| zT h12 <| zC2 (igt_eq h11) <| zU eGMsg_len h14 0 1 <| zC2 (igt_eq h11) <| zB1 (bnot_t h10) <| zT (igt_eq h11) <| zF (bnot_t h10) <| z
  apply jc F <;> intro h15 F
  apply jr F
  exact lE <| q16 <| q17 <| q18 <| zT (ige_eq h15) <| z0
  exact lN2 (q16 <| q17 <| q18 <| zF (ige_eq h15) <| zi (wadd .i64 v3 1) <| z0) (ih _ _ F)
  exact lN2 (q16 <| q17 <| zD6 (igt_eq h11) <| zD3 (igt_eq h11) <| zB1 (bnot_t h10) <| zF (igt_eq h11) <| zF (bnot_t h10) <| zf1 <| zi (wadd .i64 v3 1) <| z0) (ih _ _ F)
  apply jr F
  exact lE <| q16 <| CS (bnot_f h10) <| zr1 <| z0
  apply jr F
  exact lE <| zi (nl a1.In) <| zF h4 <| z0
def F17 (K : Nat) (a1 : GGraph) (a2 : GJob) (a3 : GPart) : Option (Bool) :=
 (F19 K a1 a2).bind fun r4 =>
 bif (ieq r4 0) then
  (bif (ilt a3.P 0) then
   (some false)
  else
  bif (ile a2.Parts a3.P) then
   (some false)
  else
  bif (ilt a3.Step 0) then
   (some false)
  else
  bif (ilt 40 a3.Step) then
   (some false)
  else
  (F39 K a1 a2 a3.P).bind fun r5 =>
  bif (ieq (nlen (len a3.Vals)) (nlen (len r5))) then
   (bif (ieq (nlen (len a3.Rest)) (nlen (len r5))) then
    ((DF K a3 r5 K 0).bind fun y6 =>
    Sum.elim (fun w7 =>
     some false)
     (fun w8 =>
     some true) y6)
   else
   some false)
  else
  some false)
 else
 some false
theorem HX (K : Nat) (a1 : GGraph) (a2 : GJob) (a3 : GPart) (r : Bool) (F : F17 K a1 a2 a3 = some r) : Evt E H 17 [.agg (eGGraph a1), .agg (eGJob a2), .agg (eGPart a3)] (O0 r) := by
 rw [F17] at F
 apply jb F; intro r4 h5 F
 apply jc F <;> intro h6 F
 have q19 {l} (z : HA AK l) := zl (Jb K a1 a2 _ h5) <| Af (ine_t h6) <| z
 apply jc F <;> intro h7 F
 apply jr F
 exact fpC AK <| q19 <| BB h7 <| zt3 <| zr1 <| zt3 <| zr2 <| z0
 have q20 {l} (z : HA AK l) := B5 h7 <| z
 apply jc F <;> intro h8 F
 apply jr F
 exact fpC AK <| q19 <| q20 <| Ag (ige_eq h8) <| zt3 <| zr2 <| z0
 have q21 {l} (z : HA AK l) := Af (ige_eq h8) <| z
 apply jc F <;> intro h9 F
 apply jr F
 exact fpC AK <| q19 <| q20 <| q21 <| Ag h9 <| zr1 <| z0
 have q22 {l} (z : HA AK l) := Af h9 <| z
 apply jc F <;> intro h10 F
 apply jr F
 exact fpC AK <| q19 <| q20 <| q21 <| q22 <| zT (igt_eq h10) <| z0
 apply jb F; intro r11 h12 F
 have q23 {l} (z : HA AK l) := zF (igt_eq h10) <| zl (NJ K a1 a2 a3.P _ h12) <| zi (nl a3.Vals) <| zi (nl r11) <| z
 apply jc F <;> intro h13 F
 have q24 {l} (z : HA AK l) := zB3 (ine_t h13) <| zi (nl a3.Rest) <| zB2 (ine_t h13) <| zi (nl r11) <| BN (ine_t h13) <| z
 apply jc F <;> intro h14 F
 apply jb F; intro y16 h15 F
 refine js F (fun w17 hx F => ?_) fun w18 hx F => ?_
 subst hx
 apply jr F
 exact fpC AK <| q19 <| q20 <| q21 <| q22 <| q23 <| q24 <| zF (ine_t h14) <| zo (HO K a3 r11 K 0 _ h15) <| z0
 subst hx
 apply jr F
 exact fpC AK <| q19 <| q20 <| q21 <| q22 <| q23 <| q24 <| zF (ine_t h14) <| zo (HO K a3 r11 K 0 _ h15) <| z0
 apply jr F
 exact fpC AK <| q19 <| q20 <| q21 <| q22 <| q23 <| q24 <| zT (ine_f h14) <| z0
 apply jr F
 exact fpC AK <| q19 <| q20 <| q21 <| q22 <| q23 <| Fp (ine_f h13) <| zr1 <| z0
 apply jr F
 exact fpC AK <| zl (Jb K a1 a2 _ h5) <| Ag (ine_f h6) <| zt5 <| zr1 <| zt3 <| zr1 <| zt3 <| zr2 <| z0
def GF (K : Nat) (a1 : Int) (a2 : Int) : Option (Int × Bool) :=
 bif (ieq a1 0) then
  (some (0, true))
 else
 bif (ieq a2 0) then
  (some (0, true))
 else
 bif (ieq a1 (-1)) then
  (bif (ieq a1 (-9223372036854775808)) then
   (some (0, false))
  else
  bif (ieq a2 (-9223372036854775808)) then
   (some (0, false))
  else
  some ((wmul .i64 a1 a2), true))
 else
 bif (ieq a2 (-1)) then
  (bif (ieq a1 (-9223372036854775808)) then
   (some (0, false))
  else
  bif (ieq a2 (-9223372036854775808)) then
   (some (0, false))
  else
  some ((wmul .i64 a1 a2), true))
 else
 bif (izero a2) then none else
 bif (ieq (wquo .i64 (wmul .i64 a1 a2) a2) a1) then
  (some ((wmul .i64 a1 a2), true))
 else
 some (0, false)
def GT (K : Nat) (a1 : Int) (a2 : Int) (a3 : Int) : Option (Int × Bool) :=
 bif (ilt a3 1) then
  (some (0, false))
 else
 (GF K a1 a2).bind fun r4 =>
 bif r4.2 then
  (bif (izero a3) then none else
  some ((wquo .i64 r4.1 a3), true))
 else
 some (0, false)
def FD (K : Nat) (a1 : Int) (a2 : Int) : Option (Int × Bool) :=
 bif (ilt 0 a2) then
  (bif (ilt (wsub .i64 9223372036854775807 a2) a1) then
   (some (0, false))
  else
  bif (ilt a2 0) then
   (bif (ilt a1 (wsub .i64 (-9223372036854775808) a2)) then
    (some (0, false))
   else
   some ((wadd .i64 a1 a2), true))
  else
  some ((wadd .i64 a1 a2), true))
 else
 bif (ilt a2 0) then
  (bif (ilt a1 (wsub .i64 (-9223372036854775808) a2)) then
   (some (0, false))
  else
  some ((wadd .i64 a1 a2), true))
 else
 some ((wadd .i64 a1 a2), true)
def F76 (K : Nat) (a1 : Int) (a2 : Int) (a3 : GEdge) (a4 : Int) : Option (Int × Bool) :=
 bif (ieq a1 1) then
  ((FD K a2 a3.W).bind fun r5 =>
  some (r5.1, r5.2))
 else
 bif (ieq a1 3) then
  ((FD K a2 1).bind fun r6 =>
  some (r6.1, r6.2))
 else
 bif (ieq a1 5) then
  ((GT K a2 1 a4).bind fun r7 =>
  some (r7.1, r7.2))
 else
 some (a2, true)
def FZ (K : Nat) (v1 : Int) (v2 : Int) (v3 : Int) (v4 : Int) (v5 : Int) (v6 : Bool) (v7 : List GEdge) : Nat → List GMsg → Int → Option ((Unit) ⊕ (List GMsg))
 | 0, _, _ => none
 | k + 1, v8, v9 =>
  bif (ilt v9 (nlen (len v7))) then
   (bif v6 then
    (bif (inr v9 (len v7)) then
    (elAt v7 v9).bind fun x10 =>
    (F76 K v2 v1 x10 (nlen (len v7))).bind fun r11 =>
    bif r11.2 then
     (bif (apok (len v8) 1 16) then
     FZ K v1 v2 v3 v4 v5 v6 v7 k (appL v8 [(GMsg.mk x10.To r11.1)]) (wadd .i64 v9 1)
     else none)
    else
    some (.inl ())
    else none)
   else
   some (.inr v8))
  else
  some (.inr v8)
def G1 (K : Nat) (v1 : Int) (v2 : Int) (v3 : Int) (v4 : Int) (v5 : Int) (v6 : List GEdge) : Nat → List GMsg → Int → Option ((Unit) ⊕ (List GMsg))
 | 0, _, _ => none
 | k + 1, v7, v8 =>
  bif (ilt v8 (nlen (len v6))) then
   (bif (inr v8 (len v6)) then
   (elAt v6 v8).bind fun x9 =>
   (F76 K v2 v1 x9 (nlen (len v6))).bind fun r10 =>
   bif r10.2 then
    (bif (apok (len v7) 1 16) then
    G1 K v1 v2 v3 v4 v5 v6 k (appL v7 [(GMsg.mk x9.To r10.1)]) (wadd .i64 v8 1)
    else none)
   else
   some (.inl ())
   else none)
  else
  some (.inr v7)
def FH (K : Nat) (v1 : Int) (v2 : Int) (v3 : Int) (v4 : Int) (v5 : Int) (v6 : Bool) (v7 : List GEdge) : Nat → List GMsg → Int → Option ((Unit) ⊕ (List GMsg))
 | 0, _, _ => none
 | k + 1, v8, v9 =>
  bif (ilt v9 (nlen (len v7))) then
   (bif v6 then
    (bif (inr v9 (len v7)) then
    (elAt v7 v9).bind fun x10 =>
    (F76 K v2 v1 x10 (nlen (len v7))).bind fun r11 =>
    bif r11.2 then
     (bif (apok (len v8) 1 16) then
     FH K v1 v2 v3 v4 v5 v6 v7 k (appL v8 [(GMsg.mk x10.To r11.1)]) (wadd .i64 v9 1)
     else none)
    else
    some (.inl ())
    else none)
   else
   some (.inr v8))
  else
  some (.inr v8)
def GQ (K : Nat) (v1 : Int) (v2 : Int) (v3 : Int) (v4 : Int) (v5 : Int) (v6 : List GEdge) : Nat → List GMsg → Int → Option (((List GMsg)) ⊕ (Unit))
 | 0, _, _ => none
 | k + 1, v7, v8 =>
  bif (ilt v8 (nlen (len v6))) then
   (bif (ieq v1 v1) then
    (some (.inl v7))
   else
   bif (inr v8 (len v6)) then
   (elAt v6 v8).bind fun x9 =>
   (F76 K v2 v1 x9 (nlen (len v6))).bind fun r10 =>
   bif r10.2 then
    (bif (apok (len v7) 1 16) then
    GQ K v1 v2 v3 v4 v5 v6 k (appL v7 [(GMsg.mk x9.To r10.1)]) (wadd .i64 v8 1)
    else none)
   else
   some (.inr ())
   else none)
  else
  some (.inl v7)
def goI {α σ β : Type} (step : Nat → α → σ → (σ → Option β) → Option β) (fin : σ → Option β) : Nat → List α → σ → Option β
 | _, [], s => fin s
 | i, x :: r, s => step i x s (goI step fin (i + 1) r)
def goL {α σ β : Type} (step : α → σ → (σ → Option β) → Option β) (fin : σ → Option β) : List α → σ → Option β
 | [], s => fin s
 | x :: r, s => step x s (goL step fin r)
theorem DZ {α : Type} {l : List α} {i : Nat} {x : α} {r : List α} (h : l.drop i = x :: r) : i < l.length := by
 rcases Nat.lt_or_ge i l.length with g | g
 · exact g
 · rw [List.drop_eq_nil_of_le g] at h; cases h
theorem Ct {α σ β : Type} {l : List α} {L : Nat → σ → Int → Option β} (step : Nat → α → σ → (σ → Option β) → Option β) (fin : σ → Option β)
 (h : ∀ k s (i : Nat), i ≤ l.length → L (k + 1) s i = bif ilt i (nlen (len l)) then (bif inr i (len l) then (elAt l i).bind fun x => step i x s (fun s' => L k s' (wadd .i64 i 1)) else none) else fin s)
 (hl : l.length < 4611686018427387904) : ∀ (k : Nat) (s : σ) (i : Nat), l.length - i < k → i ≤ l.length → L k s i = goI step fin i (l.drop i) s := by
 intro k
 induction k with
 | zero => intro s i h; omega
 | succ k ih =>
  intro s i hk hi
  rw [h k s i hi]
  rcases FN l i with ⟨x, e1, e2, e3, e4⟩ | ⟨e1, e2⟩
  · have hlt := DZ e1
    rw [e1, e2, e3, e4]
    simp only [cT, bS, goI]
    congr 1
    funext s'
    rw [FS om]
    exact ih s' (i + 1) om om
  · rw [e1, e2]; rfl
theorem Aq {α σ β : Type} {l : List α} {L : Nat → σ → Int → Option β} (step : α → σ → (σ → Option β) → Option β) (fin : σ → Option β)
 (h : ∀ k s (i : Nat), i ≤ l.length → L (k + 1) s i = bif ilt i (nlen (len l)) then (bif inr i (len l) then (elAt l i).bind fun x => step x s (fun s' => L k s' (wadd .i64 i 1)) else none) else fin s)
 (hl : l.length < 4611686018427387904) {K : Nat} (hK : l.length < K) (s : σ) : L K s 0 = goL step fin l s := by
 have e : ∀ (i : Nat) (r : List α) (s : σ), goI (fun _ => step) fin i r s = goL step fin r s := by
  intro i r
  induction r generalizing i with
  | nil => intro s; rfl
  | cons x r ih =>
   intro s
   simp only [goI, goL]
   congr 1
   funext s'
   exact ih (i + 1) s'
 have := Ct (fun _ => step) fin h hl K s 0 om om
 rw [e, List.drop_zero] at this
 exact this
theorem DL (a b : Int) : ilt a b = !(ile b a) := by
 unfold ilt ile
 by_cases h : a < b <;> simp [h] <;> omega
theorem Cn (a : Int) : ieq a a = true := by simp [ieq]
theorem CB {a b : Int} : ile a b = true ↔ a ≤ b := decide_eq_true_iff
theorem Ae {a b : Int} : ilt a b = true ↔ a < b := decide_eq_true_iff
theorem Am {a b : Int} : ieq a b = true ↔ a = b := by simp [ieq]
theorem Db {a b : Int} : ile a b = false ↔ b < a := by simp [ile]
theorem Ac {a b : Int} : ilt a b = false ↔ b ≤ a := by simp [ilt]
theorem Ao {a b : Int} : ieq a b = false ↔ a ≠ b := by simp [ieq]
def AQ (n : Int) (e : GEdge) : Int :=
 bif ilt e.From 0 || ile n e.From || ilt e.To 0 || ile n e.To then 4 else bif ilt e.W 0 || ilt 4611686018427387904 e.W then 1 else 0
def BX (d e : GEdge) : Int := bif ieq d.From e.From && ieq d.To e.To then 5 else bif ilt e.From d.From || (ieq d.From e.From && ilt e.To d.To) then 6 else 0
def Az (n : Int) : Option GEdge → List GEdge → Int
 | _, [] => 0
 | prev, e :: r => bif ieq (AQ n e) 0 then (match prev with
  | none => Az n (some e) r
  | some d => bif ieq (BX d e) 0 then Az n (some e) r else BX d e) else AQ n e
def Bc (g : GGraph) : Int := bif ilt g.N 1 || ilt 24 g.N then 1 else bif ilt 80 (nlen (len g.Edges)) then 3 else Az g.N none g.Edges
def BW {α : Type} (l : List α) : Nat → Option α
 | 0 => none
 | i + 1 => l[i]?
theorem JO {i : Nat} (h0 : 0 < i) (h : i < 4611686018427387904) : wsub .i64 (i : Int) 1 = ((i - 1 : Nat) : Int) := by
 show IntKind.i64.wrap ((i : Int) - 1) = _
 rw [IntKind.wrap_i64]; omega
theorem GJ {α : Type} {l : List α} {i : Nat} (h0 : 0 < i) (hi : i < l.length) (hl : l.length < 4611686018427387904) :
 ∃ d, BW l i = some d ∧ wsub .i64 (i : Int) 1 = ((i - 1 : Nat) : Int) ∧ inr ((i - 1 : Nat) : Int) (len l) = true ∧ elAt l ((i - 1 : Nat) : Int) = some d := by
 obtain ⟨j, rfl⟩ : ∃ j, i = j + 1 := ⟨i - 1, by omega⟩
 refine ⟨l[j], by simp [BW], JO h0 om, decide_eq_true ⟨by omega, by show ((j + 1 - 1 : Nat) : Int) < (l.length : Int); omega⟩, ?_⟩
 rw [BA]
 simp
theorem G0 {α : Type} {l : List α} {i : Nat} {x : α} {r : List α} (h : l.drop i = x :: r) : BW l (i + 1) = some x ∧ l.drop (i + 1) = r ∧ i < l.length := by
 have hi := DZ h
 have := List.drop_eq_getElem_cons hi
 rw [h] at this
 injection this with a b
 exact ⟨by simp [BW, hi, a], b.symm, hi⟩
def BH (v : Int) : Int ⊕ Unit := bif ieq v 0 then .inr () else .inl v
theorem Mn (K : Nat) (e : GEdge) (n : Int) : F79 K e n = some (AQ n e) := by
 rw [F79, AQ]
 cases ilt e.From 0 <;> cases ile n e.From <;> cases ilt e.To 0 <;> cases ile n e.To <;> cases ilt e.W 0 <;> cases ilt 4611686018427387904 e.W <;> rfl
theorem Ej {n : Int} {e : GEdge} (h : ieq (AQ n e) 0 = true) : 0 ≤ e.From ∧ e.From < n ∧ 0 ≤ e.To ∧ e.To < n ∧ 0 ≤ e.W ∧ e.W ≤ 4611686018427387904 := by
 rw [AQ] at h
 cases h1 : ilt e.From 0 || ile n e.From || ilt e.To 0 || ile n e.To
 · cases h2 : ilt e.W 0 || ilt 4611686018427387904 e.W
   · simp only [Bool.or_eq_false_iff, Ac, Db] at h1 h2
     omega
   · rw [h1, h2] at h; cases h
 · rw [h1] at h; cases h
theorem MG (K : Nat) {n : Int} {d e : GEdge} (hn : n ≤ 24) (hd : ieq (AQ n d) 0 = true) (he : ieq (AQ n e) 0 = true) :
 F80 K d e = some (bif ieq d.From e.From then d.To - e.To else d.From - e.From) := by
 have h1 := Ej hd
 have h2 := Ej he
 rw [F80]
 have e1 : wsub .i64 d.To e.To = d.To - e.To := by show IntKind.i64.wrap _ = _; rw [IntKind.wrap_i64]; omega
 have e2 : wsub .i64 d.From e.From = d.From - e.From := by show IntKind.i64.wrap _ = _; rw [IntKind.wrap_i64]; omega
 rw [e1, e2]
 cases ieq d.From e.From <;> rfl
theorem Mp {K : Nat} (hK : 100 ≤ K) (g : GGraph) (hl : g.Edges.length ≤ 80) (hn : g.N ≤ 24) : D2 K g K 0 = some (BH (Az g.N none g.Edges)) := by
 let step : Nat → GEdge → Unit → (Unit → Option (Int ⊕ Unit)) → Option (Int ⊕ Unit) := fun i x _ c =>
  (F79 K x g.N).bind fun r => bif (ieq r 0) then (bif (ieq (i : Int) 0) then c () else bif (inr (wsub .i64 (i : Int) 1) (len g.Edges)) then
   (elAt g.Edges (wsub .i64 (i : Int) 1)).bind fun d => (F80 K d x).bind fun r => bif (ieq r 0) then (some (.inl 5)) else bif (ilt 0 r) then (some (.inl 6)) else c ()
   else none) else some (.inl r)
 let fin : Unit → Option (Int ⊕ Unit) := fun _ => some (.inr ())
 have h := Ct (l := g.Edges) (L := fun k (_ : Unit) i => D2 K g k i) step fin (fun k st i hi => rfl) om K () 0 om om
 have hw : ∀ (r : List GEdge) (i : Nat), g.Edges.drop i = r → (∀ d, BW g.Edges i = some d → ieq (AQ g.N d) 0 = true) → (i = 0 ∨ i ≤ g.Edges.length) → goI step fin i r () = some (BH (Az g.N (BW g.Edges i) r)) := by
  intro r
  induction r with
  | nil => intro i _ _ _; rfl
  | cons x r ih =>
   intro i hr hp _
   obtain ⟨n1, n2, hi⟩ := G0 hr
   rw [goI]
   show ((F79 K x g.N).bind fun r' => bif (ieq r' 0) then (bif (ieq (i : Int) 0) then goI step fin (i + 1) r () else bif (inr (wsub .i64 (i : Int) 1) (len g.Edges)) then
    (elAt g.Edges (wsub .i64 (i : Int) 1)).bind fun d => (F80 K d x).bind fun r' => bif (ieq r' 0) then (some (.inl 5)) else bif (ilt 0 r') then (some (.inl 6)) else goI step fin (i + 1) r ()
    else none) else some (.inl r')) = _
   rw [Mn, bS]
   cases hb : ieq (AQ g.N x) 0
   · have hne : AQ g.N x ≠ 0 := Ao.1 hb
     cases BW g.Edges i <;> simp only [Az, hb, cF, BH]
   · have nx : goI step fin (i + 1) r () = some (BH (Az g.N (some x) r)) := by
      have := ih (i + 1) n2 (fun d hd => by rw [n1] at hd; cases hd; exact hb) (.inr om)
      rw [n1] at this; exact this
     rw [cT, nx]
     cases i with
     | zero =>
      have : ieq ((0 : Nat) : Int) 0 = true := rfl
      rw [this, cT]
      show _ = some (BH (Az g.N none (x :: r)))
      rw [Az, hb]; rfl
     | succ j =>
      obtain ⟨d, p1, p2, p3, p4⟩ := GJ (l := g.Edges) (i := j + 1) om hi om
      have hd := hp d p1
      have : ieq ((j + 1 : Nat) : Int) 0 = false := Ao.2 om
      rw [this, cF, p2, p3, cT, p4, bS, MG K hn hd hb, bS, p1, Az, hb, cT]
      have b1 := Ej hd
      have b2 := Ej hb
      by_cases q1 : d.From = x.From
      · have i1 : ieq d.From x.From = true := Am.2 q1
        rw [i1, cT]
        by_cases q2 : d.To = x.To
        · have o5 : BX d x = 5 := by simp [BX, Am.2 q1, Am.2 q2]
          have : ieq (d.To - x.To) 0 = true := Am.2 om
          rw [this, cT, o5]; rfl
        · have : ieq (d.To - x.To) 0 = false := Ao.2 om
          rw [this, cF]
          have j2 : ieq d.To x.To = false := Ao.2 q2
          by_cases q3 : x.To < d.To
          · have o6 : BX d x = 6 := by simp [BX, i1, j2, Ae.2 q3]
            have : ilt 0 (d.To - x.To) = true := Ae.2 om
            rw [this, cT, o6]; rfl
          · have o0 : BX d x = 0 := by simp [BX, i1, j2, Ac.2 (show d.To ≤ x.To by omega), Ac.2 (show d.From ≤ x.From by omega)]
            have : ilt 0 (d.To - x.To) = false := Ac.2 om
            rw [this, cF, o0]; rfl
      · have i1 : ieq d.From x.From = false := Ao.2 q1
        rw [i1, cF]
        have : ieq (d.From - x.From) 0 = false := Ao.2 om
        rw [this, cF]
        by_cases q3 : x.From < d.From
        · have o6 : BX d x = 6 := by simp [BX, i1, Ae.2 q3]
          have : ilt 0 (d.From - x.From) = true := Ae.2 om
          rw [this, cT, o6]; rfl
        · have o0 : BX d x = 0 := by simp [BX, i1, Ac.2 (show d.From ≤ x.From by omega)]
          have : ilt 0 (d.From - x.From) = false := Ac.2 om
          rw [this, cF, o0]; rfl
 have := hw g.Edges 0 rfl (fun d hd => by cases hd) (.inl rfl)
 rw [List.drop_zero, this] at h
 exact h
theorem IJ (v : Int) : (some (BH v)).bind (fun y => Sum.elim (fun w => some w) (fun w => some 0) y) = some v := by
 unfold BH
 cases h : ieq v 0
 · rfl
 · have : v = 0 := Am.1 h
   subst this; rfl
theorem HQ {K : Nat} (hK : 100 ≤ K) (g : GGraph) : F56 K g = some (Bc g) := by
 rw [F56, Bc]
 cases ilt g.N 1
 · cases h2 : ilt 24 g.N
   · cases h3 : ilt 80 (nlen (len g.Edges))
     · have hl : g.Edges.length ≤ 80 := by have := Ac.1 h3; simp only [nlen, len] at this; omega
       have hn := Ac.1 h2
       rw [Mp hK g hl hn]
       exact IJ _
     · rfl
   · rfl
 · rfl
theorem Lr {K : Nat} (hK : 100 ≤ K) (g : GGraph) (hl : g.Edges.length ≤ 80) : Dk K g K 0 = some (BH (Az g.N none g.Edges)) := by
 let chk : Nat → GEdge → Option (Int ⊕ Unit) → Option (Int ⊕ Unit) := fun i x c =>
  bif (ilt 0 (i : Int)) then
   (bif (inr (wsub .i64 (i : Int) 1) (len g.Edges)) then
   (elAt g.Edges (wsub .i64 (i : Int) 1)).bind fun d =>
   bif (ieq d.From x.From) then
    (bif (ieq d.To x.To) then (some (.inl 5)) else bif (ilt x.From d.From) then (some (.inl 6)) else bif (ilt x.To d.To) then (some (.inl 6)) else c)
   else bif (ilt x.From d.From) then (some (.inl 6)) else c
   else none)
  else c
 let step : Nat → GEdge → Unit → (Unit → Option (Int ⊕ Unit)) → Option (Int ⊕ Unit) := fun i x _ c =>
  bif (ilt x.From 0) then (some (.inl 4)) else bif (ilt x.To 0) then (some (.inl 4)) else bif (ile g.N x.From) then (some (.inl 4)) else bif (ile g.N x.To) then (some (.inl 4)) else
  bif (ilt x.W 0) then (some (.inl 1)) else bif (ilt 4611686018427387904 x.W) then (some (.inl 1)) else chk i x (c ())
 let fin : Unit → Option (Int ⊕ Unit) := fun _ => some (.inr ())
 have h := Ct (l := g.Edges) (L := fun k (_ : Unit) i => Dk K g k i) step fin (fun k st i hi => rfl) om K () 0 om om
 have hstep : ∀ i x c, step i x () c = bif ieq (AQ g.N x) 0 then chk i x (c ()) else some (.inl (AQ g.N x)) := by
  intro i x c
  show (bif (ilt x.From 0) then (some (.inl 4)) else bif (ilt x.To 0) then (some (.inl 4)) else bif (ile g.N x.From) then (some (.inl 4)) else bif (ile g.N x.To) then (some (.inl 4)) else
   bif (ilt x.W 0) then (some (.inl 1)) else bif (ilt 4611686018427387904 x.W) then (some (.inl 1)) else chk i x (c ())) = _
  rw [AQ]
  cases ilt x.From 0 <;> cases ile g.N x.From <;> cases ilt x.To 0 <;> cases ile g.N x.To <;> cases ilt x.W 0 <;> cases ilt 4611686018427387904 x.W <;> rfl
 have hw : ∀ (r : List GEdge) (i : Nat), g.Edges.drop i = r → goI step fin i r () = some (BH (Az g.N (BW g.Edges i) r)) := by
  intro r
  induction r with
  | nil => intro i _; rfl
  | cons x r ih =>
   intro i hr
   obtain ⟨n1, n2, hi⟩ := G0 hr
   rw [goI, hstep]
   cases hb : ieq (AQ g.N x) 0
   · have hne : AQ g.N x ≠ 0 := Ao.1 hb
     cases BW g.Edges i <;> simp only [Az, hb, cF, BH]
   · have nx := ih (i + 1) n2
     rw [n1] at nx
     rw [cT, nx]
     cases i with
     | zero =>
      show some (BH (Az g.N (some x) r)) = some (BH (Az g.N none (x :: r)))
      rw [Az, hb]; rfl
     | succ j =>
      obtain ⟨d, p1, p2, p3, p4⟩ := GJ (l := g.Edges) (i := j + 1) om hi om
      have : ilt 0 ((j + 1 : Nat) : Int) = true := Ae.2 om
      show (bif (ilt 0 ((j + 1 : Nat) : Int)) then
       (bif (inr (wsub .i64 ((j + 1 : Nat) : Int) 1) (len g.Edges)) then
       (elAt g.Edges (wsub .i64 ((j + 1 : Nat) : Int) 1)).bind fun d =>
       bif (ieq d.From x.From) then
        (bif (ieq d.To x.To) then (some (.inl 5)) else bif (ilt x.From d.From) then (some (.inl 6)) else bif (ilt x.To d.To) then (some (.inl 6)) else some (BH (Az g.N (some x) r)))
       else bif (ilt x.From d.From) then (some (.inl 6)) else some (BH (Az g.N (some x) r))
       else none)
      else some (BH (Az g.N (some x) r))) = _
      rw [this, cT, p2, p3, cT, p4, bS, p1, Az, hb, cT, BX]
      cases hf : ieq d.From x.From
      · cases ilt x.From d.From <;> rfl
      · have : ilt x.From d.From = false := Ac.2 (by have := Am.1 hf; omega)
        rw [this]
        cases ieq d.To x.To <;> cases ilt x.To d.To <;> rfl
 have := hw g.Edges 0 rfl
 rw [List.drop_zero, this] at h
 exact h
theorem Me {K : Nat} (hK : 100 ≤ K) (g : GGraph) : F47 K g = some (Bc g) := by
 rw [F47, Bc]
 cases ilt g.N 1
 · cases h2 : ilt 24 g.N
   · cases h3 : ilt 80 (nlen (len g.Edges))
     · have hl : g.Edges.length ≤ 80 := by have := Ac.1 h3; simp only [nlen, len] at this; omega
       rw [Lr hK g hl]
       exact IJ _
     · rfl
   · rfl
 · rfl
theorem B4 {g : GGraph} (h : ieq (Bc g) 0 = true) : 1 ≤ g.N ∧ g.N ≤ 24 ∧ g.Edges.length ≤ 80 ∧ Az g.N none g.Edges = 0 := by
 rw [Bc] at h
 cases h1 : ilt g.N 1 || ilt 24 g.N
 · rw [h1, cF] at h
   cases h2 : ilt 80 (nlen (len g.Edges))
   · rw [h2, cF] at h
     simp only [Bool.or_eq_false_iff, Ac] at h1
     have := Ac.1 h2
     simp only [nlen, len] at this
     exact ⟨by omega, by omega, by omega, Am.1 h⟩
   · rw [h2] at h; cases h
 · rw [h1] at h; cases h
theorem Fz {n : Int} : ∀ {l : List GEdge} {p : Option GEdge}, Az n p l = 0 → ∀ e ∈ l, ieq (AQ n e) 0 = true
 | [], _, _, e, h => by cases h
 | x :: l, p, h, e, he => by
  unfold Az at h
  cases hb : ieq (AQ n x) 0
  · rw [hb, cF] at h; rw [h] at hb; cases hb
  · rw [hb, cT] at h
    rcases List.mem_cons.1 he with q | q
    · subst q; exact hb
    · cases p with
      | none => exact Fz h e q
      | some d =>
       dsimp only at h
       cases ho : ieq (BX d x) 0
       · rw [ho, cF] at h; rw [h] at ho; cases ho
       · rw [ho, cT] at h; exact Fz h e q
theorem Bv : areFns [(fnV 81), (fnV 82), (fnV 83)] [81, 82, 83] = true := rfl
theorem Bg : areFns [(fnV 81), (fnV 82), (fnV 83)] [81, 82, 85] = false := rfl
theorem Bi : areFns [(fnV 81), (fnV 82), (fnV 83)] [86, 82, 87] = false := rfl
theorem A1 : areFns [(fnV 81), (fnV 82), (fnV 83)] [88, 89, 87] = false := rfl
theorem Bu : areFns [(fnV 81), (fnV 82), (fnV 83)] [90, 0, 87] = false := rfl
theorem Bw : areFns [(fnV 81), (fnV 82), (fnV 83)] [0, 0, 0] = false := rfl
theorem AZ : areFns [(fnV 81), (fnV 82), (fnV 85)] [81, 82, 83] = false := rfl
theorem Bj : areFns [(fnV 81), (fnV 82), (fnV 85)] [81, 82, 85] = true := rfl
theorem AU : areFns [(fnV 81), (fnV 82), (fnV 85)] [86, 82, 87] = false := rfl
theorem Bn : areFns [(fnV 81), (fnV 82), (fnV 85)] [88, 89, 87] = false := rfl
theorem Br : areFns [(fnV 81), (fnV 82), (fnV 85)] [90, 0, 87] = false := rfl
theorem Bf : areFns [(fnV 81), (fnV 82), (fnV 85)] [0, 0, 0] = false := rfl
theorem Ba : areFns [(fnV 86), (fnV 82), (fnV 87)] [81, 82, 83] = false := rfl
theorem A5 : areFns [(fnV 86), (fnV 82), (fnV 87)] [81, 82, 85] = false := rfl
theorem Bz : areFns [(fnV 86), (fnV 82), (fnV 87)] [86, 82, 87] = true := rfl
theorem A9 : areFns [(fnV 86), (fnV 82), (fnV 87)] [88, 89, 87] = false := rfl
theorem A3 : areFns [(fnV 86), (fnV 82), (fnV 87)] [90, 0, 87] = false := rfl
theorem Bk : areFns [(fnV 86), (fnV 82), (fnV 87)] [0, 0, 0] = false := rfl
theorem AW : areFns [(fnV 88), (fnV 89), (fnV 87)] [81, 82, 83] = false := rfl
theorem Bt : areFns [(fnV 88), (fnV 89), (fnV 87)] [81, 82, 85] = false := rfl
theorem AV : areFns [(fnV 88), (fnV 89), (fnV 87)] [86, 82, 87] = false := rfl
theorem Be : areFns [(fnV 88), (fnV 89), (fnV 87)] [88, 89, 87] = true := rfl
theorem AY : areFns [(fnV 88), (fnV 89), (fnV 87)] [90, 0, 87] = false := rfl
theorem Bm : areFns [(fnV 88), (fnV 89), (fnV 87)] [0, 0, 0] = false := rfl
theorem Bl : areFns [(fnV 90), .nilFunc, (fnV 87)] [81, 82, 83] = false := rfl
theorem Bs : areFns [(fnV 90), .nilFunc, (fnV 87)] [81, 82, 85] = false := rfl
theorem A6 : areFns [(fnV 90), .nilFunc, (fnV 87)] [86, 82, 87] = false := rfl
theorem Bb : areFns [(fnV 90), .nilFunc, (fnV 87)] [88, 89, 87] = false := rfl
theorem A8 : areFns [(fnV 90), .nilFunc, (fnV 87)] [90, 0, 87] = true := rfl
theorem A7 : areFns [(fnV 90), .nilFunc, (fnV 87)] [0, 0, 0] = false := rfl
theorem AX : areFns [.nilFunc, .nilFunc, .nilFunc] [81, 82, 83] = false := rfl
theorem Bx : areFns [.nilFunc, .nilFunc, .nilFunc] [81, 82, 85] = false := rfl
theorem Bd : areFns [.nilFunc, .nilFunc, .nilFunc] [86, 82, 87] = false := rfl
theorem Bo : areFns [.nilFunc, .nilFunc, .nilFunc] [88, 89, 87] = false := rfl
theorem Bh : areFns [.nilFunc, .nilFunc, .nilFunc] [90, 0, 87] = false := rfl
theorem Bp : areFns [.nilFunc, .nilFunc, .nilFunc] [0, 0, 0] = true := rfl
theorem Gt (K : Nat) : F57 K 1 = some (Grule.mk (fnV 81) (fnV 82) true (fnV 83), true) := rfl
theorem Gy (K : Nat) : F57 K 2 = some (Grule.mk (fnV 86) (fnV 82) false (fnV 87), true) := rfl
theorem Ge (K : Nat) : F57 K 3 = some (Grule.mk (fnV 81) (fnV 82) true (fnV 85), true) := rfl
theorem G2 (K : Nat) : F57 K 4 = some (Grule.mk (fnV 88) (fnV 89) false (fnV 87), true) := rfl
theorem GR (K : Nat) : F57 K 5 = some (Grule.mk (fnV 90) .nilFunc false (fnV 87), true) := rfl
theorem II (K : Nat) {p : Int} (h : p < 1 ∨ 5 < p) : F57 K p = some (Grule.mk .nilFunc .nilFunc false .nilFunc, false) := by
 rw [F57, Ao.2 (by omega : p ≠ 1), Ao.2 (by omega : p ≠ 3), Ao.2 (by omega : p ≠ 2), Ao.2 (by omega : p ≠ 4), Ao.2 (by omega : p ≠ 5)]; rfl
theorem G4 (p : Int) : p = 1 ∨ p = 2 ∨ p = 3 ∨ p = 4 ∨ p = 5 ∨ (p < 1 ∨ 5 < p) := by omega
def E8 (n : Int) (j : GJob) : Bool := ilt j.Source 0 || (ile n j.Source || (ilt j.Limit 0 || (ilt 40 j.Limit || (ilt j.Parts 1 || ilt 6 j.Parts))))
def An (p : Int) : Bool := ilt p 1 || ilt 5 p
def Ah (g : GGraph) (j : GJob) : Int := bif ieq (Bc g) 0 then (bif An j.Prog || E8 g.N j then 1 else 0) else Bc g
theorem EE (n : Int) (j : GJob) : (bif (ilt j.Source 0) then (some 1) else bif (ile n j.Source) then (some 1) else bif (ilt j.Limit 0) then (some 1) else bif (ilt 40 j.Limit) then (some 1) else bif (ilt j.Parts 1) then (some 1) else bif (ilt 6 j.Parts) then (some 1) else some 0) = some (bif E8 n j then 1 else 0 : Int) := by
 unfold E8
 cases ilt j.Source 0 <;> cases ile n j.Source <;> cases ilt j.Limit 0 <;> cases ilt 40 j.Limit <;> cases ilt j.Parts 1 <;> cases ilt 6 j.Parts <;> rfl
theorem MF {K : Nat} (hK : 100 ≤ K) (g : GGraph) (j : GJob) : F19 K g j = some (Ah g j) := by
 rw [F19, Me hK, bS, Ah]
 cases ieq (Bc g) 0
 · rfl
 · rw [cT, cT, EE, An]
   cases ilt j.Prog 1 <;> cases ilt 5 j.Prog <;> rfl
theorem DO {K : Nat} (hK : 100 ≤ K) (g : GGraph) (j : GJob) : F31 K g j = some (Ah g j) := by
 rw [F31, HQ hK, bS, Ah]
 cases ieq (Bc g) 0
 · rfl
 · rw [cT, cT]
   rcases G4 j.Prog with h | h | h | h | h | h
   · have hb : An j.Prog = false := by rw [h]; rfl
     rw [hb, Bool.false_or, h, Gt]
     simp only [bS, cT, cF, Bv, Bg, Bi, A1, Bu, Bw, AZ, Bj, AU, Bn, Br, Bf, Ba, A5, Bz, A9, A3, Bk, AW, Bt, AV, Be, AY, Bm, Bl, Bs, A6, Bb, A8, A7, AX, Bx, Bd, Bo, Bh, Bp, EE]
   · have hb : An j.Prog = false := by rw [h]; rfl
     rw [hb, Bool.false_or, h, Gy]
     simp only [bS, cT, cF, Bv, Bg, Bi, A1, Bu, Bw, AZ, Bj, AU, Bn, Br, Bf, Ba, A5, Bz, A9, A3, Bk, AW, Bt, AV, Be, AY, Bm, Bl, Bs, A6, Bb, A8, A7, AX, Bx, Bd, Bo, Bh, Bp, EE]
   · have hb : An j.Prog = false := by rw [h]; rfl
     rw [hb, Bool.false_or, h, Ge]
     simp only [bS, cT, cF, Bv, Bg, Bi, A1, Bu, Bw, AZ, Bj, AU, Bn, Br, Bf, Ba, A5, Bz, A9, A3, Bk, AW, Bt, AV, Be, AY, Bm, Bl, Bs, A6, Bb, A8, A7, AX, Bx, Bd, Bo, Bh, Bp, EE]
   · have hb : An j.Prog = false := by rw [h]; rfl
     rw [hb, Bool.false_or, h, G2]
     simp only [bS, cT, cF, Bv, Bg, Bi, A1, Bu, Bw, AZ, Bj, AU, Bn, Br, Bf, Ba, A5, Bz, A9, A3, Bk, AW, Bt, AV, Be, AY, Bm, Bl, Bs, A6, Bb, A8, A7, AX, Bx, Bd, Bo, Bh, Bp, EE]
   · have hb : An j.Prog = false := by rw [h]; rfl
     rw [hb, Bool.false_or, h, GR]
     simp only [bS, cT, cF, Bv, Bg, Bi, A1, Bu, Bw, AZ, Bj, AU, Bn, Br, Bf, Ba, A5, Bz, A9, A3, Bk, AW, Bt, AV, Be, AY, Bm, Bl, Bs, A6, Bb, A8, A7, AX, Bx, Bd, Bo, Bh, Bp, EE]
   · have hb : An j.Prog = true := by
      unfold An
      rcases h with h | h
      · rw [Ae.2 h]; rfl
      · rw [Ae.2 h, Bool.or_true]
     rw [hb, Bool.true_or, II K h]
     simp only [bS, cT, cF, Bv, Bg, Bi, A1, Bu, Bw, AZ, Bj, AU, Bn, Br, Bf, Ba, A5, Bz, A9, A3, Bk, AW, Bt, AV, Be, AY, Bm, Bl, Bs, A6, Bb, A8, A7, AX, Bx, Bd, Bo, Bh, Bp]
theorem Ca {g : GGraph} {j : GJob} (h : ieq (Ah g j) 0 = true) : ieq (Bc g) 0 = true ∧ 1 ≤ j.Prog ∧ j.Prog ≤ 5 ∧ 0 ≤ j.Source ∧ j.Source < g.N ∧ 0 ≤ j.Limit ∧ j.Limit ≤ 40 ∧ 1 ≤ j.Parts ∧ j.Parts ≤ 6 := by
 rw [Ah] at h
 cases hg : ieq (Bc g) 0
 · rw [hg, cF] at h; rw [h] at hg; cases hg
 · rw [hg, cT] at h
   cases hb : An j.Prog || E8 g.N j
   · simp only [An, E8, Bool.or_eq_false_iff, Ac, Db] at hb
     obtain ⟨⟨h1, h2⟩, h3, h4, h5, h6, h7, h8⟩ := hb
     exact ⟨rfl, h1, h2, h3, h4, h5, h6, h7, h8⟩
   · rw [hb] at h; cases h
theorem Fa {σ β : Type} {N : Int} {L : Nat → σ → Int → Option β} (step : Nat → σ → (σ → Option β) → Option β) (fin : σ → Option β)
 (h : ∀ k s (i : Nat), i ≤ N.toNat → L (k + 1) s i = bif ilt i N then step i s (fun s' => L k s' (wadd .i64 i 1)) else fin s) (hN : N ≤ 1000000) {K : Nat} (hK : N.toNat < K) (s : σ) :
 L K s 0 = goL step fin (List.range N.toNat) s := by
 have hw : ∀ (k : Nat) (s : σ) (i : Nat), N.toNat - i < k → i ≤ N.toNat → L k s i = goL step fin ((List.range N.toNat).drop i) s := by
  intro k
  induction k with
  | zero => intro s i h; omega
  | succ k ih =>
   intro s i hk hi
   rw [h k s i hi]
   by_cases hlt : i < N.toNat
   · have e : (List.range N.toNat).drop i = i :: (List.range N.toNat).drop (i + 1) := by
      rw [List.drop_eq_getElem_cons (by simpa using hlt)]; simp
     rw [Ae.2 (by omega : (i : Int) < N), cT, e, goL]
     congr 1
     funext s'
     rw [FS om]
     exact ih s' (i + 1) om om
   · have e : (List.range N.toNat).drop i = [] := List.drop_eq_nil_of_le (by simp; omega)
     rw [Ac.2 (by omega : N ≤ (i : Int)), cF, e]; rfl
 have := hw K s 0 om om
 rw [List.drop_zero] at this
 exact this
def AN (j : GJob) (v : Int) : Int := bif ilt v 0 || (ilt j.Parts 1 || ilt 6 j.Parts) then -1 else v % j.Parts
theorem Gq {a b : Int} (h : 0 ≤ a) : wrem a b = a % b := by
 show Int.tmod _ _ = _
 exact Int.tmod_eq_emod_of_nonneg h
theorem Hf (K : Nat) (j : GJob) (v : Int) : F94 K j v = some (AN j v) := by
 rw [F94, AN]
 cases h0 : ilt v 0
 · cases h1 : ilt j.Parts 1
   · cases h2 : ilt 6 j.Parts
     · have v0 := Ac.1 h0
       have p1 := Ac.1 h1
       have hz : izero j.Parts = false := decide_eq_false om
       rw [hz, Gq v0]; rfl
     · rfl
   · rfl
 · rfl
def C9 (n parts : Nat) (p : Int) : List Nat := (List.range n).filter fun v => ieq ((v % parts : Nat) : Int) p
def Al (g : GGraph) (j : GJob) (p : Int) : List Nat := C9 g.N.toNat j.Parts.toNat p
theorem Kg {K : Nat} (hK : 100 ≤ K) {g : GGraph} {j : GJob} (h1 : 1 ≤ j.Parts) (h2 : j.Parts ≤ 6) (hn : g.N ≤ 24) (p : Int) : F39 K g j p = some ((Al g j p).map Int.ofNat) := by
 let step : Nat → List Int → (List Int → Option (List Int)) → Option (List Int) := fun i s c =>
  bif (izero j.Parts) then none else bif (ieq (wrem (i : Int) j.Parts) p) then (bif (apok (len s) 1 8) then c (appL s [(i : Int)]) else none) else c s
 have h := Fa (N := g.N) (L := fun k s i => DX K g j p k s i) step (fun s => some s) (fun k s i _ => rfl) om (K := K) om []
 have hz : izero j.Parts = false := decide_eq_false om
 obtain ⟨q, hq⟩ := Int.eq_ofNat_of_zero_le (show 0 ≤ j.Parts by omega)
 have hw : ∀ (l : List Nat) (s : List Int), s.length + l.length ≤ 1000 → goL step (fun s => some s) l s = some (s ++ (l.filter fun v => ieq ((v % j.Parts.toNat : Nat) : Int) p).map Int.ofNat) := by
  intro l
  induction l with
  | nil => intro s _; simp [goL]
  | cons v l ih =>
   intro s hs
   simp only [List.length_cons] at hs
   rw [goL]
   show (bif (izero j.Parts) then none else bif (ieq (wrem (v : Int) j.Parts) p) then (bif (apok (len s) 1 8) then goL step (fun s => some s) l (appL s [(v : Int)]) else none) else goL step (fun s => some s) l s) = _
   have e : wrem (v : Int) j.Parts = ((v % j.Parts.toNat : Nat) : Int) := by rw [Gq om, hq]; simp
   rw [hz, cF, e, List.filter_cons]
   cases ieq ((v % j.Parts.toNat : Nat) : Int) p
   · rw [cF, ih s om]; rfl
   · have ha : apok (len s) 1 8 = true := decide_eq_true ⟨by show s.length + 1 ≤ _; omega, by show (s.length + 1) * 8 ≤ _; omega⟩
     rw [cT, ha, cT, ih _ (by simp [appL]; omega)]
     simp [appL]
 rw [hw _ _ (by simp; omega), List.nil_append] at h
 have h' : DX K g j p K [] 0 = _ := h
 rw [F39, h']; rfl
theorem Mo : ∀ parts < 7, 0 < parts → ∀ n < 25, ∀ p < parts, ((List.range n).filter fun v => v % parts == p).length = (n + parts - 1 - p) / parts := by decide +kernel
def AJ (g : GGraph) (j : GJob) (p : Int) : Int := ((Al g j p).length : Int)
theorem KI {n parts : Nat} (h1 : 0 < parts) (h2 : parts < 7) (hn : n < 25) {p : Nat} (hp : p < parts) : (C9 n parts (p : Int)).length = (n + parts - 1 - p) / parts := by
 rw [← Mo parts h2 h1 n hn p hp, C9]
 congr 1
 refine List.filter_congr fun v _ => ?_
 rw [Bool.eq_iff_iff, Am, beq_iff_eq]; omega
theorem Hc {n parts : Nat} (h1 : 0 < parts) {p : Int} (hp : p < 0 ∨ (parts : Int) ≤ p) : C9 n parts p = [] := by
 rw [C9, List.filter_eq_nil_iff]
 intro v _ hc
 have := Am.1 hc
 have := Nat.mod_lt v h1
 omega
theorem LY {K : Nat} (hK : 100 ≤ K) (g : GGraph) (j : GJob) (p : Int) (hp : -9223372036854775808 ≤ p ∧ p ≤ 9223372036854775807) : EX K g j p = some (bif ieq (Ah g j) 0 then AJ g j p else 0) := by
 rw [EX, DO hK, bS]
 cases hc : ieq (Ah g j) 0
 · rfl
 · obtain ⟨hg, p1, p2, p3, p4, p5, p6, p7, p8⟩ := Ca hc
   obtain ⟨g1, g2, _, _⟩ := B4 hg
   rw [cT, cT, Fy]
   cases h0 : ilt p 0
   · cases h1 : ile j.Parts p
     · have q0 := Ac.1 h0
       have q1 := Db.1 h1
       obtain ⟨q, rfl⟩ := Int.eq_ofNat_of_zero_le q0
       have hz : izero j.Parts = false := decide_eq_false om
       have e1 : wsub .i64 g.N (q : Int) = g.N - q := by show IntKind.i64.wrap _ = _; rw [IntKind.wrap_i64]; omega
       have e2 : wadd .i64 (g.N - q) j.Parts = g.N - q + j.Parts := by show IntKind.i64.wrap _ = _; rw [IntKind.wrap_i64]; omega
       have e3 : wsub .i64 (g.N - q + j.Parts) 1 = g.N - q + j.Parts - 1 := by show IntKind.i64.wrap _ = _; rw [IntKind.wrap_i64]; omega
       obtain ⟨n, hn⟩ := Int.eq_ofNat_of_zero_le (show 0 ≤ g.N by omega)
       obtain ⟨m, hm⟩ := Int.eq_ofNat_of_zero_le (show 0 ≤ j.Parts by omega)
       have hnum : g.N - (q : Int) + j.Parts - 1 = ((n + m - 1 - q : Nat) : Int) := by omega
       obtain ⟨d, hd⟩ : ∃ d, (n + m - 1 - q) / m = d := ⟨_, rfl⟩
       have e4 : wquo .i64 (g.N - q + j.Parts - 1) j.Parts = (d : Int) := by
        show IntKind.i64.wrap ((g.N - q + j.Parts - 1).tdiv j.Parts) = _
        rw [hnum, hm, Int.tdiv_eq_ediv_of_nonneg om]
        have hle : d ≤ n + m - 1 - q := hd ▸ Nat.div_le_self _ _
        have : (((n + m - 1 - q : Nat) : Int) / ((m : Nat) : Int)) = (d : Int) := by rw [← hd]; rfl
        rw [this, IntKind.wrap_i64]; omega
       have ecs : AJ g j (q : Int) = (d : Int) := by
        unfold AJ Al
        have a1 : g.N.toNat = n := by omega
        have a2 : j.Parts.toNat = m := by omega
        rw [a1, a2, KI om om om om, hd]
       rw [cF, cF, hz, cF, e1, e2, e3, e4, bS, ecs]
       cases hpos : ilt 0 (d : Int)
       · have := Ac.1 hpos
         have : d = 0 := by omega
         rw [this]; rfl
       · rfl
     · have q1 := CB.1 h1
       have : AJ g j p = 0 := by
        unfold AJ Al
        rw [Hc om (.inr om)]; rfl
       rw [this]; rfl
   · have q0 := Ae.1 h0
     have : AJ g j p = 0 := by
      unfold AJ Al
      rw [Hc om (.inl q0)]; rfl
     rw [this]; rfl
theorem Gl {g : GGraph} {j : GJob} (h1 : 1 ≤ j.Parts) {p : Int} {v : Nat} : v ∈ Al g j p ↔ (v : Int) < g.N ∧ (v : Int) % j.Parts = p := by
 obtain ⟨m, hm⟩ := Int.eq_ofNat_of_zero_le (show 0 ≤ j.Parts by omega)
 simp only [Al, C9, List.mem_filter, List.mem_range, Am]
 have : j.Parts.toNat = m := by omega
 rw [this, hm]
 constructor
 · rintro ⟨a, b⟩; exact ⟨by omega, by rw [← b]; simp⟩
 · rintro ⟨a, b⟩; exact ⟨by omega, by rw [← b]; simp⟩
def BE (n parts p : Int) : Int → List GMsg → Bool
 | _, [] => true
 | prev, m :: r => ilt prev m.To && (ilt m.To n && (ieq (m.To % parts) p && BE n parts p m.To r))
def BT (b : Bool) : Unit ⊕ Unit := bif b then .inr () else .inl ()
theorem I5 (b : Bool) : (some (BT b)).bind (fun y => Sum.elim (fun w => some false) (fun w => some true) y) = some b := by cases b <;> rfl
theorem EA {a b : Int} : ile a b = !(ilt b a) := by
 unfold ile ilt; by_cases h : b < a <;> simp [h] <;> omega
def As (g : GGraph) (j : GJob) (x : GPart) : Bool :=
 ieq (Ah g j) 0 && (ile 0 x.P && (ilt x.P j.Parts && (ile 0 x.Step && (ile x.Step 40 && (ieq (x.Vals.length : Int) (AJ g j x.P) && (ieq (x.Rest.length : Int) (AJ g j x.P) && BE g.N j.Parts x.P (-1) x.In))))))
theorem LI {K : Nat} (g : GGraph) (j : GJob) (x : GPart) (hp : 1 ≤ j.Parts) (hl : x.In.length < 1000000) (hK : x.In.length < K) : Ek K g j x K (-1) 0 = some (BT (BE g.N j.Parts x.P (-1) x.In)) := by
 let step : GMsg → Int → (Int → Option (Unit ⊕ Unit)) → Option (Unit ⊕ Unit) := fun m s c =>
  bif (ile m.To s) then (some (.inl ())) else bif (ile g.N m.To) then (some (.inl ())) else bif (izero j.Parts) then none else bif (ieq (wrem m.To j.Parts) x.P) then c m.To else some (.inl ())
 have h := Aq (l := x.In) (L := fun k s i => Ek K g j x k s i) step (fun _ => some (.inr ())) (fun k s i _ => rfl) om (K := K) hK (-1)
 have hz : izero j.Parts = false := decide_eq_false om
 have hw : ∀ (l : List GMsg) (s : Int), -1 ≤ s → goL step (fun _ => some (.inr ())) l s = some (BT (BE g.N j.Parts x.P s l)) := by
  intro l
  induction l with
  | nil => intro s _; rfl
  | cons m l ih =>
   intro s hs
   rw [goL]
   show (bif (ile m.To s) then (some (.inl ())) else bif (ile g.N m.To) then (some (.inl ())) else bif (izero j.Parts) then none else bif (ieq (wrem m.To j.Parts) x.P) then goL step (fun _ => some (.inr ())) l m.To else some (.inl ())) = _
   rw [BE, hz, EA, EA]
   cases h1 : ilt s m.To
   · rfl
   · have h1' := Ae.1 h1
     rw [Gq om, ih m.To om]
     cases ilt m.To g.N <;> cases ieq (m.To % j.Parts) x.P <;> rfl
 rw [hw _ _ om] at h
 exact h
theorem GE {K : Nat} (hK : 1000 ≤ K) (g : GGraph) (j : GJob) (x : GPart) (hl : x.In.length < 1000000) (hk : x.In.length < K) (hp : -9223372036854775808 ≤ x.P ∧ x.P ≤ 9223372036854775807) : F91 K g j x = some (As g j x) := by
 rw [F91, DO om, bS, As]
 cases hc : ieq (Ah g j) 0
 · rfl
 · obtain ⟨hg, p1, p2, p3, p4, p5, p6, p7, p8⟩ := Ca hc
   rw [cT, LY om g j x.P hp, hc, LI g j x p7 hl hk]
   have n1 : nlen (len x.Vals) = (x.Vals.length : Int) := rfl
   have n2 : nlen (len x.Rest) = (x.Rest.length : Int) := rfl
   rw [DL x.P 0, EA (a := j.Parts), DL x.Step 0, DL 40 x.Step, n1, n2, cT, bS, I5]
   cases ile 0 x.P <;> cases ilt x.P j.Parts <;> cases ile 0 x.Step <;> cases ile x.Step 40 <;> cases ieq (x.Vals.length : Int) (AJ g j x.P) <;> cases ieq (x.Rest.length : Int) (AJ g j x.P) <;> rfl
theorem Kq {g : GGraph} {j : GJob} (hp : 1 ≤ j.Parts) (p to : Int) : (((Al g j p).map Int.ofNat).any fun v => ieq v to) = (ile 0 to && (ilt to g.N && ieq (to % j.Parts) p)) := by
 rw [Bool.eq_iff_iff]
 simp only [List.any_map, List.any_eq_true, Function.comp, Bool.and_eq_true, CB, Ae, Am]
 constructor
 · rintro ⟨v, hv, e⟩
   have := (Gl hp).1 hv
   have e' : (v : Int) = to := e
   rw [← e']; exact ⟨by omega, this⟩
 · rintro ⟨h0, h1, h2⟩
   obtain ⟨v, rfl⟩ := Int.eq_ofNat_of_zero_le h0
   exact ⟨v, (Gl hp).2 ⟨h1, h2⟩, rfl⟩
theorem KX {K : Nat} (x : GPart) (l : List Int) (v : Int) (m : GMsg) (hl : l.length < 1000000) (hk : l.length < K) : CK K x l v m K false 0 = some (l.any fun v => ieq v m.To) := by
 have h := Aq (l := l) (L := fun k s i => CK K x l v m k s i) (fun y s c => bif s then c true else c (ieq y m.To)) (fun s => some s) (fun k s i _ => by
  show CK K x l v m (k + 1) s i = _
  rw [CK]
  rcases FN l i with ⟨z, e1, e2, e3, e4⟩ | ⟨e1, e2⟩
  · rw [e2, e3, e4]; cases s <;> rfl
  · rw [e2]; rfl) om (K := K) hk false
 have hw : ∀ (l : List Int) (s : Bool), goL (fun y s c => bif s then c true else c (ieq y m.To)) (fun s => some s) l s = some (s || l.any fun v => ieq v m.To) := by
  intro l
  induction l with
  | nil => intro s; simp [goL]
  | cons y l ih =>
   intro s
   rw [goL]
   cases s
   · rw [cF, ih, List.any_cons, Bool.false_or]
   · rw [cT, ih]; rfl
 rw [hw, Bool.false_or] at h
 exact h
theorem EV (g : GGraph) (j : GJob) (hn : g.N ≤ 24) (p : Int) : (Al g j p).length ≤ 24 := by
 unfold Al C9
 refine Nat.le_trans (List.length_filter_le _ _) ?_
 simp; omega
theorem Nd {K : Nat} (hK : 1000 ≤ K) (g : GGraph) (j : GJob) (x : GPart) (hp : 1 ≤ j.Parts) (hn : g.N ≤ 24) (hl : x.In.length < 1000000) (hk : x.In.length < K) : DF K x ((Al g j x.P).map Int.ofNat) K 0 = some (BT (BE g.N j.Parts x.P (-1) x.In)) := by
 have hv := EV g j hn x.P
 let step : Nat → GMsg → Unit → (Unit → Option (Unit ⊕ Unit)) → Option (Unit ⊕ Unit) := fun i m _ c =>
  (CK K x ((Al g j x.P).map Int.ofNat) (i : Int) m K false 0).bind fun w3384 =>
  bif w3384 then
   (bif (ilt 0 (i : Int)) then
    (bif (inr (wsub .i64 (i : Int) 1) (len x.In)) then
    (elAt x.In (wsub .i64 (i : Int) 1)).bind fun x3389 =>
    bif (ile m.To x3389.To) then (some (.inl ())) else c ()
    else none)
   else c ())
  else some (.inl ())
 have h := Ct (l := x.In) (L := fun k (_ : Unit) i => DF K x ((Al g j x.P).map Int.ofNat) k i) step (fun _ => some (.inr ())) (fun k st i hi => rfl) om K () 0 om om
 have hw : ∀ (r : List GMsg) (i : Nat), x.In.drop i = r → goI step (fun _ => some (.inr ())) i r () = some (BT (BE g.N j.Parts x.P (match BW x.In i with | none => -1 | some d => if 0 ≤ d.To then d.To else -1) r)) ∨ (∃ d, BW x.In i = some d ∧ d.To < 0) := by
  intro r
  induction r with
  | nil => intro i _; exact .inl rfl
  | cons m r ih =>
   intro i hr
   obtain ⟨n1, n2, hi⟩ := G0 hr
   by_cases hneg : ∃ d, BW x.In i = some d ∧ d.To < 0
   · exact .inr hneg
   left
   rw [goI]
   show ((CK K x ((Al g j x.P).map Int.ofNat) (i : Int) m K false 0).bind fun w3384 =>
   bif w3384 then
    (bif (ilt 0 (i : Int)) then
     (bif (inr (wsub .i64 (i : Int) 1) (len x.In)) then
     (elAt x.In (wsub .i64 (i : Int) 1)).bind fun x3389 =>
     bif (ile m.To x3389.To) then (some (.inl ())) else goI step (fun _ => some (.inr ())) (i + 1) r ()
     else none)
    else goI step (fun _ => some (.inr ())) (i + 1) r ())
   else some (.inl ())) = _
   rw [KX x _ _ m (by simp; omega) (by simp; omega), Kq hp, bS]
   cases h0 : ile 0 m.To
   · have := Db.1 h0
     have hno : ∀ a : Int, -1 ≤ a → ilt a m.To = false := fun a ha => Ac.2 om
     have hprev : (-1 : Int) ≤ (match BW x.In i with | none => -1 | some d => if 0 ≤ d.To then d.To else -1) := by
      split
      · omega
      · split <;> omega
     rw [BE, hno _ hprev]; rfl
   · have hm0 := CB.1 h0
     have nx : goI step (fun _ => some (.inr ())) (i + 1) r () = some (BT (BE g.N j.Parts x.P m.To r)) := by
      rcases ih (i + 1) n2 with q | ⟨d, q1, q2⟩
      · rw [n1] at q
        dsimp only at q
        rw [if_pos hm0] at q; exact q
      · rw [n1] at q1; cases q1; omega
     rw [nx, BE]
     cases i with
     | zero =>
      have e1 : ilt 0 ((0 : Nat) : Int) = false := rfl
      have e2 : (match BW x.In 0 with | none => (-1 : Int) | some d => if 0 ≤ d.To then d.To else -1) = -1 := rfl
      rw [e1, e2, Ae.2 (by omega : (-1 : Int) < m.To)]
      cases ilt m.To g.N <;> cases ieq (m.To % j.Parts) x.P <;> rfl
     | succ q =>
      obtain ⟨d, p1, p2, p3, p4⟩ := GJ (l := x.In) (i := q + 1) om hi om
      have hd : ¬ d.To < 0 := fun hh => hneg ⟨d, p1, hh⟩
      have e1 : ilt 0 ((q + 1 : Nat) : Int) = true := Ae.2 om
      rw [e1, p2, p3, p4, p1]
      simp only [bS, cT, Bool.true_and, EA (a := m.To), if_pos (show 0 ≤ d.To by omega)]
      cases ilt d.To m.To <;> cases ilt m.To g.N <;> cases ieq (m.To % j.Parts) x.P <;> rfl
 rcases hw x.In 0 rfl with q | ⟨d, q1, _⟩
 · rw [List.drop_zero, q] at h; exact h
 · cases q1
theorem Kb {K : Nat} (hK : 1000 ≤ K) (g : GGraph) (j : GJob) (x : GPart) (hl : x.In.length < 1000000) (hk : x.In.length < K) : F17 K g j x = some (As g j x) := by
 rw [F17, MF om, bS, As]
 cases hc : ieq (Ah g j) 0
 · rfl
 · obtain ⟨hg, p1, p2, p3, p4, p5, p6, p7, p8⟩ := Ca hc
   obtain ⟨g1, g2, _, _⟩ := B4 hg
   have n3 : nlen (len ((Al g j x.P).map Int.ofNat)) = AJ g j x.P := by simp [nlen, len, AJ]
   rw [cT, Kg om p7 p8 g2, bS, Nd hK g j x p7 g2 hl hk, n3]
   have n1 : nlen (len x.Vals) = (x.Vals.length : Int) := rfl
   have n2 : nlen (len x.Rest) = (x.Rest.length : Int) := rfl
   rw [DL x.P 0, EA (a := j.Parts), DL x.Step 0, DL 40 x.Step, n1, n2, I5]
   cases ile 0 x.P <;> cases ilt x.P j.Parts <;> cases ile 0 x.Step <;> cases ile x.Step 40 <;> cases ieq (x.Vals.length : Int) (AJ g j x.P) <;> cases ieq (x.Rest.length : Int) (AJ g j x.P) <;> rfl
def I6 (K : Nat) (x : GPart) : Prop := (x.Vals.length < 1000000 ∧ x.Vals.length < K) ∧ (x.Rest.length < 1000000 ∧ x.Rest.length < K) ∧ x.In.length < 1000000 ∧ x.In.length < K
def leM (a b : GMsg) : Bool := ilt a.To b.To || (ieq a.To b.To && ile a.V b.V)
theorem Fi {a b : GMsg} : leM a b = true ↔ a.To < b.To ∨ a.To = b.To ∧ a.V ≤ b.V := by simp [leM, ilt, ieq, ile]
theorem JX {a b : GMsg} : leM a b = false ↔ ¬ (a.To < b.To ∨ a.To = b.To ∧ a.V ≤ b.V) := by rw [← Fi]; simp
theorem GH {a b c : GMsg} (h : leM a b = true) (g : leM b c = true) : leM a c = true := by rw [Fi] at *; omega
theorem NH {a b : GMsg} (h : leM a b = true) (g : leM b a = true) : a = b := by
 rw [Fi] at h g
 cases a; cases b
 simp only [GMsg.mk.injEq]
 dsimp only at h g
 omega
theorem Ib {a b : GMsg} (h : leM a b = false) : leM b a = true := by rw [JX] at h; rw [Fi]; omega
def Ch (l : List GMsg) : Prop := l.Pairwise fun a b => leM a b = true
theorem Ll {l l' : List GMsg} (h : Ch l) (h' : Ch l') (hp : l.Perm l') : l = l' :=
 List.Perm.eq_of_pairwise (fun a b _ _ h1 h2 => NH h1 h2) h h' hp
def CR : List GMsg → GMsg → List GMsg → List GMsg
 | [], x, Q => x :: Q
 | y :: R, x, Q => bif leM y x then (y :: R).reverse ++ x :: Q else CR R x (y :: Q)
def Ap (l : List GMsg) : List GMsg := l.foldl (fun acc x => CR acc.reverse x []) []
theorem H0 (x : GMsg) : ∀ (R Q : List GMsg), (CR R x Q).Perm (R.reverse ++ x :: Q)
 | [], Q => List.Perm.refl _
 | y :: R, Q => by
  rw [CR]
  cases leM y x
  · refine (H0 x R (y :: Q)).trans ?_
    rw [List.reverse_cons, List.append_assoc]
    exact List.Perm.append_left _ (List.Perm.swap y x Q)
  · exact List.Perm.refl _
theorem Hr (x : GMsg) : ∀ (R Q : List GMsg), Ch (R.reverse ++ Q) → (∀ q ∈ Q, leM x q = true) → Ch (CR R x Q)
 | [], Q, h, hx => List.pairwise_cons.2 ⟨hx, h⟩
 | y :: R, Q, h, hx => by
  rw [CR]
  cases hy : leM y x
  · refine Hr x R (y :: Q) ?_ fun q hq => ?_
    · rw [List.reverse_cons, List.append_assoc] at h; exact h
    · rcases List.mem_cons.1 hq with e | e
      · subst e; exact Ib hy
      · exact hx q e
  · obtain ⟨h1, h2, h3⟩ := List.pairwise_append.1 h
    refine List.pairwise_append.2 ⟨h1, List.pairwise_cons.2 ⟨hx, h2⟩, fun a ha b hb => ?_⟩
    have hay : a = y ∨ leM a y = true := by
     rw [List.reverse_cons] at ha h1
     obtain ⟨_, _, h6⟩ := List.pairwise_append.1 h1
     rcases List.mem_append.1 ha with e | e
     · exact .inr (h6 a e y (by simp))
     · exact .inl (List.mem_singleton.1 e)
    rcases List.mem_cons.1 hb with e | e
    · subst e
      rcases hay with e | e
      · subst e; exact hy
      · exact GH e hy
    · exact h3 a ha b e
theorem F7 : ∀ (l acc : List GMsg), Ch acc → Ch (l.foldl (fun acc x => CR acc.reverse x []) acc) ∧ (l.foldl (fun acc x => CR acc.reverse x []) acc).Perm (acc ++ l)
 | [], acc, h => ⟨h, by simp⟩
 | x :: l, acc, h => by
  have h1 : Ch (CR acc.reverse x []) := Hr x acc.reverse [] (by simpa using h) (fun q hq => (nomatch hq))
  have h2 : (CR acc.reverse x []).Perm (acc ++ [x]) := by simpa using H0 x acc.reverse []
  obtain ⟨a, b⟩ := F7 l _ h1
  refine ⟨a, b.trans ?_⟩
  have := h2.append_right l
  simpa using this
theorem EM (l : List GMsg) : Ch (Ap l) := (F7 l [] List.Pairwise.nil).1
theorem CJ (l : List GMsg) : (Ap l).Perm l := by
 have := (F7 l [] List.Pairwise.nil).2
 rwa [List.nil_append] at this
theorem DA (l : List GMsg) : (Ap l).length = l.length := (CJ l).length_eq
theorem GU {l r : List GMsg} (h : Ch r) (hp : r.Perm l) : Ap l = r := Ll (EM l) h ((CJ l).trans hp.symm)
theorem My {l l' : List GMsg} (hp : l.Perm l') : Ap l = Ap l' := GU (EM l') ((CJ l').trans hp.symm)
def i64 (n : Int) : Prop := -9223372036854775808 ≤ n ∧ n ≤ 9223372036854775807
theorem FG {n : Int} (h : (Lit.int .i64 n).wf = true) : i64 n := bounds_i64 h
theorem Im {a b : Int} (h : i64 (a * b)) : wmul .i64 a b = a * b := by
 show IntKind.i64.wrap (a * b) = _
 rw [IntKind.wrap_i64]; unfold i64 at h; omega
theorem Ep {a b : Int} (h : i64 (a + b)) : wadd .i64 a b = a + b := by
 show IntKind.i64.wrap (a + b) = _
 rw [IntKind.wrap_i64]; unfold i64 at h; omega
def AA (n : Int) : Bool := decide (-9223372036854775808 ≤ n) && decide (n ≤ 9223372036854775807)
theorem BO {n : Int} : AA n = true ↔ i64 n := by simp [AA, i64]
theorem CP {n : Int} : AA n = false ↔ n < -9223372036854775808 ∨ 9223372036854775807 < n := by
 cases h : AA n
 · have : ¬ i64 n := fun q => by rw [BO.2 q] at h; cases h
   unfold i64 at this
   simp only [true_iff]; omega
 · have := BO.1 h
   unfold i64 at this
   simp only [Bool.true_eq_false, false_iff]; omega
def BI (a b : Int) : Int × Bool := bif AA (a + b) then (a + b, true) else (0, false)
theorem Ho (K : Nat) {a b : Int} (ha : i64 a) (hb : i64 b) : FD K a b = some (BI a b) := by
 unfold i64 at ha hb
 rw [FD, BI]
 cases h1 : ilt 0 b
 · have b1 := Ac.1 h1
   cases h2 : ilt b 0
   · have b2 := Ac.1 h2
     have : b = 0 := by omega
     rw [BO.2 (by unfold i64; omega), Ep (by unfold i64; omega)]; rfl
   · have b2 := Ae.1 h2
     have ew : wsub .i64 (-9223372036854775808) b = -9223372036854775808 - b := by
      show IntKind.i64.wrap _ = _
      rw [IntKind.wrap_i64]; omega
     rw [cF, cT, ew]
     cases h3 : ilt a (-9223372036854775808 - b)
     · have := Ac.1 h3
       rw [BO.2 (by unfold i64; omega), Ep (by unfold i64; omega)]; rfl
     · have := Ae.1 h3
       rw [CP.2 om]; rfl
 · have b1 := Ae.1 h1
   have ew : wsub .i64 9223372036854775807 b = 9223372036854775807 - b := by
    show IntKind.i64.wrap _ = _
    rw [IntKind.wrap_i64]; omega
   rw [cT, ew, Ac.2 (by omega : (0 : Int) ≤ b), cF]
   cases h3 : ilt (9223372036854775807 - b) a
   · have := Ac.1 h3
     rw [BO.2 (by unfold i64; omega), Ep (by unfold i64; omega)]; rfl
   · have := Ae.1 h3
     rw [CP.2 om]; rfl
theorem FB (K : Nat) {a b : Int} (ha : i64 a) (hb : i64 b) : F84 K a b = some (BI a b) := by
 unfold i64 at ha hb
 have ew : wadd .i64 a b = bif AA (a + b) then a + b else bif ilt (a + b) 0 then a + b + 18446744073709551616 else a + b - 18446744073709551616 := by
  show IntKind.i64.wrap (a + b) = _
  rw [IntKind.wrap_i64]
  cases h : AA (a + b)
  · have := CP.1 h
    cases h2 : ilt (a + b) 0
    · have := Ac.1 h2; simp only [cF]; omega
    · have := Ae.1 h2; simp only [cF, cT]; omega
  · have := BO.1 h; unfold i64 at this; simp only [cT]; omega
 have eg : ∀ x : Int, ige x 0 = !(ilt x 0) := fun x => by
  unfold ige ilt
  by_cases h : x < 0 <;> simp [h] <;> omega
 rw [F84, BI, eg, eg, eg, ew]
 cases h : AA (a + b)
 · have h' := CP.1 h
   rcases h' with h' | h'
   · rw [Ae.2 (by omega : a < 0), Ae.2 (by omega : b < 0), Ae.2 (by omega : a + b < 0)]
     simp only [cF, cT]
     rw [Ac.2 (by omega : 0 ≤ a + b + 18446744073709551616)]; rfl
   · rw [Ac.2 (by omega : 0 ≤ a), Ac.2 (by omega : 0 ≤ b), Ac.2 (by omega : 0 ≤ a + b)]
     simp only [cF, cT]
     rw [Ae.2 (by omega : a + b - 18446744073709551616 < 0)]; rfl
 · simp only [cT]
   cases h1 : ilt a 0 <;> cases h2 : ilt b 0
   · rw [Ac.2 (by have := Ac.1 h1; have := Ac.1 h2; omega : 0 ≤ a + b)]; rfl
   · rfl
   · rfl
   · rw [Ae.2 (by have := Ae.1 h1; have := Ae.1 h2; omega : a + b < 0)]; rfl
def Aw (p a b : Int) : Int × Int := bif An p then (0, 1) else bif ieq p 5 then (bif (BI a b).2 then ((BI a b).1, 0) else (0, 8)) else bif ieq p 4 then (bif ilt a b then (b, 0) else (a, 0)) else bif ilt b a then (b, 0) else (a, 0)
theorem IY (K : Nat) (p : Int) {a b : Int} (ha : i64 a) (hb : i64 b) : Ds K p a b = some (Aw p a b) := by
 rw [Ds]
 rcases G4 p with q | q | q | q | q | q
 · subst q
   have e5 : ieq 1 5 = false := rfl
   have e4 : ieq 1 4 = false := rfl
   have eb : An 1 = false := rfl
   rw [Gt, Aw, e5, e4, eb]
   simp only [bS, cT, cF, Bv, Bg, Bi, A1, Bu, Bw, AZ, Bj, AU, Bn, Br, Bf, Ba, A5, Bz, A9, A3, Bk, AW, Bt, AV, Be, AY, Bm, Bl, Bs, A6, Bb, A8, A7, AX, Bx, Bd, Bo, Bh, Bp, F82]
   cases ilt b a <;> rfl
 · subst q
   have e5 : ieq 2 5 = false := rfl
   have e4 : ieq 2 4 = false := rfl
   have eb : An 2 = false := rfl
   rw [Gy, Aw, e5, e4, eb]
   simp only [bS, cT, cF, Bv, Bg, Bi, A1, Bu, Bw, AZ, Bj, AU, Bn, Br, Bf, Ba, A5, Bz, A9, A3, Bk, AW, Bt, AV, Be, AY, Bm, Bl, Bs, A6, Bb, A8, A7, AX, Bx, Bd, Bo, Bh, Bp, F82]
   cases ilt b a <;> rfl
 · subst q
   have e5 : ieq 3 5 = false := rfl
   have e4 : ieq 3 4 = false := rfl
   have eb : An 3 = false := rfl
   rw [Ge, Aw, e5, e4, eb]
   simp only [bS, cT, cF, Bv, Bg, Bi, A1, Bu, Bw, AZ, Bj, AU, Bn, Br, Bf, Ba, A5, Bz, A9, A3, Bk, AW, Bt, AV, Be, AY, Bm, Bl, Bs, A6, Bb, A8, A7, AX, Bx, Bd, Bo, Bh, Bp, F82]
   cases ilt b a <;> rfl
 · subst q
   have e5 : ieq 4 5 = false := rfl
   have e4 : ieq 4 4 = true := rfl
   have eb : An 4 = false := rfl
   rw [G2, Aw, e5, e4, eb]
   simp only [bS, cT, cF, Bv, Bg, Bi, A1, Bu, Bw, AZ, Bj, AU, Bn, Br, Bf, Ba, A5, Bz, A9, A3, Bk, AW, Bt, AV, Be, AY, Bm, Bl, Bs, A6, Bb, A8, A7, AX, Bx, Bd, Bo, Bh, Bp, F89, igt]
   have : decide (b > a) = ilt a b := rfl
   rw [this]
   cases ilt a b <;> rfl
 · subst q
   have e5 : ieq 5 5 = true := rfl
   have e4 : ieq 5 4 = false := rfl
   have eb : An 5 = false := rfl
   rw [GR, Aw, e5, e4, eb]
   simp only [bS, cT, cF, Bv, Bg, Bi, A1, Bu, Bw, AZ, Bj, AU, Bn, Br, Bf, Ba, A5, Bz, A9, A3, Bk, AW, Bt, AV, Be, AY, Bm, Bl, Bs, A6, Bb, A8, A7, AX, Bx, Bd, Bo, Bh, Bp, FB K ha hb]
   cases (BI a b).2 <;> rfl
 · have eb : An p = true := by
    unfold An
    rcases q with q | q
    · rw [Ae.2 q]; rfl
    · rw [Ae.2 q, Bool.or_true]
   rw [II K q, Aw, eb]
   simp only [bS, cT, cF, Bv, Bg, Bi, A1, Bu, Bw, AZ, Bj, AU, Bn, Br, Bf, Ba, A5, Bz, A9, A3, Bk, AW, Bt, AV, Be, AY, Bm, Bl, Bs, A6, Bb, A8, A7, AX, Bx, Bd, Bo, Bh, Bp]
theorem Gx {p a b : Int} (ha : i64 a) (hb : i64 b) : i64 (Aw p a b).1 := by
 have h0 : i64 0 := by unfold i64; omega
 rw [Aw]
 cases An p
 · cases ieq p 5
   · cases ieq p 4
     · simp only [cF]
       cases ilt b a
       · exact ha
       · exact hb
     · simp only [cF, cT]
       cases ilt a b
       · exact ha
       · exact hb
   · simp only [cF, cT]
     unfold BI
     cases h : AA (a + b)
     · exact h0
     · exact BO.1 h
 · exact h0
theorem Kd (K : Nat) (y x : GMsg) : Fk K y x = some (!(leM x y)) := by
 rw [Fk, leM]
 cases h1 : ilt y.To x.To
 · cases h2 : ieq y.To x.To
   · have := Ac.1 h1; have := Ao.1 h2
     rw [Ae.2 (by omega : x.To < y.To)]; rfl
   · have e := Am.1 h2
     rw [Ac.2 (by omega : y.To ≤ x.To), Am.2 e.symm]
     simp only [cF, cT, Bool.false_or, Bool.true_and]
     congr 1
     cases h3 : ilt y.V x.V
     · rw [CB.2 (by have := Ac.1 h3; omega)]; rfl
     · rw [Db.2 (by have := Ae.1 h3; omega)]; rfl
 · have := Ae.1 h1
   rw [Ac.2 (by omega : y.To ≤ x.To), Ao.2 (by omega : x.To ≠ y.To)]; rfl
theorem Ob {K : Nat} : ∀ (k : Nat) (a b c : List GMsg), a.length + b.length < k → a.length + b.length + c.length < 100000 → Ch (c ++ a) → Ch (c ++ b) →
 ∃ a' b' c', DW K k a b c = some (a', (b', c')) ∧ (c' ++ a' ++ b').Perm (c ++ a ++ b) ∧ Ch (c' ++ a' ++ b') := by
 intro k
 induction k with
 | zero => intro a b c h; omega
 | succ k ih =>
  intro a b c hk hl ha hb
  rw [DW]
  cases a with
  | nil => exact ⟨[], b, c, rfl, List.Perm.refl _, by simpa using hb⟩
  | cons x a =>
   cases b with
   | nil =>
    refine ⟨x :: a, [], c, ?_, List.Perm.refl _, by simpa using ha⟩
    rw [Ae.2 (show (0 : Int) < nlen (len (x :: a)) by show (0 : Int) < ((a.length + 1 : Nat) : Int); omega)]; rfl
   | cons y b =>
    simp only [List.length_cons] at hk hl
    have i1 : ilt 0 (nlen (len (x :: a))) = true := Ae.2 (by show (0 : Int) < ((a.length + 1 : Nat) : Int); omega)
    have i2 : ilt 0 (nlen (len (y :: b))) = true := Ae.2 (by show (0 : Int) < ((b.length + 1 : Nat) : Int); omega)
    have r1 : inr 0 (len (x :: a)) = true := decide_eq_true ⟨by omega, by show (0 : Int) < (((a.length + 1 : Nat)) : Int); omega⟩
    have r2 : inr 0 (len (y :: b)) = true := decide_eq_true ⟨by omega, by show (0 : Int) < (((b.length + 1 : Nat)) : Int); omega⟩
    have g1 : elAt (x :: a) 0 = some x := rfl
    have g2 : elAt (y :: b) 0 = some y := rfl
    have ap : apok (len c) 1 16 = true := decide_eq_true ⟨by show c.length + 1 ≤ _; omega, by show (c.length + 1) * 16 ≤ _; omega⟩
    have b1 : bnd 1 (nlen (len (x :: a))) (len (x :: a)) = true := by simp [bnd, nlen, len]; omega
    have b2 : bnd 1 (nlen (len (y :: b))) (len (y :: b)) = true := by simp [bnd, nlen, len]; omega
    have s1 : subL (x :: a) 1 (nlen (len (x :: a))) = a := by simp [subL, nlen, len]
    have s2 : subL (y :: b) 1 (nlen (len (y :: b))) = b := by simp [subL, nlen, len]
    rw [i1, i2, r1, r2, g1, g2, ap, b1, b2, s1, s2]
    simp only [cT, bS, Kd]
    have ha' := List.pairwise_append.1 ha
    have hb' := List.pairwise_append.1 hb
    have hxa := List.pairwise_cons.1 ha'.2.1
    have hyb := List.pairwise_cons.1 hb'.2.1
    cases hxy : leM x y
    · have hyx := Ib hxy
      obtain ⟨a', b', c', e, p, q⟩ := ih (x :: a) b (c ++ [y]) (by simp; omega) (by simp; omega)
       (by
        refine List.pairwise_append.2 ⟨List.pairwise_append.2 ⟨hb'.1, List.pairwise_singleton _ _, fun u hu w hw => ?_⟩, ha'.2.1, fun u hu w hw => ?_⟩
        · rw [List.mem_singleton.1 hw]; exact hb'.2.2 u hu y List.mem_cons_self
        · rcases List.mem_append.1 hu with hu | hu
          · exact ha'.2.2 u hu w hw
          · rw [List.mem_singleton.1 hu]
            rcases List.mem_cons.1 hw with rfl | hw
            · exact hyx
            · exact GH hyx (hxa.1 w hw))
       (by rw [List.append_assoc]; exact hb)
      refine ⟨a', b', c', e, p.trans ?_, q⟩
      have : (c ++ [y] ++ (x :: a) ++ b) = c ++ (y :: (x :: a)) ++ b := by simp
      rw [this, List.append_assoc, List.append_assoc]
      exact List.Perm.append_left c (List.perm_middle (l₁ := x :: a) (a := y) (l₂ := b)).symm
    · obtain ⟨a', b', c', e, p, q⟩ := ih a (y :: b) (c ++ [x]) (by simp; omega) (by simp; omega)
       (by rw [List.append_assoc]; exact ha)
       (by
        refine List.pairwise_append.2 ⟨List.pairwise_append.2 ⟨hb'.1, List.pairwise_singleton _ _, fun u hu w hw => ?_⟩, hb'.2.1, fun u hu w hw => ?_⟩
        · rw [List.mem_singleton.1 hw]; exact ha'.2.2 u hu x List.mem_cons_self
        · rcases List.mem_append.1 hu with hu | hu
          · exact hb'.2.2 u hu w hw
          · rw [List.mem_singleton.1 hu]
            rcases List.mem_cons.1 hw with rfl | hw
            · exact hxy
            · exact GH hxy (hyb.1 w hw))
      refine ⟨a', b', c', e, p.trans ?_, q⟩
      have : (c ++ [x] ++ a ++ (y :: b)) = c ++ (x :: a) ++ (y :: b) := by simp
      rw [this]
theorem Ot {K : Nat} : ∀ (d : Nat) (l : List GMsg), l.length < d → l.length < K → l.length < 10000 → DC K d l = some (Ap l) := by
 intro d
 induction d with
 | zero => intro l h; omega
 | succ d ih =>
  intro l hd hK hl
  rw [DC]
  cases h2 : ilt (nlen (len l)) 2
  · have h2' : 2 ≤ l.length := by have := Ac.1 h2; simp only [nlen, len] at this; omega
    have hq : wquo .i64 (nlen (len l)) 2 = ((l.length / 2 : Nat) : Int) := by
     show IntKind.i64.wrap (((l.length : Nat) : Int).tdiv 2) = _
     rw [Int.tdiv_eq_ediv_of_nonneg om, IntKind.wrap_i64]; omega
    have b1 : bnd 0 ((l.length / 2 : Nat) : Int) (len l) = true := by simp [bnd, len]; omega
    have b2 : bnd ((l.length / 2 : Nat) : Int) (nlen (len l)) (len l) = true := by simp [bnd, len, nlen]; omega
    have s1 : subL l 0 ((l.length / 2 : Nat) : Int) = l.take (l.length / 2) := by simp [subL]; omega
    have s2 : subL l ((l.length / 2 : Nat) : Int) (nlen (len l)) = l.drop (l.length / 2) := by
     simp only [subL, nlen, len, Int.toNat_natCast]
     exact List.take_of_length_le (by rw [List.length_drop]; omega)
    have l1 : (l.take (l.length / 2)).length ≤ l.length / 2 := by rw [List.length_take]; omega
    have l2 : (l.drop (l.length / 2)).length = l.length - l.length / 2 := List.length_drop
    have mk : mkok 0 (nlen (len l)) 16 = true := by simp [mkok, nlen, len]; omega
    obtain ⟨a', b', c', e, p, q⟩ := Ob (K := K) K (Ap (l.take (l.length / 2))) (Ap (l.drop (l.length / 2))) [] (by rw [DA, DA]; omega) (by rw [DA, DA]; simp only [List.length_nil]; omega) (by simpa using EM _) (by simpa using EM _)
    have er : repL (α := GMsg) 0 (GMsg.mk 0 0) = [] := rfl
    have pl : (c' ++ a' ++ b').Perm l := p.trans (by
     rw [List.nil_append]
     have := (CJ (l.take (l.length / 2))).append (CJ (l.drop (l.length / 2)))
     rwa [List.take_append_drop] at this)
    have ln := pl.length_eq
    rw [List.length_append, List.length_append] at ln
    have a1 : apok (len c') (len a') 16 = true := decide_eq_true ⟨by show c'.length + a'.length ≤ _; omega, by show (c'.length + a'.length) * 16 ≤ _; omega⟩
    have a2 : apok (len (appL c' a')) (len b') 16 = true := decide_eq_true ⟨by show (c' ++ a').length + b'.length ≤ _; rw [List.length_append]; omega, by show ((c' ++ a').length + b'.length) * 16 ≤ _; rw [List.length_append]; omega⟩
    rw [cF, hq, b1, b2, s1, s2, ih _ om om om, ih _ om om om, mk, er]
    simp only [cT, bS, e, a1, a2]
    rw [GU q pl]; rfl
  · have h2' : l.length < 2 := by have := Ae.1 h2; simp only [nlen, len] at this; omega
    have ap : apok 0 (len l) 16 = true := decide_eq_true ⟨by show 0 + l.length ≤ _; omega, by show (0 + l.length) * 16 ≤ _; omega⟩
    rw [cT, ap, cT]
    congr 1
    rw [GU (l := l) (r := l) ?_ (List.Perm.refl l)]; rfl
    match l, h2' with
    | [], _ => exact List.Pairwise.nil
    | [x], _ => exact List.pairwise_singleton _ _
theorem Jz {K : Nat} (l : List GMsg) (hK : l.length < K) (hl : l.length < 10000) : Et K l = some (Ap l) := by
 rw [Et, Ot K l hK hK hl]; rfl
def CI (p : Int) : List GMsg → GMsg → List GMsg → Int ⊕ List GMsg
 | [], cur, done => .inr (done ++ [cur])
 | x :: r, cur, done => bif ieq cur.To x.To then (bif ieq (Aw p cur.V x.V).2 0 then CI p r (GMsg.mk cur.To (Aw p cur.V x.V).1) done else .inl (Aw p cur.V x.V).2) else CI p r x (done ++ [cur])
def Fq (p : Int) : List GMsg → List GMsg → Int ⊕ List GMsg
 | [], done => .inr done
 | x :: r, done => CI p r x done
def Mc : Int ⊕ List GMsg → List GMsg × Int
 | .inl e => ([], e)
 | .inr s => (s, 0)
def Ak (p : Int) (l : List GMsg) : List GMsg × Int := bif An p then ([], 1) else Mc (Fq p (Ap l) [])
theorem PM {α : Type} (d : List α) (c x : α) : inr (wsub .i64 (nlen (len (d ++ [c]))) 1) (len (d ++ [c])) = true ∧ (d.length < 1000000 → elAt (d ++ [c]) (wsub .i64 (nlen (len (d ++ [c]))) 1) = some c ∧ putAt (d ++ [c]) (wsub .i64 (nlen (len (d ++ [c]))) 1) x = d ++ [x]) ∨ ¬ d.length < 1000000 := by
 by_cases h : d.length < 1000000
 · left
   have w : wsub .i64 (nlen (len (d ++ [c]))) 1 = ((d.length : Nat) : Int) := by
    show IntKind.i64.wrap (((d ++ [c]).length : Int) - 1) = _
    rw [List.length_append, IntKind.wrap_i64]; simp; omega
   rw [w]
   refine ⟨decide_eq_true ⟨by omega, by show (d.length : Int) < ((d ++ [c]).length : Int); simp; omega⟩, fun _ => ⟨by rw [BA]; simp, ?_⟩⟩
   unfold putAt
   rw [Int.toNat_natCast, List.set_append_right (h := by omega)]; simp
 · right; exact h
theorem IW {K : Nat} (p : Int) (l : List GMsg) (hv : ∀ x ∈ l, i64 x.V) (hK : l.length < K) (hl : l.length < 10000) : F95 K p l = some (Ak p l) := by
 have i0 : i64 0 := by unfold i64; omega
 have hz : (Aw p 0 0).2 = bif An p then 1 else 0 := by
  rw [Aw]
  cases An p
  · have : BI 0 0 = (0, true) := rfl
    have e : ilt 0 0 = false := rfl
    rw [this, e]
    cases ieq p 5 <;> cases ieq p 4 <;> rfl
  · rfl
 rw [F95, IY K p i0 i0, bS, hz, Ak, Jz l hK hl]
 cases hb : An p
 · let step : GMsg → List GMsg → (List GMsg → Option (Int ⊕ List GMsg)) → Option (Int ⊕ List GMsg) := fun x s c =>
    bif (ilt 0 (nlen (len s))) then
     (bif (inr (wsub .i64 (nlen (len s)) 1) (len s)) then
     (elAt s (wsub .i64 (nlen (len s)) 1)).bind fun y =>
     bif (ieq y.To x.To) then
      ((Ds K p y.V x.V).bind fun r =>
      bif (ieq r.2 0) then
       (c (putAt s (wsub .i64 (nlen (len s)) 1) (GMsg.mk y.To r.1)))
      else
      some (.inl r.2))
     else
     bif (apok (len s) 1 16) then
     c (appL s [x])
     else none
     else none)
    else
    bif (apok (len s) 1 16) then
    c (appL s [x])
    else none
   have hsl : (Ap l).length = l.length := DA l
   have h := Aq (l := Ap l) (L := fun k s i => C5 K p (Ap l) k s i) step (fun s => some (.inr s)) (fun k s i _ => rfl) om (K := K) om []
   have hw : ∀ (r : List GMsg) (d : List GMsg) (c : GMsg), d.length + r.length < 100000 → i64 c.V → (∀ x ∈ r, i64 x.V) → goL step (fun s => some (.inr s)) r (d ++ [c]) = some (CI p r c d) := by
    intro r
    induction r with
    | nil => intro d c _ _ _; rfl
    | cons x r ih =>
     intro d c hd hc hr
     simp only [List.length_cons] at hd
     have hx := hr x List.mem_cons_self
     have hr' := fun y hy => hr y (List.mem_cons_of_mem _ hy)
     rw [goL]
     show (bif (ilt 0 (nlen (len (d ++ [c])))) then
      (bif (inr (wsub .i64 (nlen (len (d ++ [c]))) 1) (len (d ++ [c]))) then
      (elAt (d ++ [c]) (wsub .i64 (nlen (len (d ++ [c]))) 1)).bind fun y =>
      bif (ieq y.To x.To) then
       ((Ds K p y.V x.V).bind fun q =>
       bif (ieq q.2 0) then
        (goL step (fun s => some (.inr s)) r (putAt (d ++ [c]) (wsub .i64 (nlen (len (d ++ [c]))) 1) (GMsg.mk y.To q.1)))
       else
       some (.inl q.2))
      else
      bif (apok (len (d ++ [c])) 1 16) then
      goL step (fun s => some (.inr s)) r (appL (d ++ [c]) [x])
      else none
      else none)
     else
     bif (apok (len (d ++ [c])) 1 16) then
     goL step (fun s => some (.inr s)) r (appL (d ++ [c]) [x])
     else none) = _
     have i1 : ilt 0 (nlen (len (d ++ [c]))) = true := Ae.2 (by show (0 : Int) < ((d ++ [c]).length : Int); rw [List.length_append]; simp only [List.length_singleton]; omega)
     have ap : apok (len (d ++ [c])) 1 16 = true := decide_eq_true ⟨by show (d ++ [c]).length + 1 ≤ _; rw [List.length_append]; simp only [List.length_singleton]; omega, by show ((d ++ [c]).length + 1) * 16 ≤ _; rw [List.length_append]; simp only [List.length_singleton]; omega⟩
     rcases PM d c (GMsg.mk c.To (Aw p c.V x.V).1) with ⟨q1, q2⟩ | q
     · obtain ⟨q2, q3⟩ := q2 om
       rw [i1, q1, q2, ap]
       simp only [cT, bS, IY K p hc hx, q3]
       rw [CI]
       cases ieq c.To x.To
       · rw [cF, cF]
         exact ih (d ++ [c]) x (by rw [List.length_append]; simp only [List.length_singleton]; omega) hx hr'
       · rw [cT, cT]
         cases ieq (Aw p c.V x.V).2 0
         · rfl
         · rw [cT, cT]
           exact ih d _ om (Gx hc hx) hr'
     · omega
   have h' : C5 K p (Ap l) K [] 0 = some (Fq p (Ap l) []) := by
    rw [show C5 K p (Ap l) K [] 0 = _ from h]
    have hs : ∀ x ∈ Ap l, i64 x.V := fun x hx => hv x ((CJ l).mem_iff.1 hx)
    generalize Ap l = m at *
    cases m with
    | nil => rfl
    | cons x r =>
     rw [goL]
     show goL step (fun s => some (.inr s)) r (appL [] [x]) = _
     simp only [List.length_cons] at hsl
     exact hw r [] x (by simp only [List.length_nil]; omega) (hs x List.mem_cons_self) (fun y hy => hs y (List.mem_cons_of_mem _ hy))
   have z0 : ieq (bif false then 1 else 0) 0 = true := rfl
   rw [z0, cT, bS, h', bS]
   cases Fq p (Ap l) [] <;> rfl
 · rfl
def atS (l : List GMsg) (v : Int) : Int × Bool := match l.find? (fun m => ieq m.To v) with
 | some m => (m.V, true)
 | none => (0, false)
def KZ : Option GMsg → Int ⊕ Unit
 | some m => .inl m.V
 | none => .inr ()
theorem KN (l : List GMsg) (v : Int) : goL (fun (x : GMsg) (_ : Unit) c => bif ieq x.To v then some (.inl x.V) else c ()) (fun _ => some (.inr ())) l () = (some (KZ (l.find? fun m => ieq m.To v)) : Option (Int ⊕ Unit)) := by
 induction l with
 | nil => rfl
 | cons x l ih =>
  rw [goL, List.find?_cons]
  cases h : ieq x.To v
  · exact ih
  · rfl
theorem L3 {K : Nat} (l : List GMsg) (v : Int) (hl : l.length < 100000) (hK : l.length < K) : F92 K l v = some (atS l v) := by
 have e : ED K l v K 0 = _ := Aq (l := l) (L := fun k (_ : Unit) i => ED K l v k i) (fun x _ c => bif ieq x.To v then some (.inl x.V) else c ()) (fun _ => some (.inr ())) (fun k s i _ => rfl) om hK ()
 rw [F92, e, KN, atS]
 cases l.find? fun m => ieq m.To v <;> rfl
theorem Ht {l : List GMsg} {v : Int} (h : ∀ x ∈ l, i64 x.V) : i64 (atS l v).1 := by
 rw [atS]
 cases hq : l.find? fun m => ieq m.To v with
 | none => show i64 0; unfold i64; omega
 | some m => exact h m (List.mem_of_find?_eq_some hq)
def Ck : Nat → Nat → Nat → Nat → List Nat
 | 0, _, _, _ => []
 | k + 1, n, parts, v => if v < n then v :: Ck k n parts (v + parts) else []
theorem Ng : ∀ parts < 7, 0 < parts → ∀ n < 25, ∀ p < parts, Ck 30 n parts p = (List.range n).filter fun v => v % parts == p := by decide +kernel
theorem LG {n parts : Nat} (h1 : 0 < parts) (h2 : parts < 7) (hn : n < 25) {p : Nat} (hp : p < parts) : Ck 30 n parts p = C9 n parts (p : Int) := by
 rw [Ng parts h2 h1 n hn p hp, C9]
 refine List.filter_congr fun v _ => ?_
 rw [Bool.eq_iff_iff, Am, beq_iff_eq]; omega
theorem Dg {g : GGraph} {j : GJob} {x : GPart} (h : As g j x = true) : ieq (Ah g j) 0 = true ∧ 0 ≤ x.P ∧ x.P < j.Parts ∧ 0 ≤ x.Step ∧ x.Step ≤ 40 ∧ (x.Vals.length : Int) = AJ g j x.P ∧ (x.Rest.length : Int) = AJ g j x.P ∧ BE g.N j.Parts x.P (-1) x.In = true := by
 simp only [As, Bool.and_eq_true, CB, Ae, Am] at h
 obtain ⟨h1, h2, h3, h4, h5, h6, h7, h8⟩ := h
 exact ⟨Am.2 h1, h2, h3, h4, h5, h6, h7, h8⟩
theorem FC {n parts p : Int} : ∀ {l : List GMsg} {v : Int}, BE n parts p v l = true → l.Pairwise (fun a b => a.To < b.To) ∧ (∀ m ∈ l, v < m.To ∧ m.To < n ∧ m.To % parts = p)
 | [], v, _ => ⟨List.Pairwise.nil, fun m h => (nomatch h)⟩
 | m :: l, v, h => by
  simp only [BE, Bool.and_eq_true, Ae, Am] at h
  obtain ⟨h1, h2, h3, h4⟩ := h
  obtain ⟨a, b⟩ := FC h4
  refine ⟨List.pairwise_cons.2 ⟨fun x hx => (b x hx).1, a⟩, fun x hx => ?_⟩
  rcases List.mem_cons.1 hx with e | e
  · subst e; exact ⟨h1, h2, h3⟩
  · have := b x e; exact ⟨by omega, this.2⟩
theorem I8 {n parts p : Int} : ∀ {l : List GMsg} {v : Int}, l.Pairwise (fun a b => a.To < b.To) → (∀ m ∈ l, v < m.To ∧ m.To < n ∧ m.To % parts = p) → BE n parts p v l = true
 | [], _, _, _ => rfl
 | m :: l, v, h, hm => by
  obtain ⟨a, b⟩ := List.pairwise_cons.1 h
  have h1 := hm m List.mem_cons_self
  rw [BE, Ae.2 h1.1, Ae.2 h1.2.1, Am.2 h1.2.2]
  exact I8 b fun x hx => ⟨a x hx, (hm x (List.mem_cons_of_mem _ hx)).2⟩
def BV : GPart := GPart.mk 0 0 [] [] []
def Cw (n parts p : Int) (l : List GMsg) : Bool := l.all fun m => ile 0 m.To && (ilt m.To n && ieq (m.To % parts) p)
def Fg (j : GJob) (x : GPart) (l : List GMsg) : GPart × Int := bif ieq (Ak j.Prog l).2 0 then (GPart.mk x.P x.Step x.Vals x.Rest (Ak j.Prog l).1, 0) else (BV, (Ak j.Prog l).2)
def AS (g : GGraph) (j : GJob) (x : GPart) (l : List GMsg) : GPart × Int :=
 bif ieq (Ah g j) 0 then (bif As g j x then (bif ieq (nlen (len x.In)) 0 then (bif Cw g.N j.Parts x.P l then Fg j x l else (BV, 1)) else (BV, 1)) else (BV, 1)) else (BV, Ah g j)
theorem PJ {n parts p : Int} {l l' : List GMsg} (h : l.Perm l') : Cw n parts p l = Cw n parts p l' := by
 rw [Bool.eq_iff_iff]
 simp only [Cw, List.all_eq_true]
 exact ⟨fun q m hm => q m (h.mem_iff.2 hm), fun q m hm => q m (h.mem_iff.1 hm)⟩
theorem LP {p : Int} {l l' : List GMsg} (h : l.Perm l') : Ak p l = Ak p l' := by
 rw [Ak, Ak, My h]
theorem Pr {K : Nat} (ls : List (List GMsg)) (h1 : ls.length < 10000) (h2 : ls.length < K) (h3 : (ls.flatten).length < 10000) (h4 : (ls.flatten).length < K) : F98 K ls = some (Ap ls.flatten) := by
 let step : List GMsg → List GMsg → (List GMsg → Option (List GMsg)) → Option (List GMsg) := fun x a c => bif (apok (len a) (len x) 16) then c (appL a x) else none
 have h := Aq (l := ls) (L := fun k s i => D6 K ls k s i) step (fun s => some s) (fun k s i _ => rfl) om h2 []
 have hw : ∀ (r : List (List GMsg)) (a : List GMsg), a.length + r.flatten.length < 100000 → goL step (fun s => some s) r a = some (a ++ r.flatten) := by
  intro r
  induction r with
  | nil => intro a _; simp [goL]
  | cons x r ih =>
   intro a ha
   rw [List.flatten_cons, List.length_append] at ha
   rw [goL]
   show (bif (apok (len a) (len x) 16) then goL step (fun s => some s) r (appL a x) else none) = _
   have ap : apok (len a) (len x) 16 = true := decide_eq_true ⟨by show a.length + x.length ≤ _; omega, by show (a.length + x.length) * 16 ≤ _; omega⟩
   rw [ap, cT, ih _ (by simp only [appL, List.length_append]; omega)]; simp [appL]
 rw [hw ls [] (by simp only [List.length_nil]; omega), List.nil_append] at h
 have h' : D6 K ls K [] 0 = some ls.flatten := h
 rw [F98, h', bS, Jz _ h4 h3]; rfl
theorem OA {K : Nat} (g : GGraph) (j : GJob) (x : GPart) (l : List GMsg) (hp : 1 ≤ j.Parts) (h6 : j.Parts ≤ 6) (h0 : 0 ≤ x.P) (hl : l.length < 1000000) (hK : l.length < K) : Es K g j x l K 0 = some (BT (Cw g.N j.Parts x.P l)) := by
 let step : GMsg → Unit → (Unit → Option (Unit ⊕ Unit)) → Option (Unit ⊕ Unit) := fun m _ c =>
  bif (ile g.N m.To) then (some (.inl ())) else (F94 K j m.To).bind fun r => bif (ieq r x.P) then c () else some (.inl ())
 have h := Aq (l := l) (L := fun k (_ : Unit) i => Es K g j x l k i) step (fun _ => some (.inr ())) (fun k s i _ => rfl) om (K := K) hK ()
 have hw : ∀ (r : List GMsg), goL step (fun _ => some (.inr ())) r () = some (BT (Cw g.N j.Parts x.P r)) := by
  intro r
  induction r with
  | nil => rfl
  | cons m r ih =>
   rw [goL]
   show (bif (ile g.N m.To) then (some (.inl ())) else (F94 K j m.To).bind fun r' => bif (ieq r' x.P) then goL step (fun _ => some (.inr ())) r () else some (.inl ())) = _
   rw [Hf, ih, bS, EA, AN, Ac.2 hp, Ac.2 h6, Cw, Cw, List.all_cons, DL m.To 0]
   cases h1 : ilt m.To g.N
   · cases ile 0 m.To <;> rfl
   · cases h2 : ile 0 m.To
     · rw [Bool.not_false, Bool.true_or, cT, Ao.2 (by omega : (-1 : Int) ≠ x.P)]; rfl
     · simp only [Bool.not_true, Bool.false_or, cF, Bool.true_and]
       cases ieq (m.To % j.Parts) x.P <;> rfl
 rw [hw] at h
 exact h
theorem Nh {α : Type} (b : Bool) (x : Option α) (y : Option α) : (some (BT b)).bind (fun z => Sum.elim (fun _ => x) (fun _ => y) z) = bif b then y else x := by cases b <;> rfl
theorem NF {K : Nat} (hK : 1000 ≤ K) (g : GGraph) (j : GJob) (x : GPart) (ls : List (List GMsg)) (hp : i64 x.P) (hx : x.In.length ≤ 300) (hv : x.Vals.length ≤ 100) (hr : x.Rest.length ≤ 100)
 (h1 : ls.length < 1000) (h3 : (ls.flatten).length < 10000) (h4 : (ls.flatten).length < K) (hs : ∀ m ∈ ls.flatten, i64 m.V) : F62 K g j x ls = some (AS g j x ls.flatten) := by
 rw [F62, DO om, GE hK g j x om om hp, bS, bS, AS]
 cases hc : ieq (Ah g j) 0
 · rfl
 · cases hR : As g j x
   · rfl
   · obtain ⟨_, p1, p2, _⟩ := Dg hR
     obtain ⟨hg, _, _, _, _, _, _, p7, p8⟩ := Ca hc
     have hsl := DA ls.flatten
     have e1 : ilt 0 (nlen (len x.In)) = !(ieq (nlen (len x.In)) 0) := by
      show ilt 0 (x.In.length : Int) = !(ieq (x.In.length : Int) 0)
      cases x.In.length with
      | zero => rfl
      | succ n => rw [Ae.2 om, Ao.2 om]; rfl
     have ap1 : apok 0 (len x.Vals) 8 = true := decide_eq_true ⟨by show 0 + x.Vals.length ≤ _; omega, by show (0 + x.Vals.length) * 8 ≤ _; omega⟩
     have ap2 : apok 0 (len x.Rest) 1 = true := decide_eq_true ⟨by show 0 + x.Rest.length ≤ _; omega, by show (0 + x.Rest.length) * 1 ≤ _; omega⟩
     have hso : ∀ m ∈ Ap ls.flatten, i64 m.V := fun m hm => hs m ((CJ _).mem_iff.1 hm)
     simp only [cT, e1, Pr ls (show ls.length < 10000 by omega) (show ls.length < K by omega) h3 h4, bS]
     rw [OA g j x _ p7 p8 p1 om om, IW j.Prog (Ap ls.flatten) hso om om, Nh, F99, ap1, ap2, PJ (CJ ls.flatten), LP (CJ ls.flatten)]
     cases ieq (nlen (len x.In)) 0
     · rfl
     · cases Cw g.N j.Parts x.P ls.flatten
       · rfl
       · rw [Fg]
         simp only [cT, bS, Bool.not_true, cF]
         cases ieq (Ak j.Prog ls.flatten).2 0 <;> rfl
theorem DK {a b : Int} (h : 0 ≤ a + b) (h2 : a + b < 18446744073709551616) : wadd .u64 a b = a + b := by
 show IntKind.u64.wrap (a + b) = _
 simp [IntKind.wrap, IntKind.signed, IntKind.bits]; omega
theorem Fs {a b : Int} (h : 0 ≤ a * b) (h2 : a * b < 18446744073709551616) : wmul .u64 a b = a * b := by
 show IntKind.u64.wrap (a * b) = _
 simp only [IntKind.wrap, IntKind.signed, IntKind.bits, Bool.false_and]
 generalize a * b = t at *
 simp; omega
theorem El {a : Int} (h : 0 ≤ a) (h2 : a < 18446744073709551616) : wquo .u64 a 4294967296 = a / 4294967296 := by
 show IntKind.u64.wrap (a.tdiv 4294967296) = _
 rw [Int.tdiv_eq_ediv_of_nonneg h]
 simp [IntKind.wrap, IntKind.signed, IntKind.bits]; omega
theorem D8 {a : Int} (h : 0 ≤ a) : wrem a 4294967296 = a % 4294967296 := by
 show a.tmod 4294967296 = _
 exact Int.tmod_eq_emod_of_nonneg h
theorem HU (K : Nat) {x b : Int} (hx : 0 ≤ x) (hx2 : x ≤ 9223372036854775808) (hb : 1 ≤ b) (hb2 : b ≤ 1000) :
 ∃ hi lo, EU K x b = some (GA193.mk hi lo) ∧ hi * 18446744073709551616 + lo = x * b ∧ 0 ≤ lo ∧ lo < 18446744073709551616 ∧ 0 ≤ hi := by
 obtain ⟨u, hu⟩ : ∃ u, x / 4294967296 = u := ⟨_, rfl⟩
 obtain ⟨v, hv⟩ : ∃ v, x % 4294967296 = v := ⟨_, rfl⟩
 have hu0 : 0 ≤ u ∧ u ≤ 2147483648 := by omega
 have hv0 : 0 ≤ v ∧ v < 4294967296 := by omega
 have hxu : x = u * 4294967296 + v := by omega
 obtain ⟨P, hP⟩ : ∃ P, u * b = P := ⟨_, rfl⟩
 obtain ⟨Q, hQ⟩ : ∃ Q, v * b = Q := ⟨_, rfl⟩
 have hP0 : 0 ≤ P := hP ▸ Int.mul_nonneg hu0.1 om
 have hQ0 : 0 ≤ Q := hQ ▸ Int.mul_nonneg hv0.1 om
 have hP1 : P ≤ 2147483648 * 1000 := hP ▸ Int.mul_le_mul hu0.2 hb2 om om
 have hQ1 : Q ≤ 4294967296 * 1000 := hQ ▸ Int.mul_le_mul om hb2 om om
 have hxb : x * b = P * 4294967296 + Q := by rw [hxu, Int.add_mul, hQ, ← hP, Int.mul_right_comm]
 have a1 : wquo .u64 x 4294967296 = u := by rw [El hx om, hu]
 have a2 : wquo .u64 b 4294967296 = 0 := by rw [El om om]; omega
 have a3 : wrem x 4294967296 = v := by rw [D8 hx, hv]
 have a4 : wrem b 4294967296 = b := by rw [D8 om]; omega
 have b1 : wmul .u64 u 0 = 0 := by rw [Fs om om]; omega
 have b2 : wmul .u64 u b = P := by rw [Fs om om, hP]
 have b3 : wmul .u64 v 0 = 0 := by rw [Fs om om]; omega
 have b4 : wmul .u64 v b = Q := by rw [Fs om om, hQ]
 have c1 : wquo .u64 P 4294967296 = P / 4294967296 := El hP0 om
 have c2 : wquo .u64 0 4294967296 = 0 := by rw [El om om]; omega
 have c3 : wquo .u64 Q 4294967296 = Q / 4294967296 := El hQ0 om
 have c4 : wrem P 4294967296 = P % 4294967296 := D8 hP0
 have c5 : wrem 0 4294967296 = 0 := by rw [D8 om]; omega
 have c6 : wrem Q 4294967296 = Q % 4294967296 := D8 hQ0
 have d1 : wadd .u64 (Q / 4294967296) (P % 4294967296) = Q / 4294967296 + P % 4294967296 := DK om om
 have d2 : wadd .u64 (Q / 4294967296 + P % 4294967296) 0 = Q / 4294967296 + P % 4294967296 := by rw [DK om om]; omega
 have d3 : wquo .u64 (Q / 4294967296 + P % 4294967296) 4294967296 = (Q / 4294967296 + P % 4294967296) / 4294967296 := El om om
 have d4 : wrem (Q / 4294967296 + P % 4294967296) 4294967296 = (Q / 4294967296 + P % 4294967296) % 4294967296 := D8 om
 have d5 : wadd .u64 0 (P / 4294967296) = P / 4294967296 := by rw [DK om om]; omega
 have d6 : wadd .u64 (P / 4294967296) 0 = P / 4294967296 := by rw [DK om om]; omega
 have d7 : wadd .u64 (P / 4294967296) ((Q / 4294967296 + P % 4294967296) / 4294967296) = P / 4294967296 + (Q / 4294967296 + P % 4294967296) / 4294967296 := DK om om
 have d8 : wmul .u64 ((Q / 4294967296 + P % 4294967296) % 4294967296) 4294967296 = (Q / 4294967296 + P % 4294967296) % 4294967296 * 4294967296 := Fs om om
 have d9 : wadd .u64 ((Q / 4294967296 + P % 4294967296) % 4294967296 * 4294967296) (Q % 4294967296) = (Q / 4294967296 + P % 4294967296) % 4294967296 * 4294967296 + Q % 4294967296 := DK om om
 refine ⟨P / 4294967296 + (Q / 4294967296 + P % 4294967296) / 4294967296, (Q / 4294967296 + P % 4294967296) % 4294967296 * 4294967296 + Q % 4294967296, ?_, ?_, by omega, by omega, by omega⟩
 · rw [EU, a1, a2, a3, a4, b1, b2, b3, b4, c1, c2, c3, c4, c5, c6, d1, d2, d3, d4, d5, d6, d7, d8, d9]
 · rw [hxb]; omega
theorem JD (K : Nat) {a : Int} (ha : i64 a) : Dx K a = some (bif ilt a 0 then -a else a) := by
 unfold i64 at ha
 rw [Dx]
 cases h : ilt a 0
 · have := Ac.1 h
   have e : wconv .u64 a = a := by
    show IntKind.u64.wrap a = _
    simp [IntKind.wrap, IntKind.signed, IntKind.bits]; omega
   rw [e]; rfl
 · have := Ae.1 h
   have e1 : wadd .i64 a 1 = a + 1 := Ep (by unfold i64; omega)
   have e2 : wneg .i64 (a + 1) = -(a + 1) := by
    show IntKind.i64.wrap (0 - (a + 1)) = _
    rw [IntKind.wrap_i64]; omega
   have e3 : wconv .u64 (-(a + 1)) = -(a + 1) := by
    show IntKind.u64.wrap _ = _
    simp [IntKind.wrap, IntKind.signed, IntKind.bits]; omega
   have e4 : wadd .u64 (-(a + 1)) 1 = -a := by rw [DK om om]; omega
   rw [e1, e2, e3, e4]; rfl
def Cq (a b : Int) : Int × Bool := bif AA (a * b) then (a * b, true) else (0, false)
theorem NC (K : Nat) {a b : Int} (ha : i64 a) (hb : 1 ≤ b) (hb2 : b ≤ 1000) : Fc K a b = some (Cq a b) := by
 have hb0 : ilt b 0 = false := Ac.2 om
 have h175 : Dx K b = some b := by rw [JD K (by unfold i64; omega), hb0]; rfl
 have hconv : ∀ n : Int, 0 ≤ n → n ≤ 9223372036854775807 → wconv .i64 n = n := fun n h1 h2 => by
  show IntKind.i64.wrap n = _
  rw [IntKind.wrap_i64]; omega
 rw [Fc, JD K ha, h175, Cq, hb0]
 unfold i64 at ha
 cases h : ilt a 0
 · have hn := Ac.1 h
   obtain ⟨hi, lo, e, h1, h2, h3, h4⟩ := HU K hn om hb hb2
   simp only [bS, cF, e]
   cases c1 : ilt 0 hi
   · have c1' := Ac.1 c1
     cases c2 : ilt 9223372036854775808 lo
     · have c2' := Ac.1 c2
       cases c3 : ieq lo 9223372036854775808
       · have c3' := Ao.1 c3
         have hf : AA (a * b) = true := BO.2 (by unfold i64; omega)
         have : lo = a * b := by omega
         rw [hf, hconv lo h2 om, this]; rfl
       · have c3' := Am.1 c3
         have hf : AA (a * b) = false := CP.2 om
         rw [hf]; rfl
     · have c2' := Ae.1 c2
       have hf : AA (a * b) = false := CP.2 om
       rw [hf]; rfl
   · have c1' := Ae.1 c1
     have hf : AA (a * b) = false := CP.2 om
     rw [hf]; rfl
 · have hn := Ae.1 h
   obtain ⟨hi, lo, e, h1, h2, h3, h4⟩ := HU K (x := -a) om om hb hb2
   rw [Int.neg_mul] at h1
   simp only [bS, cT, e]
   cases c1 : ilt 0 hi
   · have c1' := Ac.1 c1
     cases c2 : ilt 9223372036854775808 lo
     · have c2' := Ac.1 c2
       cases c3 : ieq lo 9223372036854775808
       · have c3' := Ao.1 c3
         have hf : AA (a * b) = true := BO.2 (by unfold i64; omega)
         have hw : wneg .i64 lo = a * b := by
          show IntKind.i64.wrap (0 - lo) = _
          rw [IntKind.wrap_i64]; omega
         rw [hf, hconv lo h2 om, hw]; rfl
       · have c3' := Am.1 c3
         have hf : AA (a * b) = true := BO.2 (by unfold i64; omega)
         have : a * b = -9223372036854775808 := by omega
         rw [hf, this]; rfl
     · have c2' := Ae.1 c2
       have hf : AA (a * b) = false := CP.2 om
       rw [hf]; rfl
   · have c1' := Ae.1 c1
     have hf : AA (a * b) = false := CP.2 om
     rw [hf]; rfl
theorem E0 {a d : Int} (ha : i64 a) (hd : 1 ≤ d) : wquo .i64 a d = a.tdiv d ∧ i64 (a.tdiv d) := by
 unfold i64 at ha
 have h1 : (a.tdiv d).natAbs ≤ a.natAbs := Int.natAbs_tdiv_le_natAbs a d
 have h2 : -9223372036854775808 ≤ a.tdiv d ∧ a.tdiv d ≤ 9223372036854775808 := by omega
 have h3 : 0 ≤ a → 0 ≤ a.tdiv d := fun h => Int.tdiv_nonneg h om
 have h4 : a ≤ 0 → a.tdiv d ≤ 0 := fun h => by
  have := Int.tdiv_nonneg (show 0 ≤ -a by omega) (show 0 ≤ d by omega)
  rw [Int.neg_tdiv] at this; omega
 have h5 : i64 (a.tdiv d) := by
  unfold i64
  rcases Int.le_total 0 a with h | h
  · have := h3 h; omega
  · have := h4 h; omega
 refine ⟨?_, h5⟩
 unfold i64 at h5
 show IntKind.i64.wrap (a.tdiv d) = _
 rw [IntKind.wrap_i64]; omega
theorem J0 (K : Nat) {a b : Int} (ha : i64 a) (hb : 1 ≤ b) (hb2 : b ≤ 1000) : GF K a b = some (Cq a b) := by
 unfold i64 at ha
 rw [GF, Cq, Ao.2 (by omega : b ≠ 0), Ao.2 (by omega : b ≠ -1)]
 cases h0 : ieq a 0
 · have h0' := Ao.1 h0
   cases h1 : ieq a (-1)
   · have hz : izero b = false := decide_eq_false om
     simp only [cF, hz]
     obtain ⟨t, ht⟩ : ∃ t, a * b = t := ⟨_, rfl⟩
     obtain ⟨p, hp⟩ : ∃ p, wmul .i64 a b = p := ⟨_, rfl⟩
     have hp' : p = if 9223372036854775808 ≤ t % 18446744073709551616 then t % 18446744073709551616 - 18446744073709551616 else t % 18446744073709551616 := by
      rw [← hp, ← ht]
      show IntKind.i64.wrap (a * b) = _
      rw [IntKind.wrap_i64, ht]
      split <;> omega
     have hpr : -9223372036854775808 ≤ p ∧ p ≤ 9223372036854775807 := by rw [hp']; split <;> omega
     obtain ⟨q, hq⟩ : ∃ q, p.tdiv b = q := ⟨_, rfl⟩
     obtain ⟨r, hr⟩ : ∃ r, p.tmod b = r := ⟨_, rfl⟩
     have hdiv : b * q + r = p := by rw [← hq, ← hr]; exact Int.mul_tdiv_add_tmod p b
     have hrb : -1000 < r ∧ r < 1000 := by
      have h1 := Int.tmod_lt_of_pos p (show 0 < b by omega)
      have h2 := Int.lt_tmod_of_pos p (show 0 < b by omega)
      omega
     have hqr : -9223372036854775808 ≤ q ∧ q ≤ 9223372036854775807 := by
      have : i64 (p.tdiv b) := (E0 (show i64 p from hpr) hb).2
      unfold i64 at this
      rw [hq] at this; exact this
     have hw : wquo .i64 p b = q := by rw [(E0 (show i64 p from hpr) hb).1, hq]
     rw [hp, hw, ht]
     cases hf : AA t
     · have hf' := CP.1 hf
       have hne : ieq q a = false := Ao.2 fun hc => by
        have hba : b * q = t := by rw [hc, Int.mul_comm]; exact ht
        rw [hba] at hdiv
        have := hp'
        split at this <;> omega
       rw [hne]; rfl
     · have hf' := BO.1 hf
       unfold i64 at hf'
       have hpt : p = t := by rw [hp']; split <;> omega
       have hqa : q = a := by
        rw [← hq, hpt, ← ht]
        exact Int.mul_tdiv_cancel a om
       rw [hqa, Cn, hpt]; rfl
   · have h1' := Am.1 h1
     subst h1'
     have e1 : ieq (-1) (-9223372036854775808) = false := rfl
     have e2 : ieq b (-9223372036854775808) = false := Ao.2 om
     have e3 : AA (-1 * b) = true := BO.2 (by unfold i64; omega)
     have e4 : wmul .i64 (-1) b = -1 * b := Im (by unfold i64; omega)
     rw [e1, e2, e3, e4]; rfl
 · have h0' := Am.1 h0
   subst h0'
   have e3 : AA (0 * b) = true := BO.2 (by unfold i64; omega)
   rw [e3, Int.zero_mul]; rfl
def Cr (v n d : Int) : Int × Bool := bif ilt d 1 then (0, false) else bif (Cq v n).2 then ((Cq v n).1.tdiv d, true) else (0, false)
theorem Gw {a b : Int} : i64 (Cq a b).1 := by
 rw [Cq]
 cases h : AA (a * b)
 · unfold i64; simp
 · exact BO.1 h
theorem Jm {v n d : Int} : i64 (Cr v n d).1 := by
 have h0 : i64 0 := by unfold i64; omega
 rw [Cr]
 cases hd : ilt d 1
 · cases (Cq v n).2
   · exact h0
   · exact (E0 Gw (Ac.1 hd)).2
 · exact h0
theorem HR (K : Nat) {v n : Int} (d : Int) (hv : i64 v) (hn : 1 ≤ n) (hn2 : n ≤ 1000) : Df K v n d = some (Cr v n d) := by
 rw [Df, NC K hv hn hn2, bS, Cr]
 cases hd : ilt d 1
 · have hd' := Ac.1 hd
   have hz : izero d = false := decide_eq_false om
   rw [(E0 (Gw (a := v) (b := n)) hd').1, hz]
   cases (Cq v n).2 <;> rfl
 · cases (Cq v n).2 <;> rfl
theorem LR (K : Nat) {v n : Int} (d : Int) (hv : i64 v) (hn : 1 ≤ n) (hn2 : n ≤ 1000) : GT K v n d = some (Cr v n d) := by
 rw [GT, J0 K hv hn hn2, Cr]
 cases hd : ilt d 1
 · have hd' := Ac.1 hd
   have hz : izero d = false := decide_eq_false om
   rw [cF, cF, bS, (E0 (Gw (a := v) (b := n)) hd').1, hz]
   cases (Cq v n).2 <;> rfl
 · rfl
def FP (got : Int) : Int × Bool := bif (Cr got 85 100).2 then BI 150000 (Cr got 85 100).1 else (0, false)
theorem FU {a b : Int} : i64 (BI a b).1 := by
 rw [BI]
 cases h : AA (a + b)
 · unfold i64; simp
 · exact BO.1 h
theorem PL {got : Int} : i64 (FP got).1 := by
 rw [FP]
 cases (Cr got 85 100).2
 · unfold i64; simp
 · exact FU
def Ad (g : GGraph) (v : Int) : List GEdge := bif ieq (Bc g) 0 then g.Edges.filter (fun e => ieq e.From v) else []
theorem LC (l : List GEdge) (v : Int) : ∀ (s : List GEdge), s.length + l.length ≤ 80 →
 goL (fun x (s : List GEdge) c => bif (ieq x.From v) then (bif (apok (len s) 1 24) then c (appL s [x]) else none) else c s) (fun s => some s) l s = some (s ++ l.filter (fun e => ieq e.From v)) := by
 induction l with
 | nil => intro s _; simp [goL]
 | cons x l ih =>
  intro s hs
  simp only [List.length_cons] at hs
  rw [goL]
  cases hx : ieq x.From v
  · rw [cF, ih s om, List.filter_cons, hx]; rfl
  · have ha : apok (len s) 1 24 = true := decide_eq_true ⟨by show s.length + 1 ≤ _; omega, by show (s.length + 1) * 24 ≤ _; omega⟩
    rw [cT, ha, cT, ih _ (by simp [appL]; omega), List.filter_cons, hx]
    simp [appL]
theorem E4 {K : Nat} (hK : 100 ≤ K) (g : GGraph) (v : Int) : BD K g v = some (Ad g v) := by
 rw [BD, HQ hK, bS, Ad]
 cases hc : ieq (Bc g) 0
 · rfl
 · obtain ⟨h1, h2, h3, h4⟩ := B4 hc
   have e : D4 K g v K [] 0 = _ := Aq (l := g.Edges) (L := fun k s i => D4 K g v k s i) (fun x (s : List GEdge) c => bif (ieq x.From v) then (bif (apok (len s) 1 24) then c (appL s [x]) else none) else c s) (fun s => some s) (fun k s i _ => rfl) om om []
   rw [cT, cT, e, LC _ _ _ (by simpa using h3)]; rfl
theorem Da {g : GGraph} {v : Int} : (Ad g v).length ≤ 80 := by
 rw [Ad]
 cases hc : ieq (Bc g) 0
 · simp
 · obtain ⟨h1, h2, h3, h4⟩ := B4 hc
   exact Nat.le_trans (List.length_filter_le _ _) h3
def Cg (p val : Int) (e : GEdge) (many : Int) : Int × Bool := bif ieq p 1 then BI val e.W else bif ieq p 3 then BI val 1 else bif ieq p 5 then Cr val 1 many else (val, true)
def AB (p val many : Int) : List GEdge → List GMsg → Option (List GMsg)
 | [], s => some s
 | e :: l, s => bif (Cg p val e many).2 then AB p val many l (s ++ [GMsg.mk e.To (Cg p val e many).1]) else none
def CF {α : Type} : Option α → Unit ⊕ α
 | none => .inl ()
 | some s => .inr s
def Ce (rest : Bool) (val : Int) : Option (List GMsg) → Int × List GMsg × Bool × Int
 | none => (0, [], false, 8)
 | some s => (val, s, rest, 0)
theorem HE (rest : Bool) (val : Int) (o : Option (List GMsg)) : (some (CF o)).bind (fun y => Sum.elim (fun w => some ((0, ([], (false, 8))) : Int × List GMsg × Bool × Int)) (fun w => some (val, (w, (rest, 0)))) y) = some (Ce rest val o) := by
 cases o <;> rfl
theorem FJ (rest : Bool) (val : Int) (o : Option (List GMsg)) : Sum.elim (fun w => some ((0, ([], (false, 8))) : Int × List GMsg × Bool × Int)) (fun w => some (val, (w, (rest, 0)))) (CF o) = some (Ce rest val o) := by
 cases o <;> rfl
theorem Du (p val many : Int) (f : GEdge → Option (Int × Bool)) (l : List GEdge) (hf : ∀ e ∈ l, f e = some (Cg p val e many)) : ∀ (s : List GMsg), s.length + l.length ≤ 80 →
 goL (fun e (s : List GMsg) c => (f e).bind fun r => bif r.2 then (bif (apok (len s) 1 16) then c (appL s [(GMsg.mk e.To r.1)]) else none) else some (.inl ())) (fun s => some (.inr s)) l s = some (CF (AB p val many l s)) := by
 induction l with
 | nil => intro s _; rfl
 | cons x l ih =>
  intro s hs
  simp only [List.length_cons] at hs
  rw [goL, hf x List.mem_cons_self, bS, AB]
  cases (Cg p val x many).2
  · rfl
  · have ha : apok (len s) 1 16 = true := decide_eq_true ⟨by show s.length + 1 ≤ _; omega, by show (s.length + 1) * 16 ≤ _; omega⟩
    rw [cT, ha, cT, ih (fun e he => hf e (List.mem_cons_of_mem _ he)) _ (by simp [appL]; omega), cT]; rfl
theorem F3 {g : GGraph} {v : Int} {e : GEdge} (h : e ∈ Ad g v) : 0 ≤ e.W ∧ e.W ≤ 4611686018427387904 := by
 rw [Ad] at h
 cases hc : ieq (Bc g) 0
 · rw [hc] at h; cases h
 · obtain ⟨h1, h2, h3, h4⟩ := B4 hc
   rw [hc] at h
   have := Ej (Fz h4 e (List.mem_filter.1 h).1)
   omega
theorem JU (K : Nat) {val : Int} {e : GEdge} (many : Int) (hv : i64 val) (he : i64 e.W) : F83 K val e = some (Cg 1 val e many) := by
 rw [F83, FB K hv he]; rfl
theorem MV (K : Nat) {val : Int} (e : GEdge) (many : Int) (hv : i64 val) : F85 K val e = some (Cg 3 val e many) := by
 rw [F85, FB K hv (by unfold i64; omega)]; rfl
theorem Gc (K : Nat) (p : Int) {val many : Int} {e : GEdge} (hv : i64 val) (he : i64 e.W) : F76 K p val e many = some (Cg p val e many) := by
 rw [F76, Cg, Ho K hv he, Ho K hv (show i64 1 by unfold i64; omega), LR K many hv (show (1 : Int) ≤ 1 by omega) (show (1 : Int) ≤ 1000 by omega)]
 cases ieq p 1 <;> cases ieq p 3 <;> cases ieq p 5 <;> rfl
def AF (g : GGraph) (v : Int) : Int := nlen (len (Ad g v))
section loops
variable {K : Nat} (hK : 100 ≤ K) (g : GGraph) (v : Int) {val : Int} (hv : i64 val)
include hK hv
theorem IC (b : Bool) : Cs K val b (Ad g v) K [] 0 = some (CF (AB 1 val (AF g v) (Ad g v) [])) := by
 have hl := Da (g := g) (v := v)
 have e := Aq (l := Ad g v) (L := fun k s i => Cs K val b (Ad g v) k s i) (fun e (s : List GMsg) c => (F83 K val e).bind fun r => bif r.2 then (bif (apok (len s) 1 16) then c (appL s [(GMsg.mk e.To r.1)]) else none) else some (.inl ())) (fun s => some (.inr s)) (fun k s i _ => rfl) (K := K) om om []
 exact e.trans (Du 1 val (AF g v) (F83 K val) _ (fun e he => JU K _ hv (by have := F3 he; unfold i64; omega)) [] (by simpa using hl))
theorem HZ (b : Bool) : Cx K val b (Ad g v) K [] 0 = some (CF (AB 3 val (AF g v) (Ad g v) [])) := by
 have hl := Da (g := g) (v := v)
 have e := Aq (l := Ad g v) (L := fun k s i => Cx K val b (Ad g v) k s i) (fun e (s : List GMsg) c => (F85 K val e).bind fun r => bif r.2 then (bif (apok (len s) 1 16) then c (appL s [(GMsg.mk e.To r.1)]) else none) else some (.inl ())) (fun s => some (.inr s)) (fun k s i _ => rfl) (K := K) om om []
 exact e.trans (Du 3 val (AF g v) (F85 K val) _ (fun e he => MV K e _ hv) [] (by simpa using hl))
omit hv in
theorem HY (val : Int) (b : Bool) : Cm K val b (Ad g v) K [] 0 = some (CF (AB 2 val (AF g v) (Ad g v) [])) := by
 have hl := Da (g := g) (v := v)
 have e := Aq (l := Ad g v) (L := fun k s i => Cm K val b (Ad g v) k s i) (fun e (s : List GMsg) c => (F87 K val e).bind fun r => bif r.2 then (bif (apok (len s) 1 16) then c (appL s [(GMsg.mk e.To r.1)]) else none) else some (.inl ())) (fun s => some (.inr s)) (fun k s i _ => rfl) (K := K) om om []
 exact e.trans (Du 2 val (AF g v) (F87 K val) _ (fun e he => rfl) [] (by simpa using hl))
omit hv in
theorem Il (val : Int) (b : Bool) : Ci K val b (Ad g v) K [] 0 = some (CF (AB 4 val (AF g v) (Ad g v) [])) := by
 have hl := Da (g := g) (v := v)
 have e := Aq (l := Ad g v) (L := fun k s i => Ci K val b (Ad g v) k s i) (fun e (s : List GMsg) c => (F87 K val e).bind fun r => bif r.2 then (bif (apok (len s) 1 16) then c (appL s [(GMsg.mk e.To r.1)]) else none) else some (.inl ())) (fun s => some (.inr s)) (fun k s i _ => rfl) (K := K) om om []
 exact e.trans (Du 4 val (AF g v) (F87 K val) _ (fun e he => rfl) [] (by simpa using hl))
theorem JG : Dy K (Ad g v) val K [] 0 = some (CF (AB 5 val (AF g v) (Ad g v) [])) := by
 have hl := Da (g := g) (v := v)
 have e := Aq (l := Ad g v) (L := fun k s i => Dy K (Ad g v) val k s i) (fun e (s : List GMsg) c => (Df K val 1 (nlen (len (Ad g v)))).bind fun r => bif r.2 then (bif (apok (len s) 1 16) then c (appL s [(GMsg.mk e.To r.1)]) else none) else some (.inl ())) (fun s => some (.inr s)) (fun k s i _ => rfl) (K := K) om om []
 exact e.trans (Du 5 val (AF g v) (fun _ => Df K val 1 (nlen (len (Ad g v)))) _ (fun e he => HR K _ hv om om) [] (by simpa using hl))
theorem PV (p a b c : Int) : G1 K val p a b c (Ad g v) K [] 0 = some (CF (AB p val (AF g v) (Ad g v) [])) := by
 have hl := Da (g := g) (v := v)
 have e := Aq (l := Ad g v) (L := fun k s i => G1 K val p a b c (Ad g v) k s i) (fun e (s : List GMsg) c => (F76 K p val e (nlen (len (Ad g v)))).bind fun r => bif r.2 then (bif (apok (len s) 1 16) then c (appL s [(GMsg.mk e.To r.1)]) else none) else some (.inl ())) (fun s => some (.inr s)) (fun k s i _ => rfl) (K := K) om om []
 exact e.trans (Du p val (AF g v) (fun e => F76 K p val e (nlen (len (Ad g v)))) _ (fun e he => Gc K p hv (by have := F3 he; unfold i64; omega)) [] (by simpa using hl))
theorem PX (p a b c : Int) (m : Bool) : FZ K val p a b c m (Ad g v) K [] 0 = some (bif m then CF (AB p val (AF g v) (Ad g v) []) else .inr []) := by
 have hl := Da (g := g) (v := v)
 cases m
 · obtain ⟨k, rfl⟩ : ∃ k, K = k + 1 := ⟨K - 1, by omega⟩
   rw [FZ]
   cases ilt 0 (nlen (len (Ad g v))) <;> rfl
 · have e := Aq (l := Ad g v) (L := fun k s i => FZ K val p a b c true (Ad g v) k s i) (fun e (s : List GMsg) c => (F76 K p val e (nlen (len (Ad g v)))).bind fun r => bif r.2 then (bif (apok (len s) 1 16) then c (appL s [(GMsg.mk e.To r.1)]) else none) else some (.inl ())) (fun s => some (.inr s)) (fun k s i _ => rfl) (K := K) om om []
   exact e.trans (Du p val (AF g v) (fun e => F76 K p val e (nlen (len (Ad g v)))) _ (fun e he => Gc K p hv (by have := F3 he; unfold i64; omega)) [] (by simpa using hl))
theorem PW (p a b c : Int) (m : Bool) : FH K val p a b c m (Ad g v) K [] 0 = some (bif m then CF (AB p val (AF g v) (Ad g v) []) else .inr []) := by
 have hl := Da (g := g) (v := v)
 cases m
 · obtain ⟨k, rfl⟩ : ∃ k, K = k + 1 := ⟨K - 1, by omega⟩
   rw [FH]
   cases ilt 0 (nlen (len (Ad g v))) <;> rfl
 · have e := Aq (l := Ad g v) (L := fun k s i => FH K val p a b c true (Ad g v) k s i) (fun e (s : List GMsg) c => (F76 K p val e (nlen (len (Ad g v)))).bind fun r => bif r.2 then (bif (apok (len s) 1 16) then c (appL s [(GMsg.mk e.To r.1)]) else none) else some (.inl ())) (fun s => some (.inr s)) (fun k s i _ => rfl) (K := K) om om []
   exact e.trans (Du p val (AF g v) (fun e => F76 K p val e (nlen (len (Ad g v)))) _ (fun e he => Gc K p hv (by have := F3 he; unfold i64; omega)) [] (by simpa using hl))
omit hv in
theorem PU (val p a b c : Int) : GQ K val p a b c (Ad g v) K [] 0 = some (.inl []) := by
 obtain ⟨k, rfl⟩ : ∃ k, K = k + 1 := ⟨K - 1, by omega⟩
 rw [GQ, Cn]
 cases ilt 0 (nlen (len (Ad g v))) <;> rfl
end loops
def Dv (step val got : Int) (sm : Bool) : Int × Bool := bif ilt 0 step then FP (bif sm then got else 0) else (val, true)
def DB (step : Int) (w : Int × Bool) (many : Int) (l : List GEdge) : Int × List GMsg × Bool × Int :=
 bif w.2 then (bif ile 10 step then (w.1, [], true, 0) else Ce false w.1 (AB 5 w.1 many l [])) else (0, [], false, 8)
def CH (p val got : Int) (sm : Bool) : Int := bif sm then (Aw p val got).1 else val
def Di (p src step v val w : Int) : Bool := bif ieq step 0 && (bif ieq p 1 || ieq p 3 then ieq v src else true) then true else ine w val
def CU (p : Int) (m : Bool) (w many : Int) (l : List GEdge) : Int × List GMsg × Bool × Int :=
 bif m then Ce true w (AB p w many l []) else (w, [], true, 0)
def Ay (g : GGraph) (j : GJob) (step v val got : Int) (sm : Bool) : Int × List GMsg × Bool × Int :=
 bif ieq (Ah g j) 0 then
  (bif ilt v 0 then (0, [], false, 4) else bif ile g.N v then (0, [], false, 4)
   else bif ilt step 0 then (0, [], false, 1) else bif ilt 40 step then (0, [], false, 1)
   else bif ieq j.Prog 5 then DB step (Dv step val got sm) (AF g v) (Ad g v)
   else CU j.Prog (Di j.Prog j.Source step v val (CH j.Prog val got sm)) (CH j.Prog val got sm) (AF g v) (Ad g v))
 else (0, [], false, Ah g j)
theorem IX {K : Nat} (hK : 100 ≤ K) (g : GGraph) (v step : Int) {val got : Int} (hv : i64 val) (hg : i64 got) : Dp K (Ad g v) step val got = some (DB step (Dv step val got true) (AF g v) (Ad g v)) := by
 rw [Dp, HR K 100 hg om om, bS, FB K (by unfold i64; omega) Jm, Dv, DB]
 cases hs : ilt 0 step
 · rw [JG hK g v hv, HE]
   cases ile 10 step <;> rfl
 · rw [cT, cT, bS, cT, FP]
   cases (Cr got 85 100).2
   · rfl
   · cases h2 : (BI 150000 (Cr got 85 100).1).2
     · rw [cT, cT, h2]; rfl
     · rw [cT, cT, cT, h2, cT, JG hK g v FU, HE]
       cases ile 10 step <;> rfl
theorem NO {K : Nat} (hK : 100 ≤ K) (g : GGraph) (j : GJob) (step v : Int) {val got : Int} (sm : Bool) (hv : i64 val) (hg : i64 got) : F93 K g j step v val got sm = some (Ay g j step v val got sm) := by
 rw [F93, DO hK, bS, Ay]
 cases hc : ieq (Ah g j) 0
 · rfl
 · obtain ⟨hgc, p1, p2, p3, p4, p5, p6, p7, p8⟩ := Ca hc
   rw [cT, cT]
   cases h1 : ilt v 0
   · cases h2 : ile g.N v
     · cases h3 : ilt step 0
       · cases h4 : ilt 40 step
         · simp only [cF]
           rcases G4 j.Prog with q | q | q | q | q | q
           · have e5 : ieq 1 5 = false := rfl
             have e4 : ieq 1 4 = false := rfl
             have e1 : ieq 1 1 = true := rfl
             have e3 : ieq 1 3 = false := rfl
             have eb : An 1 = false := rfl
             rw [E4 hK, q, Gt, Di, CH, Aw, e5, e4, e1, e3, eb, CU]
             simp only [bS, cT, cF, Bv, Bg, Bi, A1, Bu, Bw, AZ, Bj, AU, Bn, Br, Bf, Ba, A5, Bz, A9, A3, Bk, AW, Bt, AV, Be, AY, Bm, Bl, Bs, A6, Bb, A8, A7, AX, Bx, Bd, Bo, Bh, Bp, IC hK g v hv, IC hK g v hg, F82, FJ, Bool.or_true, Bool.true_or, Bool.or_false, Bool.and_true]
             cases sm
             · have : ine val val = false := ine_t (Cn val)
               simp only [cF, this]
               cases ieq step 0 <;> cases ieq v j.Source <;> rfl
             · cases hb : ilt got val
               · have : ine val val = false := ine_t (Cn val)
                 simp only [cT, cF, this]
                 cases ieq step 0 <;> cases ieq v j.Source <;> rfl
               · have : ine got val = true := ine_f (Ao.2 (by have := Ae.1 hb; omega))
                 simp only [cT, cF, this]
                 cases ieq step 0 <;> cases ieq v j.Source <;> rfl
           · have e5 : ieq 2 5 = false := rfl
             have e4 : ieq 2 4 = false := rfl
             have e1 : ieq 2 1 = false := rfl
             have e3 : ieq 2 3 = false := rfl
             have eb : An 2 = false := rfl
             rw [E4 hK, q, Gy, Di, CH, Aw, e5, e4, e1, e3, eb, CU]
             simp only [bS, cT, cF, Bv, Bg, Bi, A1, Bu, Bw, AZ, Bj, AU, Bn, Br, Bf, Ba, A5, Bz, A9, A3, Bk, AW, Bt, AV, Be, AY, Bm, Bl, Bs, A6, Bb, A8, A7, AX, Bx, Bd, Bo, Bh, Bp, HY hK g v val, HY hK g v got, F82, FJ, Bool.or_true, Bool.true_or, Bool.or_false, Bool.and_true]
             cases sm
             · have : ine val val = false := ine_t (Cn val)
               simp only [cF, this]
               cases ieq step 0 <;> rfl
             · cases hb : ilt got val
               · have : ine val val = false := ine_t (Cn val)
                 simp only [cT, cF, this]
                 cases ieq step 0 <;> rfl
               · have : ine got val = true := ine_f (Ao.2 (by have := Ae.1 hb; omega))
                 simp only [cT, cF, this]
                 cases ieq step 0 <;> rfl
           · have e5 : ieq 3 5 = false := rfl
             have e4 : ieq 3 4 = false := rfl
             have e1 : ieq 3 1 = false := rfl
             have e3 : ieq 3 3 = true := rfl
             have eb : An 3 = false := rfl
             rw [E4 hK, q, Ge, Di, CH, Aw, e5, e4, e1, e3, eb, CU]
             simp only [bS, cT, cF, Bv, Bg, Bi, A1, Bu, Bw, AZ, Bj, AU, Bn, Br, Bf, Ba, A5, Bz, A9, A3, Bk, AW, Bt, AV, Be, AY, Bm, Bl, Bs, A6, Bb, A8, A7, AX, Bx, Bd, Bo, Bh, Bp, HZ hK g v hv, HZ hK g v hg, F82, FJ, Bool.or_true, Bool.true_or, Bool.or_false, Bool.and_true]
             cases sm
             · have : ine val val = false := ine_t (Cn val)
               simp only [cF, this]
               cases ieq step 0 <;> cases ieq v j.Source <;> rfl
             · cases hb : ilt got val
               · have : ine val val = false := ine_t (Cn val)
                 simp only [cT, cF, this]
                 cases ieq step 0 <;> cases ieq v j.Source <;> rfl
               · have : ine got val = true := ine_f (Ao.2 (by have := Ae.1 hb; omega))
                 simp only [cT, cF, this]
                 cases ieq step 0 <;> cases ieq v j.Source <;> rfl
           · have e5 : ieq 4 5 = false := rfl
             have e4 : ieq 4 4 = true := rfl
             have e1 : ieq 4 1 = false := rfl
             have e3 : ieq 4 3 = false := rfl
             have eb : An 4 = false := rfl
             rw [E4 hK, q, G2, Di, CH, Aw, e5, e4, e1, e3, eb, CU]
             simp only [bS, cT, cF, Bv, Bg, Bi, A1, Bu, Bw, AZ, Bj, AU, Bn, Br, Bf, Ba, A5, Bz, A9, A3, Bk, AW, Bt, AV, Be, AY, Bm, Bl, Bs, A6, Bb, A8, A7, AX, Bx, Bd, Bo, Bh, Bp, Il hK g v val, Il hK g v got, F89, igt, FJ, Bool.or_true, Bool.true_or, Bool.or_false, Bool.and_true]
             have hd : decide (got > val) = ilt val got := rfl
             rw [hd]
             cases sm
             · have : ine val val = false := ine_t (Cn val)
               simp only [cF, this]
               cases ieq step 0 <;> rfl
             · cases hb : ilt val got
               · have : ine val val = false := ine_t (Cn val)
                 simp only [cT, cF, this]
                 cases ieq step 0 <;> rfl
               · have : ine got val = true := ine_f (Ao.2 (by have := Ae.1 hb; omega))
                 simp only [cT, cF, this]
                 cases ieq step 0 <;> rfl
           · have e5 : ieq 5 5 = true := rfl
             rw [E4 hK, q, GR, e5]
             simp only [bS, cT, cF, Bv, Bg, Bi, A1, Bu, Bw, AZ, Bj, AU, Bn, Br, Bf, Ba, A5, Bz, A9, A3, Bk, AW, Bt, AV, Be, AY, Bm, Bl, Bs, A6, Bb, A8, A7, AX, Bx, Bd, Bo, Bh, Bp, IX hK g v step hv hg, IX hK g v step hv (show i64 0 by unfold i64; omega)]
             cases sm <;> rfl
           · omega
         · rfl
       · rfl
     · rfl
   · rfl
theorem G8 {p val many : Int} : ∀ {l : List GEdge} {s r : List GMsg}, AB p val many l s = some r → r.map (·.To) = s.map (·.To) ++ l.map (·.To)
 | [], s, r, h => by injection h with h; subst h; simp
 | e :: l, s, r, h => by
  rw [AB] at h
  cases hq : (Cg p val e many).2
  · rw [hq] at h; cases h
  · rw [hq, cT] at h
    rw [G8 h]; simp
theorem Jk {g : GGraph} {j : GJob} {step v val got : Int} {sm : Bool} (h : ieq (Ay g j step v val got sm).2.2.2 0 = true) :
 (Ay g j step v val got sm).2.1 = [] ∨ ((Ay g j step v val got sm).2.1.map (·.To) = (Ad g v).map (·.To)) := by
 have hs : ∀ (b : Bool) (w : Int) (p : Int), (Ce b w (AB p w (AF g v) (Ad g v) [])).2.1 = [] ∨ (Ce b w (AB p w (AF g v) (Ad g v) [])).2.1.map (·.To) = (Ad g v).map (·.To) := fun b w p => by
  cases hq : AB p w (AF g v) (Ad g v) []
  · left; rfl
  · right; have := G8 hq; simpa [Ce] using this
 rw [Ay]
 cases ieq (Ah g j) 0
 · left; rfl
 · cases ilt v 0
   · cases ile g.N v
     · cases ilt step 0
       · cases ilt 40 step
         · simp only [cT, cF]
           cases ieq j.Prog 5
           · rw [cF, CU]
             cases Di j.Prog j.Source step v val (CH j.Prog val got sm)
             · left; rfl
             · exact hs _ _ _
           · rw [cT, DB]
             cases (Dv step val got sm).2
             · left; rfl
             · cases ile 10 step
               · exact hs _ _ _
               · left; rfl
         · left; rfl
       · left; rfl
     · left; rfl
   · left; rfl
theorem Ij {g : GGraph} {j : GJob} {step v val got : Int} {sm : Bool} (h : ieq (Ay g j step v val got sm).2.2.2 0 = false) : (Ay g j step v val got sm).1 = 0 ∧ (Ay g j step v val got sm).2.1 = [] := by
 have hs : ∀ (b : Bool) (w : Int) (o : Option (List GMsg)), ieq (Ce b w o).2.2.2 0 = false → (Ce b w o).1 = 0 ∧ (Ce b w o).2.1 = [] := fun b w o => by
  cases o
  · intro _; exact ⟨rfl, rfl⟩
  · intro h; cases h
 rw [Ay] at h ⊢
 cases hc : ieq (Ah g j) 0
 · exact ⟨rfl, rfl⟩
 · rw [hc] at h
   cases h1 : ilt v 0
   · cases h2 : ile g.N v
     · cases h3 : ilt step 0
       · cases h4 : ilt 40 step
         · rw [h1, h2, h3, h4] at h
           simp only [cT, cF] at h ⊢
           cases h5 : ieq j.Prog 5
           · rw [h5, cF, CU] at h
             rw [cF, CU]
             cases hm : Di j.Prog j.Source step v val (CH j.Prog val got sm)
             · rw [hm] at h; cases h
             · rw [hm] at h; exact hs _ _ _ h
           · rw [h5, cT, DB] at h
             rw [cT, DB]
             cases hw : (Dv step val got sm).2
             · exact ⟨rfl, rfl⟩
             · rw [hw] at h
               cases h10 : ile 10 step
               · rw [h10] at h; exact hs _ _ _ h
               · rw [h10] at h; cases h
         · exact ⟨rfl, rfl⟩
       · exact ⟨rfl, rfl⟩
     · exact ⟨rfl, rfl⟩
   · exact ⟨rfl, rfl⟩
theorem JY {g : GGraph} {j : GJob} {step v val got : Int} {sm : Bool} : (Ay g j step v val got sm).2.1.length ≤ 80 := by
 have ho := Da (g := g) (v := v)
 cases h : ieq (Ay g j step v val got sm).2.2.2 0
 · rw [(Ij h).2]; simp
 · rcases Jk h with hz | hz
   · rw [hz]; simp
   · have := congrArg List.length hz
     simp only [List.length_map] at this
     omega
abbrev Tri := List Int × List Bool × List GMsg
theorem JW {p val many : Int} {e : GEdge} (hv : i64 val) : i64 (Cg p val e many).1 := by
 rw [Cg]
 cases ieq p 1
 · cases ieq p 3
   · cases ieq p 5
     · exact hv
     · exact Jm
   · exact FU
 · exact FU
theorem Hi {p val many : Int} (hv : i64 val) : ∀ {l : List GEdge} {s r : List GMsg}, (∀ m ∈ s, i64 m.V) → AB p val many l s = some r → ∀ m ∈ r, i64 m.V
 | [], s, r, hs, h => by injection h with h; subst h; exact hs
 | e :: l, s, r, hs, h => by
  rw [AB] at h
  cases hq : (Cg p val e many).2
  · rw [hq] at h; cases h
  · rw [hq, cT] at h
    refine Hi hv (fun m hm => ?_) h
    rcases List.mem_append.1 hm with hm | hm
    · exact hs m hm
    · rw [List.mem_singleton.1 hm]; exact JW hv
theorem Ia {p w many : Int} {b : Bool} {l : List GEdge} (hw : i64 w) : i64 (Ce b w (AB p w many l [])).1 ∧ ∀ m ∈ (Ce b w (AB p w many l [])).2.1, i64 m.V := by
 have h0 : i64 0 := by unfold i64; omega
 cases hq : AB p w many l []
 · exact ⟨h0, fun m hm => absurd hm (List.not_mem_nil)⟩
 · exact ⟨hw, Hi hw (fun m hm => absurd hm (List.not_mem_nil)) hq⟩
theorem KG {g : GGraph} {j : GJob} {step v val got : Int} {sm : Bool} (hv : i64 val) (hg : i64 got) : i64 (Ay g j step v val got sm).1 ∧ ∀ m ∈ (Ay g j step v val got sm).2.1, i64 m.V := by
 have h0 : i64 0 := by unfold i64; omega
 have hn : ∀ m ∈ ([] : List GMsg), i64 m.V := fun m hm => absurd hm (List.not_mem_nil)
 rw [Ay]
 cases ieq (Ah g j) 0
 · exact ⟨h0, hn⟩
 · cases ilt v 0
   · cases ile g.N v
     · cases ilt step 0
       · cases ilt 40 step
         · simp only [cT, cF]
           cases ieq j.Prog 5
           · have hw : i64 (CH j.Prog val got sm) := by
              rw [CH]
              cases sm
              · exact hv
              · exact Gx hv hg
             rw [cF, CU]
             cases Di j.Prog j.Source step v val (CH j.Prog val got sm)
             · exact ⟨hw, hn⟩
             · exact Ia hw
           · have hw : i64 (Dv step val got sm).1 := by
              rw [Dv]
              cases ilt 0 step
              · exact hv
              · exact PL
             rw [cT, DB]
             cases (Dv step val got sm).2
             · exact ⟨h0, hn⟩
             · cases ile 10 step
               · exact Ia hw
               · exact ⟨hw, hn⟩
         · exact ⟨h0, hn⟩
       · exact ⟨h0, hn⟩
     · exact ⟨h0, hn⟩
   · exact ⟨h0, hn⟩
theorem Nv {α : Type} {l : List α} {i : Nat} (h : i < l.length) (d : α) : inr (i : Int) (len l) = true ∧ elAt l (i : Int) = some (l.getD i d) := by
 refine ⟨decide_eq_true ⟨by omega, by show (i : Int) < (l.length : Int); omega⟩, ?_⟩
 rw [BA, List.getElem?_eq_getElem h, List.getD_eq_getElem?_getD, List.getElem?_eq_getElem h]; rfl
theorem Gg (p : Int) : ∀ (r : List GMsg) (c : GMsg) (d w : List GMsg), CI p r c d = .inr w → (∀ x ∈ r, c.To ≤ x.To) → r.Pairwise (fun a b => a.To ≤ b.To) → (d ++ [c]).Pairwise (fun a b => a.To < b.To) →
 w.Pairwise (fun a b => a.To < b.To) ∧ ∀ t ∈ w, ∃ s ∈ d ++ c :: r, s.To = t.To
 | [], c, d, w, h, _, _, hd => by
  injection h with h
  subst h
  exact ⟨hd, fun t ht => ⟨t, ht, rfl⟩⟩
 | x :: r, c, d, w, h, hc, hr, hd => by
  rw [CI] at h
  obtain ⟨hx, hr'⟩ := List.pairwise_cons.1 hr
  cases h1 : ieq c.To x.To
  · rw [h1, cF] at h
    have hne := Ao.1 h1
    have hlt := hc x List.mem_cons_self
    obtain ⟨q1, q2⟩ := Gg p r x (d ++ [c]) w h hx hr' (by
     refine List.pairwise_append.2 ⟨hd, List.pairwise_singleton _ _, fun u hu v hv => ?_⟩
     rw [List.mem_singleton.1 hv]
     rcases List.mem_append.1 hu with hu | hu
     · have := (List.pairwise_append.1 hd).2.2 u hu c (List.mem_singleton.2 rfl); omega
     · rw [List.mem_singleton.1 hu]; omega)
    exact ⟨q1, fun t ht => by
     obtain ⟨s, hs, e⟩ := q2 t ht
     exact ⟨s, by simpa using hs, e⟩⟩
  · rw [h1, cT] at h
    cases h2 : ieq (Aw p c.V x.V).2 0
    · rw [h2] at h; cases h
    · rw [h2, cT] at h
      obtain ⟨q1, q2⟩ := Gg p r (GMsg.mk c.To (Aw p c.V x.V).1) d w h (fun y hy => hc y (List.mem_cons_of_mem _ hy)) hr' (by
       obtain ⟨a, b, e⟩ := List.pairwise_append.1 hd
       exact List.pairwise_append.2 ⟨a, List.pairwise_singleton _ _, fun u hu v hv => by rw [List.mem_singleton.1 hv]; exact e u hu c (List.mem_singleton.2 rfl)⟩)
      refine ⟨q1, fun t ht => ?_⟩
      obtain ⟨s, hs, e⟩ := q2 t ht
      rcases List.mem_append.1 hs with hs | hs
      · exact ⟨s, List.mem_append_left _ hs, e⟩
      · rcases List.mem_cons.1 hs with rfl | hs
        · exact ⟨c, List.mem_append_right _ List.mem_cons_self, e⟩
        · exact ⟨s, List.mem_append_right _ (List.mem_cons_of_mem _ (List.mem_cons_of_mem _ hs)), e⟩
theorem I3 {p : Int} {l : List GMsg} : (Ak p l).1.Pairwise (fun a b => a.To < b.To) ∧ ∀ t ∈ (Ak p l).1, ∃ s ∈ l, s.To = t.To := by
 have hn : (([] : List GMsg).Pairwise (fun a b => a.To < b.To)) ∧ ∀ t ∈ ([] : List GMsg), ∃ s ∈ l, s.To = t.To := ⟨List.Pairwise.nil, fun t ht => absurd ht List.not_mem_nil⟩
 have hp := CJ l
 have hs : (Ap l).Pairwise (fun a b => a.To ≤ b.To) := (EM l).imp fun {a b} h => by have := Fi.1 h; omega
 rw [Ak]
 cases An p
 · rw [cF]
   generalize Ap l = m at *
   cases m with
   | nil => exact hn
   | cons x r =>
    rw [Fq]
    cases hq : CI p r x [] with
    | inl e => exact hn
    | inr w =>
     obtain ⟨h1, h2⟩ := List.pairwise_cons.1 hs
     obtain ⟨q1, q2⟩ := Gg p r x [] w hq h1 h2 (List.pairwise_singleton _ _)
     exact ⟨q1, fun t ht => by
      obtain ⟨s, hs, e⟩ := q2 t ht
      exact ⟨s, hp.mem_iff.1 hs, e⟩⟩
 · exact hn
theorem NS {g : GGraph} {v : Int} {e : GEdge} (h : e ∈ Ad g v) : 0 ≤ e.To ∧ e.To < g.N := by
 rw [Ad] at h
 cases hc : ieq (Bc g) 0
 · rw [hc] at h; cases h
 · obtain ⟨h1, h2, h3, h4⟩ := B4 hc
   rw [hc] at h
   have := Ej (Fz h4 e (List.mem_filter.1 h).1)
   omega
theorem Pw {g : GGraph} {j : GJob} {step v val got : Int} {sm : Bool} : ∀ m ∈ (Ay g j step v val got sm).2.1, 0 ≤ m.To ∧ m.To < g.N := by
 intro m hm
 cases h : ieq (Ay g j step v val got sm).2.2.2 0
 · rw [(Ij h).2] at hm; exact absurd hm List.not_mem_nil
 · rcases Jk h with hz | hz
   · rw [hz] at hm; exact absurd hm List.not_mem_nil
   · have : m.To ∈ (Ay g j step v val got sm).2.1.map (·.To) := List.mem_map.2 ⟨m, hm, rfl⟩
     rw [hz] at this
     obtain ⟨e, he, q⟩ := List.mem_map.1 this
     rw [← q]; exact NS he
def AC (g : GGraph) (j : GJob) (x : GPart) (i v : Nat) : Int × List GMsg × Bool × Int :=
 bif x.Rest.getD i false && !(atS x.In (v : Int)).2 then (x.Vals.getD i 0, [], true, 0)
 else Ay g j x.Step (v : Int) (x.Vals.getD i 0) (atS x.In (v : Int)).1 (atS x.In (v : Int)).2
def doA (g : GGraph) (j : GJob) (x : GPart) : List Nat → Nat → List Int → List Bool → List GMsg → Int ⊕ Tri
 | [], _, a, b, c => .inr (a, b, c)
 | v :: l, i, a, b, c => bif ieq (AC g j x i v).2.2.2 0 then doA g j x l (i + 1) (a ++ [(AC g j x i v).1]) (b ++ [(AC g j x i v).2.2.1]) (c ++ (AC g j x i v).2.1) else .inl (AC g j x i v).2.2.2
def toS (j : GJob) (c : List GMsg) (q : Int) : List GMsg := c.filter fun m => ieq (AN j m.To) q
def CQ (j : GJob) (c : List GMsg) : List Nat → List (List GMsg) → Int ⊕ List (List GMsg)
 | [], d => .inr d
 | q :: l, d => bif ieq (Ak j.Prog (toS j c (q : Int))).2 0 then CQ j c l (d ++ [(Ak j.Prog (toS j c (q : Int))).1]) else .inl (Ak j.Prog (toS j c (q : Int))).2
abbrev Did := GPart × List (List GMsg) × Int
def doC (x : GPart) (w : Tri) : Int ⊕ List (List GMsg) → Did
 | .inl e => (BV, [], e)
 | .inr t => (GPart.mk x.P (x.Step + 1) w.1 w.2.1 [], t, 0)
def doB (j : GJob) (x : GPart) : Int ⊕ Tri → Did
 | .inl e => (BV, [], e)
 | .inr w => doC x w (CQ j w.2.2 (List.range j.Parts.toNat) [])
def doS (g : GGraph) (j : GJob) (x : GPart) : Did :=
 bif ieq (Ah g j) 0 then (bif As g j x then (bif ieq x.Step 40 then (BV, [], 6) else doB j x (doA g j x (Al g j x.P) 0 [] [] [])) else (BV, [], 1)) else (BV, [], Ah g j)
def AH (x : GPart) : Prop := (∀ v ∈ x.Vals, i64 v) ∧ (∀ m ∈ x.In, i64 m.V)
theorem NA {x : GPart} (h : WGPart x) : AH x := ⟨fun v hv => FG (h.2.2.1.2 v hv), fun m hm => FG ((h.2.2.2.2.1).2 m hm).2.1⟩
theorem La {g : GGraph} {j : GJob} {x : GPart} (hn : AH x) {i v : Nat} : i64 (AC g j x i v).1 ∧ ∀ m ∈ (AC g j x i v).2.1, i64 m.V := by
 have h0 : i64 0 := by unfold i64; omega
 have hx : i64 (x.Vals.getD i 0) := by
  rw [List.getD_eq_getElem?_getD]
  cases hq : x.Vals[i]? with
  | none => exact h0
  | some y => exact hn.1 y (List.mem_of_getElem? hq)
 rw [AC]
 cases x.Rest.getD i false && !(atS x.In (v : Int)).2
 · exact KG hx (Ht hn.2)
 · exact ⟨hx, fun m hm => absurd hm (List.not_mem_nil)⟩
theorem Jh {g : GGraph} {j : GJob} {x : GPart} {i v : Nat} : (AC g j x i v).2.1.length ≤ 80 ∧ ∀ m ∈ (AC g j x i v).2.1, 0 ≤ m.To ∧ m.To < g.N := by
 rw [AC]
 cases x.Rest.getD i false && !(atS x.In (v : Int)).2
 · exact ⟨JY, Pw⟩
 · exact ⟨Nat.zero_le _, fun m hm => absurd hm (List.not_mem_nil)⟩
structure keepP (g : GGraph) (i : Nat) (a : List Int) (b : List Bool) (c : List GMsg) : Prop where
 la : a.length = i
 lb : b.length = i
 lc : c.length ≤ 80 * i
 va : ∀ v ∈ a, i64 v
 vc : ∀ m ∈ c, i64 m.V
 vt : ∀ m ∈ c, 0 ≤ m.To ∧ m.To < g.N
theorem GP (g : GGraph) : keepP g 0 [] [] [] := ⟨rfl, rfl, Nat.zero_le _, fun v hv => absurd hv (List.not_mem_nil), fun m hm => absurd hm (List.not_mem_nil), fun m hm => absurd hm (List.not_mem_nil)⟩
theorem HF {g : GGraph} {j : GJob} {x : GPart} (hn : AH x) {i : Nat} (v : Nat) {a : List Int} {b : List Bool} {c : List GMsg} (h : keepP g i a b c) :
 keepP g (i + 1) (a ++ [(AC g j x i v).1]) (b ++ [(AC g j x i v).2.2.1]) (c ++ (AC g j x i v).2.1) := by
 obtain ⟨o1, o2⟩ := La (g := g) (j := j) hn (i := i) (v := v)
 obtain ⟨o3, o4⟩ := Jh (g := g) (j := j) (x := x) (i := i) (v := v)
 refine ⟨by simp [h.la], by simp [h.lb], ?_, fun v hv => ?_, fun m hm => ?_, fun m hm => ?_⟩
 · have h3 := h.lc
   rw [List.length_append]; omega
 · rcases List.mem_append.1 hv with hv | hv
   · exact h.va v hv
   · rw [List.mem_singleton.1 hv]; exact o1
 · rcases List.mem_append.1 hm with hm | hm
   · exact h.vc m hm
   · exact o2 m hm
 · rcases List.mem_append.1 hm with hm | hm
   · exact h.vt m hm
   · exact o4 m hm
theorem Jn {g : GGraph} {j : GJob} {x : GPart} (hn : AH x) : ∀ (l : List Nat) (i : Nat) (a : List Int) (b : List Bool) (c : List GMsg), keepP g i a b c → ∀ w, doA g j x l i a b c = .inr w → keepP g (i + l.length) w.1 w.2.1 w.2.2 := by
 intro l
 induction l with
 | nil => intro i a b c h w hw; injection hw with hw; subst hw; exact h
 | cons v l ih =>
  intro i a b c h w hw
  rw [doA] at hw
  cases hq : ieq (AC g j x i v).2.2.2 0
  · rw [hq] at hw; cases hw
  · rw [hq] at hw
    have := ih (i + 1) _ _ _ (HF hn v h) w hw
    rwa [show i + 1 + l.length = i + (l.length + 1) by omega] at this
theorem Ni (j : GJob) (c d : List GMsg) (q : Int) : toS j (c ++ d) q = toS j c q ++ toS j d q := List.filter_append _ _
theorem Gf (j : GJob) (c : List GMsg) (q : Int) : (toS j c q).length ≤ c.length := List.length_filter_le _ _
theorem FM {j : GJob} {c : List GMsg} {q : Int} {m : GMsg} (h : m ∈ toS j c q) : m ∈ c ∧ AN j m.To = q := by
 obtain ⟨a, b⟩ := List.mem_filter.1 h
 exact ⟨a, Am.1 b⟩
theorem Fl {α : Type} (p : α → Bool) {step : α → Unit → (Unit → Option (Unit ⊕ Unit)) → Option (Unit ⊕ Unit)} : ∀ (l : List α), (∀ x ∈ l, ∀ c, step x () c = bif p x then c () else some (.inl ())) →
 goL step (fun _ => some (.inr ())) l () = some (BT (l.all p))
 | [], _ => rfl
 | x :: l, h => by
  rw [goL, h x List.mem_cons_self, Fl p l fun y hy => h y (List.mem_cons_of_mem _ hy), List.all_cons]
  cases p x <;> rfl
theorem FY {α : Type} {l : List α} {i : Nat} (h : i < l.length) (d : α) : l.getD i d = l[i] := by rw [List.getD_eq_getElem?_getD, List.getElem?_eq_getElem h]; rfl
def CE {α : Type} (p : α → Bool) (l : List α) : Int := match l.findIdx? p with | some q => (q : Int) | none => -1
theorem FR {α : Type} (p : α → Bool) {step : Nat → α → Unit → (Unit → Option (Int ⊕ Unit)) → Option (Int ⊕ Unit)} : ∀ (l : List α) (i : Nat), (∀ x ∈ l, ∀ i c, step i x () c = bif p x then some (.inl (i : Int)) else c ()) →
 goI step (fun _ => some (.inr ())) i l () = some (match l.findIdx? p with | some q => .inl ((i + q : Nat) : Int) | none => .inr ())
 | [], _, _ => rfl
 | x :: l, i, h => by
  rw [goI, h x List.mem_cons_self, FR p l (i + 1) fun y hy => h y (List.mem_cons_of_mem _ hy), List.findIdx?_cons]
  cases hp : p x
  · cases hq : l.findIdx? p with
    | none => simp
    | some q => simp; omega
  · simp
theorem GW {α : Type} {γ : Type} (p : α → Bool) (l : List α) (f : Int → Option γ) : (some (match l.findIdx? p with | some q => Sum.inl ((0 + q : Nat) : Int) | none => Sum.inr ())).bind (fun y => Sum.elim (fun w => f w) (fun (_ : Unit) => f (-1)) y) = f (CE p l) := by
 unfold CE
 cases l.findIdx? p with
 | none => rfl
 | some q => simp
theorem NE {α : Type} (p : α → Bool) (l : List α) : CE p l < 0 ↔ ∀ x ∈ l, p x = false := by
 unfold CE
 cases h : l.findIdx? p with
 | none => simp only [List.findIdx?_eq_none_iff] at h; simpa using h
 | some q =>
  obtain ⟨hq, hp, _⟩ := List.findIdx?_eq_some_iff_getElem.1 h
  constructor
  · intro h'; dsimp only at h'; omega
  · intro h'; have := h' _ (List.getElem_mem hq); rw [this] at hp; cases hp
theorem Fw {α : Type} {p : α → Bool} {l : List α} (h : ¬ CE p l < 0) : ∃ (q : Nat) (x : α), CE p l = (q : Int) ∧ l[q]? = some x ∧ p x = true := by
 unfold CE at h ⊢
 cases hf : l.findIdx? p with
 | none => rw [hf] at h; exact absurd (by decide) h
 | some q =>
  obtain ⟨hq, hp, _⟩ := List.findIdx?_eq_some_iff_getElem.1 hf
  exact ⟨q, l[q], rfl, List.getElem?_eq_getElem hq, hp⟩
theorem DH {α β : Type} (p : α → Bool) (f : α → β) (b : Nat) {step : α → List β → (List β → Option (List β)) → Option (List β)} (hb : b ≤ 1000) (N : Nat) (hN : N ≤ 1000000) : ∀ (l : List α) (a : List β), a.length + l.length ≤ N →
 (∀ x ∈ l, ∀ a c, step x a c = bif p x then (bif apok (len a) 1 b then c (appL a [f x]) else none) else c a) → goL step (fun a => some a) l a = some (a ++ (l.filter p).map f)
 | [], a, _, _ => by rw [goL]; simp
 | x :: l, a, hl, h => by
  rw [List.length_cons] at hl
  rw [goL, h x List.mem_cons_self]
  have hap : apok (len a) 1 b = true := decide_eq_true ⟨by show a.length + 1 ≤ _; omega, by
   show (a.length + 1) * b ≤ _
   have := Nat.mul_le_mul (show a.length + 1 ≤ 1000001 by omega) hb
   omega⟩
  cases hp : p x
  · rw [cF, DH p f b hb N hN l a om fun y hy => h y (List.mem_cons_of_mem _ hy), List.filter_cons, hp]; simp
  · rw [cT, hap, cT, appL, DH p f b hb N hN l (a ++ [f x]) (by simp; omega) fun y hy => h y (List.mem_cons_of_mem _ hy), List.filter_cons, hp]; simp
theorem A4 {n m b : Nat} (h : n + m ≤ 1000000) (hb : b ≤ 1000) : apok n m b = true := decide_eq_true ⟨by omega, by have := Nat.mul_le_mul h hb; omega⟩
def BS (n : Int) (l : List Int) : Bool := l.all (fun x => !(ilt x 0) && !(ilt 1099511627776 x)) && ile (l.length : Int) n
theorem E5 (K : Nat) (n : Int) (l : List Int) (hl : l.length < 1000000) (hK : l.length < K) : F66 K n l = some (BS n l) := by
 let step : Int → Unit → (Unit → Option (Unit ⊕ Unit)) → Option (Unit ⊕ Unit) := fun x _ c => bif (ilt x 0) then some (.inl ()) else bif (ilt 1099511627776 x) then some (.inl ()) else c ()
 have h := Aq (l := l) (L := fun k (_ : Unit) i => Eo K n l k i) step (fun _ => some (.inr ())) (fun k s i _ => rfl) om hK ()
 have g := Fl (step := step) (fun x => !(ilt x 0) && !(ilt 1099511627776 x)) l (fun x _ c => by show (bif (ilt x 0) then _ else _) = _; cases ilt x 0 <;> cases ilt 1099511627776 x <;> rfl)
 have e : Eo K n l K 0 = _ := h.trans g
 rw [F66, e, BS]
 cases l.all _ <;> rfl
def EK (l : List GMsg) : Bool := l.all (fun m => BS 1 [m.To]) && ile (l.length : Int) 24
theorem Jd (K : Nat) (l : List GMsg) (hl : l.length < 1000000) (hK : l.length < K) (h1 : 1 < K) : F67 K l = some (EK l) := by
 let step : GMsg → Unit → (Unit → Option (Unit ⊕ Unit)) → Option (Unit ⊕ Unit) := fun x _ c => (F66 K 1 [x.To]).bind fun r => bif r then c () else some (.inl ())
 have h := Aq (l := l) (L := fun k (_ : Unit) i => D7 K l k i) step (fun _ => some (.inr ())) (fun k s i _ => rfl) om hK ()
 have g := Fl (step := step) (fun m => BS 1 [m.To]) l (fun x _ c => by show (F66 K 1 [x.To]).bind _ = _; rw [E5 K 1 [x.To] (by simp) (by simpa using h1)]; rfl)
 have e : D7 K l K 0 = _ := h.trans g
 rw [F67, e, EK]
 cases l.all _ <;> rfl
def CA (m : GMail) : Bool :=
 ile 1 m.Kind && (ile m.Kind 11 && (BS 9 [m.Epoch, m.Fresh, m.Step, m.P, m.Q, m.To, m.E, m.X.P, m.X.Step] && (BS 6 m.Owners && (BS 5 m.Ids && (BS (m.Ids.length : Int) m.Incs && (ieq (m.Incs.length : Int) (m.Ids.length : Int) &&
  (ile (m.X.Vals.length : Int) 24 && (ieq (m.X.Rest.length : Int) (m.X.Vals.length : Int) && (EK m.X.In && EK m.Msgs)))))))))
structure FitM (c : Nat) (m : GMail) : Prop where
 o : m.Owners.length ≤ c
 i : m.Ids.length ≤ c
 n : m.Incs.length ≤ c
 v : m.X.Vals.length ≤ c
 r : m.X.Rest.length ≤ c
 x : m.X.In.length ≤ c
 s : m.Msgs.length ≤ c
theorem NW {K : Nat} (hK : 3000 ≤ K) (m : GMail) (h : FitM 2000 m) : F40 K m = some (CA m) := by
 obtain ⟨h1, h2, h3, h4, h5, h6, h7⟩ := h
 rw [F40, E5 K 9 _ (by simp) (by simp; omega), E5 K 6 _ om om, E5 K 5 _ om om, E5 K _ m.Incs om om, Jd K m.X.In om om om, Jd K m.Msgs om om om]
 simp only [bS, CA, Cj]
 cases ile 1 m.Kind <;> cases ile m.Kind 11 <;> cases BS 9 [m.Epoch, m.Fresh, m.Step, m.P, m.Q, m.To, m.E, m.X.P, m.X.Step] <;> try rfl
 cases BS 6 m.Owners <;> cases BS 5 m.Ids <;> cases BS (m.Ids.length : Int) m.Incs <;> cases ieq (m.Incs.length : Int) (m.Ids.length : Int) <;> try rfl
 cases ile (m.X.Vals.length : Int) 24 <;> cases ieq (m.X.Rest.length : Int) (m.X.Vals.length : Int) <;> cases EK m.X.In <;> rfl
theorem Pn {n : Int} {l : List Int} (h : BS n l = true) : (∀ x ∈ l, 0 ≤ x ∧ x ≤ 1099511627776) ∧ (l.length : Int) ≤ n := by
 simp only [BS, Bool.and_eq_true, List.all_eq_true, Bool.not_eq_true', Ac, CB] at h
 exact h
def noT : GTable := GTable.mk 0 [] [] []
def Dq : Int → List Int → List Int → Bool
 | _, [], _ => true
 | p, a :: l, n :: r => !(ile a p) && (!(ilt 99 a) && (!(ilt n 1) && (!(ilt 1099511627776 n) && Dq a l r)))
 | _, _ :: _, [] => false
def Cb (l : List Int) (a : Int) : Int := CE (fun x => ieq x a) l
theorem HM (K : Nat) (l : List Int) (a : Int) (hl : l.length < 1000000) (hK : l.length < K) : Dl K l a = some (Cb l a) := by
 let step : Nat → Int → Unit → (Unit → Option (Int ⊕ Unit)) → Option (Int ⊕ Unit) := fun i x _ c => bif ieq x a then some (.inl (i : Int)) else c ()
 have h := Ct (l := l) (L := fun k (_ : Unit) i => D9 K l a k i) step (fun _ => some (.inr ())) (fun k s i _ => rfl) om K () 0 om om
 have g := FR (step := step) (fun x => ieq x a) l 0 (fun x _ i c => rfl)
 rw [List.drop_zero] at h
 have e : D9 K l a K 0 = _ := h.trans g
 rw [Dl, e]
 exact GW _ _ fun w => some w
def BR (t : GTable) : Bool :=
 !(ilt t.Epoch 0) && (!(ilt 1099511627776 t.Epoch) && (!(ilt 5 (t.Ids.length : Int)) && (ieq (t.Incs.length : Int) (t.Ids.length : Int) && (!(ilt 6 (t.Owners.length : Int)) && (Dq 0 t.Ids t.Incs && t.Owners.all fun o => !(ilt (Cb t.Ids o) 0))))))
theorem KC {K : Nat} (t : GTable) (hl : t.Ids.length ≤ 5) (he : t.Incs.length = t.Ids.length) (hK : 100 ≤ K) : DY K t.Epoch t.Owners t.Ids t.Incs K 0 0 = some (BT (Dq 0 t.Ids t.Incs)) := by
 let step : Nat → Int → Int → (Int → Option (Unit ⊕ Unit)) → Option (Unit ⊕ Unit) := fun i x p c =>
  bif (ile x p) then some (.inl ()) else bif (ilt 99 x) then some (.inl ()) else bif (inr (i : Int) (len t.Incs)) then (elAt t.Incs (i : Int)).bind fun n => bif (ilt n 1) then some (.inl ()) else bif (ilt 1099511627776 n) then some (.inl ()) else c x else none
 have h := Ct (l := t.Ids) (L := fun k p i => DY K t.Epoch t.Owners t.Ids t.Incs k p i) step (fun _ => some (.inr ())) (fun k s i _ => rfl) om K 0 0 om om
 have g : ∀ (l : List Int) (i : Nat) (p : Int), t.Ids.drop i = l → goI step (fun _ => some (.inr ())) i l p = some (BT (Dq p l (t.Incs.drop i))) := by
  intro l
  induction l with
  | nil => intro i p _; rw [goI, Dq]; rfl
  | cons x l ih =>
   intro i p hd
   have hlt := DZ hd
   have hn : t.Incs.drop i = t.Incs[i] :: t.Incs.drop (i + 1) := List.drop_eq_getElem_cons om
   have hd2 : t.Ids.drop (i + 1) = l := by
    have := List.drop_eq_getElem_cons hlt
    rw [hd] at this
    injection this with _ h2; exact h2.symm
   have e1 : inr (i : Int) (len t.Incs) = true := decide_eq_true ⟨by omega, by show (i : Int) < (t.Incs.length : Int); omega⟩
   have e2 : elAt t.Incs (i : Int) = some t.Incs[i] := by rw [BA]; exact List.getElem?_eq_getElem om
   rw [goI]
   show (bif (ile x p) then _ else _) = _
   rw [e1, e2, cT, bS, ih (i + 1) x hd2, hn, Dq]
   cases ile x p <;> cases ilt 99 x <;> cases ilt t.Incs[i] 1 <;> cases ilt 1099511627776 t.Incs[i] <;> rfl
 rw [List.drop_zero] at h
 have e : DY K t.Epoch t.Owners t.Ids t.Incs K 0 0 = _ := h.trans (g t.Ids 0 0 rfl)
 rw [List.drop_zero] at e
 exact e
theorem IV {K : Nat} (hK : 100 ≤ K) (t : GTable) : Ew K t = some (BR t) := by
 rw [Ew, BR, Cj, Cj, Cj]
 cases h1 : ilt t.Epoch 0
 · cases h2 : ilt 1099511627776 t.Epoch
   · cases h3 : ilt 5 (t.Ids.length : Int)
     · cases h4 : ieq (t.Incs.length : Int) (t.Ids.length : Int)
       · rfl
       · cases h5 : ilt 6 (t.Owners.length : Int)
         · rw [Ac] at h3 h5
           rw [Am] at h4
           rw [KC t om om hK]
           cases Dq 0 t.Ids t.Incs
           · rfl
           · let step : Int → Unit → (Unit → Option (Unit ⊕ Unit)) → Option (Unit ⊕ Unit) := fun x _ c => (Dl K t.Ids x).bind fun r => bif ilt r 0 then some (.inl ()) else c ()
             have h := Aq (l := t.Owners) (L := fun k (_ : Unit) i => D5 K t.Epoch t.Owners t.Ids t.Incs k i) step (fun _ => some (.inr ())) (fun k s i _ => rfl) om (K := K) om ()
             have g := Fl (step := step) (fun o => !(ilt (Cb t.Ids o) 0)) t.Owners (fun x _ c => by show (Dl K t.Ids x).bind _ = _; rw [HM K t.Ids x om om, bS]; cases ilt (Cb t.Ids x) 0 <;> rfl)
             have e : D5 K t.Epoch t.Owners t.Ids t.Incs K 0 = _ := h.trans g
             simp only [cT, cF, BT, bS, Sum.elim_inr, e]
             cases t.Owners.all _ <;> rfl
         · rfl
     · rfl
   · rfl
 · rfl
theorem F8 {t : GTable} (h : BR t = true) : 0 ≤ t.Epoch ∧ t.Epoch ≤ 1099511627776 ∧ t.Ids.length ≤ 5 ∧ t.Incs.length = t.Ids.length ∧ t.Owners.length ≤ 6 ∧ Dq 0 t.Ids t.Incs = true ∧ ∀ o ∈ t.Owners, 0 ≤ Cb t.Ids o := by
 simp only [BR, Bool.and_eq_true, Bool.not_eq_true', Ac, Am, List.all_eq_true] at h
 obtain ⟨h1, h2, h3, h4, h5, h6, h7⟩ := h
 exact ⟨h1, h2, by omega, by omega, by omega, h6, h7⟩
def Aj (t : GTable) : GTable := bif BR t then t else noT
theorem Gz {α : Type} (l : List α) : appL [] l = l := List.nil_append l
theorem Jq : BR noT = true := by decide
theorem GX (t : GTable) : BR (Aj t) = true := by
 rw [Aj]
 cases h : BR t
 · exact Jq
 · exact h
theorem Pk (t : GTable) : Aj (Aj t) = Aj t := by
 have := GX t
 generalize Aj t = u at this ⊢
 rw [Aj, this]; rfl
theorem JB {K : Nat} (hK : 100 ≤ K) (t : GTable) : F96 K t = some (Aj t) := by
 rw [F96, IV hK, bS, Aj]
 cases h : BR t
 · rfl
 · obtain ⟨_, _, h3, h4, h5, _⟩ := F8 h
   have e1 : apok 0 (len t.Owners) 8 = true := A4 (by show 0 + t.Owners.length ≤ _; omega) om
   have e2 : apok 0 (len t.Ids) 8 = true := A4 (by show 0 + t.Ids.length ≤ _; omega) om
   have e3 : apok 0 (len t.Incs) 8 = true := A4 (by show 0 + t.Incs.length ≤ _; omega) om
   simp only [cT, e1, e2, e3, Gz]
def Dz (t : GTable) (id : Int) : Int := bif ilt (Cb (Aj t).Ids id) 0 then 0 else (Aj t).Incs.getD (Cb (Aj t).Ids id).toNat 0
theorem Om {K : Nat} (hK : 100 ≤ K) (t : GTable) (id : Int) : F97 K t id = some (Dz t id) := by
 obtain ⟨_, _, h3, h4, _⟩ := F8 (GX t)
 rw [F97, JB hK, bS, HM K _ id om om, bS, Dz]
 cases h : ilt (Cb (Aj t).Ids id) 0
 · have hn : ¬ CE (fun x => ieq x id) (Aj t).Ids < 0 := by rw [Ac] at h; exact Int.not_lt.2 h
   obtain ⟨q, x, hq, hx, _⟩ := Fw hn
   have hlt : q < (Aj t).Incs.length := by rw [h4]; exact (List.getElem?_eq_some_iff.1 hx).1
   have hf : Cb (Aj t).Ids id = (q : Int) := hq
   have e1 : inr (q : Int) (len (Aj t).Incs) = true := decide_eq_true ⟨by omega, by show (q : Int) < ((Aj t).Incs.length : Int); omega⟩
   have e2 : elAt (Aj t).Incs (q : Int) = some (Aj t).Incs[q] := by rw [BA]; exact List.getElem?_eq_getElem hlt
   rw [hf, cF, cF, e1, e2, cT, bS, Int.toNat_natCast, FY hlt]
 · rfl
def toT (t : GTable) (p : Int) : Int × Int × Int :=
 bif ilt p 0 || ile ((Aj t).Owners.length : Int) p then (0, 0, 4) else ((Aj t).Owners.getD p.toNat 0, Dz t ((Aj t).Owners.getD p.toNat 0), 0)
theorem J8 (t : GTable) (id : Int) : Dz (Aj t) id = Dz t id := by rw [Dz, Dz, Pk]
theorem Jy {K : Nat} (hK : 100 ≤ K) (t : GTable) (p : Int) : F60 K t p = some (toT t p) := by
 rw [F60, JB hK, bS, toT, Cj]
 cases h1 : ilt p 0
 · cases h2 : ile ((Aj t).Owners.length : Int) p
   · rw [Ac] at h1
     rw [Db] at h2
     have e1 : inr p (len (Aj t).Owners) = true := decide_eq_true ⟨h1, h2⟩
     have e2 : elAt (Aj t).Owners p = some ((Aj t).Owners.getD p.toNat 0) := by
      show (Aj t).Owners[p.toNat]? = _
      rw [FY om]; exact List.getElem?_eq_getElem om
     simp only [cF, e1, e2, cT, bS, Om hK, J8, Bool.or_false]
   · rfl
 · rfl
theorem Kt {t : GTable} {p : Int} (h : ieq (toT t p).2.2 0 = true) : 0 ≤ p ∧ p < ((Aj t).Owners.length : Int) ∧ (toT t p).1 = (Aj t).Owners.getD p.toNat 0 := by
 rw [toT] at h ⊢
 cases hq : ilt p 0 || ile ((Aj t).Owners.length : Int) p
 · rw [Bool.or_eq_false_iff, Ac, Db] at hq
   exact ⟨hq.1, hq.2, rfl⟩
 · rw [hq] at h; cases h
abbrev B6 := List GMsg × List GMsg × List GMsg × List GMsg × List GMsg × List GMsg
abbrev S8 := List Int × List Bool × B6
def AG (j : GJob) (c : List GMsg) : B6 := (toS j c 0, toS j c 1, toS j c 2, toS j c 3, toS j c 4, toS j c 5)
theorem MM (j : GJob) (m : GMsg) (q : Int) : toS j [m] q = bif ieq (AN j m.To) q then [m] else [] := by
 rw [toS, List.filter_cons]
 cases ieq (AN j m.To) q <;> rfl
def stA (K : Nat) (j : GJob) (m : GMsg) (s : B6) (c : B6 → Option B6) : Option B6 :=
 (F94 K j m.To).bind fun r =>
 bif (ieq r 0) then (bif (apok (len s.1) 1 16) then c (appL s.1 [m], s.2.1, s.2.2.1, s.2.2.2.1, s.2.2.2.2.1, s.2.2.2.2.2) else none) else
 bif (ieq r 1) then (bif (apok (len s.2.1) 1 16) then c (s.1, appL s.2.1 [m], s.2.2.1, s.2.2.2.1, s.2.2.2.2.1, s.2.2.2.2.2) else none) else
 bif (ieq r 2) then (bif (apok (len s.2.2.1) 1 16) then c (s.1, s.2.1, appL s.2.2.1 [m], s.2.2.2.1, s.2.2.2.2.1, s.2.2.2.2.2) else none) else
 bif (ieq r 3) then (bif (apok (len s.2.2.2.1) 1 16) then c (s.1, s.2.1, s.2.2.1, appL s.2.2.2.1 [m], s.2.2.2.2.1, s.2.2.2.2.2) else none) else
 bif (ieq r 4) then (bif (apok (len s.2.2.2.2.1) 1 16) then c (s.1, s.2.1, s.2.2.1, s.2.2.2.1, appL s.2.2.2.2.1 [m], s.2.2.2.2.2) else none) else
 bif (ieq r 5) then bif (apok (len s.2.2.2.2.2) 1 16) then c (s.1, s.2.1, s.2.2.1, s.2.2.2.1, s.2.2.2.2.1, appL s.2.2.2.2.2 [m]) else none else none
theorem M4 {K : Nat} (j : GJob) (m : GMsg) (c : List GMsg) (hl : c.length ≤ 3000) (h0 : 0 ≤ AN j m.To) (h5 : AN j m.To ≤ 5) (k : B6 → Option B6) : stA K j m (AG j c) k = k (AG j (c ++ [m])) := by
 have ap : ∀ q : Int, apok (len (toS j c q)) 1 16 = true := fun q => by
  have := Gf j c q
  exact decide_eq_true ⟨by show (toS j c q).length + 1 ≤ _; omega, by show ((toS j c q).length + 1) * 16 ≤ _; omega⟩
 rw [stA, Hf, bS, AG, AG]
 simp only [Ni, MM, ap, cT]
 generalize AN j m.To = q at *
 rcases (by omega : q = 0 ∨ q = 1 ∨ q = 2 ∨ q = 3 ∨ q = 4 ∨ q = 5) with rfl | rfl | rfl | rfl | rfl | rfl <;> simp [ieq, appL]
theorem KF {K : Nat} (j : GJob) : ∀ (l : List GMsg) (c : List GMsg), c.length + l.length ≤ 3000 → (∀ m ∈ l, 0 ≤ AN j m.To ∧ AN j m.To ≤ 5) → goL (stA K j) (fun s => some s) l (AG j c) = some (AG j (c ++ l)) := by
 intro l
 induction l with
 | nil => intro c _ _; rw [goL, List.append_nil]
 | cons m l ih =>
  intro c hl hh
  simp only [List.length_cons] at hl
  obtain ⟨h0, h5⟩ := hh m List.mem_cons_self
  rw [goL, M4 j m c om h0 h5, ih (c ++ [m]) (by simp only [List.length_append, List.length_singleton]; omega) (fun y hy => hh y (List.mem_cons_of_mem _ hy)), List.append_assoc]; rfl
theorem Ky {K : Nat} (g : GGraph) (j : GJob) (x : GPart) (a : List Int) (b : List Bool) (v : Int) (r : Bool) (l : List GMsg) (i : Int) (c : List GMsg) (hl : c.length + l.length ≤ 3000) (hK : l.length < K) (hh : ∀ m ∈ l, 0 ≤ AN j m.To ∧ AN j m.To ≤ 5) :
 BP K g.N g.Edges j.Prog j.Source j.Limit j.Parts x.P x.Step x.Vals x.Rest x.In a b v r l i K (toS j c 0) (toS j c 1) (toS j c 2) (toS j c 3) (toS j c 4) (toS j c 5) 0 = some (AG j (c ++ l)) := by
 have h := Aq (l := l) (L := fun k (s : B6) p => BP K g.N g.Edges j.Prog j.Source j.Limit j.Parts x.P x.Step x.Vals x.Rest x.In a b v r l i k s.1 s.2.1 s.2.2.1 s.2.2.2.1 s.2.2.2.2.1 s.2.2.2.2.2 p) (stA K j) (fun s => some s) (fun k s p _ => rfl) om (K := K) hK (AG j c)
 rw [KF j l c hl hh] at h
 exact h
def G3 (K : Nat) (g : GGraph) (j : GJob) (x : GPart) (i : Nat) (y : Int) (s : S8) (c : S8 → Option (Int ⊕ S8)) : Option (Int ⊕ S8) :=
 (F92 K x.In (wadd .i64 x.P (wmul .i64 (i : Int) j.Parts))).bind fun r6057 =>
 bif (inr (i : Int) (len x.Rest)) then
 (elAt x.Rest (i : Int)).bind fun x6060 =>
 bif x6060 then
  (bif r6057.2 then
   ((F93 K g j x.Step (wadd .i64 x.P (wmul .i64 (i : Int) j.Parts)) y r6057.1 r6057.2).bind fun r6064 =>
   bif (ieq r6064.2.2.2 0) then
    ((BP K g.N g.Edges j.Prog j.Source j.Limit j.Parts x.P x.Step x.Vals x.Rest x.In s.1 s.2.1 r6064.1 r6064.2.2.1 r6064.2.1 (i : Int) K s.2.2.1 s.2.2.2.1 s.2.2.2.2.1 s.2.2.2.2.2.1 s.2.2.2.2.2.2.1 s.2.2.2.2.2.2.2 0).bind fun w6149 =>
    bif (apok (len s.1) 1 8) then
    bif (apok (len s.2.1) 1 1) then
    c (appL s.1 [r6064.1], appL s.2.1 [r6064.2.2.1], w6149)
    else none
    else none)
   else
   some (.inl r6064.2.2.2))
  else
  bif (apok (len s.1) 1 8) then
  bif (apok (len s.2.1) 1 1) then
  c (appL s.1 [y], appL s.2.1 [true], s.2.2)
  else none
  else none)
 else
 (F93 K g j x.Step (wadd .i64 x.P (wmul .i64 (i : Int) j.Parts)) y r6057.1 r6057.2).bind fun r6160 =>
 bif (ieq r6160.2.2.2 0) then
  ((BP K g.N g.Edges j.Prog j.Source j.Limit j.Parts x.P x.Step x.Vals x.Rest x.In s.1 s.2.1 r6160.1 r6160.2.2.1 r6160.2.1 (i : Int) K s.2.2.1 s.2.2.2.1 s.2.2.2.2.1 s.2.2.2.2.2.1 s.2.2.2.2.2.2.1 s.2.2.2.2.2.2.2 0).bind fun w6193 =>
  bif (apok (len s.1) 1 8) then
  bif (apok (len s.2.1) 1 1) then
  c (appL s.1 [r6160.1], appL s.2.1 [r6160.2.2.1], w6193)
  else none
  else none)
 else
 some (.inl r6160.2.2.2)
 else none
theorem Mz (n m : Nat) : ∀ (k v i : Nat) (h : i < (Ck k n m v).length), (Ck k n m v)[i] = v + i * m := by
 intro k
 induction k with
 | zero => intro v i h; exact absurd h (Nat.not_lt_zero _)
 | succ k ih =>
  intro v i h
  by_cases hv : v < n
  · have e : Ck (k + 1) n m v = v :: Ck k n m (v + m) := by rw [Ck, if_pos hv]
    simp only [e] at h ⊢
    cases i with
    | zero => simp
    | succ i =>
     have h' : i < (Ck k n m (v + m)).length := by simpa using h
     rw [List.getElem_cons_succ, ih (v + m) i h', Nat.succ_mul]; omega
  · have e : Ck (k + 1) n m v = [] := by rw [Ck, if_neg hv]
    simp only [e, List.length_nil] at h
    exact absurd h (Nat.not_lt_zero _)
theorem M6 {g : GGraph} {j : GJob} (h1 : 1 ≤ j.Parts) (h6 : j.Parts ≤ 6) (hn : g.N ≤ 24) {p : Int} (hp : 0 ≤ p ∧ p < j.Parts) (i : Nat) (h : i < (Al g j p).length) : (((Al g j p)[i] : Nat) : Int) = p + (i : Int) * j.Parts := by
 obtain ⟨q, rfl⟩ := Int.eq_ofNat_of_zero_le hp.1
 have e : Al g j (q : Int) = Ck 30 g.N.toNat j.Parts.toNat q := (LG om om om om).symm
 simp only [e] at h ⊢
 rw [Mz]
 have : ((j.Parts.toNat : Nat) : Int) = j.Parts := by omega
 rw [Int.natCast_add, Int.natCast_mul, this]
def GA (j : GJob) : Int ⊕ Tri → Int ⊕ S8
 | .inl e => .inl e
 | .inr w => .inr (w.1, w.2.1, AG j w.2.2)
theorem LD {j : GJob} (h1 : 1 ≤ j.Parts) (h6 : j.Parts ≤ 6) {v : Int} (h0 : 0 ≤ v) : AN j v = v % j.Parts ∧ 0 ≤ AN j v ∧ AN j v ≤ 5 := by
 have hm0 : 0 ≤ v % j.Parts := Int.emod_nonneg _ om
 have hm1 : v % j.Parts < j.Parts := Int.emod_lt_of_pos _ om
 have e : AN j v = v % j.Parts := by rw [AN, Ac.2 h0, Ac.2 h1, Ac.2 h6]; rfl
 rw [e]; exact ⟨rfl, hm0, by omega⟩
theorem Nx {K : Nat} (hK : 3000 ≤ K) (g : GGraph) (j : GJob) (x : GPart) (hR : As g j x = true) (hn : AH x) (hin : x.In.length ≤ 300) : ∀ (n i : Nat) (a : List Int) (b : List Bool) (c : List GMsg), i + n = x.Vals.length → keepP g i a b c →
 goI (G3 K g j x) (fun s => some (.inr s)) i (x.Vals.drop i) (a, b, AG j c) = some (GA j (doA g j x ((Al g j x.P).drop i) i a b c)) := by
 obtain ⟨hc, p1, p2, p3, p4, p5, p6, _⟩ := Dg hR
 obtain ⟨hg, _, _, _, _, _, _, p7, p8⟩ := Ca hc
 obtain ⟨g1, g2, g3, _⟩ := B4 hg
 have hvl := EV g j g2 x.P
 rw [AJ] at p5 p6
 intro n
 induction n with
 | zero =>
  intro i a b c hi _
  have e1 : x.Vals.drop i = [] := List.drop_eq_nil_of_le om
  have e2 : (Al g j x.P).drop i = [] := List.drop_eq_nil_of_le om
  rw [e1, e2]; rfl
 | succ n ih =>
  intro i a b c hi h
  have hlc := h.lc
  obtain ⟨v, hv⟩ : ∃ v, (Al g j x.P)[i]'om = v := ⟨_, rfl⟩
  have hat0 := M6 p7 p8 g2 ⟨p1, p2⟩ i om
  rw [hv] at hat0
  have hd2 : (Al g j x.P).drop i = v :: (Al g j x.P).drop (i + 1) := by rw [List.drop_eq_getElem_cons (by omega : i < (Al g j x.P).length), hv]
  have hvm : v ∈ Al g j x.P := hv ▸ List.getElem_mem _
  have hvn := ((Gl p7).1 hvm).1
  have hd1 : x.Vals.drop i = x.Vals.getD i 0 :: x.Vals.drop (i + 1) := by
   rw [List.drop_eq_getElem_cons (by omega : i < x.Vals.length), List.getD_eq_getElem?_getD, List.getElem?_eq_getElem (by omega : i < x.Vals.length)]; rfl
  have hv0 : 0 ≤ (i : Int) * j.Parts := Int.mul_nonneg om om
  have e1 : wmul .i64 (i : Int) j.Parts = (i : Int) * j.Parts := Im (by unfold i64; omega)
  have e2 : wadd .i64 x.P ((i : Int) * j.Parts) = (v : Int) := by rw [Ep (by unfold i64; omega)]; omega
  have hnx := HF (j := j) hn v h
  obtain ⟨la, lb, _, _, _, _⟩ := h
  obtain ⟨o3, o4⟩ := Jh (g := g) (j := j) (x := x) (i := i) (v := v)
  obtain ⟨r1, r2⟩ := Nv (l := x.Rest) (i := i) om false
  have a1 : apok (len a) 1 8 = true := decide_eq_true ⟨by show a.length + 1 ≤ _; omega, by show (a.length + 1) * 8 ≤ _; omega⟩
  have a2 : apok (len b) 1 1 = true := decide_eq_true ⟨by show b.length + 1 ≤ _; omega, by show (b.length + 1) * 1 ≤ _; omega⟩
  have hx : i64 (x.Vals.getD i 0) := by
   rw [List.getD_eq_getElem?_getD]
   cases hq : x.Vals[i]? with
   | none => show i64 0; unfold i64; omega
   | some y => exact hn.1 y (List.mem_of_getElem? hq)
  have hat := Ht (l := x.In) (v := (v : Int)) hn.2
  have nx := ih (i + 1) _ _ _ om hnx
  have f99 := NO (K := K) om g j x.Step (v : Int) (atS x.In (v : Int)).2 hx hat
  have hro := fun (aa : List Int) (bb : List Bool) (vv : Int) (rr : Bool) => Ky (K := K) g j x aa bb vv rr (AC g j x i v).2.1 (i : Int) c om om (fun m hm => (LD p7 p8 (o4 m hm).1).2)
  rw [hd1, hd2, goI, G3, doA, e1, e2, L3 x.In (v : Int) om om, r1, r2]
  simp only [cT, bS, f99, a1, a2]
  have eb : ∀ c, (AG j c).1 = toS j c 0 ∧ (AG j c).2.1 = toS j c 1 ∧ (AG j c).2.2.1 = toS j c 2 ∧ (AG j c).2.2.2.1 = toS j c 3 ∧ (AG j c).2.2.2.2.1 = toS j c 4 ∧ (AG j c).2.2.2.2.2 = toS j c 5 := fun c => ⟨rfl, rfl, rfl, rfl, rfl, rfl⟩
  obtain ⟨q0, q1, q2, q3, q4, q5⟩ := eb c
  rw [q0, q1, q2, q3, q4, q5]
  cases hs : (atS x.In (v : Int)).2
  · cases hy : x.Rest.getD i false
    · have hT : AC g j x i v = Ay g j x.Step (v : Int) (x.Vals.getD i 0) (atS x.In (v : Int)).1 false := by rw [AC, hy, hs]; rfl
      rw [hT] at nx hro ⊢
      simp only [cF, cT, hro, bS]
      cases ieq (Ay g j x.Step (v : Int) (x.Vals.getD i 0) (atS x.In (v : Int)).1 false).2.2.2 0
      · rfl
      · exact nx
    · have hT : AC g j x i v = (x.Vals.getD i 0, [], true, 0) := by rw [AC, hy, hs]; rfl
      rw [hT] at nx ⊢
      simp only [List.append_nil] at nx ⊢
      exact nx
  · have hT : AC g j x i v = Ay g j x.Step (v : Int) (x.Vals.getD i 0) (atS x.In (v : Int)).1 true := by rw [AC, hs, Bool.not_true, Bool.and_false]; rfl
    rw [hT] at nx hro ⊢
    simp only [cF, cT, hro, bS]
    cases x.Rest.getD i false <;> cases ieq (Ay g j x.Step (v : Int) (x.Vals.getD i 0) (atS x.In (v : Int)).1 true).2.2.2 0 <;> first | rfl | exact nx
def F0 (K : Nat) (j : GJob) (s : B6) (q : Nat) (d : List (List GMsg)) (c : List (List GMsg) → Option (Int ⊕ List (List GMsg))) : Option (Int ⊕ List (List GMsg)) :=
 bif (ieq (q : Int) 0) then ((F95 K j.Prog s.1).bind fun r => bif (ieq r.2 0) then (bif (apok (len d) 1 24) then c (appL d [r.1]) else none) else some (.inl r.2)) else
 bif (ieq (q : Int) 1) then ((F95 K j.Prog s.2.1).bind fun r => bif (ieq r.2 0) then (bif (apok (len d) 1 24) then c (appL d [r.1]) else none) else some (.inl r.2)) else
 bif (ieq (q : Int) 2) then ((F95 K j.Prog s.2.2.1).bind fun r => bif (ieq r.2 0) then (bif (apok (len d) 1 24) then c (appL d [r.1]) else none) else some (.inl r.2)) else
 bif (ieq (q : Int) 3) then ((F95 K j.Prog s.2.2.2.1).bind fun r => bif (ieq r.2 0) then (bif (apok (len d) 1 24) then c (appL d [r.1]) else none) else some (.inl r.2)) else
 bif (ieq (q : Int) 4) then ((F95 K j.Prog s.2.2.2.2.1).bind fun r => bif (ieq r.2 0) then (bif (apok (len d) 1 24) then c (appL d [r.1]) else none) else some (.inl r.2)) else
 bif (ieq (q : Int) 5) then (F95 K j.Prog s.2.2.2.2.2).bind fun r => bif (ieq r.2 0) then (bif (apok (len d) 1 24) then c (appL d [r.1]) else none) else some (.inl r.2) else none
theorem Nj {K : Nat} (hK : 3000 ≤ K) (j : GJob) (c : List GMsg) (hl : c.length ≤ 2000) (hv : ∀ m ∈ c, i64 m.V) (q : Nat) (hq : q < 6) (d : List (List GMsg)) (hd : d.length ≤ 6) (k : List (List GMsg) → Option (Int ⊕ List (List GMsg))) :
 F0 K j (AG j c) q d k = bif ieq (Ak j.Prog (toS j c (q : Int))).2 0 then k (d ++ [(Ak j.Prog (toS j c (q : Int))).1]) else some (.inl (Ak j.Prog (toS j c (q : Int))).2) := by
 have ap : apok (len d) 1 24 = true := decide_eq_true ⟨by show d.length + 1 ≤ _; omega, by show (d.length + 1) * 24 ≤ _; omega⟩
 have hlen := fun q => Gf j c q
 have f := fun (q : Int) => IW (K := K) j.Prog (toS j c q) (fun m hm => hv m (FM hm).1) (by have := hlen q; omega) (by have := hlen q; omega)
 rw [F0, AG]
 simp only [f, bS, ap, cT]
 rcases (by omega : q = 0 ∨ q = 1 ∨ q = 2 ∨ q = 3 ∨ q = 4 ∨ q = 5) with rfl | rfl | rfl | rfl | rfl | rfl <;> rfl
theorem Oe {K : Nat} (hK : 3000 ≤ K) (j : GJob) (c : List GMsg) (hl : c.length ≤ 2000) (hv : ∀ m ∈ c, i64 m.V) : ∀ (l : List Nat) (d : List (List GMsg)), (∀ q ∈ l, q < 6) → d.length + l.length ≤ 6 →
 goL (F0 K j (AG j c)) (fun d => some (.inr d)) l d = some (CQ j c l d) := by
 intro l
 induction l with
 | nil => intro d _ _; rfl
 | cons q l ih =>
  intro d hq hd
  simp only [List.length_cons] at hd
  rw [goL, Nj hK j c hl hv q (hq q List.mem_cons_self) d om, CQ, ih _ (fun y hy => hq y (List.mem_cons_of_mem _ hy)) (by simp only [List.length_append, List.length_singleton]; omega)]
  cases ieq (Ak j.Prog (toS j c (q : Int))).2 0 <;> rfl
theorem OB {K : Nat} (hK : 3000 ≤ K) (g : GGraph) (j : GJob) (x : GPart) (hn : AH x) (hin : x.In.length ≤ 300) (hp : i64 x.P) : F58 K g j x = some (doS g j x) := by
 rw [F58, DO om, GE om g j x om om hp, bS, bS, doS]
 cases hc : ieq (Ah g j) 0
 · rfl
 · cases hR : As g j x
   · rfl
   · cases h40 : ieq x.Step 40
     · obtain ⟨_, p1, p2, p3, p4, p5, p6, _⟩ := Dg hR
       obtain ⟨hg, _, _, _, _, _, _, p7, p8⟩ := Ca hc
       obtain ⟨g1, g2, g3, _⟩ := B4 hg
       have hvl := EV g j g2 x.P
       rw [AJ] at p5 p6
       have h := Ct (l := x.Vals) (L := fun k (s : S8) i => C1 K g.N g.Edges j.Prog j.Source j.Limit j.Parts x.P x.Step x.Vals x.Rest x.In k s.1 s.2.1 s.2.2.1 s.2.2.2.1 s.2.2.2.2.1 s.2.2.2.2.2.1 s.2.2.2.2.2.2.1 s.2.2.2.2.2.2.2 i) (G3 K g j x) (fun s => some (.inr s)) (fun k s i _ => rfl) om K ([], [], AG j []) 0 om om
       have h' : C1 K g.N g.Edges j.Prog j.Source j.Limit j.Parts x.P x.Step x.Vals x.Rest x.In K [] [] [] [] [] [] [] [] 0 = some (GA j (doA g j x (Al g j x.P) 0 [] [] [])) := by
        rw [show C1 K g.N g.Edges j.Prog j.Source j.Limit j.Parts x.P x.Step x.Vals x.Rest x.In K [] [] [] [] [] [] [] [] 0 = _ from h]
        have := Nx hK g j x hR hn hin x.Vals.length 0 [] [] [] om (GP g)
        rwa [List.drop_zero] at this
       simp only [cT, cF, h', bS]
       cases hA : doA g j x (Al g j x.P) 0 [] [] [] with
       | inl e => rfl
       | inr w =>
        have kw := Jn hn _ 0 [] [] [] (GP g) w hA
        have hwl := kw.lc
        have hw : wadd .i64 x.Step 1 = x.Step + 1 := Ep (by unfold i64; omega)
        have t := Fa (N := j.Parts) (L := fun k d i => Cl K j.Prog j.Source j.Limit j.Parts x.P (x.Step + 1) w.1 w.2.1 (toS j w.2.2 0) (toS j w.2.2 1) (toS j w.2.2 2) (toS j w.2.2 3) (toS j w.2.2 4) (toS j w.2.2 5) k d i) (fun q d c => F0 K j (AG j w.2.2) q d c) (fun d => some (.inr d)) (fun k d i _ => rfl) om (K := K) om []
        have t' : Cl K j.Prog j.Source j.Limit j.Parts x.P (x.Step + 1) w.1 w.2.1 (toS j w.2.2 0) (toS j w.2.2 1) (toS j w.2.2 2) (toS j w.2.2 3) (toS j w.2.2 4) (toS j w.2.2 5) K [] 0 = some (CQ j w.2.2 (List.range j.Parts.toNat) []) := by
         rw [show Cl K j.Prog j.Source j.Limit j.Parts x.P (x.Step + 1) w.1 w.2.1 (toS j w.2.2 0) (toS j w.2.2 1) (toS j w.2.2 2) (toS j w.2.2 3) (toS j w.2.2 4) (toS j w.2.2 5) K [] 0 = _ from t]
         exact Oe hK j w.2.2 om kw.vc _ [] (fun q hq => by have := List.mem_range.1 hq; omega) (by rw [List.length_range]; simp only [List.length_nil]; omega)
        simp only [GA, Sum.elim_inr, AG, hw, t', bS, doB]
        cases CQ j w.2.2 (List.range j.Parts.toNat) [] <;> rfl
     · rfl
def Cz (l : List GHeld) (p : Int) : Int := CE (fun h => ieq h.X.P p) l
theorem IB (K : Nat) (w : GWorker) (p : Int) (hl : w.Held.length < 1000000) (hK : w.Held.length < K) : Ey K w p = some (Cz w.Held p, w) := by
 let step : Nat → GHeld → Unit → (Unit → Option (Int ⊕ Unit)) → Option (Int ⊕ Unit) := fun i x _ c => bif ieq x.X.P p then some (.inl (i : Int)) else c ()
 have h := Ct (l := w.Held) (L := fun k (_ : Unit) i => Ee K w p k i) step (fun _ => some (.inr ())) (fun k s i _ => rfl) om K () 0 om om
 have g := FR (step := step) (fun h => ieq h.X.P p) w.Held 0 (fun x _ i c => rfl)
 rw [List.drop_zero] at h
 have e : Ee K w p K 0 = _ := h.trans g
 rw [Ey, e]
 exact GW _ _ fun q => some (q, w)
def BK (g : GGraph) (j : GJob) (w : GWorker) (x : GPart) : Bool := ieq (toT w.T x.P).2.2 0 && (ieq (toT w.T x.P).1 w.Id && (As g j x && ilt (Cz w.Held x.P) 0))
theorem Gk {K : Nat} (hK : 1000 ≤ K) (w : GWorker) (g : GGraph) (j : GJob) (x : GPart) (hh : w.Held.length ≤ 100) (hx : x.In.length < 1000000 ∧ x.In.length < K) (hp : i64 x.P) : CO K w g j x = some (BK g j w x, w) := by
 rw [CO, Jy om, bS, BK, GE hK g j x hx.1 hx.2 hp, IB K w x.P om om]
 cases ieq (toT w.T x.P).2.2 0
 · rfl
 · cases ieq (toT w.T x.P).1 w.Id
   · rfl
   · cases As g j x <;> rfl
def CW (l : List GHeld) (x : GPart) : List GHeld := l.takeWhile (fun h => ilt h.X.P x.P) ++ [GHeld.mk x false false] ++ l.dropWhile (fun h => ilt h.X.P x.P)
theorem JZ (K : Nat) (w : GWorker) (x : GPart) (hl : w.Held.length < 1000000) : ∀ (k i : Nat), w.Held.length - i < k → i ≤ w.Held.length → DN K w x k (i : Int) = some (((i + ((w.Held.drop i).takeWhile fun h => ilt h.X.P x.P).length : Nat)) : Int) := by
 intro k
 induction k with
 | zero => intro i h; omega
 | succ k ih =>
  intro i hk hi
  rw [DN]
  rcases FN w.Held i with ⟨h, e1, e2, e3, e4⟩ | ⟨e1, e2⟩
  · have hlt := DZ e1
    rw [e2, e3, e4, e1, List.takeWhile_cons]
    simp only [cT, bS]
    cases hp : ilt h.X.P x.P
    · simp
    · rw [cT, FS om, ih (i + 1) om om]
      simp; omega
  · rw [e1, e2]; simp
theorem MU {α : Type} (p : α → Bool) (l : List α) : l.take (l.takeWhile p).length = l.takeWhile p := by
 conv => lhs; rw [← List.takeWhile_append_dropWhile (p := p) (l := l)]
 rw [List.takeWhile_append_dropWhile]
 induction l with
 | nil => rfl
 | cons x l ih =>
  rw [List.takeWhile_cons]
  cases p x
  · rfl
  · simp [ih]
theorem Hp {α : Type} (p : α → Bool) (l : List α) : l.drop (l.takeWhile p).length = l.dropWhile p := by
 induction l with
 | nil => rfl
 | cons x l ih =>
  rw [List.takeWhile_cons, List.dropWhile_cons]
  cases p x
  · rfl
  · simp [ih]
theorem N5 {α : Type} (p : α → Bool) (l : List α) : (l.takeWhile p).length ≤ l.length := (List.takeWhile_sublist p).length_le
theorem GV (K : Nat) (w : GWorker) (x : GPart) (hl : w.Held.length ≤ 100) (hK : 1000 ≤ K) : CM K w x = some { w with Held := CW w.Held x } := by
 have e : DN K w x K 0 = some (((w.Held.takeWhile fun h => ilt h.X.P x.P).length : Nat) : Int) := by
  have e := JZ K w x om K 0 om om
  rw [List.drop_zero, Nat.zero_add] at e; exact e
 have hle := N5 (fun h => ilt h.X.P x.P) w.Held
 have hdl : (w.Held.dropWhile fun h => ilt h.X.P x.P).length ≤ w.Held.length := (List.dropWhile_sublist _).length_le
 have s1 : subL w.Held ((w.Held.takeWhile fun h => ilt h.X.P x.P).length : Int) (nlen (len w.Held)) = w.Held.dropWhile fun h => ilt h.X.P x.P := by
  show (w.Held.drop (Int.toNat _)).take _ = _
  simp only [Cj, Int.toNat_natCast]
  rw [Hp, List.take_of_length_le]
  rw [← Hp, List.length_drop]; exact Nat.le_refl _
 have s2 : subL w.Held 0 ((w.Held.takeWhile fun h => ilt h.X.P x.P).length : Int) = w.Held.takeWhile fun h => ilt h.X.P x.P := by
  show (w.Held.drop 0).take ((((w.Held.takeWhile fun h => ilt h.X.P x.P).length : Nat) : Int).toNat - 0) = _
  rw [Int.toNat_natCast, List.drop_zero, Nat.sub_zero]
  exact MU _ _
 have b1 : bnd ((w.Held.takeWhile fun h => ilt h.X.P x.P).length : Int) (nlen (len w.Held)) (len w.Held) = true := decide_eq_true ⟨by omega, by rw [Cj]; omega, by show nlen (len w.Held) ≤ ((len w.Held : Nat) : Int); exact Int.le_refl _⟩
 have b2 : bnd 0 ((w.Held.takeWhile fun h => ilt h.X.P x.P).length : Int) (len w.Held) = true := decide_eq_true ⟨Int.le_refl _, by omega, by show _ ≤ ((w.Held.length : Nat) : Int); omega⟩
 have a1 : apok 0 (len (w.Held.dropWhile fun h => ilt h.X.P x.P)) 96 = true := A4 (by show 0 + (w.Held.dropWhile fun h => ilt h.X.P x.P).length ≤ _; omega) om
 have a2 : apok (len (w.Held.takeWhile fun h => ilt h.X.P x.P)) 1 96 = true := A4 (by show (w.Held.takeWhile fun h => ilt h.X.P x.P).length + 1 ≤ _; omega) om
 have a3 : apok (len (appL (w.Held.takeWhile fun h => ilt h.X.P x.P) [GHeld.mk x false false])) (len (w.Held.dropWhile fun h => ilt h.X.P x.P)) 96 = true := A4 (by show (appL (w.Held.takeWhile fun h => ilt h.X.P x.P) [GHeld.mk x false false]).length + (w.Held.dropWhile fun h => ilt h.X.P x.P).length ≤ _; rw [appL, List.length_append, List.length_singleton]; omega) om
 rw [CM, e, bS]
 simp only [s1, s2, b1, b2, Cn, Gz, a1, a2, a3, cT]
 rfl
def Em (w : GWorker) (e : Int) : GWorker := { w with Buf := w.Buf.filter (fun d => ile e d.Epoch), Coming := w.Coming.filter (fun c => ile e c.Epoch) }
theorem Hb {K : Nat} (w : GWorker) (e : Int) (h1 : w.Buf.length ≤ 1000000) (h2 : w.Coming.length ≤ 1000000) (k1 : w.Buf.length < K) (k2 : w.Coming.length < K) : DU K w e = some (Em w e) := by
 let st1 : GData → List GData → (List GData → Option (List GData)) → Option (List GData) := fun x a c => bif ile e x.Epoch then (bif apok (len a) 1 56 then c (appL a [x]) else none) else c a
 have e1 := Aq (l := w.Buf) (L := fun k a i => D3 K w e k a i) st1 (fun a => some a) (fun k s i _ => rfl) om k1 []
 have g1 := DH (step := st1) (fun d => ile e d.Epoch) (fun d => d) 56 om 1000000 om w.Buf [] (by simp; omega) (fun x _ a c => rfl)
 have f1 : D3 K w e K [] 0 = some (w.Buf.filter fun d => ile e d.Epoch) := (e1.trans g1).trans (by simp)
 rw [DU, f1, bS]
 let st2 : GComing → List GComing → (List GComing → Option (List GComing)) → Option (List GComing) := fun x a c => bif ile e x.Epoch then (bif apok (len a) 1 96 then c (appL a [x]) else none) else c a
 have e2 := Aq (l := w.Coming) (L := fun k a i => DJ K w e (w.Buf.filter fun d => ile e d.Epoch) k a i) st2 (fun a => some a) (fun k s i _ => rfl) om k2 []
 have g2 := DH (step := st2) (fun d => ile e d.Epoch) (fun d => d) 96 om 1000000 om w.Coming [] (by simp; omega) (fun x _ a c => rfl)
 have f2 : DJ K w e (w.Buf.filter fun d => ile e d.Epoch) K [] 0 = some (w.Coming.filter fun d => ile e d.Epoch) := (e2.trans g2).trans (by simp)
 rw [f2]; rfl
def Eh (w : GWorker) (m : GMail) : GWorker := { w with Out := w.Out ++ [GPost.mk 0 0 m] }
theorem Fb (K : Nat) (w : GWorker) (m : GMail) (h : w.Out.length ≤ 900000) : CZ K w m = some (Eh w m) := by
 rw [CZ, A4 (by show w.Out.length + 1 ≤ _; omega) om]; rfl
def BG : GPart := GPart.mk 0 0 [] [] []
def C4 (w : GWorker) (p : Int) : GMail := GMail.mk 5 w.T.Epoch 0 w.Goal p 0 0 8 [] [] [] BG []
def Gp (w : GWorker) (p : Int) : GWorker := Eh w (C4 w p)
theorem Hl (K : Nat) (w : GWorker) (p : Int) (h : w.Out.length ≤ 900000) : EG K w p = some (Gp w p) := by
 rw [EG, Fb K _ _ h]; rfl
def EN (e s q p : Int) (d : GData) : Bool := ieq d.Epoch e && (ieq d.Step s && (ieq d.Q q && ieq d.P p))
def Bq (l : List GData) (e s q p : Int) : Int := CE (EN e s q p) l
theorem Jc (K : Nat) (w : GWorker) (e s q p : Int) (hl : w.Buf.length < 1000000) (hK : w.Buf.length < K) : Dm K w e s q p = some (Bq w.Buf e s q p, w) := by
 let step : Nat → GData → Unit → (Unit → Option (Int ⊕ Unit)) → Option (Int ⊕ Unit) := fun i x _ c =>
  bif ieq x.Epoch e then (bif ieq x.Step s then (bif ieq x.Q q then (bif ieq x.P p then some (.inl (i : Int)) else c ()) else c ()) else c ()) else c ()
 have h := Ct (l := w.Buf) (L := fun k (_ : Unit) i => C7 K w e s q p k i) step (fun _ => some (.inr ())) (fun k s i _ => rfl) om K () 0 om om
 have g := FR (step := step) (EN e s q p) w.Buf 0 (fun x _ i c => by
  show (bif ieq x.Epoch e then (bif ieq x.Step s then (bif ieq x.Q q then (bif ieq x.P p then _ else _) else _) else _) else _) = _
  rw [EN]
  cases ieq x.Epoch e <;> cases ieq x.Step s <;> cases ieq x.Q q <;> cases ieq x.P p <;> rfl)
 rw [List.drop_zero] at h
 have e : C7 K w e s q p K 0 = _ := h.trans g
 rw [Dm, e]
 exact GW _ _ fun q => some (q, w)
def AP (j : GJob) (e : Int) (m : GMail) : GTable × Bool := (GTable.mk e m.Owners m.Ids m.Incs, BR (GTable.mk e m.Owners m.Ids m.Incs) && (ilt 0 e && ieq (m.Owners.length : Int) j.Parts))
theorem Ip {K : Nat} (hK : 100 ≤ K) (j : GJob) (e : Int) (m : GMail) : F68 K j e m = some (AP j e m) := by
 rw [F68, IV hK, bS, AP, Cj]
 cases BR (GTable.mk e m.Owners m.Ids m.Incs) <;> cases ilt 0 e <;> rfl
def Dw (m : GMail) : GMail := GMail.mk 2 m.Epoch 0 0 m.X.P 0 0 0 [] [] [] BG []
def Eu (g : GGraph) (j : GJob) (w : GWorker) (m : GMail) : GWorker := bif BK g j w m.X then Eh { w with Held := CW w.Held m.X } (Dw m) else w
def Fo (g : GGraph) (j : GJob) (w : GWorker) (m : GMail) : GWorker :=
 bif (AP j m.Epoch m).2 then (bif ilt m.Epoch w.T.Epoch then w else bif ilt w.T.Epoch m.Epoch then Eu g j (Em { w with Goal := -1, T := (AP j m.Epoch m).1, Held := [], Out := [] } m.Epoch) m else Eu g j w m) else w
structure Sml (w : GWorker) : Prop where
 h : w.Held.length ≤ 50
 b : w.Buf.length ≤ 500000
 c : w.Coming.length ≤ 500000
 o : w.Out.length ≤ 500000
theorem ET {α : Type} (p : α → Bool) (l : List α) : (l.filter p).length ≤ l.length := List.length_filter_le p l
theorem Ps {K : Nat} (hK : 1000000 ≤ K) (w : GWorker) (g : GGraph) (j : GJob) (m : GMail) (hw : Sml w) (hx : FitM 2000 m) (hp : i64 m.X.P) : EJ K w g j m = some (Fo g j w m) := by
 have hin : m.X.In.length < 1000000 ∧ m.X.In.length < K := by have := hx.x; omega
 rw [EJ, Ip om, bS, Fo]
 cases (AP j m.Epoch m).2
 · rfl
 · cases ilt m.Epoch w.T.Epoch
   · rw [cT, cT, cF, cF]
     cases ilt w.T.Epoch m.Epoch
     · rw [cF, cF, Gk om w g j m.X (by have := hw.h; omega) hin hp, bS, Eu]
       cases BK g j w m.X
       · rfl
       · show (CM K w m.X).bind _ = _
         rw [GV K w m.X (by have := hw.h; omega) om, bS, Fb K _ _ (by have := hw.o; show w.Out.length ≤ _; omega)]; rfl
     · rw [cT, cT, Hb (w := GWorker.mk w.Id (-1) w.Until (AP j m.Epoch m).1 [] w.Buf w.Coming []) m.Epoch (by have := hw.b; show w.Buf.length ≤ _; omega) (by have := hw.c; show w.Coming.length ≤ _; omega) (by have := hw.b; show w.Buf.length < _; omega) (by have := hw.c; show w.Coming.length < _; omega), bS]
       show (CO K (Em { w with Goal := -1, T := (AP j m.Epoch m).1, Held := [], Out := [] } m.Epoch) g j m.X).bind _ = _
       generalize hv : Em { w with Goal := -1, T := (AP j m.Epoch m).1, Held := [], Out := [] } m.Epoch = v
       have vh : v.Held = [] := by rw [← hv]; rfl
       have vo : v.Out = [] := by rw [← hv]; rfl
       rw [Gk om v g j m.X (by rw [vh]; simp) hin hp, bS, Eu]
       cases BK g j v m.X
       · rfl
       · show (CM K v m.X).bind _ = _
         rw [GV K v m.X (by rw [vh]; simp) om, bS, Fb K _ _ (by show v.Out.length ≤ _; rw [vo]; simp)]; rfl
   · rfl
def EQ (w : GWorker) (m : GMail) : GWorker := bif ieq m.Epoch w.T.Epoch then { w with Goal := m.Step } else w
theorem Np (K : Nat) (w : GWorker) (g : GGraph) (j : GJob) (m : GMail) : ES K w g j m = some (EQ w m) := by
 rw [ES, EQ]
 cases ieq m.Epoch w.T.Epoch <;> rfl
def CC (w : GWorker) (m : GMail) : GWorker := bif ile w.T.Epoch m.Epoch && ilt (Bq w.Buf m.Epoch m.Step m.Q m.P) 0 then { w with Buf := w.Buf ++ [GData.mk m.Epoch m.Step m.Q m.P m.Msgs] } else w
theorem Ju {K : Nat} (w : GWorker) (g : GGraph) (j : GJob) (m : GMail) (hl : w.Buf.length ≤ 900000) (hK : 1000000 ≤ K) : D0 K w g j m = some (CC w m) := by
 rw [D0, Jc K w _ _ _ _ om om, bS, CC]
 cases ile w.T.Epoch m.Epoch
 · rfl
 · cases ilt (Bq w.Buf m.Epoch m.Step m.Q m.P) 0
   · rfl
   · simp only [cT, Bool.and_true]
     rw [A4 (by show w.Buf.length + 1 ≤ _; omega) om]; rfl
def DP (m : GMail) (x : GPart) : GMail := GMail.mk 7 m.Epoch 0 0 0 0 0 0 [] [] [] x []
def F6 (w : GWorker) (m : GMail) (h : GHeld) : GWorker :=
 bif h.Wait || (h.Given || ilt (Cb m.Ids m.To) 0) then w else { w with Held := w.Held.set (Cz w.Held m.P).toNat (GHeld.mk h.X h.Wait true), Out := w.Out ++ [GPost.mk m.To (m.Incs.getD (Cb m.Ids m.To).toNat 0) (DP m h.X)] }
def E1 (w : GWorker) (m : GMail) : GWorker :=
 bif ieq m.Epoch w.T.Epoch && !(ilt (Cz w.Held m.P) 0) then (match w.Held[(Cz w.Held m.P).toNat]? with | some h => F6 w m h | none => w) else w
theorem MH {K : Nat} (hK : 1000 ≤ K) (w : GWorker) (g : GGraph) (j : GJob) (m : GMail) (hw : Sml w) (hm : FitM 2000 m) (hi : m.Incs.length = m.Ids.length) (hK2 : m.Ids.length < K) : EO K w g j m = some (E1 w m) := by
 rw [EO, IB K w m.P (by have := hw.h; omega) (by have := hw.h; omega), bS, E1]
 cases ieq m.Epoch w.T.Epoch
 · rfl
 · cases hn : ilt (Cz w.Held m.P) 0
   · simp only [cT, cF, Bool.true_and, Bool.not_false]
     rw [Ac] at hn
     obtain ⟨q, h, e1, e2, e3⟩ := Fw (p := fun h : GHeld => ieq h.X.P m.P) (l := w.Held) (by show ¬ Cz w.Held m.P < 0; omega)
     have e1' : Cz w.Held m.P = (q : Int) := e1
     have hql : q < w.Held.length := (List.getElem?_eq_some_iff.1 e2).1
     rw [e1', Int.toNat_natCast, e2]
     have b1 : inr (q : Int) (len w.Held) = true := decide_eq_true ⟨by omega, by show (q : Int) < (w.Held.length : Int); omega⟩
     have b2 : elAt w.Held (q : Int) = some h := by rw [BA]; exact e2
     rw [b1, b2, cT, bS]
     dsimp only
     rw [F6, e1', Int.toNat_natCast]
     cases hW : h.Wait
     · cases h.Given
       · simp only [cF, Bool.false_or]
         let step : Nat → Int → Unit → (Unit → Option ((List GHeld × List GPost) ⊕ Unit)) → Option ((List GHeld × List GPost) ⊕ Unit) := fun i x _ c =>
          bif ieq x m.To then
           (bif inr (q : Int) (len w.Held) then (elAt w.Held (q : Int)).bind fun h => bif inr (i : Int) (len m.Incs) then (elAt m.Incs (i : Int)).bind fun n =>
            bif inr (q : Int) (len (putAt w.Held (q : Int) (GHeld.mk h.X h.Wait true))) then (elAt (putAt w.Held (q : Int) (GHeld.mk h.X h.Wait true)) (q : Int)).bind fun h' =>
            bif apok (len w.Out) 1 264 then some (.inl (putAt w.Held (q : Int) (GHeld.mk h.X h.Wait true), appL w.Out [GPost.mk m.To n (DP m h'.X)])) else none else none else none else none)
          else c ()
         have hs := Ct (l := m.Ids) (L := fun k (_ : Unit) i => Ec K m ((q : Int), w) k i) step (fun _ => some (.inr ())) (fun k s i _ => rfl) (by have := hm.i; omega) K () 0 om om
         rw [List.drop_zero] at hs
         have go : ∀ (l : List Int) (i : Nat), m.Ids.drop i = l → goI step (fun _ => some (.inr ())) i l () = some (match l.findIdx? (fun x => ieq x m.To) with
          | some z => .inl (w.Held.set q (GHeld.mk h.X h.Wait true), w.Out ++ [GPost.mk m.To (m.Incs.getD (i + z) 0) (DP m h.X)]) | none => .inr ()) := by
          intro l
          induction l with
          | nil => intro i _; rfl
          | cons x l ih =>
           intro i hd
           have hlt := DZ hd
           have hd2 : m.Ids.drop (i + 1) = l := by
            have := List.drop_eq_getElem_cons hlt
            rw [hd] at this
            injection this with _ h2; exact h2.symm
           rw [goI, List.findIdx?_cons]
           show (bif ieq x m.To then _ else _) = _
           cases ieq x m.To
           · rw [cF, ih (i + 1) hd2]
             cases l.findIdx? (fun x => ieq x m.To) with
             | none => rfl
             | some z => simp [Nat.add_assoc, Nat.add_comm 1 z]
           · have c1 : inr (i : Int) (len m.Incs) = true := decide_eq_true ⟨by omega, by show (i : Int) < (m.Incs.length : Int); omega⟩
             have c2 : elAt m.Incs (i : Int) = some (m.Incs.getD i 0) := by rw [BA, FY om]; exact List.getElem?_eq_getElem om
             have c3 : putAt w.Held (q : Int) (GHeld.mk h.X h.Wait true) = w.Held.set q (GHeld.mk h.X h.Wait true) := by show w.Held.set (Int.toNat q) _ = _; rw [Int.toNat_natCast]
             have c4 : inr (q : Int) (len (w.Held.set q (GHeld.mk h.X h.Wait true))) = true := decide_eq_true ⟨by omega, by show (q : Int) < ((w.Held.set q _).length : Int); rw [List.length_set]; omega⟩
             have c5 : elAt (w.Held.set q (GHeld.mk h.X h.Wait true)) (q : Int) = some (GHeld.mk h.X h.Wait true) := by rw [BA, List.getElem?_set_self hql]
             simp only [cT, b1, b2, bS, c1, c2, c3, c4, c5, A4 (show len w.Out + 1 ≤ 1000000 by have := hw.o; show w.Out.length + 1 ≤ _; omega) (show 264 ≤ 1000 by omega)]
             simp [appL]
         have e : Ec K m ((q : Int), w) K 0 = _ := hs.trans (go m.Ids 0 rfl)
         rw [e]
         have hfe : Cb m.Ids m.To = (match m.Ids.findIdx? (fun x => ieq x m.To) with | some z => (z : Int) | none => -1) := rfl
         cases hf : m.Ids.findIdx? (fun x => ieq x m.To) with
         | none =>
          rw [hfe, hf]; rfl
         | some z =>
          rw [hfe, hf]
          have hz : ilt ((z : Nat) : Int) 0 = false := Ac.2 om
          simp only [bS, Sum.elim_inl, hz, cF, Nat.zero_add, Int.toNat_natCast, hW]
       · rfl
     · rfl
   · rfl
theorem En {α : Type} (f : α → Int) (hi : Int) : ∀ (l : List α) (lo : Int), l.Pairwise (fun a b => f a < f b) → (∀ x ∈ l, lo ≤ f x ∧ f x < hi) → (l.length : Int) ≤ max 0 (hi - lo)
 | [], lo, _, _ => by simp; omega
 | x :: l, lo, h, g => by
  have hx := g x List.mem_cons_self
  have := En f hi l (f x + 1) (List.pairwise_cons.1 h).2 fun y hy => ⟨by have := (List.pairwise_cons.1 h).1 y hy; omega, (g y (List.mem_cons_of_mem _ hy)).2⟩
  rw [List.length_cons]
  omega
structure HOk (l : List GHeld) : Prop where
 s : l.Pairwise (fun a b => a.X.P < b.X.P)
 r : ∀ h ∈ l, 0 ≤ h.X.P ∧ h.X.P < 6
theorem HOk.len {l : List GHeld} (h : HOk l) : l.length ≤ 6 := by
 have := En (fun h : GHeld => h.X.P) 6 l 0 h.s h.r
 omega
theorem HOk.nil : HOk [] := ⟨List.Pairwise.nil, fun h hh => absurd hh List.not_mem_nil⟩
theorem Ii {l : List GHeld} {x : GPart} {h : GHeld} : h ∈ CW l x ↔ h ∈ l ∨ h = GHeld.mk x false false := by
 have : h ∈ l ↔ h ∈ l.takeWhile (fun h => ilt h.X.P x.P) ∨ h ∈ l.dropWhile (fun h => ilt h.X.P x.P) := by
  conv => lhs; rw [← List.takeWhile_append_dropWhile (p := fun h => ilt h.X.P x.P) (l := l)]
  rw [List.mem_append]
 rw [CW, List.mem_append, List.mem_append, List.mem_singleton, this]
 constructor
 · rintro ((h | h) | h)
   · exact .inl (.inl h)
   · exact .inr h
   · exact .inl (.inr h)
 · rintro ((h | h) | h)
   · exact .inl (.inl h)
   · exact .inr h
   · exact .inl (.inr h)
theorem G5 {α : Type} {p : α → Bool} : ∀ {l : List α} {x : α}, x ∈ l.takeWhile p → p x = true
 | y :: l, x, h => by
  rw [List.takeWhile_cons] at h
  cases hp : p y
  · rw [hp] at h; exact absurd h List.not_mem_nil
  · rw [hp] at h
    rcases List.mem_cons.1 h with rfl | h
    · exact hp
    · exact G5 h
theorem NM {l : List GHeld} {x : GPart} (hs : l.Pairwise (fun a b => a.X.P < b.X.P)) (hn : ∀ h ∈ l, h.X.P ≠ x.P) : (CW l x).Pairwise (fun a b => a.X.P < b.X.P) := by
 have e := List.takeWhile_append_dropWhile (p := fun h : GHeld => ilt h.X.P x.P) (l := l)
 have h1 : ∀ h ∈ l.takeWhile (fun h => ilt h.X.P x.P), h.X.P < x.P := fun h hh => by
  have := G5 hh
  exact Ae.1 this
 have h2 : ∀ h ∈ l.dropWhile (fun h => ilt h.X.P x.P), x.P < h.X.P := by
  have key : ∀ (l : List GHeld), l.Pairwise (fun a b => a.X.P < b.X.P) → (∀ h ∈ l, h.X.P ≠ x.P) → ∀ h ∈ l.dropWhile (fun h => ilt h.X.P x.P), x.P < h.X.P := by
   intro l
   induction l with
   | nil => intro _ _ h hh; cases hh
   | cons y l ih =>
    intro hs hn h hh
    rw [List.dropWhile_cons] at hh
    cases hp : ilt y.X.P x.P
    · rw [hp] at hh
      rw [Ac] at hp
      have := hn y List.mem_cons_self
      rcases List.mem_cons.1 hh with rfl | hh
      · omega
      · have := (List.pairwise_cons.1 hs).1 h hh; omega
    · rw [hp] at hh
      exact ih (List.pairwise_cons.1 hs).2 (fun h hh => hn h (List.mem_cons_of_mem _ hh)) h hh
  exact key l hs hn
 rw [← e, List.pairwise_append] at hs
 rw [CW, List.append_assoc, List.pairwise_append]
 refine ⟨hs.1, ?_, ?_⟩
 · rw [List.singleton_append, List.pairwise_cons]
   exact ⟨h2, hs.2.1⟩
 · intro a ha b hb
   rw [List.singleton_append, List.mem_cons] at hb
   rcases hb with rfl | hb
   · exact h1 a ha
   · exact hs.2.2 a ha b hb
theorem PT {l : List GHeld} {p : Int} : ilt (Cz l p) 0 = true ↔ ∀ h ∈ l, h.X.P ≠ p := by
 rw [Ae]
 refine (NE _ _).trans ?_
 simp only [Ao]
theorem JE {g : GGraph} {j : GJob} {w : GWorker} {x : GPart} (h : BK g j w x = true) : 0 ≤ x.P ∧ x.P < ((Aj w.T).Owners.length : Int) ∧ (Aj w.T).Owners.getD x.P.toNat 0 = w.Id ∧ As g j x = true ∧ ∀ h ∈ w.Held, h.X.P ≠ x.P := by
 rw [BK, Bool.and_eq_true, Bool.and_eq_true, Bool.and_eq_true] at h
 obtain ⟨h1, h2, h3, h4⟩ := h
 obtain ⟨a, b, c⟩ := Kt h1
 exact ⟨a, b, by rw [← c]; exact Am.1 h2, h3, PT.1 h4⟩
theorem HOk.ins {g : GGraph} {j : GJob} {w : GWorker} {x : GPart} (h : HOk w.Held) (hm : BK g j w x = true) : HOk (CW w.Held x) := by
 obtain ⟨a, b, _, _, d⟩ := JE hm
 have := (F8 (GX w.T)).2.2.2.2.1
 refine ⟨NM h.s d, fun y hy => ?_⟩
 rcases Ii.1 hy with hy | rfl
 · exact h.r y hy
 · exact ⟨a, by show x.P < 6; omega⟩
def Dh (m : GMail) : GMail := GMail.mk 8 m.Epoch 0 0 m.X.P 0 0 0 [] [] [] BG []
def isC (e p : Int) (c : GComing) : Bool := ieq c.Epoch e && ieq c.X.P p
def E9 (w : GWorker) (m : GMail) : GWorker := bif ilt m.Epoch w.T.Epoch || w.Coming.any (isC m.Epoch m.X.P) then w else Eh { w with Coming := w.Coming ++ [GComing.mk m.Epoch m.X] } (Dh m)
theorem KW {K : Nat} (w : GWorker) (g : GGraph) (j : GJob) (m : GMail) (hw : Sml w) (hK : 1000000 ≤ K) : E3 K w g j m = some (E9 w m) := by
 let step : GComing → Unit → (Unit → Option (Unit ⊕ Unit)) → Option (Unit ⊕ Unit) := fun x _ c => bif ieq x.Epoch m.Epoch then (bif ieq x.X.P m.X.P then some (.inl ()) else c ()) else c ()
 have h := Aq (l := w.Coming) (L := fun k (_ : Unit) i => DM K w m k i) step (fun _ => some (.inr ())) (fun k s i _ => rfl) (by have := hw.c; omega) (K := K) (by have := hw.c; omega) ()
 have e := Fl (step := step) (fun c => !(isC m.Epoch m.X.P c)) w.Coming (fun x _ c => by
  show (bif ieq x.Epoch m.Epoch then (bif ieq x.X.P m.X.P then _ else _) else _) = _
  rw [isC]
  cases ieq x.Epoch m.Epoch <;> cases ieq x.X.P m.X.P <;> rfl)
 have e1 : DM K w m K 0 = _ := h.trans e
 have e2 : (w.Coming.all fun c => !(isC m.Epoch m.X.P c)) = !(w.Coming.any (isC m.Epoch m.X.P)) := by rw [List.not_any_eq_all_not]
 rw [E3, e1, e2, E9]
 cases ilt m.Epoch w.T.Epoch
 · cases w.Coming.any (isC m.Epoch m.X.P)
   · simp only [cF, Bool.not_false, BT, cT, bS, Sum.elim_inr, Bool.or_false]
     rw [A4 (by have := hw.c; show w.Coming.length + 1 ≤ _; omega) om, cT, Fb K _ _ (by have := hw.o; show w.Out.length ≤ _; omega)]; rfl
   · rfl
 · rfl
def Cc (w : GWorker) (m : GMail) : List GPart := (w.Held.filter fun h => ieq m.Epoch w.T.Epoch && (!(h.Wait) && !(h.Given))).map (·.X)
def De (w : GWorker) (m : GMail) : List GPart := (w.Coming.filter fun c => ieq c.Epoch m.Epoch).map (·.X)
def BF (g : GGraph) (j : GJob) (w : GWorker) (x : GPart) : GWorker := bif BK g j w x then { w with Held := CW w.Held x } else w
def E2 (g : GGraph) (j : GJob) (w : GWorker) (m : GMail) : GWorker :=
 bif (AP j m.Fresh m).2 then (bif ile m.Fresh w.T.Epoch then w else Em ((Cc w m ++ De w m).foldl (BF g j) { w with T := (AP j m.Fresh m).1, Goal := -1, Held := [] }) m.Fresh) else w
theorem GL {α σ β : Type} {step : α → σ → (σ → Option β) → Option β} {fin : σ → Option β} (P : σ → Prop) (f : σ → α → σ) : ∀ (l : List α) (s : σ), P s → (∀ x ∈ l, ∀ s, P s → P (f s x) ∧ ∀ c, step x s c = c (f s x)) →
 goL step fin l s = fin (l.foldl f s) ∧ P (l.foldl f s)
 | [], s, hs, _ => ⟨rfl, hs⟩
 | x :: l, s, hs, h => by
  obtain ⟨h1, h2⟩ := h x List.mem_cons_self s hs
  rw [goL, h2, List.foldl_cons]
  exact GL P f l (f s x) h1 fun y hy => h y (List.mem_cons_of_mem _ hy)
abbrev WT : Type := Int × Int × Int × Int × List Int × List Int × List Int × List GHeld × List GData × List GComing × List GPost
abbrev wt (w : GWorker) : WT :=
 (w.Id, (w.Goal, (w.Until, (w.T.Epoch, (w.T.Owners, (w.T.Ids, (w.T.Incs, (w.Held, (w.Buf, (w.Coming, w.Out))))))))))
structure SmlP (x : GPart) : Prop where
 v : x.Vals.length ≤ 100
 r : x.Rest.length ≤ 100
 i : x.In.length ≤ 300
 p : i64 x.P
 n : AH x
theorem MO {K : Nat} (hK : 1000000 ≤ K) (g : GGraph) (j : GJob) (m : GMail) (l : List GPart) (hl : l.length ≤ 600000) (hp : ∀ x ∈ l, SmlP x) (w : GWorker) (hw : HOk w.Held) :
 Dd K g j m l K w.Id w.Goal w.Until w.T.Epoch w.T.Owners w.T.Ids w.T.Incs w.Held w.Buf w.Coming w.Out 0 = some (wt (l.foldl (BF g j) w)) := by
 let step : GPart → GWorker → (GWorker → Option WT) → Option WT := fun x w c => (CO K w g j x).bind fun r => bif r.1 then (CM K r.2 x).bind fun r => c r else c r.2
 have h := Aq (l := l) (L := fun k (w : GWorker) i => Dd K g j m l k w.Id w.Goal w.Until w.T.Epoch w.T.Owners w.T.Ids w.T.Incs w.Held w.Buf w.Coming w.Out i) step (fun w => some (wt w)) (fun k s i _ => rfl) om (K := K) om w
 have e := GL (step := step) (fin := fun w => some (wt w)) (fun w => HOk w.Held) (BF g j) l w hw (fun x hx w hw => by
  have hs := hp x hx
  have hlen := hw.len
  have e1 := Gk (K := K) om w g j x om (by have := hs.i; omega) hs.p
  constructor
  · show HOk (BF g j w x).Held
    rw [BF]
    cases hm : BK g j w x
    · exact hw
    · exact hw.ins hm
  · intro c
    show (CO K w g j x).bind _ = _
    rw [e1, bS, BF]
    cases BK g j w x
    · rfl
    · rw [cT, cT, GV K w x om om, bS])
 exact h.trans e.1
theorem M0 {K : Nat} (hK : 1000000 ≤ K) (w : GWorker) (g : GGraph) (j : GJob) (m : GMail) (hw : Sml w) (h1 : ∀ h ∈ w.Held, SmlP h.X) (h2 : ∀ c ∈ w.Coming, SmlP c.X) : EL K w g j m = some (E2 g j w m) := by
 have a1 := hw.h
 have a2 := hw.c
 have a3 := hw.b
 rw [EL, Ip om, bS, E2]
 cases (AP j m.Fresh m).2
 · rfl
 · cases ile m.Fresh w.T.Epoch
   · rw [cT, cT, cF, cF]
     generalize hr : AP j m.Fresh m = r
     let st1 : GHeld → List GPart → (List GPart → Option (List GPart)) → Option (List GPart) := fun x a c => bif ieq m.Epoch w.T.Epoch then (bif x.Wait then c a else bif x.Given then c a else bif apok (len a) 1 88 then c (appL a [x.X]) else none) else c a
     have e1 := Aq (l := w.Held) (L := fun k a i => C2 K w g j m r k a i) st1 (fun a => some a) (fun k s i _ => rfl) om (K := K) om []
     have g1 := DH (step := st1) (fun h : GHeld => ieq m.Epoch w.T.Epoch && (!(h.Wait) && !(h.Given))) (fun h => h.X) 88 om 1000000 om w.Held [] (by simp; omega) (fun x _ a c => by
      show (bif ieq m.Epoch w.T.Epoch then (bif x.Wait then c a else bif x.Given then c a else _) else c a) = _
      cases ieq m.Epoch w.T.Epoch <;> cases x.Wait <;> cases x.Given <;> rfl)
     have f1 : C2 K w g j m r K [] 0 = some (Cc w m) := (e1.trans g1).trans (by simp [Cc])
     rw [f1, bS]
     have hrl : (Cc w m).length ≤ 50 := by rw [Cc, List.length_map]; exact Nat.le_trans (ET _ _) a1
     let st2 : GComing → List GPart → (List GPart → Option (List GPart)) → Option (List GPart) := fun x a c => bif ieq x.Epoch m.Epoch then (bif apok (len a) 1 88 then c (appL a [x.X]) else none) else c a
     have e2 := Aq (l := w.Coming) (L := fun k a i => DT K w g j m r k a i) st2 (fun a => some a) (fun k s i _ => rfl) om (K := K) om (Cc w m)
     have g2 := DH (step := st2) (fun c : GComing => ieq c.Epoch m.Epoch) (fun c => c.X) 88 om 1000000 om w.Coming (Cc w m) om (fun x _ a c => rfl)
     have f2 : DT K w g j m r K (Cc w m) 0 = some (Cc w m ++ De w m) := e2.trans g2
     rw [f2, bS]
     have hcl : (De w m).length ≤ 500000 := by rw [De, List.length_map]; exact Nat.le_trans (ET _ _) a2
     have f3 := MO hK g j m (Cc w m ++ De w m) (by rw [List.length_append]; omega) (fun x hx => by
      rcases List.mem_append.1 hx with hx | hx
      · obtain ⟨h, hh, rfl⟩ := List.mem_map.1 hx
        exact h1 h (List.mem_filter.1 hh).1
      · obtain ⟨c, hc, rfl⟩ := List.mem_map.1 hx
        exact h2 c (List.mem_filter.1 hc).1) { w with T := r.1, Goal := -1, Held := [] } HOk.nil
     have f3' : Dd K g j m (Cc w m ++ De w m) K w.Id (-1) w.Until r.1.Epoch r.1.Owners r.1.Ids r.1.Incs [] w.Buf w.Coming w.Out 0 = _ := f3
     rw [f3', bS]
     generalize hv : (Cc w m ++ De w m).foldl (BF g j) { w with T := r.1, Goal := -1, Held := [] } = v
     have hbc : v.Buf = w.Buf ∧ v.Coming = w.Coming := by
      have key : ∀ (l : List GPart) (u : GWorker), (l.foldl (BF g j) u).Buf = u.Buf ∧ (l.foldl (BF g j) u).Coming = u.Coming := by
       intro l
       induction l with
       | nil => intro u; exact ⟨rfl, rfl⟩
       | cons x l ih =>
        intro u
        rw [List.foldl_cons]
        have := ih (BF g j u x)
        have e : (BF g j u x).Buf = u.Buf ∧ (BF g j u x).Coming = u.Coming := by rw [BF]; cases BK g j u x <;> exact ⟨rfl, rfl⟩
        exact ⟨this.1.trans e.1, this.2.trans e.2⟩
      rw [← hv]; exact key _ _
     show (DU K v m.Fresh).bind _ = _
     rw [Hb v m.Fresh (by rw [hbc.1]; omega) (by rw [hbc.2]; omega) (by rw [hbc.1]; omega) (by rw [hbc.2]; omega)]; rfl
   · rfl
theorem Ga (K : Nat) (w : GWorker) (h : Sml w) : F30 K w = some w := by
 obtain ⟨h1, h2, h3, h4⟩ := h
 rw [F30, A4 (by show 0 + w.Held.length ≤ _; omega) om, A4 (by show 0 + w.Buf.length ≤ _; omega) om, A4 (by show 0 + w.Coming.length ≤ _; omega) om, A4 (by show 0 + w.Out.length ≤ _; omega) om]
 simp only [cT, Gz]
def Gm (g : GGraph) (j : GJob) (w : GWorker) (m : GMail) : GWorker :=
 bif ieq m.Kind 1 then Fo g j w m else bif ieq m.Kind 3 then EQ w m else bif ieq m.Kind 4 then CC w m else bif ieq m.Kind 6 then E1 w m else bif ieq m.Kind 7 then E9 w m else bif ieq m.Kind 9 then E2 g j w m else w
def E6 (g : GGraph) (j : GJob) (w : GWorker) (m : GMail) : GWorker := bif ieq (Ah g j) 0 && CA m then Gm g j w m else w
theorem PS {K : Nat} (hK : 1000000 ≤ K) (g : GGraph) (j : GJob) (w : GWorker) (m : GMail) (hw : Sml w) (h1 : ∀ h ∈ w.Held, SmlP h.X) (h2 : ∀ c ∈ w.Coming, SmlP c.X) (hm : FitM 2000 m) (hp : i64 m.X.P) : F18 K g j w m = some (E6 g j w m) := by
 rw [F18, Ga K w hw, bS, DO om, bS, NW om m hm, E6]
 cases ieq (Ah g j) 0
 · rfl
 · cases hr : CA m
   · rfl
   · have hi : m.Incs.length = m.Ids.length := by
      simp only [CA, Bool.and_eq_true, Am] at hr
      have := hr.2.2.2.2.2.2.1
      omega
     simp only [cT, bS, Bool.true_and, Gm, Ps hK w g j m hw hm hp, Np, Ju w g j m (by have := hw.b; omega) hK, MH (K := K) om w g j m hw hm hi (by have := hm.i; omega), KW w g j m hw hK, M0 hK w g j m hw h1 h2]
     cases ieq m.Kind 1 <;> cases ieq m.Kind 3 <;> cases ieq m.Kind 4 <;> cases ieq m.Kind 6 <;> cases ieq m.Kind 7 <;> cases ieq m.Kind 9 <;> rfl
def EP (w : GWorker) (n : Int) : GWorker := bif ilt w.Until n then { w with Until := n } else w
theorem OM (K : Nat) (w : GWorker) (n : Int) (h : Sml w) : F22 K w n = some (EP w n) := by
 rw [F22, Ga K w h, bS, EP]
 cases ilt w.Until n <;> rfl
theorem Gu (p : Int) : ∀ (r : List GMsg) (c : GMsg) (d w : List GMsg), CI p r c d = .inr w → i64 c.V → (∀ x ∈ r, i64 x.V) → (∀ x ∈ d, i64 x.V) → w.length ≤ d.length + r.length + 1 ∧ ∀ x ∈ w, i64 x.V
 | [], c, d, w, h, hc, _, hd => by
  injection h with h
  subst h
  refine ⟨by simp, fun x hx => ?_⟩
  rcases List.mem_append.1 hx with hx | hx
  · exact hd x hx
  · rw [List.mem_singleton.1 hx]; exact hc
 | x :: r, c, d, w, h, hc, hr, hd => by
  rw [CI] at h
  have hx := hr x List.mem_cons_self
  have hr' := fun y hy => hr y (List.mem_cons_of_mem _ hy)
  cases h1 : ieq c.To x.To
  · rw [h1, cF] at h
    have := Gu p r x (d ++ [c]) w h hx hr' (fun y hy => by
     rcases List.mem_append.1 hy with hy | hy
     · exact hd y hy
     · rw [List.mem_singleton.1 hy]; exact hc)
    rw [List.length_append] at this
    simp only [List.length_singleton] at this
    exact ⟨by simp only [List.length_cons]; omega, this.2⟩
  · rw [h1, cT] at h
    cases h2 : ieq (Aw p c.V x.V).2 0
    · rw [h2] at h; cases h
    · rw [h2, cT] at h
      have := Gu p r _ d w h (Gx hc hx) hr' hd
      exact ⟨by simp only [List.length_cons]; omega, this.2⟩
theorem GB {p : Int} {l : List GMsg} (hl : ∀ x ∈ l, i64 x.V) : (Ak p l).1.length ≤ l.length ∧ ∀ x ∈ (Ak p l).1, i64 x.V := by
 have hn : ∀ x ∈ ([] : List GMsg), i64 x.V := fun x hx => absurd hx List.not_mem_nil
 have hs : ∀ x ∈ Ap l, i64 x.V := fun x hx => hl x ((CJ l).mem_iff.1 hx)
 have hsl := DA l
 rw [Ak]
 cases An p
 · rw [cF]
   generalize Ap l = m at *
   cases m with
   | nil => exact ⟨Nat.zero_le _, hn⟩
   | cons x r =>
    rw [Fq]
    cases hq : CI p r x [] with
    | inl e => exact ⟨Nat.zero_le _, hn⟩
    | inr w =>
     have := Gu p r x [] w hq (hs x List.mem_cons_self) (fun y hy => hs y (List.mem_cons_of_mem _ hy)) hn
     simp only [List.length_cons, List.length_nil] at hsl this
     exact ⟨by show w.length ≤ _; omega, this.2⟩
 · exact ⟨Nat.zero_le _, hn⟩
theorem J3 {g : GGraph} {j : GJob} {x : GPart} {l : List GMsg} (h : ieq (AS g j x l).2 0 = true) : As g j (AS g j x l).1 = true ∧ ieq (Ah g j) 0 = true := by
 rw [AS] at h ⊢
 cases hc : ieq (Ah g j) 0
 · rw [hc, cF] at h
   have h' : ieq (Ah g j) 0 = true := h
   rw [hc] at h'; cases h'
 · rw [hc] at h
   cases hR : As g j x
   · rw [hR] at h; cases h
   · rw [hR] at h
     cases hI : ieq (nlen (len x.In)) 0
     · rw [hI] at h; cases h
     · rw [hI] at h
       cases hO : Cw g.N j.Parts x.P l
       · rw [hO] at h; cases h
       · rw [hO] at h
         simp only [cT, Fg] at h ⊢
         cases hB : ieq (Ak j.Prog l).2 0
         · rw [hB, cF] at h
           have h' : ieq (Ak j.Prog l).2 0 = true := h
           rw [hB] at h'; cases h'
         · obtain ⟨_, p1, p2, p3, p4, p5, p6, _⟩ := Dg hR
           obtain ⟨r1, r2⟩ := I3 (p := j.Prog) (l := l)
           have hin : BE g.N j.Parts x.P (-1) (Ak j.Prog l).1 = true := I8 r1 fun m hm => by
            obtain ⟨s, hs, e⟩ := r2 m hm
            have := List.all_eq_true.1 hO s hs
            simp only [Bool.and_eq_true, CB, Ae, Am] at this
            rw [← e]
            exact ⟨by omega, this.2.1, this.2.2⟩
           refine ⟨?_, trivial⟩
           rw [cT, As]
           simp only [hc, CB.2 p1, Ae.2 p2, CB.2 p3, CB.2 p4, Am.2 p5, Am.2 p6, hin, Bool.and_true]
theorem MN {g : GGraph} {j : GJob} {x : GPart} : ∀ (l : List Nat) (i : Nat) (a : List Int) (b : List Bool) (c : List GMsg) (e : Int), doA g j x l i a b c = .inl e → ieq e 0 = false := by
 intro l
 induction l with
 | nil => intro i a b c e h; cases h
 | cons v l ih =>
  intro i a b c e h
  rw [doA] at h
  cases hq : ieq (AC g j x i v).2.2.2 0
  · rw [hq] at h
    injection h with h
    rw [← h]; exact hq
  · rw [hq] at h; exact ih _ _ _ _ _ h
theorem Pj {j : GJob} {c : List GMsg} : ∀ (l : List Nat) (d : List (List GMsg)), (∃ e, ieq e 0 = false ∧ CQ j c l d = .inl e) ∨ (CQ j c l d = .inr (d ++ l.map fun (q : Nat) => (Ak j.Prog (toS j c (q : Int))).1) ∧ ∀ q ∈ l, ieq (Ak j.Prog (toS j c (q : Int))).2 0 = true) := by
 intro l
 induction l with
 | nil => intro d; exact .inr ⟨by rw [CQ, List.map_nil, List.append_nil], fun q hq => absurd hq List.not_mem_nil⟩
 | cons q l ih =>
  intro d
  rw [CQ]
  cases hq : ieq (Ak j.Prog (toS j c (q : Int))).2 0
  · exact .inl ⟨_, hq, rfl⟩
  · rcases ih (d ++ [(Ak j.Prog (toS j c (q : Int))).1]) with h | ⟨h, h'⟩
    · exact .inl h
    · refine .inr ⟨by rw [cT, h]; simp, fun y hy => ?_⟩
      rcases List.mem_cons.1 hy with rfl | hy
      · exact hq
      · exact h' y hy
theorem IQ (g : GGraph) (j : GJob) {x : GPart} (hn : AH x) : (∃ e, ieq e 0 = false ∧ doS g j x = (BV, [], e)) ∨
 (ieq (Ah g j) 0 = true ∧ As g j x = true ∧ ieq x.Step 40 = false ∧ ∃ w, doA g j x (Al g j x.P) 0 [] [] [] = .inr w ∧ keepP g (Al g j x.P).length w.1 w.2.1 w.2.2 ∧
  (∀ q < j.Parts.toNat, ieq (Ak j.Prog (toS j w.2.2 (q : Int))).2 0 = true) ∧
  doS g j x = (GPart.mk x.P (x.Step + 1) w.1 w.2.1 [], (List.range j.Parts.toNat).map (fun (q : Nat) => (Ak j.Prog (toS j w.2.2 (q : Int))).1), 0)) := by
 rw [doS]
 cases hc : ieq (Ah g j) 0
 · exact .inl ⟨_, hc, rfl⟩
 · cases hR : As g j x
   · exact .inl ⟨_, rfl, rfl⟩
   · cases h40 : ieq x.Step 40
     · cases hA : doA g j x (Al g j x.P) 0 [] [] [] with
       | inl e => exact .inl ⟨e, MN _ _ _ _ _ _ hA, rfl⟩
       | inr w =>
        have kw := Jn hn _ 0 [] [] [] (GP g) w hA
        rw [Nat.zero_add] at kw
        rcases Pj (j := j) (c := w.2.2) (List.range j.Parts.toNat) [] with ⟨e, h1, h2⟩ | ⟨h, h'⟩
        · refine .inl ⟨e, h1, ?_⟩
          simp only [cT, cF, doB, h2, doC]
        · refine .inr ⟨rfl, rfl, rfl, w, rfl, kw, fun q hq => h' q (List.mem_range.2 hq), ?_⟩
          simp only [cT, cF, doB, h, doC, List.nil_append]
     · exact .inl ⟨_, rfl, rfl⟩
theorem Nn {K : Nat} (hK : 3000 ≤ K) (g : GGraph) (j : GJob) {x : GPart} (hn : AH x) : I6 K (doS g j x).1 ∧ (doS g j x).2.1.length ≤ 6 ∧ ∀ l ∈ (doS g j x).2.1, l.length ≤ 2000 := by
 have hz : I6 K BV := by refine ⟨⟨?_, ?_⟩, ⟨?_, ?_⟩, ?_, ?_⟩ <;> simp [BV] <;> omega
 rcases IQ g j hn with ⟨e, _, h⟩ | ⟨hc, hR, _, w, _, kw, _, h⟩
 · rw [h]; exact ⟨hz, Nat.zero_le _, fun l hl => absurd hl List.not_mem_nil⟩
 · obtain ⟨hg, _, _, _, _, _, _, p7, p8⟩ := Ca hc
   obtain ⟨g1, g2, g3, _⟩ := B4 hg
   have hvl := EV g j g2 x.P
   have h1 := kw.la
   have h2 := kw.lb
   have h3 := kw.lc
   rw [h]
   refine ⟨⟨⟨by show w.1.length < _; omega, by show w.1.length < _; omega⟩, ⟨by show w.2.1.length < _; omega, by show w.2.1.length < _; omega⟩, by show 0 < 1000000; omega, by show 0 < K; omega⟩, ?_, fun l hl => ?_⟩
   · show ((List.range j.Parts.toNat).map _).length ≤ 6
     rw [List.length_map, List.length_range]; omega
   · obtain ⟨q, hq, rfl⟩ := List.mem_map.1 hl
     have := (GB (p := j.Prog) (l := toS j w.2.2 (q : Int)) fun m hm => kw.vc m (FM hm).1).1
     have := Gf j w.2.2 (q : Int)
     omega
def A0 (w : GWorker) (p : Int) (q : Nat) (l : List GMsg) : GMail := GMail.mk 4 w.T.Epoch 0 w.Goal (q : Int) p 0 0 [] [] [] BG l
def BM (p : Int) (w : GWorker) (q : Nat) (l : List GMsg) : GWorker :=
 bif ieq (toT w.T (q : Int)).1 w.Id then CC w (A0 w p q l) else { w with Out := w.Out ++ [GPost.mk (toT w.T (q : Int)).1 (toT w.T (q : Int)).2.1 (A0 w p q l)] }
def BC (p : Int) : Nat → List (List GMsg) → GWorker → GWorker
 | _, [], w => w
 | q, l :: r, w => BC p (q + 1) r (BM p w q l)
theorem OO (w : GWorker) (m : GMail) : (CC w m).Buf.length ≤ w.Buf.length + 1 ∧ (CC w m).Out = w.Out := by
 rw [CC]
 cases ile w.T.Epoch m.Epoch && ilt (Bq w.Buf m.Epoch m.Step m.Q m.P) 0
 · exact ⟨by show w.Buf.length ≤ _; omega, rfl⟩
 · exact ⟨by show (w.Buf ++ _).length ≤ _; simp, rfl⟩
theorem O7 (p : Int) (w : GWorker) (q : Nat) (l : List GMsg) : (BM p w q l).Buf.length ≤ w.Buf.length + 1 ∧ (BM p w q l).Out.length ≤ w.Out.length + 1 := by
 rw [BM]
 cases ieq (toT w.T (q : Int)).1 w.Id
 · exact ⟨by show w.Buf.length ≤ _; omega, by show (w.Out ++ _).length ≤ _; simp⟩
 · have := OO w (A0 w p q l)
   exact ⟨this.1, by show (CC w (A0 w p q l)).Out.length ≤ _; rw [this.2]; omega⟩
theorem PO {K : Nat} (hK : 1000000 ≤ K) (g : GGraph) (j : GJob) (h : GHeld) (r : GPart × List (List GMsg) × Int) (hr : r.2.1.length ≤ 100) (w : GWorker) (hb : w.Buf.length ≤ 800000) (ho : w.Out.length ≤ 800000) :
 Dr K g j h r K w.Id w.Goal w.Until w.T.Epoch w.T.Owners w.T.Ids w.T.Incs w.Held w.Buf w.Coming w.Out 0 = some (wt (BC h.X.P 0 r.2.1 w)) := by
 let step : Nat → List GMsg → GWorker → (GWorker → Option WT) → Option WT := fun i l w c =>
  (F60 K w.T (i : Int)).bind fun t => bif ieq t.1 w.Id then (D0 K w g j (A0 w h.X.P i l)).bind fun r => c r
   else bif apok (len w.Out) 1 264 then c { w with Out := appL w.Out [GPost.mk t.1 t.2.1 (A0 w h.X.P i l)] } else none
 have hs := Ct (l := r.2.1) (L := fun k (w : GWorker) i => Dr K g j h r k w.Id w.Goal w.Until w.T.Epoch w.T.Owners w.T.Ids w.T.Incs w.Held w.Buf w.Coming w.Out i) step (fun w => some (wt w)) (fun k s i _ => rfl) om K w 0 om om
 have go : ∀ (l : List (List GMsg)) (i : Nat) (w : GWorker), w.Buf.length + l.length ≤ 900000 → w.Out.length + l.length ≤ 900000 → goI step (fun w => some (wt w)) i l w = some (wt (BC h.X.P i l w)) := by
  intro l
  induction l with
  | nil => intro i w _ _; rfl
  | cons x l ih =>
   intro i w h1 h2
   rw [List.length_cons] at h1 h2
   have hl := O7 h.X.P w i x
   rw [goI, BC, ← ih (i + 1) (BM h.X.P w i x) om om]
   show (F60 K w.T (i : Int)).bind _ = _
   rw [Jy om, bS, BM]
   cases ieq (toT w.T (i : Int)).1 w.Id
   · rw [cF, cF, A4 (by show w.Out.length + 1 ≤ _; omega) om]; rfl
   · rw [cT, cT, Ju w g j _ om hK, bS]
 rw [List.drop_zero] at hs
 exact hs.trans (go r.2.1 0 w om om)
def B9 (g : GGraph) (j : GJob) (w : GWorker) (i : Nat) (h : GHeld) : List GDid × GWorker :=
 bif ieq (doS g j h.X).2.2 6 || ieq (doS g j h.X).2.2 1 then ([], w) else
 bif ieq (doS g j h.X).2.2 0 then
  ([GDid.mk (BC h.X.P 0 (doS g j h.X).2.1 { w with Held := w.Held.set i (GHeld.mk (doS g j h.X).1 true h.Given) }).T.Epoch (BC h.X.P 0 (doS g j h.X).2.1 { w with Held := w.Held.set i (GHeld.mk (doS g j h.X).1 true h.Given) }).Goal h.X.P],
   BC h.X.P 0 (doS g j h.X).2.1 { w with Held := w.Held.set i (GHeld.mk (doS g j h.X).1 true h.Given) })
 else ([], Gp { w with Held := w.Held.set i (GHeld.mk h.X true h.Given) } h.X.P)
theorem MD {K : Nat} (hK : 1000000 ≤ K) (g : GGraph) (j : GJob) (w : GWorker) (i : Nat) (h : GHeld) (hi : w.Held[i]? = some h) (hx : SmlP h.X) (hb : w.Buf.length ≤ 800000) (ho : w.Out.length ≤ 800000) : DI K w g j (i : Int) = some (B9 g j w i h) := by
 have hlt : i < w.Held.length := (List.getElem?_eq_some_iff.1 hi).1
 have e1 : inr (i : Int) (len w.Held) = true := decide_eq_true ⟨by omega, by show (i : Int) < (w.Held.length : Int); omega⟩
 have e2 : elAt w.Held (i : Int) = some h := by rw [BA]; exact hi
 have p1 : ∀ (y : GHeld), putAt w.Held (i : Int) y = w.Held.set i y := fun y => by show w.Held.set (Int.toNat _) _ = _; rw [Int.toNat_natCast]
 have f1 := (Nn (K := 3000) om g j hx.n).2.1
 rw [DI, e1, e2, cT, bS, OB om g j h.X hx.n hx.i hx.p, bS, B9]
 cases ieq (doS g j h.X).2.2 6
 · cases ieq (doS g j h.X).2.2 1
   · cases ieq (doS g j h.X).2.2 0
     · simp only [cF, Bool.or_false, p1]
       rw [Hl K _ _ (by show w.Out.length ≤ _; omega)]; rfl
     · simp only [cF, cT, Bool.or_false, p1]
       have e3 : inr (i : Int) (len (w.Held.set i (GHeld.mk h.X true h.Given))) = true := decide_eq_true ⟨by omega, by show (i : Int) < ((w.Held.set i _).length : Int); rw [List.length_set]; omega⟩
       have e4 : elAt (w.Held.set i (GHeld.mk h.X true h.Given)) (i : Int) = some (GHeld.mk h.X true h.Given) := by rw [BA, List.getElem?_set_self hlt]
       have e5 : putAt (w.Held.set i (GHeld.mk h.X true h.Given)) (i : Int) (GHeld.mk (doS g j h.X).1 true h.Given) = w.Held.set i (GHeld.mk (doS g j h.X).1 true h.Given) := by
        show (w.Held.set i _).set (Int.toNat _) _ = _; rw [Int.toNat_natCast, List.set_set]
       rw [e3, e4, cT, bS, e5]
       have hl := PO hK g j h (doS g j h.X) om { w with Held := w.Held.set i (GHeld.mk (doS g j h.X).1 true h.Given) } (by show w.Buf.length ≤ _; omega) (by show w.Out.length ≤ _; omega)
       have hl' : Dr K g j h (doS g j h.X) K w.Id w.Goal w.Until w.T.Epoch w.T.Owners w.T.Ids w.T.Incs (w.Held.set i (GHeld.mk (doS g j h.X).1 true h.Given)) w.Buf w.Coming w.Out 0 = _ := hl
       rw [hl']; rfl
   · rfl
 · rfl
def Gi : GData := GData.mk 0 0 0 0 []
def BL (b : List GData) (e s p : Int) : List Nat → Option (List (List GMsg))
 | [] => some []
 | q :: r => bif ilt (Bq b e s (q : Int) p) 0 then none else (BL b e s p r).map fun l => (b.getD (Bq b e s (q : Int) p).toNat Gi).Msgs :: l
def Ea (w : GWorker) (parts p : Int) (d : GData) : Bool := !(ieq d.Epoch w.T.Epoch && (ieq d.Step w.Goal && (ieq d.P p && (!(ilt d.Q 0) && !(ile parts d.Q)))))
def Fr (w : GWorker) (p : Int) (x : GPart) : GMail := GMail.mk 5 w.T.Epoch 0 w.Goal p 0 0 0 [] [] [] x []
def FO (g : GGraph) (j : GJob) (w : GWorker) (i : Nat) (h : GHeld) (ins : List (List GMsg)) : GWorker :=
 bif ieq (AS g j h.X ins.flatten).2 0 then Eh { w with Held := w.Held.set i (GHeld.mk (AS g j h.X ins.flatten).1 false false), Buf := w.Buf.filter (Ea w j.Parts h.X.P) } (Fr w h.X.P (AS g j h.X ins.flatten).1)
 else Gp { w with Buf := w.Buf.filter (Ea w j.Parts h.X.P) } h.X.P
def Dc (g : GGraph) (j : GJob) (w : GWorker) (i : Nat) (h : GHeld) : GWorker :=
 match BL w.Buf w.T.Epoch w.Goal h.X.P (List.range j.Parts.toNat) with | none => w | some ins => FO g j w i h ins
abbrev WT2 : Type := Int × Int × Int × Int × List Int × List Int × List Int × List GHeld × List GData × List GComing × List GPost × List (List GMsg)
abbrev wt2 (w : GWorker) (a : List (List GMsg)) : WT2 := (w.Id, (w.Goal, (w.Until, (w.T.Epoch, (w.T.Owners, (w.T.Ids, (w.T.Incs, (w.Held, (w.Buf, (w.Coming, (w.Out, a)))))))))))
theorem Kf {K : Nat} (hK : 1000000 ≤ K) (g : GGraph) (j : GJob) (w : GWorker) (i p : Int) (hb : w.Buf.length ≤ 900000) (hp : j.Parts ≤ 6) : ∃ r, Ed K i g.N g.Edges j.Prog j.Source j.Limit j.Parts p K w.Id w.Goal w.Until w.T.Epoch w.T.Owners w.T.Ids w.T.Incs w.Held w.Buf w.Coming w.Out [] 0 = some r ∧
 (match BL w.Buf w.T.Epoch w.Goal p (List.range j.Parts.toNat) with | none => ∃ a, r = .inl (wt2 w a) | some ins => r = .inr (wt2 w ins)) := by
 let step : Nat → GWorker × List (List GMsg) → (GWorker × List (List GMsg) → Option (WT2 ⊕ WT2)) → Option (WT2 ⊕ WT2) := fun q s c =>
  (Dm K s.1 s.1.T.Epoch s.1.Goal (q : Int) p).bind fun r => bif ilt r.1 0 then some (.inl (wt2 r.2 s.2)) else bif inr r.1 (len r.2.Buf) then (elAt r.2.Buf r.1).bind fun d => bif apok (len s.2) 1 24 then c (r.2, appL s.2 [d.Msgs]) else none else none
 have hs := Fa (N := j.Parts) (L := fun k (s : GWorker × List (List GMsg)) i' => Ed K i g.N g.Edges j.Prog j.Source j.Limit j.Parts p k s.1.Id s.1.Goal s.1.Until s.1.T.Epoch s.1.T.Owners s.1.T.Ids s.1.T.Incs s.1.Held s.1.Buf s.1.Coming s.1.Out s.2 i') step (fun s => some (.inr (wt2 s.1 s.2))) (fun k s i' _ => rfl) om (K := K) om (w, [])
 have go : ∀ (l : List Nat) (a : List (List GMsg)), a.length + l.length ≤ 100 → ∃ r, goL step (fun s => some (.inr (wt2 s.1 s.2))) l (w, a) = some r ∧ (match BL w.Buf w.T.Epoch w.Goal p l with | none => ∃ a, r = .inl (wt2 w a) | some ins => r = .inr (wt2 w (a ++ ins))) := by
  intro l
  induction l with
  | nil => intro a _; exact ⟨_, rfl, by rw [BL]; simp⟩
  | cons q l ih =>
   intro a ha
   rw [List.length_cons] at ha
   rw [goL, BL]
   have e0 : step q (w, a) (goL step (fun s => some (.inr (wt2 s.1 s.2))) l) = bif ilt (Bq w.Buf w.T.Epoch w.Goal (q : Int) p) 0 then some (.inl (wt2 w a)) else bif inr (Bq w.Buf w.T.Epoch w.Goal (q : Int) p) (len w.Buf) then (elAt w.Buf (Bq w.Buf w.T.Epoch w.Goal (q : Int) p)).bind fun d => bif apok (len a) 1 24 then goL step (fun s => some (.inr (wt2 s.1 s.2))) l (w, appL a [d.Msgs]) else none else none := by
    show (Dm K w w.T.Epoch w.Goal (q : Int) p).bind _ = _
    rw [Jc K w _ _ _ _ om om]; rfl
   rw [e0]
   cases hn : ilt (Bq w.Buf w.T.Epoch w.Goal (q : Int) p) 0
   · rw [cF, cF]
     rw [Ac] at hn
     obtain ⟨z, d, z1, z2, _⟩ := Fw (p := EN w.T.Epoch w.Goal (q : Int) p) (l := w.Buf) (by show ¬ Bq w.Buf w.T.Epoch w.Goal (q : Int) p < 0; omega)
     have z1' : Bq w.Buf w.T.Epoch w.Goal (q : Int) p = (z : Int) := z1
     have hz : z < w.Buf.length := (List.getElem?_eq_some_iff.1 z2).1
     have c1 : inr (z : Int) (len w.Buf) = true := decide_eq_true ⟨by omega, by show (z : Int) < (w.Buf.length : Int); omega⟩
     have c2 : elAt w.Buf (z : Int) = some d := by rw [BA]; exact z2
     have c3 : w.Buf.getD z Gi = d := by rw [List.getD_eq_getElem?_getD, z2]; rfl
     rw [z1', c1, c2, cT, bS, A4 (by show a.length + 1 ≤ _; omega) om, cT, appL, Int.toNat_natCast, c3]
     obtain ⟨r, r1, r2⟩ := ih (a ++ [d.Msgs]) (by simp; omega)
     refine ⟨r, r1, ?_⟩
     cases hi : BL w.Buf w.T.Epoch w.Goal p l with
     | none => rw [hi] at r2; exact r2
     | some ins =>
      rw [hi] at r2
      show r = .inr (wt2 w (a ++ d.Msgs :: ins))
      rw [r2]; simp
   · exact ⟨_, rfl, a, rfl⟩
 obtain ⟨r, r1, r2⟩ := go (List.range j.Parts.toNat) [] (by simp; omega)
 exact ⟨r, hs.trans r1, by
  cases hi : BL w.Buf w.T.Epoch w.Goal p (List.range j.Parts.toNat) with
  | none => rw [hi] at r2; exact r2
  | some ins => rw [hi] at r2; exact r2⟩
theorem GC {b : List GData} {e s p : Int} : ∀ {l : List Nat} {ins : List (List GMsg)}, BL b e s p l = some ins → ins.length = l.length ∧ ∀ x ∈ ins, ∃ d ∈ b, d.Msgs = x
 | [], ins, h => by rw [BL] at h; cases h; exact ⟨rfl, fun x hx => absurd hx List.not_mem_nil⟩
 | q :: l, ins, h => by
  rw [BL] at h
  cases hn : ilt (Bq b e s (q : Int) p) 0
  · rw [hn, cF] at h
    cases hi : BL b e s p l with
    | none => rw [hi] at h; cases h
    | some i2 =>
     rw [hi] at h
     cases h
     obtain ⟨a1, a2⟩ := GC hi
     rw [Ac] at hn
     obtain ⟨z, d, z1, z2, _⟩ := Fw (p := EN e s (q : Int) p) (l := b) (by show ¬ Bq b e s (q : Int) p < 0; omega)
     have z1' : Bq b e s (q : Int) p = (z : Int) := z1
     have c3 : b.getD z Gi = d := by rw [List.getD_eq_getElem?_getD, z2]; rfl
     refine ⟨by simp [a1], fun x hx => ?_⟩
     rw [z1', Int.toNat_natCast, c3] at hx
     rcases List.mem_cons.1 hx with rfl | hx
     · exact ⟨d, List.mem_of_getElem? z2, rfl⟩
     · exact a2 x hx
  · rw [hn] at h; cases h
theorem HD {α : Type} (c : Nat) : ∀ (l : List (List α)), (∀ x ∈ l, x.length ≤ c) → l.flatten.length ≤ c * l.length
 | [], _ => by simp
 | x :: l, h => by
  have h1 := h x List.mem_cons_self
  have h2 := HD c l fun y hy => h y (List.mem_cons_of_mem _ hy)
  rw [List.flatten_cons, List.length_append, List.length_cons, Nat.mul_succ]; omega
structure SmlD (d : GData) : Prop where
 l : d.Msgs.length ≤ 100
 n : ∀ m ∈ d.Msgs, i64 m.V
theorem Lp {K : Nat} (hK : 1000000 ≤ K) (g : GGraph) (j : GJob) (w : GWorker) (i : Nat) (h : GHeld) (hi : w.Held[i]? = some h) (hx : SmlP h.X) (hb : w.Buf.length ≤ 800000) (hd : ∀ d ∈ w.Buf, SmlD d) (ho : w.Out.length ≤ 800000) (hp : j.Parts ≤ 6) : DE K w g j (i : Int) = some (Dc g j w i h) := by
 have hlt : i < w.Held.length := (List.getElem?_eq_some_iff.1 hi).1
 have e1 : inr (i : Int) (len w.Held) = true := decide_eq_true ⟨by omega, by show (i : Int) < (w.Held.length : Int); omega⟩
 have e2 : elAt w.Held (i : Int) = some h := by rw [BA]; exact hi
 have p1 : ∀ (y : GHeld), putAt w.Held (i : Int) y = w.Held.set i y := fun y => by show w.Held.set (Int.toNat _) _ = _; rw [Int.toNat_natCast]
 obtain ⟨r, r1, r2⟩ := Kf hK g j w (i : Int) h.X.P om hp
 rw [DE, e1, e2, cT, bS, r1, bS, Dc]
 cases hn : BL w.Buf w.T.Epoch w.Goal h.X.P (List.range j.Parts.toNat) with
 | none => rw [hn] at r2; obtain ⟨a, rfl⟩ := r2; rfl
 | some ins =>
  rw [hn] at r2
  subst r2
  obtain ⟨n1, n2⟩ := GC hn
  rw [List.length_range] at n1
  have nf : ins.flatten.length ≤ 100 * ins.length := HD 100 ins fun x hx' => by obtain ⟨d, d1, rfl⟩ := n2 x hx'; exact (hd d d1).l
  let st : GData → List GData → (List GData → Option (List GData)) → Option (List GData) := fun x a c =>
   bif ieq x.Epoch w.T.Epoch then (bif ieq x.Step w.Goal then (bif ieq x.P h.X.P then (bif ilt x.Q 0 then (bif apok (len a) 1 56 then c (appL a [x]) else none) else bif ile j.Parts x.Q then (bif apok (len a) 1 56 then c (appL a [x]) else none) else c a)
    else bif apok (len a) 1 56 then c (appL a [x]) else none) else bif apok (len a) 1 56 then c (appL a [x]) else none) else bif apok (len a) 1 56 then c (appL a [x]) else none
  have s1 := Aq (l := w.Buf) (L := fun k a q => CL K w.Id w.Goal w.Until w.T.Epoch w.T.Owners w.T.Ids w.T.Incs w.Held w.Buf w.Coming w.Out (i : Int) g.N g.Edges j.Prog j.Source j.Limit j.Parts h.X.P ins k a q) st (fun a => some a) (fun k s i _ => rfl) om (K := K) om []
  have s2 := DH (step := st) (Ea w j.Parts h.X.P) (fun d => d) 56 om 1000000 om w.Buf [] (by simp; omega) (fun x _ a c => by
   show (bif ieq x.Epoch w.T.Epoch then (bif ieq x.Step w.Goal then (bif ieq x.P h.X.P then (bif ilt x.Q 0 then _ else _) else _) else _) else _) = _
   rw [Ea]
   cases ieq x.Epoch w.T.Epoch <;> cases ieq x.Step w.Goal <;> cases ieq x.P h.X.P <;> cases ilt x.Q 0 <;> cases ile j.Parts x.Q <;> rfl)
  have s3 : CL K w.Id w.Goal w.Until w.T.Epoch w.T.Owners w.T.Ids w.T.Incs w.Held w.Buf w.Coming w.Out (i : Int) g.N g.Edges j.Prog j.Source j.Limit j.Parts h.X.P ins K [] 0 = some (w.Buf.filter (Ea w j.Parts h.X.P)) := (s1.trans s2).trans (by simp)
  dsimp only [Sum.elim_inr, wt2]
  rw [s3, bS, e1, e2, cT, bS, NF om g j h.X ins hx.p hx.i hx.v hx.r om om om (fun m hm => by
   obtain ⟨x, x1, x2⟩ := List.mem_flatten.1 hm
   obtain ⟨d, d1, rfl⟩ := n2 x x1
   exact (hd d d1).n m x2), bS, FO]
  cases ieq (AS g j h.X ins.flatten).2 0
  · rw [cF, cF, Hl K _ _ (by show w.Out.length ≤ _; omega)]; rfl
  · rw [cT, cT, Fb K _ _ (by show w.Out.length ≤ _; omega), bS, p1]; rfl
theorem JP {g : GGraph} {j : GJob} {x : GPart} (h : As g j x = true) (hn : AH x) : SmlP x := by
 obtain ⟨hc, p0, pj, _, _, hv, hr, hin⟩ := Dg h
 obtain ⟨hg, _, _, _, _, _, _, _, j6⟩ := Ca hc
 obtain ⟨g1, g2, _, _⟩ := B4 hg
 have hl := EV g j g2 x.P
 obtain ⟨i1, i2⟩ := FC hin
 have h3 := En (fun m : GMsg => m.To) g.N x.In (-1) i1 fun m hm => by have := i2 m hm; omega
 have hcv : AJ g j x.P = ((Al g j x.P).length : Int) := rfl
 exact ⟨by omega, by omega, by omega, by unfold i64; omega, hn⟩
structure WI (g : GGraph) (j : GJob) (id : Int) (n : Nat) (w : GWorker) : Prop where
 id : w.Id = id
 goal : -1 ≤ w.Goal ∧ w.Goal ≤ 1099511627776
 tab : BR w.T = true
 ok : HOk w.Held
 mine : ∀ h ∈ w.Held, h.X.P < (w.T.Owners.length : Int) ∧ w.T.Owners.getD h.X.P.toNat 0 = w.Id ∧ As g j h.X = true ∧ AH h.X
 bl : w.Buf.length ≤ n
 bd : ∀ d ∈ w.Buf, SmlD d
 cl : w.Coming.length ≤ n
 cd : ∀ c ∈ w.Coming, SmlP c.X
 ol : w.Out.length ≤ n
 od : ∀ p ∈ w.Out, FitM 100 p.M
section
variable {g : GGraph} {j : GJob} {id : Int} {n : Nat} {w : GWorker}
theorem WI.sml (h : WI g j id n w) (hn : n ≤ 400000) : Sml w := ⟨by have := h.ok.len; omega, by have := h.bl; omega, by have := h.cl; omega, by have := h.ol; omega⟩
theorem WI.hx (h : WI g j id n w) : ∀ y ∈ w.Held, SmlP y.X := fun y hy => JP (h.mine y hy).2.2.1 (h.mine y hy).2.2.2
theorem WI.up (h : WI g j id n w) {m : Nat} (hm : n ≤ m) : WI g j id m w := { h with bl := Nat.le_trans h.bl hm, cl := Nat.le_trans h.cl hm, ol := Nat.le_trans h.ol hm }
theorem WI.own (h : WI g j id n w) : Aj w.T = w.T := by rw [Aj, h.tab]; rfl
theorem LQ (g : GGraph) (j : GJob) (id : Int) : WI g j id 0 (GWorker.mk id (-1) 0 noT [] [] [] []) :=
 ⟨rfl, ⟨by show (-1 : Int) ≤ -1; omega, by show (-1 : Int) ≤ _; omega⟩, Jq, HOk.nil, fun h hh => absurd hh List.not_mem_nil, Nat.le_refl _, fun h hh => absurd hh List.not_mem_nil, Nat.le_refl _, fun h hh => absurd hh List.not_mem_nil, Nat.le_refl _, fun h hh => absurd hh List.not_mem_nil⟩
theorem WI.post (h : WI g j id n w) {m : GMail} (hm : FitM 100 m) : WI g j id (n + 1) (Eh w m) :=
 { id := h.id, goal := h.goal, tab := h.tab, ok := h.ok, mine := h.mine, bl := Nat.le_succ_of_le h.bl, bd := h.bd, cl := Nat.le_succ_of_le h.cl, cd := h.cd
   ol := by show (w.Out ++ _).length ≤ _; rw [List.length_append, List.length_singleton]; have := h.ol; omega
   od := fun p hp => by
    rcases List.mem_append.1 hp with hp | hp
    · exact h.od p hp
    · rw [List.mem_singleton.1 hp]; exact hm }
theorem WI.hold (h : WI g j id n w) {x : GPart} (hm : BK g j w x = true) (hn : AH x) : WI g j id n { w with Held := CW w.Held x } := by
 obtain ⟨m1, m2, m3, m4, m5⟩ := JE hm
 rw [h.own] at m2 m3
 exact { h with
  ok := h.ok.ins hm
  mine := fun y hy => by
   rcases Ii.1 hy with hy | rfl
   · exact h.mine y hy
   · exact ⟨m2, m3, m4, hn⟩ }
theorem WI.since (h : WI g j id n w) (e : Int) : WI g j id n (Em w e) :=
 { id := h.id, goal := h.goal, tab := h.tab, ok := h.ok, mine := h.mine, bl := Nat.le_trans (ET _ _) h.bl, bd := fun d hd => h.bd d (List.mem_filter.1 hd).1
   cl := Nat.le_trans (ET _ _) h.cl, cd := fun d hd => h.cd d (List.mem_filter.1 hd).1, ol := h.ol, od := h.od }
theorem WI.turn (h : WI g j id n w) {t : GTable} (ht : BR t = true) (out : List GPost) (ho : out = [] ∨ out = w.Out) : WI g j id n { w with T := t, Goal := -1, Held := [], Out := out } :=
 { id := h.id, goal := ⟨by show (-1 : Int) ≤ -1; omega, by show (-1 : Int) ≤ _; omega⟩, tab := ht, ok := HOk.nil, mine := fun y hy => absurd hy List.not_mem_nil, bl := h.bl, bd := h.bd, cl := h.cl, cd := h.cd
   ol := by rcases ho with rfl | rfl; exact Nat.zero_le _; exact h.ol
   od := by rcases ho with rfl | rfl; exact fun p hp => absurd hp List.not_mem_nil; exact h.od }
theorem HOk.set {l : List GHeld} (h : HOk l) {i : Nat} {y y' : GHeld} (hi : l[i]? = some y) (hp : y'.X.P = y.X.P) : HOk (l.set i y') := by
 have hlt := (List.getElem?_eq_some_iff.1 hi).1
 have he : l[i] = y := (List.getElem?_eq_some_iff.1 hi).2
 constructor
 · rw [List.pairwise_iff_getElem]
   intro a b ha hb hab
   rw [List.length_set] at ha hb
   have := (List.pairwise_iff_getElem.1 h.s) a b ha hb hab
   rw [List.getElem_set, List.getElem_set]
   split
   · subst_vars
     rw [if_neg om, hp]; exact this
   · split
     · subst_vars
       rw [hp]; exact this
     · exact this
 · intro z hz
   rcases List.mem_or_eq_of_mem_set hz with hz | rfl
   · exact h.r z hz
   · rw [hp]; exact h.r y (List.mem_of_getElem? hi)
theorem WI.set (h : WI g j id n w) {i : Nat} {y y' : GHeld} (hi : w.Held[i]? = some y) (hp : y'.X.P = y.X.P) (hr : As g j y'.X = true) (hn : AH y'.X) : WI g j id n { w with Held := w.Held.set i y' } := by
 have hy := h.mine y (List.mem_of_getElem? hi)
 exact { h with
  ok := h.ok.set hi hp
  mine := fun z hz => by
   rcases List.mem_or_eq_of_mem_set hz with hz | rfl
   · exact h.mine z hz
   · exact ⟨by rw [hp]; exact hy.1, by rw [hp]; exact hy.2.1, hr, hn⟩ }
theorem WI.data (h : WI g j id n w) {m : GMail} (hm : m.Msgs.length ≤ 100) (hv : ∀ y ∈ m.Msgs, i64 y.V) : WI g j id (n + 1) (CC w m) := by
 rw [CC]
 cases ile w.T.Epoch m.Epoch && ilt (Bq w.Buf m.Epoch m.Step m.Q m.P) 0
 · exact h.up (Nat.le_succ n)
 · exact { id := h.id, goal := h.goal, tab := h.tab, ok := h.ok, mine := h.mine
           bl := by show (w.Buf ++ _).length ≤ _; rw [List.length_append, List.length_singleton]; have := h.bl; omega
           bd := fun d hd => by
            rcases List.mem_append.1 hd with hd | hd
            · exact h.bd d hd
            · rw [List.mem_singleton.1 hd]; exact ⟨hm, hv⟩
           cl := Nat.le_succ_of_le h.cl, cd := h.cd, ol := Nat.le_succ_of_le h.ol, od := h.od }
structure MI (m : GMail) : Prop where
 f : FitM 100 m
 p : i64 m.X.P
 x : AH m.X
 s : ∀ y ∈ m.Msgs, i64 y.V
theorem MI.sml {m : GMail} (h : MI m) (hr : CA m = true) : SmlP m.X := by
 have := h.f
 exact ⟨this.v, this.r, by have := this.x; omega, h.p, h.x⟩
theorem FitM.up {c d : Nat} {m : GMail} (h : FitM c m) (hc : c ≤ d) : FitM d m := ⟨Nat.le_trans h.o hc, Nat.le_trans h.i hc, Nat.le_trans h.n hc, Nat.le_trans h.v hc, Nat.le_trans h.r hc, Nat.le_trans h.x hc, Nat.le_trans h.s hc⟩
theorem Hy {j : GJob} {e : Int} {m : GMail} (h : (AP j e m).2 = true) : BR (AP j e m).1 = true ∧ (AP j e m).1.Epoch = e := by
 rw [AP, Bool.and_eq_true] at h
 exact ⟨h.1, rfl⟩
theorem IH (h : WI g j id n w) {m : GMail} (hm : MI m) : WI g j id (n + 1) (Eu g j w m) := by
 rw [Eu]
 cases hq : BK g j w m.X
 · exact h.up (Nat.le_succ n)
 · exact (h.hold hq hm.x).post ⟨by simp [Dw], by simp [Dw], by simp [Dw], by simp [Dw, BG], by simp [Dw, BG], by simp [Dw, BG], by simp [Dw]⟩
theorem Kl (h : WI g j id n w) {m : GMail} (hm : MI m) : WI g j id (n + 1) (Fo g j w m) := by
 rw [Fo]
 cases ht : (AP j m.Epoch m).2
 · exact h.up (Nat.le_succ n)
 · cases ilt m.Epoch w.T.Epoch
   · cases ilt w.T.Epoch m.Epoch
     · exact IH h hm
     · exact IH ((h.turn (Hy ht).1 [] (.inl rfl)).since m.Epoch) hm
   · exact h.up (Nat.le_succ n)
theorem MQ {m : GMail} (hr : CA m = true) : 0 ≤ m.Step ∧ m.Step ≤ 1099511627776 := by
 simp only [CA, Bool.and_eq_true] at hr
 exact (Pn hr.2.2.1).1 m.Step (by simp)
theorem ON (h : WI g j id n w) {m : GMail} (hr : CA m = true) : WI g j id n (EQ w m) := by
 have := MQ hr
 rw [EQ]
 cases ieq m.Epoch w.T.Epoch
 · exact h
 · exact { h with goal := ⟨by show -1 ≤ m.Step; omega, this.2⟩ }
theorem Na (h : WI g j id n w) {m : GMail} (hm : MI m) : WI g j id (n + 1) (E1 w m) := by
 rw [E1]
 cases ieq m.Epoch w.T.Epoch && !(ilt (Cz w.Held m.P) 0)
 · exact h.up (Nat.le_succ n)
 · rw [cT]
   cases hq : w.Held[(Cz w.Held m.P).toNat]? with
   | none => exact h.up (Nat.le_succ n)
   | some y =>
    dsimp only
    rw [F6]
    cases y.Wait || (y.Given || ilt (Cb m.Ids m.To) 0)
    · have hy := h.mine y (List.mem_of_getElem? hq)
      have hs := h.hx y (List.mem_of_getElem? hq)
      have h1 := h.set (y' := GHeld.mk y.X y.Wait true) hq rfl hy.2.2.1 hy.2.2.2
      have hin : y.X.In.length ≤ 100 := by
       obtain ⟨hc, _, _, _, _, _, _, hin⟩ := Dg hy.2.2.1
       obtain ⟨hg, _⟩ := Ca hc
       obtain ⟨_, g2, _, _⟩ := B4 hg
       obtain ⟨i1, i2⟩ := FC hin
       have h3 := En (fun m : GMsg => m.To) g.N y.X.In (-1) i1 fun m hm => by have := i2 m hm; omega
       omega
      exact { id := h1.id, goal := h1.goal, tab := h1.tab, ok := h1.ok, mine := h1.mine, bl := Nat.le_succ_of_le h1.bl, bd := h1.bd, cl := Nat.le_succ_of_le h1.cl, cd := h1.cd
              ol := by show (w.Out ++ _).length ≤ _; rw [List.length_append, List.length_singleton]; have := h.ol; omega
              od := fun p hp => by
               rcases List.mem_append.1 hp with hp | hp
               · exact h.od p hp
               · rw [List.mem_singleton.1 hp]; exact ⟨by simp [DP], by simp [DP], by simp [DP], hs.v, hs.r, hin, by simp [DP]⟩ }
    · exact h.up (Nat.le_succ n)
theorem Ov (h : WI g j id n w) {m : GMail} (hm : MI m) (hr : CA m = true) : WI g j id (n + 1) (E9 w m) := by
 rw [E9]
 cases ilt m.Epoch w.T.Epoch || w.Coming.any (isC m.Epoch m.X.P)
 · exact { id := h.id, goal := h.goal, tab := h.tab, ok := h.ok, mine := h.mine, bl := Nat.le_succ_of_le h.bl, bd := h.bd
           cl := by show (w.Coming ++ _).length ≤ _; rw [List.length_append, List.length_singleton]; have := h.cl; omega
           cd := fun c hc => by
            rcases List.mem_append.1 hc with hc | hc
            · exact h.cd c hc
            · rw [List.mem_singleton.1 hc]; exact hm.sml hr
           ol := by show (w.Out ++ _).length ≤ _; rw [List.length_append, List.length_singleton]; have := h.ol; omega
           od := fun p hp => by
            rcases List.mem_append.1 hp with hp | hp
            · exact h.od p hp
            · rw [List.mem_singleton.1 hp]; exact ⟨by simp [Dh], by simp [Dh], by simp [Dh], by simp [Dh, BG], by simp [Dh, BG], by simp [Dh, BG], by simp [Dh]⟩ }
 · exact h.up (Nat.le_succ n)
theorem NN (h : WI g j id n w) {x : GPart} (hx : AH x) : WI g j id n (BF g j w x) := by
 rw [BF]
 cases hq : BK g j w x
 · exact h
 · exact h.hold hq hx
theorem Jt : ∀ (l : List GPart) {w : GWorker}, WI g j id n w → (∀ x ∈ l, AH x) → WI g j id n (l.foldl (BF g j) w)
 | [], w, h, _ => h
 | x :: l, w, h, hx => by
  rw [List.foldl_cons]
  exact Jt l (NN h (hx x List.mem_cons_self)) fun y hy => hx y (List.mem_cons_of_mem _ hy)
theorem Mx (h : WI g j id n w) (m : GMail) : ∀ x ∈ Cc w m ++ De w m, AH x := fun x hx => by
 rcases List.mem_append.1 hx with hx | hx
 · obtain ⟨y, hy, rfl⟩ := List.mem_map.1 hx
   exact (h.mine y (List.mem_filter.1 hy).1).2.2.2
 · obtain ⟨c, hc, rfl⟩ := List.mem_map.1 hx
   exact (h.cd c (List.mem_filter.1 hc).1).n
theorem LJ (h : WI g j id n w) (m : GMail) : WI g j id n (E2 g j w m) := by
 rw [E2]
 cases ht : (AP j m.Fresh m).2
 · exact h
 · cases ile m.Fresh w.T.Epoch
   · exact (Jt _ (h.turn (Hy ht).1 w.Out (.inr rfl)) (Mx h m)).since m.Fresh
   · exact h
theorem N8 (h : WI g j id n w) {m : GMail} (hm : MI m) : WI g j id (n + 1) (E6 g j w m) := by
 rw [E6]
 cases ieq (Ah g j) 0
 · exact h.up (Nat.le_succ n)
 · cases hr : CA m
   · exact h.up (Nat.le_succ n)
   · simp only [Bool.and_true, cT]
     rw [Gm]
     cases ieq m.Kind 1
     · cases ieq m.Kind 3
       · cases ieq m.Kind 4
         · cases ieq m.Kind 6
           · cases ieq m.Kind 7
             · cases ieq m.Kind 9
               · exact h.up (Nat.le_succ n)
               · exact (LJ h m).up (Nat.le_succ n)
             · exact Ov h hm hr
           · exact Na h hm
         · exact h.data hm.f.s hm.s
       · exact (ON h hr).up (Nat.le_succ n)
     · exact Kl h hm
theorem Km (h : WI g j id n w) (k : Int) : WI g j id n (EP w k) := by
 rw [EP]
 cases ilt w.Until k
 · exact h
 · exact { h with }
theorem Pc (g : GGraph) (j : GJob) {x : GPart} (hn : AH x) (h : ieq (doS g j x).2.2 0 = true) : As g j (doS g j x).1 = true ∧ AH (doS g j x).1 ∧ (doS g j x).1.P = x.P ∧ (doS g j x).2.1.length ≤ 6 ∧ ∀ l ∈ (doS g j x).2.1, l.length ≤ 100 ∧ ∀ m ∈ l, i64 m.V := by
 rcases IQ g j hn with ⟨e, he, hq⟩ | ⟨hc, hR, h40, w, _, kw, _, hq⟩
 · rw [hq] at h; rw [h] at he; cases he
 · obtain ⟨_, p0, pj, s0, s40, hv, hr, _⟩ := Dg hR
   obtain ⟨hg, _, _, _, _, _, _, _, j6⟩ := Ca hc
   obtain ⟨g1, g2, _, _⟩ := B4 hg
   have hcv : AJ g j x.P = ((Al g j x.P).length : Int) := rfl
   rw [Ao] at h40
   rw [hq]
   refine ⟨?_, ⟨kw.va, fun m hm => absurd hm List.not_mem_nil⟩, rfl, ?_, fun l hl => ?_⟩
   · simp only [As, Bool.and_eq_true, CB, Ae, Am]
     have := kw.la
     have := kw.lb
     exact ⟨Am.1 hc, p0, pj, by omega, by omega, by omega, by omega, rfl⟩
   · show ((List.range j.Parts.toNat).map _).length ≤ 6
     rw [List.length_map, List.length_range]; omega
   · obtain ⟨q, hq, rfl⟩ := List.mem_map.1 hl
     obtain ⟨r1, r2⟩ := I3 (p := j.Prog) (l := toS j w.2.2 (q : Int))
     have h3 := En (fun m : GMsg => m.To) g.N _ 0 r1 fun m hm => by
      obtain ⟨s, hs, he⟩ := r2 m hm
      have := kw.vt s (FM hs).1
      omega
     exact ⟨by omega, (GB fun m hm => kw.vc m (FM hm).1).2⟩
theorem HN (p : Int) : ∀ (l : List (List GMsg)) (q n : Nat) {w : GWorker}, WI g j id n w → (∀ x ∈ l, x.length ≤ 100 ∧ ∀ m ∈ x, i64 m.V) → WI g j id (n + l.length) (BC p q l w)
 | [], q, n, w, h, _ => h
 | x :: l, q, n, w, h, hx => by
  rw [BC, List.length_cons, show n + (l.length + 1) = (n + 1) + l.length by omega]
  obtain ⟨x1, x2⟩ := hx x List.mem_cons_self
  refine HN p l (q + 1) (n + 1) ?_ fun y hy => hx y (List.mem_cons_of_mem _ hy)
  rw [BM]
  cases ieq (toT w.T (q : Int)).1 w.Id
  · exact { id := h.id, goal := h.goal, tab := h.tab, ok := h.ok, mine := h.mine, bl := Nat.le_succ_of_le h.bl, bd := h.bd, cl := Nat.le_succ_of_le h.cl, cd := h.cd
            ol := by show (w.Out ++ _).length ≤ _; rw [List.length_append, List.length_singleton]; have := h.ol; omega
            od := fun p hp => by
             rcases List.mem_append.1 hp with hp | hp
             · exact h.od p hp
             · rw [List.mem_singleton.1 hp]; exact ⟨by simp [A0], by simp [A0], by simp [A0], by simp [A0, BG], by simp [A0, BG], by simp [A0, BG], x1⟩ }
  · exact h.data x1 x2
theorem It (w : GWorker) (p : Int) : FitM 100 (C4 w p) := ⟨by simp [C4], by simp [C4], by simp [C4], by simp [C4, BG], by simp [C4, BG], by simp [C4, BG], by simp [C4]⟩
theorem Pv (h : WI g j id n w) {i : Nat} {y : GHeld} (hi : w.Held[i]? = some y) : WI g j id (n + 6) (B9 g j w i y).2 := by
 have hy := h.mine y (List.mem_of_getElem? hi)
 rw [B9]
 cases ieq (doS g j y.X).2.2 6 || ieq (doS g j y.X).2.2 1
 · cases h0 : ieq (doS g j y.X).2.2 0
   · exact ((h.set (y' := GHeld.mk y.X true y.Given) hi rfl hy.2.2.1 hy.2.2.2).post (It _ _)).up om
   · obtain ⟨d1, d2, d3, d4, d5⟩ := Pc g j hy.2.2.2 h0
     exact (HN y.X.P _ 0 n (h.set (y' := GHeld.mk (doS g j y.X).1 true y.Given) hi d3 d1 d2) d5).up om
 · exact h.up om
theorem O8 {x : GPart} (hx : AH x) {l : List GMsg} (hl : ∀ m ∈ l, i64 m.V) : AH (AS g j x l).1 := by
 have hz : AH BV := ⟨fun v hv => absurd hv List.not_mem_nil, fun m hm => absurd hm List.not_mem_nil⟩
 rw [AS]
 cases ieq (Ah g j) 0
 · exact hz
 · cases As g j x
   · exact hz
   · cases ieq (nlen (len x.In)) 0
     · exact hz
     · cases Cw g.N j.Parts x.P l
       · exact hz
       · simp only [cT]
         rw [Fg]
         cases ieq (Ak j.Prog l).2 0
         · exact hz
         · exact ⟨hx.1, (GB hl).2⟩
theorem MW {x : GPart} {l : List GMsg} (h : ieq (AS g j x l).2 0 = true) : (AS g j x l).1.P = x.P := by
 have key : ∀ (a : GPart) (e : Int), ieq e 0 = true → ieq e 0 = true := fun _ _ h => h
 rw [AS] at h ⊢
 cases hc : ieq (Ah g j) 0
 · rw [hc] at h
   simp only [cF] at h
   rw [hc] at h; cases h
 · rw [hc] at h
   cases hp : As g j x
   · rw [hp] at h; cases h
   · rw [hp] at h
     cases hi : ieq (nlen (len x.In)) 0
     · rw [hi] at h; cases h
     · rw [hi] at h
       cases ht : Cw g.N j.Parts x.P l
       · rw [ht] at h; cases h
       · rw [ht] at h
         simp only [cT] at h ⊢
         rw [Fg] at h ⊢
         cases hb : ieq (Ak j.Prog l).2 0
         · rw [hb] at h
           simp only [cF] at h
           rw [hb] at h; cases h
         · rfl
theorem LE (h : WI g j id n w) {i : Nat} {y : GHeld} (hi : w.Held[i]? = some y) : WI g j id (n + 1) (Dc g j w i y) := by
 have hy := h.mine y (List.mem_of_getElem? hi)
 rw [Dc]
 cases hq : BL w.Buf w.T.Epoch w.Goal y.X.P (List.range j.Parts.toNat) with
 | none => exact h.up (Nat.le_succ n)
 | some ins =>
  dsimp only
  have hins : ∀ m ∈ ins.flatten, i64 m.V := fun m hm => by
   obtain ⟨x, x1, x2⟩ := List.mem_flatten.1 hm
   obtain ⟨d, d1, rfl⟩ := (GC hq).2 x x1
   exact (h.bd d d1).n m x2
  have hb : ∀ {w' : GWorker}, WI g j id n w' → w'.Buf = w.Buf → WI g j id n { w' with Buf := w.Buf.filter (Ea w j.Parts y.X.P) } := fun h' e =>
   { h' with bl := Nat.le_trans (ET _ _) h.bl, bd := fun d hd => h.bd d (List.mem_filter.1 hd).1 }
  rw [FO]
  cases h0 : ieq (AS g j y.X ins.flatten).2 0
  · exact (hb h rfl).post (It _ _)
  · have r1 := (J3 h0).1
    have r2 := O8 (g := g) (j := j) hy.2.2.2 hins
    have r3 := JP r1 r2
    have hin : (AS g j y.X ins.flatten).1.In.length ≤ 100 := by
     obtain ⟨hc, _, _, _, _, _, _, hin⟩ := Dg r1
     obtain ⟨hg, _⟩ := Ca hc
     obtain ⟨_, g2, _, _⟩ := B4 hg
     obtain ⟨i1, i2⟩ := FC hin
     have h3 := En (fun m : GMsg => m.To) g.N _ (-1) i1 fun m hm => by have := i2 m hm; omega
     omega
    exact (hb (h.set (y' := GHeld.mk (AS g j y.X ins.flatten).1 false false) hi (MW h0) r1 r2) rfl).post ⟨by simp [Fr], by simp [Fr], by simp [Fr], r3.v, r3.r, hin, by simp [Fr]⟩
end
theorem GO {α σ β : Type} {step : α → σ → (σ → Option β) → Option β} {fin : σ → Option β} (P : Nat → σ → Prop) (f : σ → α → σ) : ∀ (l : List α) (s : σ), P l.length s → (∀ x ∈ l, ∀ n s, P (n + 1) s → P n (f s x) ∧ ∀ c, step x s c = c (f s x)) →
 goL step fin l s = fin (l.foldl f s) ∧ P 0 (l.foldl f s)
 | [], s, hs, _ => ⟨rfl, hs⟩
 | x :: l, s, hs, h => by
  obtain ⟨h1, h2⟩ := h x List.mem_cons_self l.length s hs
  rw [goL, h2, List.foldl_cons]
  exact GO P f l (f s x) h1 fun y hy => h y (List.mem_cons_of_mem _ hy)
def GI (g : GGraph) (j : GJob) (s : GWorker × List GDid) (i : Nat) : GWorker × List GDid := match s.1.Held[i]? with
 | some h => bif h.Wait || (h.Given || !(ieq h.X.Step s.1.Goal)) then s else ((B9 g j s.1 i h).2, s.2 ++ (B9 g j s.1 i h).1)
 | none => s
def Ar (g : GGraph) (j : GJob) (w : GWorker) : GWorker × List GDid := (List.range w.Held.length).foldl (GI g j) (w, [])
def GD (g : GGraph) (j : GJob) (w : GWorker) (i : Nat) : GWorker := match w.Held[i]? with
 | some h => bif h.Wait && ieq h.X.Step (w.Goal + 1) then Dc g j w i h else w
 | none => w
def Ff (g : GGraph) (j : GJob) (w : GWorker) : GWorker := (List.range w.Held.length).foldl (GD g j) w
section
variable {g : GGraph} {j : GJob} {id : Int} {n : Nat} {w : GWorker}
theorem H4 (p : Int) : ∀ (l : List (List GMsg)) (q : Nat) (w : GWorker), (BC p q l w).Held = w.Held ∧ (BC p q l w).T = w.T ∧ (BC p q l w).Goal = w.Goal ∧ (BC p q l w).Id = w.Id ∧ (BC p q l w).Until = w.Until ∧ (BC p q l w).Coming = w.Coming
 | [], _, _ => ⟨rfl, rfl, rfl, rfl, rfl, rfl⟩
 | x :: l, q, w => by
  obtain ⟨a, b, c, d, e, f⟩ := H4 p l (q + 1) (BM p w q x)
  have h : (BM p w q x).Held = w.Held ∧ (BM p w q x).T = w.T ∧ (BM p w q x).Goal = w.Goal ∧ (BM p w q x).Id = w.Id ∧ (BM p w q x).Until = w.Until ∧ (BM p w q x).Coming = w.Coming := by
   rw [BM]
   cases ieq (toT w.T (q : Int)).1 w.Id
   · exact ⟨rfl, rfl, rfl, rfl, rfl, rfl⟩
   · rw [cT, CC]
     cases ile w.T.Epoch (A0 w p q x).Epoch && ilt (Bq w.Buf (A0 w p q x).Epoch (A0 w p q x).Step (A0 w p q x).Q (A0 w p q x).P) 0 <;> exact ⟨rfl, rfl, rfl, rfl, rfl, rfl⟩
  rw [BC]
  exact ⟨a.trans h.1, b.trans h.2.1, c.trans h.2.2.1, d.trans h.2.2.2.1, e.trans h.2.2.2.2.1, f.trans h.2.2.2.2.2⟩
theorem Lw (g : GGraph) (j : GJob) (w : GWorker) (i : Nat) (h : GHeld) : (B9 g j w i h).2.Held.length = w.Held.length ∧ (B9 g j w i h).2.T = w.T ∧ (B9 g j w i h).2.Goal = w.Goal ∧ (B9 g j w i h).1.length ≤ 1 := by
 rw [B9]
 cases ieq (doS g j h.X).2.2 6 || ieq (doS g j h.X).2.2 1
 · cases ieq (doS g j h.X).2.2 0
   · exact ⟨List.length_set, rfl, rfl, Nat.zero_le _⟩
   · obtain ⟨a, b, c, _⟩ := H4 h.X.P (doS g j h.X).2.1 0 { w with Held := w.Held.set i (GHeld.mk (doS g j h.X).1 true h.Given) }
     exact ⟨(congrArg List.length a).trans List.length_set, b, c, Nat.le_refl _⟩
 · exact ⟨rfl, rfl, rfl, Nat.zero_le _⟩
theorem KU (g : GGraph) (j : GJob) (w : GWorker) (i : Nat) (h : GHeld) : (Dc g j w i h).Held.length = w.Held.length ∧ (Dc g j w i h).T = w.T ∧ (Dc g j w i h).Goal = w.Goal := by
 rw [Dc]
 cases BL w.Buf w.T.Epoch w.Goal h.X.P (List.range j.Parts.toNat) with
 | none => exact ⟨rfl, rfl, rfl⟩
 | some ins =>
  dsimp only
  rw [FO]
  cases ieq (AS g j h.X ins.flatten).2 0
  · exact ⟨rfl, rfl, rfl⟩
  · exact ⟨List.length_set, rfl, rfl⟩
abbrev WT3 : Type := Int × Int × Int × Int × List Int × List Int × List Int × List GHeld × List GData × List GComing × List GPost × List GDid
abbrev wt3 (w : GWorker) (a : List GDid) : WT3 := (w.Id, (w.Goal, (w.Until, (w.T.Epoch, (w.T.Owners, (w.T.Ids, (w.T.Incs, (w.Held, (w.Buf, (w.Coming, (w.Out, a)))))))))))
theorem Hu {K : Nat} (hK : 1000000 ≤ K) (h : WI g j id n w) (hn : n ≤ 300000) :
 C0 K g j w K w.Id w.Goal w.Until w.T.Epoch w.T.Owners w.T.Ids w.T.Incs w.Held w.Buf w.Coming w.Out [] 0 = some (wt3 (Ar g j w).1 (Ar g j w).2) ∧ WI g j id (n + 36) (Ar g j w).1 ∧ (Ar g j w).1.Held.length = w.Held.length ∧ (Ar g j w).1.T = w.T ∧ (Ar g j w).1.Goal = w.Goal := by
 have hl := h.ok.len
 let step : Nat → GWorker × List GDid → (GWorker × List GDid → Option WT3) → Option WT3 := fun i s c =>
  bif inr (i : Int) (len s.1.Held) then (elAt s.1.Held (i : Int)).bind fun x => bif x.Wait then c s else bif x.Given then c s else bif ieq x.X.Step s.1.Goal then (DI K s.1 g j (i : Int)).bind fun r => bif apok (len s.2) (len r.1) 24 then c (r.2, appL s.2 r.1) else none else c s else none
 have hs := Fa (N := nlen (len w.Held)) (L := fun k (s : GWorker × List GDid) i => C0 K g j w k s.1.Id s.1.Goal s.1.Until s.1.T.Epoch s.1.T.Owners s.1.T.Ids s.1.T.Incs s.1.Held s.1.Buf s.1.Coming s.1.Out s.2 i) step (fun s => some (wt3 s.1 s.2)) (fun k s i _ => rfl) (by rw [Cj]; omega) (K := K) (by rw [Cj]; omega) (w, [])
 have hN : (nlen (len w.Held)).toNat = w.Held.length := by rw [Cj]; exact Int.toNat_natCast _
 rw [hN] at hs
 have e := GO (step := step) (fin := fun s => some (wt3 s.1 s.2)) (fun m s => m ≤ 6 ∧ WI g j id (n + 36 - 6 * m) s.1 ∧ s.2.length + m ≤ 6 ∧ s.1.Held.length = w.Held.length ∧ s.1.T = w.T ∧ s.1.Goal = w.Goal) (GI g j) (List.range w.Held.length) (w, []) ⟨by simp; omega, h.up (by simp; omega), by simp; omega, rfl, rfl, rfl⟩ (fun i hi m s ⟨p1, p2, p3, p4, p5, p6⟩ => by
  have hi' : i < s.1.Held.length := by rw [p4]; exact List.mem_range.1 hi
  have hy : s.1.Held[i]? = some s.1.Held[i] := List.getElem?_eq_getElem hi'
  have c1 : inr (i : Int) (len s.1.Held) = true := decide_eq_true ⟨by omega, by show (i : Int) < (s.1.Held.length : Int); omega⟩
  have c2 : elAt s.1.Held (i : Int) = some s.1.Held[i] := by rw [BA]; exact hy
  have e0 : ∀ c, step i s c = bif s.1.Held[i].Wait then c s else bif s.1.Held[i].Given then c s else bif ieq s.1.Held[i].X.Step s.1.Goal then (DI K s.1 g j (i : Int)).bind fun r => bif apok (len s.2) (len r.1) 24 then c (r.2, appL s.2 r.1) else none else c s := fun c => by
   show (bif inr (i : Int) (len s.1.Held) then _ else _) = _
   rw [c1, c2, cT, bS]
  have stay : (m ≤ 6 ∧ WI g j id (n + 36 - 6 * m) s.1 ∧ s.2.length + m ≤ 6 ∧ s.1.Held.length = w.Held.length ∧ s.1.T = w.T ∧ s.1.Goal = w.Goal) := ⟨by omega, p2.up om, by omega, p4, p5, p6⟩
  rw [GI, hy]
  dsimp only
  simp only [e0]
  cases s.1.Held[i].Wait
  · cases s.1.Held[i].Given
    · cases ieq s.1.Held[i].X.Step s.1.Goal
      · exact ⟨stay, fun c => rfl⟩
      · have hsml := p2.sml om
        have hf := MD hK g j s.1 i s.1.Held[i] hy (p2.hx _ (List.getElem_mem hi')) (by have := hsml.b; omega) (by have := hsml.o; omega)
        obtain ⟨k1, k2, k3, k4⟩ := Lw g j s.1 i s.1.Held[i]
        refine ⟨⟨by omega, (Pv p2 hy).up om, ?_, k1.trans p4, k2.trans p5, k3.trans p6⟩, fun c => ?_⟩
        · show (s.2 ++ (B9 g j s.1 i s.1.Held[i]).1).length + m ≤ 6
          rw [List.length_append]; omega
        · simp only [cF, cT, Bool.or_false, Bool.not_true, hf, bS]
          rw [A4 (by show s.2.length + (B9 g j s.1 i s.1.Held[i]).1.length ≤ _; omega) om]; rfl
    · exact ⟨stay, fun c => rfl⟩
  · exact ⟨stay, fun c => rfl⟩)
 obtain ⟨e1, _, e2, _, e3, e4, e5⟩ := e
 exact ⟨hs.trans e1, e2, e3, e4, e5⟩
theorem IG {K : Nat} (hK : 1000000 ≤ K) (hc : ieq (Ah g j) 0 = true) (h : WI g j id n w) (hn : n ≤ 300000) (hg : i64 (w.Goal + 1)) (a : List GDid) (b : Nat) (hb : b = w.Held.length) {r : WT3} (hr : len r.2.2.2.2.2.2.2.1 = b) :
 C8 K g j r K w.Id w.Goal w.Until w.T.Epoch w.T.Owners w.T.Ids w.T.Incs w.Held w.Buf w.Coming w.Out 0 = some (wt (Ff g j w)) ∧ WI g j id (n + 6) (Ff g j w) ∧ (Ff g j w).T = w.T := by
 have hl := h.ok.len
 obtain ⟨_, _, _, _, _, _, _, _, j6⟩ := Ca hc
 let step : Nat → GWorker → (GWorker → Option WT) → Option WT := fun i s c =>
  bif inr (i : Int) (len s.Held) then (elAt s.Held (i : Int)).bind fun x => bif x.Wait then (bif ieq x.X.Step (wadd .i64 s.Goal 1) then (DE K s g j (i : Int)).bind fun r => c r else c s) else c s else none
 have hs := Fa (N := nlen (len r.2.2.2.2.2.2.2.1)) (L := fun k (s : GWorker) i => C8 K g j r k s.Id s.Goal s.Until s.T.Epoch s.T.Owners s.T.Ids s.T.Incs s.Held s.Buf s.Coming s.Out i) step (fun s => some (wt s)) (fun k s i _ => rfl) (by rw [hr]; show (b : Int) ≤ _; omega) (K := K) (by rw [hr]; show (b : Int).toNat < _; omega) w
 have hN : (nlen (len r.2.2.2.2.2.2.2.1)).toNat = w.Held.length := by rw [hr, hb]; exact Int.toNat_natCast _
 rw [hN] at hs
 have e := GO (step := step) (fin := fun s => some (wt s)) (fun m s => m ≤ 6 ∧ WI g j id (n + 6 - m) s ∧ s.Held.length = w.Held.length ∧ s.T = w.T ∧ s.Goal = w.Goal) (GD g j) (List.range w.Held.length) w ⟨by simp; omega, h.up (by simp; omega), rfl, rfl, rfl⟩ (fun i hi m s ⟨p1, p2, p4, p5, p6⟩ => by
  have hi' : i < s.Held.length := by rw [p4]; exact List.mem_range.1 hi
  have hy : s.Held[i]? = some s.Held[i] := List.getElem?_eq_getElem hi'
  have c1 : inr (i : Int) (len s.Held) = true := decide_eq_true ⟨by omega, by show (i : Int) < (s.Held.length : Int); omega⟩
  have c2 : elAt s.Held (i : Int) = some s.Held[i] := by rw [BA]; exact hy
  have c3 : wadd .i64 s.Goal 1 = s.Goal + 1 := by rw [p6]; exact JF (by have := hg.1; omega) (by have := hg.2; omega)
  have e0 : ∀ c, step i s c = bif s.Held[i].Wait then (bif ieq s.Held[i].X.Step (s.Goal + 1) then (DE K s g j (i : Int)).bind fun r => c r else c s) else c s := fun c => by
   show (bif inr (i : Int) (len s.Held) then _ else _) = _
   rw [c1, c2, cT, bS, c3]
  have stay : (m ≤ 6 ∧ WI g j id (n + 6 - m) s ∧ s.Held.length = w.Held.length ∧ s.T = w.T ∧ s.Goal = w.Goal) := ⟨by omega, p2.up om, p4, p5, p6⟩
  rw [GD, hy]
  dsimp only
  simp only [e0]
  cases s.Held[i].Wait
  · exact ⟨stay, fun c => rfl⟩
  · cases ieq s.Held[i].X.Step (s.Goal + 1)
    · exact ⟨stay, fun c => rfl⟩
    · have hsml := p2.sml om
      have hf := Lp hK g j s i s.Held[i] hy (p2.hx _ (List.getElem_mem hi')) (by have := hsml.b; omega) p2.bd (by have := hsml.o; omega) j6
      obtain ⟨k1, k2, k3⟩ := KU g j s i s.Held[i]
      refine ⟨⟨by omega, (LE p2 hy).up om, k1.trans p4, k2.trans p5, k3.trans p6⟩, fun c => ?_⟩
      simp only [cT, Bool.and_self, hf, bS])
 obtain ⟨e1, _, e2, e3, e4, e5⟩ := e
 exact ⟨hs.trans e1, e2, e4⟩
def DG (g : GGraph) (j : GJob) (w : GWorker) (now : Int) : GWorker × List GPost × List GDid :=
 bif ieq (Ah g j) 0 && ilt now w.Until then ({ Ff g j (Ar g j w).1 with Out := [] }, (Ff g j (Ar g j w).1).Out, (Ar g j w).2) else (w, [], [])
theorem Lb {K : Nat} (hK : 1000000 ≤ K) (h : WI g j id n w) (hn : n ≤ 200000) (now : Int) : F14 K g j w now = some (DG g j w now) := by
 have hg : i64 (w.Goal + 1) := by have := h.goal; unfold i64; omega
 rw [F14, Ga K w (h.sml om), bS, DO om, bS, DG]
 cases hc : ieq (Ah g j) 0
 · rfl
 · rw [cT, Bool.true_and]
   show (some (ilt now w.Until)).bind _ = _
   rw [bS]
   cases ilt now w.Until
   · rfl
   · obtain ⟨d1, d2, d3, d4, d5⟩ := Hu hK h om
     rw [cT, cT, d1, bS]
     obtain ⟨c1, _, _⟩ := IG hK hc d2 om (by rw [d5]; exact hg) [] _ rfl (r := wt3 (Ar g j w).1 (Ar g j w).2) rfl
     have c1' : C8 K g j (wt3 (Ar g j w).1 (Ar g j w).2) K (Ar g j w).1.Id (Ar g j w).1.Goal (Ar g j w).1.Until (Ar g j w).1.T.Epoch (Ar g j w).1.T.Owners (Ar g j w).1.T.Ids (Ar g j w).1.T.Incs (Ar g j w).1.Held (Ar g j w).1.Buf (Ar g j w).1.Coming (Ar g j w).1.Out 0 = _ := c1
     dsimp only [wt3] at c1' ⊢
     rw [c1']; rfl
theorem L4 (h : WI g j id n w) (hK : n ≤ 200000) (now : Int) : WI g j id (n + 42) (DG g j w now).1 ∧ (DG g j w now).1.T = w.T ∧ (∀ p ∈ (DG g j w now).2.1, FitM 100 p.M) := by
 have hg : i64 (w.Goal + 1) := by have := h.goal; unfold i64; omega
 rw [DG]
 cases hc : ieq (Ah g j) 0
 · exact ⟨h.up om, rfl, fun p hp => absurd hp List.not_mem_nil⟩
 · rw [Bool.true_and]
   cases ilt now w.Until
   · exact ⟨h.up om, rfl, fun p hp => absurd hp List.not_mem_nil⟩
   · obtain ⟨_, d2, d3, d4, d5⟩ := Hu (Nat.le_refl 1000000) h om
     obtain ⟨_, c2, c3⟩ := IG (Nat.le_refl 1000000) hc d2 om (by rw [d5]; exact hg) [] _ rfl (r := wt3 (Ar g j w).1 (Ar g j w).2) rfl
     exact ⟨{ c2 with ol := Nat.zero_le _, od := fun p hp => absurd hp List.not_mem_nil }, c3.trans d4, c2.od⟩
end
def E7 (g : GGraph) (j : GJob) (w : GWorker) (a : GAct) : GWorker × List GPost × List GDid :=
 bif ieq a.Kind 0 then (E6 g j w a.M, [], []) else bif ieq a.Kind 1 then DG g j w a.N else (EP w a.N, [], [])
section
variable {g : GGraph} {j : GJob} {id : Int} {n : Nat} {w : GWorker}
theorem K4 {K : Nat} (hK : 1000000 ≤ K) (h : WI g j id n w) (hn : n ≤ 200000) {a : GAct} (ha : MI a.M) : F13 K g j w a = some (E7 g j w a) := by
 rw [F13, E7]
 cases ieq a.Kind 0
 · cases ieq a.Kind 1
   · rw [cF, cF, cF, cF, OM K w _ (h.sml om)]; rfl
   · rw [cF, cF, cT, cT, Lb hK h hn]; rfl
 · rw [cT, cT, PS hK g j w a.M (h.sml om) h.hx h.cd (ha.f.up om) ha.p]; rfl
theorem Ie (h : WI g j id n w) (hn : n ≤ 200000) {a : GAct} (ha : MI a.M) : WI g j id (n + 42) (E7 g j w a).1 := by
 rw [E7]
 cases ieq a.Kind 0
 · cases ieq a.Kind 1
   · exact (Km h a.N).up om
   · exact (L4 h hn a.N).1
 · exact (N8 h ha).up om
def Fh (m : GMail) : Int := [(m.Ids.length : Int), (m.Incs.length : Int), (m.X.Vals.length : Int), (m.X.Rest.length : Int), (m.X.In.length : Int), (m.Msgs.length : Int)].foldl (fun s x => bif ilt s x then x else s) (m.Owners.length : Int)
theorem Lj {K : Nat} (hK : 100 ≤ K) (m : GMail) : F12 K m = some (Fh m) := by
 let step : Int → Int → (Int → Option Int) → Option Int := fun x s c => bif ilt s x then c x else c s
 have hs := Aq (l := [(m.Ids.length : Int), (m.Incs.length : Int), (m.X.Vals.length : Int), (m.X.Rest.length : Int), (m.X.In.length : Int), (m.Msgs.length : Int)]) (L := fun k s i => DQ K k s [(m.Ids.length : Int), (m.Incs.length : Int), (m.X.Vals.length : Int), (m.X.Rest.length : Int), (m.X.In.length : Int), (m.Msgs.length : Int)] i) step (fun s => some s) (fun k s i _ => rfl) (by simp) (K := K) (by simp; omega) (m.Owners.length : Int)
 have e := GL (step := step) (fin := fun s => some s) (fun _ => True) (fun s x => bif ilt s x then x else s) [(m.Ids.length : Int), (m.Incs.length : Int), (m.X.Vals.length : Int), (m.X.Rest.length : Int), (m.X.In.length : Int), (m.Msgs.length : Int)] (m.Owners.length : Int) trivial (fun x _ s _ => ⟨trivial, fun c => by show (bif ilt s x then c x else c s) = _; cases ilt s x <;> rfl⟩)
 have e' : DQ K K (nlen (len m.Owners)) [(nlen (len m.Ids)), (nlen (len m.Incs)), (nlen (len m.X.Vals)), (nlen (len m.X.Rest)), (nlen (len m.X.In)), (nlen (len m.Msgs))] 0 = some (Fh m) := hs.trans e.1
 rw [F12, e']; rfl
theorem HL : ∀ (l : List Int) (s : Int), s ≤ l.foldl (fun s x => bif ilt s x then x else s) s ∧ ∀ x ∈ l, x ≤ l.foldl (fun s x => bif ilt s x then x else s) s
 | [], s => ⟨Int.le_refl _, fun x hx => absurd hx List.not_mem_nil⟩
 | y :: l, s => by
  obtain ⟨h1, h2⟩ := HL l (bif ilt s y then y else s)
  have h3 : s ≤ (bif ilt s y then y else s) ∧ y ≤ (bif ilt s y then y else s) := by
   cases hq : ilt s y
   · rw [Ac] at hq; exact ⟨Int.le_refl _, hq⟩
   · rw [Ae] at hq; exact ⟨by rw [cT]; omega, Int.le_refl _⟩
  rw [List.foldl_cons]
  refine ⟨Int.le_trans h3.1 h1, fun x hx => ?_⟩
  rcases List.mem_cons.1 hx with rfl | hx
  · exact Int.le_trans h3.2 h1
  · exact h2 x hx
theorem O5 {m : GMail} (h : ilt 100 (Fh m) = false) : FitM 100 m := by
 rw [Ac] at h
 obtain ⟨h1, h2⟩ := HL [(m.Ids.length : Int), (m.Incs.length : Int), (m.X.Vals.length : Int), (m.X.Rest.length : Int), (m.X.In.length : Int), (m.Msgs.length : Int)] (m.Owners.length : Int)
 have k : ∀ x ∈ [(m.Ids.length : Int), (m.Incs.length : Int), (m.X.Vals.length : Int), (m.X.Rest.length : Int), (m.X.In.length : Int), (m.Msgs.length : Int)], x ≤ 100 := fun x hx => Int.le_trans (h2 x hx) h
 have h0 : (m.Owners.length : Int) ≤ 100 := Int.le_trans h1 h
 have a1 := k (m.Ids.length : Int) (by simp)
 have a2 := k (m.Incs.length : Int) (by simp)
 have a3 := k (m.X.Vals.length : Int) (by simp)
 have a4 := k (m.X.Rest.length : Int) (by simp)
 have a5 := k (m.X.In.length : Int) (by simp)
 have a6 := k (m.Msgs.length : Int) (by simp)
 exact ⟨by omega, by omega, by omega, by omega, by omega, by omega, by omega⟩
theorem Mu {m : GMail} (h : WGMail m) (hf : FitM 100 m) : MI m := by
 obtain ⟨_, _, _, _, _, _, _, _, _, _, _, hx, hm, _⟩ := h
 exact ⟨hf, FG hx.1, NA hx, fun y hy => FG (hm.2 y hy).2.1⟩
end
def hn5 : Hint := { H 5 with nt := 110, prot := 0, kp := 0 }
def I7 : Code := loopOf E 5 0
def IE : Code := loopOf E 5 1
def F5_res (r1 : Bool) : Res := ⟨[(.one (mB r1))], []⟩
def CT (K : Nat) (a1 : GGraph) (a2 : GJob) (a3 : Int) (a4 : List GAct) (v5 : Int) (r6 : GWorker × List GPost × List GDid) : Nat → Int → Option ((Unit) ⊕ (Unit))
 | 0, _ => none
 | k + 1, v7 =>
  bif (ilt v7 (nlen (len r6.1.Held))) then
   (bif (inr v7 (len r6.1.Held)) then
   (elAt r6.1.Held v7).bind fun x8 =>
   bif (ilt x8.X.P 0) then
    (some (.inl ()))
   else
   bif (ile (nlen (len r6.1.T.Owners)) x8.X.P) then
    (some (.inl ()))
   else
   bif (inr x8.X.P (len r6.1.T.Owners)) then
   (elAt r6.1.T.Owners x8.X.P).bind fun x9 =>
   bif (ieq x9 a3) then
    (bif (ilt 0 v7) then
     (bif (inr (wsub .i64 v7 1) (len r6.1.Held)) then
     (elAt r6.1.Held (wsub .i64 v7 1)).bind fun x10 =>
     bif (ile x8.X.P x10.X.P) then
      (some (.inl ()))
     else
     (F17 K a1 a2 x8.X).bind fun r11 =>
     bif r11 then
      (CT K a1 a2 a3 a4 v5 r6 k (wadd .i64 v7 1))
     else
     some (.inl ())
     else none)
    else
    (F17 K a1 a2 x8.X).bind fun r12 =>
    bif r12 then
     (CT K a1 a2 a3 a4 v5 r6 k (wadd .i64 v7 1))
    else
    some (.inl ()))
   else
   some (.inl ())
   else none
   else none)
  else
  some (.inr ())
def I4 (a1 : GGraph) (a2 : GJob) (a3 : Int) (a4 : List GAct) (v5 : Int) (r6 : GWorker × List GPost × List GDid) (v7 : Int) : TS := .on (kq 128 2 <| kq 192 2 <| kq 256 3 <| kq 320 5 <| kq 576 12 <| kq 640 2 <| kq 704 2 <| []) <| sq 128 [u0, (uI a3)] <| sq 192 [u0, (uS eGAct a4)] <| b1 256 a1 <| b2 320 a2 <| b0 576 r6.1 <| sq 640 [u0, (uI v5)] <| sq 704 [u0, (uI v7)] []
def Mg (a1 : GGraph) (a2 : GJob) (a3 : Int) (a4 : List GAct) (v5 : Int) (r6 : GWorker × List GPost × List GDid) (w7 : Unit) : TS := .on (kq 512 2 <| []) <| sq 512 [u0, (uB false)] []
def L6 (a1 : GGraph) (a2 : GJob) (a3 : Int) (a4 : List GAct) (v5 : Int) (r6 : GWorker × List GPost × List GDid) (w7 : Unit) : TS := .on (kq 128 2 <| kq 192 2 <| kq 256 3 <| kq 320 5 <| kq 576 12 <| kq 640 2 <| []) <| sq 128 [u0, (uI a3)] <| sq 192 [u0, (uS eGAct a4)] <| b1 256 a1 <| b2 320 a2 <| b0 576 r6.1 <| sq 640 [u0, (uI v5)] []
theorem Ih (K : Nat) (a1 : GGraph) (a2 : GJob) (a3 : Int) (a4 : List GAct) (v5 : Int) (r6 : GWorker × List GPost × List GDid) : ∀ (k : Nat) (v7 : Int) (r : (Unit) ⊕ (Unit)), CT K a1 a2 a3 a4 v5 r6 k v7 = some r → (Sum.elim (fun w => LoopEv E H hn5 2 IE (I4 a1 a2 a3 a4 v5 r6 v7) .ret (Mg a1 a2 a3 a4 v5 r6 w)) (fun w => LoopEv E H hn5 2 IE (I4 a1 a2 a3 a4 v5 r6 v7) (.exit 2) (L6 a1 a2 a3 a4 v5 r6 w))) r := by
 intro k
 induction k with
 | zero => intro v7 r F; cases F
 | succ k ih =>
  intro v7 r F
  rw [CT] at F
  apply jc F <;> intro h8 F
  apply jn F; intro h9 F
  apply jb F; intro x10 h11 F
  have q29 {l} (z : HA hn5 l) := zi (nl r6.1.Held) <| zT h8 <| zT h9 <| zU eGHeld_len h11 0 1 <| z
  apply jc F <;> intro h12 F
  apply jr F
  exact lE <| q29 <| Fp h12 <| zt6 <| zt2 <| zr1 <| zt4 <| zr1 <| zt6 <| zt4 <| zr2 <| z0
  have q30 {l} (z : HA hn5 l) := zB5 h12 <| zi (nl r6.1.T.Owners) <| BN h12 <| z
  apply jc F <;> intro h13 F
  apply jr F
  exact lE <| q29 <| q30 <| zA6 (ige_eq h13) <| B8 (ige_eq h13) <| zt4 <| zr1 <| zt6 <| zt4 <| zr2 <| z0
  apply jn F; intro h14 F
  apply jb F; intro x15 h16 F
  have q31 {l} (z : HA hn5 l) := zB5 (ige_eq h13) <| zT h14 <| zB1 (ige_eq h13) <| zX (.sub (flat e6 r6.1.T.Owners) (nidx x10.X.P 1) 1 [(i6 x15)]) ⟨rfl, sub_flat0 (eInt_len _) h16 1 (by decide)⟩ <| B2 (ige_eq h13) <| z
  apply jc F <;> intro h17 F
  have q32 {l} (z : HA hn5 l) := zB3 (ine_t h17) <| z
  apply jc F <;> intro h18 F
  apply jn F; intro h19 F
  apply jb F; intro x20 h21 F
  have q33 {l} (z : HA hn5 l) := zC4 (igt_eq h18) <| zi (wsub .i64 v7 1) <| zC1 (igt_eq h18) <| zT h19 <| zC3 (igt_eq h18) <| zU eGHeld_len h21 0 1 <| zC2 (igt_eq h18) <| zB1 (ine_t h17) <| zT (igt_eq h18) <| zF (ine_t h17) <| z
  apply jc F <;> intro h22 F
  apply jr F
  exact lE <| q29 <| q30 <| q31 <| q32 <| q33 <| zA6 (ige_eq h22) <| CS (ige_eq h22) <| zr1 <| z0
  apply jb F; intro r23 h24 F
  have q34 {l} (z : HA hn5 l) := zB6 (ige_eq h22) <| zT h9 <| zB2 (ige_eq h22) <| zU eGHeld_len h11 0 5 <| zB1 (ige_eq h22) <| zl (HX K a1 a2 x10.X _ h24) <| BN (ige_eq h22) <| z
  apply jc F <;> intro h25 F
  exact lN2 (q29 <| q30 <| q31 <| q32 <| q33 <| q34 <| zF (bnot_t h25) <| zi (wadd .i64 v7 1) <| z0) (ih _ _ F)
  apply jr F
  exact lE <| q29 <| q30 <| q31 <| q32 <| q33 <| q34 <| zT (bnot_f h25) <| z0
  apply jb F; intro r26 h27 F
  have q35 {l} (z : HA hn5 l) := zD6 (igt_eq h18) <| zD4 (igt_eq h18) <| zB1 (ine_t h17) <| zF (igt_eq h18) <| zF (ine_t h17) <| zX (bg false) (bB rfl) <| zX (bg false) (bB rfl) <| zX (bg false) (bB rfl) <| zX (bg false) (bB rfl) <| zX (bg false) (bB rfl) <| zX (bg false) (bB rfl) <| zT h9 <| zX (bg false) (bB rfl) <| zX (bg false) (bB rfl) <| zU eGHeld_len h11 0 5 <| zX (bg false) (bB rfl) <| zl (HX K a1 a2 x10.X _ h27) <| zX (bg false) (bB rfl) <| zf1 <| z
  apply jc F <;> intro h28 F
  exact lN2 (q29 <| q30 <| q31 <| q32 <| q35 <| zF (bnot_t h28) <| zi (wadd .i64 v7 1) <| z0) (ih _ _ F)
  apply jr F
  exact lE <| q29 <| q30 <| q31 <| q32 <| q35 <| zT (bnot_f h28) <| z0
  apply jr F
  exact lE <| q29 <| q30 <| q31 <| CS (ine_f h17) <| zt6 <| zt4 <| zr2 <| z0
  apply jr F
  exact lE <| zi (nl r6.1.Held) <| zF h8 <| z0
def Dj (K : Nat) (a1 : GGraph) (a2 : GJob) (a3 : Int) (a4 : List GAct) : Nat → Int → Int → Int → Int → List Int → List Int → List Int → List GHeld → List GData → List GComing → List GPost → Int → Option ((Unit) ⊕ (Unit))
 | 0, _, _, _, _, _, _, _, _, _, _, _, _ => none
 | k + 1, v5, v6, v7, v8, v9, v10, v11, v12, v13, v14, v15, v16 =>
  bif (ilt v16 (nlen (len a4))) then
   (bif (ilt v16 40) then
    (bif (inr v16 (len a4)) then
    (elAt a4 v16).bind fun x17 =>
    (F12 K x17.M).bind fun r18 =>
    bif (ilt 100 r18) then
     (Dj K a1 a2 a3 a4 k v5 v6 v7 v8 v9 v10 v11 v12 v13 v14 v15 (wadd .i64 v16 1))
    else
    (F13 K a1 a2 (GWorker.mk v5 v6 v7 (GTable.mk v8 v9 v10 v11) v12 v13 v14 v15) x17).bind fun r19 =>
    (CT K a1 a2 a3 a4 v16 r19 K 0).bind fun y20 =>
    Sum.elim (fun w21 =>
     some (.inl ()))
     (fun w22 =>
     Dj K a1 a2 a3 a4 k r19.1.Id r19.1.Goal r19.1.Until r19.1.T.Epoch r19.1.T.Owners r19.1.T.Ids r19.1.T.Incs r19.1.Held r19.1.Buf r19.1.Coming r19.1.Out (wadd .i64 v16 1)) y20
    else none)
   else
   some (.inr ()))
  else
  some (.inr ())
def I0 (a1 : GGraph) (a2 : GJob) (a3 : Int) (a4 : List GAct) (v5 : Int) (v6 : Int) (v7 : Int) (v8 : Int) (v9 : List Int) (v10 : List Int) (v11 : List Int) (v12 : List GHeld) (v13 : List GData) (v14 : List GComing) (v15 : List GPost) (v16 : Int) : TS := .on (kq 128 2 <| kq 192 2 <| kq 256 3 <| kq 320 5 <| kq 576 12 <| kq 640 2 <| []) <| sq 128 [u0, (uI a3)] <| sq 192 [u0, (uS eGAct a4)] <| b1 256 a1 <| b2 320 a2 <| sq 576 [(uX 38 11), (uI v5), (uI v6), (uI v7), (uI v8), (uS e6 v9), (uS e6 v10), (uS e6 v11), (uO 69 eGHeld v12), (uO 112 eGData v13), (uO 113 eGComing v14), (uO 86 eGPost v15)] <| sq 640 [u0, (uI v16)] []
def OS (a1 : GGraph) (a2 : GJob) (a3 : Int) (a4 : List GAct) (w5 : Unit) : TS := .on (kq 512 2 <| []) <| sq 512 [u0, (uB false)] []
def M7 (a1 : GGraph) (a2 : GJob) (a3 : Int) (a4 : List GAct) (w5 : Unit) : TS := .on [] []
theorem Ik (K : Nat) (a1 : GGraph) (a2 : GJob) (a3 : Int) (a4 : List GAct) : ∀ (k : Nat) (v5 : Int) (v6 : Int) (v7 : Int) (v8 : Int) (v9 : List Int) (v10 : List Int) (v11 : List Int) (v12 : List GHeld) (v13 : List GData) (v14 : List GComing) (v15 : List GPost) (v16 : Int) (r : (Unit) ⊕ (Unit)), Dj K a1 a2 a3 a4 k v5 v6 v7 v8 v9 v10 v11 v12 v13 v14 v15 v16 = some r → (Sum.elim (fun w => LoopEv E H hn5 0 I7 (I0 a1 a2 a3 a4 v5 v6 v7 v8 v9 v10 v11 v12 v13 v14 v15 v16) .ret (OS a1 a2 a3 a4 w)) (fun w => LoopEv E H hn5 0 I7 (I0 a1 a2 a3 a4 v5 v6 v7 v8 v9 v10 v11 v12 v13 v14 v15 v16) (.exit 0) (M7 a1 a2 a3 a4 w))) r := by
 intro k
 induction k with
 | zero => intro v5 v6 v7 v8 v9 v10 v11 v12 v13 v14 v15 v16 r F; cases F
 | succ k ih =>
  intro v5 v6 v7 v8 v9 v10 v11 v12 v13 v14 v15 v16 r F
  rw [Dj] at F
  apply jc F <;> intro h17 F
  have q31 {l} (z : HA hn5 l) := zi (nl a4) <| H7 h17 <| z
  apply jc F <;> intro h18 F
  apply jn F; intro h19 F
  apply jb F; intro x20 h21 F
  apply jb F; intro r22 h23 F
  have q32 {l} (z : HA hn5 l) := zT h18 <| zT h19 <| zU eGAct_len h21 2 17 <| zl (K5 K x20.M _ h23) <| z
  apply jc F <;> intro h24 F
  exact lN2 (q31 <| q32 <| zT (igt_eq h24) <| zi (wadd .i64 v16 1) <| z0) (ih _ _ _ _ _ _ _ _ _ _ _ _ _ F)
  apply jb F; intro r25 h26 F
  have q33 {l} (z : HA hn5 l) := zF (igt_eq h24) <| zT h19 <| zS eGAct_len h21 19 <| zc (K2 K a1 a2 (GWorker.mk v5 v6 v7 (GTable.mk v8 v9 v10 v11) v12 v13 v14 v15) x20 _ h26) <| z
  apply jb F; intro y28 h27 F
  refine js F (fun w29 hx F => ?_) fun w30 hx F => ?_
  subst hx
  apply jr F
  exact lE <| q31 <| q32 <| q33 <| zo (Ih K a1 a2 a3 a4 v16 r25 K 0 _ h27) <| z0
  subst hx
  exact lN2 (q31 <| q32 <| q33 <| zo (Ih K a1 a2 a3 a4 v16 r25 K 0 _ h27) <| zi (wadd .i64 v16 1) <| z0) (ih _ _ _ _ _ _ _ _ _ _ _ _ _ F)
  apply jr F
  exact lE <| q31 <| zF h18 <| z0
  apply jr F
  exact lE <| zi (nl a4) <| HI h17 <| zf1 <| z0
def F5 (K : Nat) (a1 : GGraph) (a2 : GJob) (a3 : Int) (a4 : List GAct) : Option (Bool) :=
 (F9 K a1).bind fun r5 =>
 bif r5 then
  (some true)
 else
 (F11 K a3).bind fun r6 =>
 (Dj K a1 a2 a3 a4 K r6.Id r6.Goal r6.Until r6.T.Epoch r6.T.Owners r6.T.Ids r6.T.Incs r6.Held r6.Buf r6.Coming r6.Out 0).bind fun y7 =>
 Sum.elim (fun w8 =>
  some false)
  (fun w9 =>
  some true) y7
theorem F5_ok (K : Nat) (a1 : GGraph) (a2 : GJob) (a3 : Int) (a4 : List GAct) (r : Bool) (F : F5 K a1 a2 a3 a4 = some r) : Evt E H 5 [.agg (eGGraph a1), .agg (eGJob a2), .one (i6 a3), .one (sE eGAct a4)] (F5_res r) := by
 rw [F5] at F
 apply jb F; intro r5 h6 F
 apply jc F <;> intro h7 F
 apply jr F
 exact fpC hn5 <| zl (JC K a1 _ h6) <| zT h7 <| zX (.call 10 [] (Res.mk [(.one (mB true))] [])) knows10 <| zX (ff (leadsAny (Res.mk [(.one (mB true))] []))) lk <| z0
 apply jb F; intro r8 h9 F
 have q14 {l} (z : HA hn5 l) := zl (JC K a1 _ h6) <| zF h7 <| zc (PF K a3 _ h9) <| z
 apply jb F; intro y11 h10 F
 refine js F (fun w12 hx F => ?_) fun w13 hx F => ?_
 subst hx
 apply jr F
 exact fpC hn5 <| q14 <| zo (Ik K a1 a2 a3 a4 K r8.Id r8.Goal r8.Until r8.T.Epoch r8.T.Owners r8.T.Ids r8.T.Incs r8.Held r8.Buf r8.Coming r8.Out 0 _ h10) <| z0
 subst hx
 apply jr F
 exact fpC hn5 <| q14 <| zo (Ik K a1 a2 a3 a4 K r8.Id r8.Goal r8.Until r8.T.Epoch r8.T.Owners r8.T.Ids r8.T.Incs r8.Held r8.Buf r8.Coming r8.Out 0 _ h10) <| zX (.call 10 [] (Res.mk [(.one (mB true))] [])) knows10 <| zX (ff (leadsAny (Res.mk [(.one (mB true))] []))) lk <| z0
theorem OK {α σ β : Type} {l : List α} {B : Int} (b : Nat) (hB : B = (b : Int)) {L : Nat → σ → Int → Option β} (step : Nat → α → σ → (σ → Option β) → Option β) (fin : σ → Option β)
 (h : ∀ k s (i : Nat), i ≤ l.length → L (k + 1) s i = bif ilt i (nlen (len l)) then (bif ilt i B then (bif inr i (len l) then (elAt l i).bind fun x => step i x s (fun s' => L k s' (wadd .i64 i 1)) else none) else fin s) else fin s)
 (hl : l.length < 4611686018427387904) : ∀ (k : Nat) (s : σ) (i : Nat), b - i < k → i ≤ l.length → L k s i = goI (fun i x s c => bif ilt (i : Int) B then step i x s c else fin s) fin i (l.drop i) s := by
 intro k
 induction k with
 | zero => intro s i h; omega
 | succ k ih =>
  intro s i hk hi
  rw [h k s i hi]
  rcases FN l i with ⟨x, e1, e2, e3, e4⟩ | ⟨e1, e2⟩
  · have hlt := DZ e1
    rw [e1, e2, e3, e4]
    simp only [cT, bS, goI]
    cases hb : ilt (i : Int) B
    · rfl
    · rw [hB, Ae] at hb
      simp only [cT]
      congr 1
      funext s'
      rw [FS om]
      exact ih s' (i + 1) om om
  · rw [e1, e2]; rfl
section
variable {g : GGraph} {j : GJob} {id : Int}
theorem Hh {β : Type} {step : Nat → GAct → GWorker → (GWorker → Option β) → Option β} {fin : GWorker → Option β} : ∀ (l : List GAct) (i n : Nat) (w : GWorker), (∀ x ∈ l, ∀ (i n : Nat) (w : GWorker), WI g j id n w → n ≤ 100000 → ∃ w', WI g j id (n + 42) w' ∧ ∀ c, step i x w c = c w') →
 WI g j id n w → n + 42 * (40 - i) ≤ 100000 → ∃ w', WI g j id 100000 w' ∧ goI (fun i x s c => bif ilt (i : Int) 40 then step i x s c else fin s) fin i l w = fin w'
 | [], i, n, w, _, h, hn => ⟨w, h.up om, rfl⟩
 | x :: l, i, n, w, hs, h, hn => by
  rw [goI]
  cases hi : ilt (i : Int) 40
  · exact ⟨w, h.up om, rfl⟩
  · rw [Ae] at hi
    obtain ⟨w1, h1, e1⟩ := hs x List.mem_cons_self i n w h om
    obtain ⟨w2, h2, e2⟩ := Hh l (i + 1) (n + 42) w1 (fun y hy => hs y (List.mem_cons_of_mem _ hy)) h1 om
    exact ⟨w2, h2, by rw [cT, e1, e2]⟩
theorem O6 (K : Nat) (g : GGraph) : F9 K g = some (ilt 200 (g.Edges.length : Int)) := by rw [F9]; rfl
theorem KV {K : Nat} (hK : 1000000 ≤ K) (l : List GAct) (v : Int) (r : GWorker × List GPost × List GDid) {n : Nat} (h : WI g j id n r.1) : CT K g j id l v r K 0 = some (.inr ()) := by
 have hlen := h.ok.len
 let step : Nat → GHeld → Unit → (Unit → Option (Unit ⊕ Unit)) → Option (Unit ⊕ Unit) := fun i x _ c =>
  bif (ilt x.X.P 0) then (some (.inl ())) else bif (ile (nlen (len r.1.T.Owners)) x.X.P) then (some (.inl ())) else
  bif (inr x.X.P (len r.1.T.Owners)) then (elAt r.1.T.Owners x.X.P).bind fun o =>
   bif (ieq o id) then (bif (ilt 0 (i : Int)) then (bif (inr (wsub .i64 (i : Int) 1) (len r.1.Held)) then (elAt r.1.Held (wsub .i64 (i : Int) 1)).bind fun d =>
    bif (ile x.X.P d.X.P) then (some (.inl ())) else (F17 K g j x.X).bind fun b => bif b then c () else some (.inl ()) else none)
    else (F17 K g j x.X).bind fun b => bif b then c () else some (.inl ()))
   else some (.inl ()) else none
 have hs := Ct (l := r.1.Held) (L := fun k (_ : Unit) i => CT K g j id l v r k i) step (fun _ => some (.inr ())) (fun k s i _ => rfl) om K () 0 om om
 have go : ∀ (t : List GHeld) (i : Nat), r.1.Held.drop i = t → goI step (fun _ => some (.inr ())) i t () = some (.inr ()) := by
  intro t
  induction t with
  | nil => intro i _; rfl
  | cons x t ih =>
   intro i hd
   have hlt := DZ hd
   have he := List.drop_eq_getElem_cons hlt
   rw [hd] at he
   injection he with hx ht
   have hmem : x ∈ r.1.Held := by rw [hx]; exact List.getElem_mem hlt
   obtain ⟨m1, m2, m3, m4⟩ := h.mine x hmem
   have m0 := (h.ok.r x hmem).1
   have hsm := h.hx x hmem
   rw [goI]
   show (bif (ilt x.X.P 0) then _ else _) = _
   have c1 : inr x.X.P (len r.1.T.Owners) = true := decide_eq_true ⟨m0, m1⟩
   have c2 : elAt r.1.T.Owners x.X.P = some id := by
    have : r.1.T.Owners.getD x.X.P.toNat 0 = id := m2.trans h.id
    rw [FY om] at this
    show r.1.T.Owners[x.X.P.toNat]? = _
    rw [List.getElem?_eq_getElem om, this]
   have c3 : F17 K g j x.X = some true := by rw [Kb om g j x.X (by have := hsm.i; omega) (by have := hsm.i; omega), m3]
   rw [Ac.2 m0, cF, Cj, Db.2 m1, cF, c1, c2, cT, bS, Cn, cT, c3]
   have hi := ih (i + 1) ht.symm
   cases h0 : ilt 0 (i : Int)
   · rw [cF, bS, cT]; exact hi
   · rw [Ae] at h0
     have w1 : wsub .i64 (i : Int) 1 = ((i - 1 : Nat) : Int) := JO om om
     have c4 : inr ((i - 1 : Nat) : Int) (len r.1.Held) = true := decide_eq_true ⟨by omega, by show ((i - 1 : Nat) : Int) < (r.1.Held.length : Int); omega⟩
     have c5 : elAt r.1.Held ((i - 1 : Nat) : Int) = some r.1.Held[i - 1] := by rw [BA]; exact List.getElem?_eq_getElem om
     have hsort := (List.pairwise_iff_getElem.1 h.ok.s) (i - 1) i om hlt om
     rw [← hx] at hsort
     rw [w1, c4, c5, cT, cT, bS, Db.2 hsort, cF, bS, cT]; exact hi
 rw [List.drop_zero] at hs
 exact hs.trans (go r.1.Held 0 rfl)
theorem KQ {K : Nat} (hK : 1000000 ≤ K) (g : GGraph) (j : GJob) (id : Int) (l : List GAct) (hl : l.length < 4611686018427387904) (hw : ∀ a ∈ l, WGAct a) : F5 K g j id l = some true := by
 rw [F5, O6, bS]
 cases ilt 200 (g.Edges.length : Int)
 · rw [cF]
   let step : Int → GAct → GWorker → (GWorker → Option (Unit ⊕ Unit)) → Option (Unit ⊕ Unit) := fun i x w c => (F12 K x.M).bind fun r => bif ilt 100 r then c w else (F13 K g j w x).bind fun r => (CT K g j id l i r K 0).bind fun y => Sum.elim (fun _ => some (.inl ())) (fun _ => c r.1) y
   have hs := OK 40 rfl (l := l) (L := fun k (w : GWorker) i => Dj K g j id l k w.Id w.Goal w.Until w.T.Epoch w.T.Owners w.T.Ids w.T.Incs w.Held w.Buf w.Coming w.Out i) (fun (i : Nat) => step (i : Int)) (fun w => some (.inr ())) (fun k s i _ => rfl) om K (GWorker.mk id (-1) 0 noT [] [] [] []) 0 om om
   obtain ⟨w, hW, hg⟩ := Hh (step := fun (i : Nat) => step (i : Int)) (fin := fun w => some (.inr ())) l 0 0 (GWorker.mk id (-1) 0 noT [] [] [] []) (fun x hx i n w h hn => by
    have e0 : ∀ c, step (i : Int) x w c = bif ilt 100 (Fh x.M) then c w else (F13 K g j w x).bind fun r => (CT K g j id l (i : Int) r K 0).bind fun y => Sum.elim (fun _ => some (.inl ())) (fun _ => c r.1) y := fun c => by
     show (F12 K x.M).bind _ = _
     rw [Lj om]; rfl
    simp only [e0]
    cases hq : ilt 100 (Fh x.M)
    · have hm := Mu (hw x hx).2.2.1 (O5 hq)
      refine ⟨_, Ie h om hm, fun c => ?_⟩
      rw [cF, K4 hK h om hm, bS, KV hK l (i : Int) (E7 g j w x) (Ie h om hm)]; rfl
    · exact ⟨w, h.up om, fun c => rfl⟩) (LQ g j id) om
   rw [List.drop_zero] at hs
   have e : Dj K g j id l K id (-1) 0 0 [] [] [] [] [] [] [] 0 = some (.inr ()) := hs.trans hg
   show ((Dj K g j id l K id (-1) 0 0 [] [] [] [] [] [] [] 0).bind _) = _
   rw [e]; rfl
 · rfl
theorem Ka {α : Type} {l : List α} {n : Nat} (hn : 0 < n) (h : l.length * n ≤ reachBytes) : l.length < 4611686018427387904 := by
 have : l.length ≤ l.length * n := Nat.le_mul_of_pos_right _ hn
 have : reachBytes ≤ 140737488355328 := by unfold reachBytes; omega
 omega
theorem law5 (g : GGraph) (j : GJob) (id : Int) (l : List GAct) (_ : WGGraph g) (_ : WGJob j) (_ : (Lit.int .i64 id).wf = true) (hl : l.length * 264 ≤ reachBytes ∧ ∀ y ∈ l, WGAct y) : F5 1000000 g j id l = some true :=
 KQ (Nat.le_refl _) g j id l (Ka om hl.1) hl.2
end
end
end Go.Proofs.Ytbaihlhoedbpkaa.Tm

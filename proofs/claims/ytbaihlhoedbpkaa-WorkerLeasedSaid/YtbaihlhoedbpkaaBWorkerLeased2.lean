/- What the row of WorkerLeased leans on: printed functions and plain laws. Conditions: none. -/
import Derived.Test.YtbaihlhoedbpkaaTy
import Derived.Test.YtbaihlhoedbpkaaTab
import Derived.Test.YtbaihlhoedbpkaaKn
import Derived.Test.YtbaihlhoedbpkaaWf
import Derived.IntWalk
import Derived.KernelRfl
import Derived.OpenShut
import Derived.Test.YtbaihlhoedbpkaaBWorkerLeased1
set_option linter.unusedVariables false
set_option linter.unusedSimpArgs false
namespace Go.Proofs.Ytbaihlhoedbpkaa.Tm
open Go
noncomputable section
theorem F1 (K : Nat) (a1 : GWorker) (r : GWorker60) (F : F16 K a1 = some r) : Evt E H 16 [.agg (eGWorker a1)] (Na r) := by
 rw [F16] at F
 apply jb F; intro r2 h3 F
 apply jb F; intro w5 h4 F
 apply jb F; intro w7 h6 F
 apply jb F; intro w9 h8 F
 apply jr F
 exact fpC Gd <| zc (OO K a1.Out _ h3) <| zo (LL K a1 r2 K [] 0 _ h4) <| zo (M7 K a1 r2 w5 K [] 0 _ h6) <| zo (Pl K a1 r2 w5 w7 K [] 0 _ h8) <| z0
def DN : Hint := { H 64 with nt := 26, prot := 0, kp := 0 }
def Ji : Code := loopOf E 64 0
def Ov (r1 : Bool) : Res := ⟨[(.one (mB r1))], []⟩
def Em (K : Nat) (a1 : List Int) (a2 : List Int) : Nat → Int → Option ((Unit) ⊕ (Unit))
 | 0, _ => none
 | k + 1, v3 =>
  bif (ilt v3 (nlen (len a1))) then
   (bif (inr v3 (len a1)) then
   (elAt a1 v3).bind fun x4 =>
   bif (inr v3 (len a2)) then
   (elAt a2 v3).bind fun x5 =>
   bif (ieq x4 x5) then
    (Em K a1 a2 k (wadd .i64 v3 1))
   else
   some (.inl ())
   else none
   else none)
  else
  some (.inr ())
def Ht (a1 : List Int) (a2 : List Int) (v3 : Int) : TS := .on (kq 0 2 <| kq 64 2 <| kq 320 2 <| []) <| sq 0 [u0, (uS e6 a1)] <| sq 64 [u0, (uS e6 a2)] <| sq 320 [u0, (uI v3)] []
def Kr (a1 : List Int) (a2 : List Int) (w3 : Unit) : TS := .on (kq 256 2 <| []) <| sq 256 [u0, (uB false)] []
def MK (a1 : List Int) (a2 : List Int) (w3 : Unit) : TS := .on [] []
theorem Ij (K : Nat) (a1 : List Int) (a2 : List Int) : ∀ (k : Nat) (v3 : Int) (r : (Unit) ⊕ (Unit)), Em K a1 a2 k v3 = some r → (Sum.elim (fun w => LoopEv E H DN 0 Ji (Ht a1 a2 v3) .ret (Kr a1 a2 w)) (fun w => LoopEv E H DN 0 Ji (Ht a1 a2 v3) (.exit 0) (MK a1 a2 w))) r := by
 intro k
 induction k with
 | zero => intro v3 r F; cases F
 | succ k ih =>
  intro v3 r F
  rw [Em] at F
  apply jc F <;> intro h4 F
  apply jn F; intro h5 F
  apply jb F; intro x6 h7 F
  apply jn F; intro h8 F
  apply jb F; intro x9 h10 F
  have q12 {l} (z : HA DN l) := zi (nl a1) <| zT h4 <| zT h5 <| zX (.sub (flat e6 a1) (nidx v3 1) 1 [(i6 x6)]) ⟨rfl, sub_flat0 (eInt_len _) h7 1 (by decide)⟩ <| zT h8 <| zX (.sub (flat e6 a2) (nidx v3 1) 1 [(i6 x9)]) ⟨rfl, sub_flat0 (eInt_len _) h10 1 (by decide)⟩ <| z
  apply jc F <;> intro h11 F
  exact lN2 (q12 <| zF (ine_t h11) <| zi (wadd .i64 v3 1) <| z0) (ih _ _ F)
  apply jr F
  exact lE <| q12 <| zT (ine_f h11) <| z0
  apply jr F
  exact lE <| zi (nl a1) <| zF h4 <| z0
def F64 (K : Nat) (a1 : List Int) (a2 : List Int) : Option (Bool) :=
 bif (ieq (nlen (len a1)) (nlen (len a2))) then
  ((Em K a1 a2 K 0).bind fun y3 =>
  Sum.elim (fun w4 =>
   some false)
   (fun w5 =>
   some true) y3)
 else
 some false
theorem Ea (K : Nat) (a1 : List Int) (a2 : List Int) (r : Bool) (F : F64 K a1 a2 = some r) : Evt E H 64 [.one (sE e6 a1), .one (sE e6 a2)] (Ov r) := by
 rw [F64] at F
 apply jc F <;> intro h3 F
 have q8 {l} (z : HA DN l) := zi (nl a1) <| zi (nl a2) <| zF (ine_t h3) <| z
 apply jb F; intro y5 h4 F
 refine js F (fun w6 hx F => ?_) fun w7 hx F => ?_
 subst hx
 apply jr F
 exact fpC DN <| q8 <| zo (Ij K a1 a2 K 0 _ h4) <| z0
 subst hx
 apply jr F
 exact fpC DN <| q8 <| zo (Ij K a1 a2 K 0 _ h4) <| z0
 apply jr F
 exact fpC DN <| zi (nl a1) <| zi (nl a2) <| zT (ine_f h3) <| z0
def D8 : Hint := { H 35 with nt := 31, prot := 0, kp := 0 }
def PX (r1 : Bool) : Res := ⟨[(.one (mB r1))], []⟩
def F35 (K : Nat) (a1 : GTable) (a2 : GTable) : Option (Bool) :=
 bif (ieq a1.Epoch a2.Epoch) then
  ((F64 K a1.Owners a2.Owners).bind fun r3 =>
  bif r3 then
   ((F64 K a1.Ids a2.Ids).bind fun r4 =>
   bif r4 then
    ((F64 K a1.Incs a2.Incs).bind fun r5 =>
    some r5)
   else
   some false)
  else
  some false)
 else
 some false
theorem QU (K : Nat) (a1 : GTable) (a2 : GTable) (r : Bool) (F : F35 K a1 a2 = some r) : Evt E H 35 [.agg (eGTable a1), .agg (eGTable a2)] (PX r) := by
 rw [F35] at F
 apply jc F <;> intro h3 F
 apply jb F; intro r4 h5 F
 have q12 {l} (z : HA D8 l) := zC5 h3 <| zl (Ea K a1.Owners a2.Owners _ h5) <| zT h3 <| z
 apply jc F <;> intro h6 F
 apply jb F; intro r7 h8 F
 have q13 {l} (z : HA D8 l) := zC5 h6 <| zl (Ea K a1.Ids a2.Ids _ h8) <| zT h6 <| z
 apply jc F <;> intro h9 F
 apply jb F; intro r10 h11 F
 apply jr F
 exact fpC D8 <| q12 <| q13 <| zC5 h9 <| zl (Ea K a1.Incs a2.Incs _ h11) <| zT h9 <| z0
 apply jr F
 exact fpC D8 <| q12 <| q13 <| Af h9 <| z0
 apply jr F
 exact fpC D8 <| q12 <| Af h6 <| zk5 <| zf1 <| z0
 apply jr F
 exact fpC D8 <| Af h3 <| zk5 <| zf1 <| zk5 <| zf1 <| z0
def DE : Hint := { H 52 with nt := 26, prot := 0, kp := 0 }
def JZ : Code := loopOf E 52 0
def OK (r1 : Bool) : Res := ⟨[(.one (mB r1))], []⟩
def Et (K : Nat) (a1 : List Int) (a2 : List Int) : Nat → Int → Option ((Unit) ⊕ (Unit))
 | 0, _ => none
 | k + 1, v3 =>
  bif (ilt v3 (nlen (len a1))) then
   (bif (inr v3 (len a1)) then
   (elAt a1 v3).bind fun x4 =>
   bif (inr v3 (len a2)) then
   (elAt a2 v3).bind fun x5 =>
   bif (ieq x4 x5) then
    (Et K a1 a2 k (wadd .i64 v3 1))
   else
   some (.inl ())
   else none
   else none)
  else
  some (.inr ())
def IJ (a1 : List Int) (a2 : List Int) (v3 : Int) : TS := .on (kq 0 2 <| kq 64 2 <| kq 320 2 <| []) <| sq 0 [u0, (uS e6 a1)] <| sq 64 [u0, (uS e6 a2)] <| sq 320 [u0, (uI v3)] []
def Oo (a1 : List Int) (a2 : List Int) (w3 : Unit) : TS := .on (kq 256 2 <| []) <| sq 256 [u0, (uB false)] []
def Pm (a1 : List Int) (a2 : List Int) (w3 : Unit) : TS := .on [] []
theorem IV (K : Nat) (a1 : List Int) (a2 : List Int) : ∀ (k : Nat) (v3 : Int) (r : (Unit) ⊕ (Unit)), Et K a1 a2 k v3 = some r → (Sum.elim (fun w => LoopEv E H DE 0 JZ (IJ a1 a2 v3) .ret (Oo a1 a2 w)) (fun w => LoopEv E H DE 0 JZ (IJ a1 a2 v3) (.exit 0) (Pm a1 a2 w))) r := by
 intro k
 induction k with
 | zero => intro v3 r F; cases F
 | succ k ih =>
  intro v3 r F
  rw [Et] at F
  apply jc F <;> intro h4 F
  apply jn F; intro h5 F
  apply jb F; intro x6 h7 F
  apply jn F; intro h8 F
  apply jb F; intro x9 h10 F
  have q12 {l} (z : HA DE l) := zi (nl a1) <| zT h4 <| zT h5 <| zX (.sub (flat e6 a1) (nidx v3 1) 1 [(i6 x6)]) ⟨rfl, sub_flat0 (eInt_len _) h7 1 (by decide)⟩ <| zT h8 <| zX (.sub (flat e6 a2) (nidx v3 1) 1 [(i6 x9)]) ⟨rfl, sub_flat0 (eInt_len _) h10 1 (by decide)⟩ <| z
  apply jc F <;> intro h11 F
  exact lN2 (q12 <| zF (ine_t h11) <| zi (wadd .i64 v3 1) <| z0) (ih _ _ F)
  apply jr F
  exact lE <| q12 <| zT (ine_f h11) <| z0
  apply jr F
  exact lE <| zi (nl a1) <| zF h4 <| z0
def F52 (K : Nat) (a1 : List Int) (a2 : List Int) : Option (Bool) :=
 bif (ieq (nlen (len a1)) (nlen (len a2))) then
  ((Et K a1 a2 K 0).bind fun y3 =>
  Sum.elim (fun w4 =>
   some false)
   (fun w5 =>
   some true) y3)
 else
 some false
theorem Mh (K : Nat) (a1 : List Int) (a2 : List Int) (r : Bool) (F : F52 K a1 a2 = some r) : Evt E H 52 [.one (sE e6 a1), .one (sE e6 a2)] (OK r) := by
 rw [F52] at F
 apply jc F <;> intro h3 F
 have q8 {l} (z : HA DE l) := zi (nl a1) <| zi (nl a2) <| zF (ine_t h3) <| z
 apply jb F; intro y5 h4 F
 refine js F (fun w6 hx F => ?_) fun w7 hx F => ?_
 subst hx
 apply jr F
 exact fpC DE <| q8 <| zo (IV K a1 a2 K 0 _ h4) <| z0
 subst hx
 apply jr F
 exact fpC DE <| q8 <| zo (IV K a1 a2 K 0 _ h4) <| z0
 apply jr F
 exact fpC DE <| zi (nl a1) <| zi (nl a2) <| zT (ine_f h3) <| z0
def DL : Hint := { H 53 with nt := 26, prot := 0, kp := 0 }
def JS : Code := loopOf E 53 0
def Qd (r1 : Bool) : Res := ⟨[(.one (mB r1))], []⟩
def Ek (K : Nat) (a1 : List Bool) (a2 : List Bool) : Nat → Int → Option ((Unit) ⊕ (Unit))
 | 0, _ => none
 | k + 1, v3 =>
  bif (ilt v3 (nlen (len a1))) then
   (bif (inr v3 (len a1)) then
   (elAt a1 v3).bind fun x4 =>
   bif (inr v3 (len a2)) then
   (elAt a2 v3).bind fun x5 =>
   bif (beqb x4 x5) then
    (Ek K a1 a2 k (wadd .i64 v3 1))
   else
   some (.inl ())
   else none
   else none)
  else
  some (.inr ())
def It (a1 : List Bool) (a2 : List Bool) (v3 : Int) : TS := .on (kq 0 2 <| kq 64 2 <| kq 320 2 <| []) <| sq 0 [u0, (uS eBool a1)] <| sq 64 [u0, (uS eBool a2)] <| sq 320 [u0, (uI v3)] []
def Pj (a1 : List Bool) (a2 : List Bool) (w3 : Unit) : TS := .on (kq 256 2 <| []) <| sq 256 [u0, (uB false)] []
def NL (a1 : List Bool) (a2 : List Bool) (w3 : Unit) : TS := .on [] []
theorem Jw (K : Nat) (a1 : List Bool) (a2 : List Bool) : ∀ (k : Nat) (v3 : Int) (r : (Unit) ⊕ (Unit)), Ek K a1 a2 k v3 = some r → (Sum.elim (fun w => LoopEv E H DL 0 JS (It a1 a2 v3) .ret (Pj a1 a2 w)) (fun w => LoopEv E H DL 0 JS (It a1 a2 v3) (.exit 0) (NL a1 a2 w))) r := by
 intro k
 induction k with
 | zero => intro v3 r F; cases F
 | succ k ih =>
  intro v3 r F
  rw [Ek] at F
  apply jc F <;> intro h4 F
  apply jn F; intro h5 F
  apply jb F; intro x6 h7 F
  apply jn F; intro h8 F
  apply jb F; intro x9 h10 F
  have q12 {l} (z : HA DL l) := zi (nl a1) <| zT h4 <| zT h5 <| zS eBool_len h7 1 <| zT h8 <| zS eBool_len h10 1 <| z
  apply jc F <;> intro h11 F
  exact lN2 (q12 <| zF (bnot_t h11) <| zi (wadd .i64 v3 1) <| z0) (ih _ _ F)
  apply jr F
  exact lE <| q12 <| zT (bnot_f h11) <| z0
  apply jr F
  exact lE <| zi (nl a1) <| zF h4 <| z0
def F53 (K : Nat) (a1 : List Bool) (a2 : List Bool) : Option (Bool) :=
 bif (ieq (nlen (len a1)) (nlen (len a2))) then
  ((Ek K a1 a2 K 0).bind fun y3 =>
  Sum.elim (fun w4 =>
   some false)
   (fun w5 =>
   some true) y3)
 else
 some false
theorem N4 (K : Nat) (a1 : List Bool) (a2 : List Bool) (r : Bool) (F : F53 K a1 a2 = some r) : Evt E H 53 [.one (sE eBool a1), .one (sE eBool a2)] (Qd r) := by
 rw [F53] at F
 apply jc F <;> intro h3 F
 have q8 {l} (z : HA DL l) := zi (nl a1) <| zi (nl a2) <| zF (ine_t h3) <| z
 apply jb F; intro y5 h4 F
 refine js F (fun w6 hx F => ?_) fun w7 hx F => ?_
 subst hx
 apply jr F
 exact fpC DL <| q8 <| zo (Jw K a1 a2 K 0 _ h4) <| z0
 subst hx
 apply jr F
 exact fpC DL <| q8 <| zo (Jw K a1 a2 K 0 _ h4) <| z0
 apply jr F
 exact fpC DL <| zi (nl a1) <| zi (nl a2) <| zT (ine_f h3) <| z0
def D2 : Hint := { H 37 with nt := 26, prot := 0, kp := 0 }
def J3 : Code := loopOf E 37 0
def LJ (r1 : Bool) : Res := ⟨[(.one (mB r1))], []⟩
def Eo (K : Nat) (a1 : List GMsg) (a2 : List GMsg) : Nat → Int → Option ((Unit) ⊕ (Unit))
 | 0, _ => none
 | k + 1, v3 =>
  bif (ilt v3 (nlen (len a1))) then
   (bif (inr v3 (len a1)) then
   (elAt a1 v3).bind fun x4 =>
   bif (inr v3 (len a2)) then
   (elAt a2 v3).bind fun x5 =>
   bif (ieq x4.To x5.To) then
    (bif (ieq x4.V x5.V) then
     (Eo K a1 a2 k (wadd .i64 v3 1))
    else
    some (.inl ()))
   else
   some (.inl ())
   else none
   else none)
  else
  some (.inr ())
def Jk (a1 : List GMsg) (a2 : List GMsg) (v3 : Int) : TS := .on (kq 0 2 <| kq 64 2 <| kq 320 2 <| []) <| sq 0 [u0, (uS eGMsg a1)] <| sq 64 [u0, (uS eGMsg a2)] <| sq 320 [u0, (uI v3)] []
def Oc (a1 : List GMsg) (a2 : List GMsg) (w3 : Unit) : TS := .on (kq 256 2 <| []) <| sq 256 [u0, (uB false)] []
def La (a1 : List GMsg) (a2 : List GMsg) (w3 : Unit) : TS := .on [] []
theorem J6 (K : Nat) (a1 : List GMsg) (a2 : List GMsg) : ∀ (k : Nat) (v3 : Int) (r : (Unit) ⊕ (Unit)), Eo K a1 a2 k v3 = some r → (Sum.elim (fun w => LoopEv E H D2 0 J3 (Jk a1 a2 v3) .ret (Oc a1 a2 w)) (fun w => LoopEv E H D2 0 J3 (Jk a1 a2 v3) (.exit 0) (La a1 a2 w))) r := by
 intro k
 induction k with
 | zero => intro v3 r F; cases F
 | succ k ih =>
  intro v3 r F
  rw [Eo] at F
  apply jc F <;> intro h4 F
  apply jn F; intro h5 F
  apply jb F; intro x6 h7 F
  apply jn F; intro h8 F
  apply jb F; intro x9 h10 F
  have q13 {l} (z : HA D2 l) := zi (nl a1) <| zT h4 <| zT h5 <| zS eGMsg_len h7 2 <| zT h8 <| zS eGMsg_len h10 2 <| z
  apply jc F <;> intro h11 F
  apply jc F <;> intro h12 F
  exact lN2 (q13 <| zX (ff (bnot (band (ieq x6.To x9.To) (band (ieq x6.V x9.V) true)))) (bnot_t (band_tt h11 (band_tt h12 rfl))) <| zi (wadd .i64 v3 1) <| z0) (ih _ _ F)
  apply jr F
  exact lE <| q13 <| zX (tt (bnot (band (ieq x6.To x9.To) (band (ieq x6.V x9.V) true)))) (bnot_f (band_f2 h11 (band_f1 h12))) <| z0
  apply jr F
  exact lE <| q13 <| zX (tt (bnot (band (ieq x6.To x9.To) (band (ieq x6.V x9.V) true)))) (bnot_f (band_f1 h11)) <| z0
  apply jr F
  exact lE <| zi (nl a1) <| zF h4 <| z0
def F37 (K : Nat) (a1 : List GMsg) (a2 : List GMsg) : Option (Bool) :=
 bif (ieq (nlen (len a1)) (nlen (len a2))) then
  ((Eo K a1 a2 K 0).bind fun y3 =>
  Sum.elim (fun w4 =>
   some false)
   (fun w5 =>
   some true) y3)
 else
 some false
theorem G5 (K : Nat) (a1 : List GMsg) (a2 : List GMsg) (r : Bool) (F : F37 K a1 a2 = some r) : Evt E H 37 [.one (sE eGMsg a1), .one (sE eGMsg a2)] (LJ r) := by
 rw [F37] at F
 apply jc F <;> intro h3 F
 have q8 {l} (z : HA D2 l) := zi (nl a1) <| zi (nl a2) <| zF (ine_t h3) <| z
 apply jb F; intro y5 h4 F
 refine js F (fun w6 hx F => ?_) fun w7 hx F => ?_
 subst hx
 apply jr F
 exact fpC D2 <| q8 <| zo (J6 K a1 a2 K 0 _ h4) <| z0
 subst hx
 apply jr F
 exact fpC D2 <| q8 <| zo (J6 K a1 a2 K 0 _ h4) <| z0
 apply jr F
 exact fpC D2 <| zi (nl a1) <| zi (nl a2) <| zT (ine_f h3) <| z0
def Dj : Hint := { H 28 with nt := 38, prot := 0, kp := 0 }
def Oh (r1 : Bool) : Res := ⟨[(.one (mB r1))], []⟩
def F28 (K : Nat) (a1 : GPart) (a2 : GPart) : Option (Bool) :=
 bif (ieq a1.P a2.P) then
  (bif (ieq a1.Step a2.Step) then
   ((F52 K a1.Vals a2.Vals).bind fun r3 =>
   bif r3 then
    ((F53 K a1.Rest a2.Rest).bind fun r4 =>
    bif r4 then
     ((F37 K a1.In a2.In).bind fun r5 =>
     some r5)
    else
    some false)
   else
   some false)
  else
  some false)
 else
 some false
theorem G3 (K : Nat) (a1 : GPart) (a2 : GPart) (r : Bool) (F : F28 K a1 a2 = some r) : Evt E H 28 [.agg (eGPart a1), .agg (eGPart a2)] (Oh r) := by
 rw [F28] at F
 apply jc F <;> intro h3 F
 have q13 {l} (z : HA Dj l) := C9 h3 <| z
 apply jc F <;> intro h4 F
 apply jb F; intro r5 h6 F
 have q14 {l} (z : HA Dj l) := zC5 h4 <| zl (Mh K a1.Vals a2.Vals _ h6) <| zT h4 <| z
 apply jc F <;> intro h7 F
 apply jb F; intro r8 h9 F
 have q15 {l} (z : HA Dj l) := zC5 h7 <| zl (N4 K a1.Rest a2.Rest _ h9) <| zT h7 <| z
 apply jc F <;> intro h10 F
 apply jb F; intro r11 h12 F
 apply jr F
 exact fpC Dj <| q13 <| q14 <| q15 <| zC5 h10 <| zl (G5 K a1.In a2.In _ h12) <| zT h10 <| z0
 apply jr F
 exact fpC Dj <| q13 <| q14 <| q15 <| Af h10 <| z0
 apply jr F
 exact fpC Dj <| q13 <| q14 <| Af h7 <| zk5 <| zf1 <| z0
 apply jr F
 exact fpC Dj <| q13 <| Af h4 <| zk5 <| zf1 <| zk5 <| zf1 <| z0
 apply jr F
 exact fpC Dj <| Af h3 <| zk5 <| zf1 <| zk5 <| zf1 <| zk5 <| zf1 <| z0
def Ax : Hint := { H 65 with nt := 94, prot := 0, kp := 0 }
def LO (r1 : Bool) : Res := ⟨[(.one (mB r1))], []⟩
def F65 (K : Nat) (a1 : GMail) (a2 : GMail) : Option (Bool) :=
 bif (ieq a1.Kind a2.Kind) then
  (bif (ieq a1.Epoch a2.Epoch) then
   (bif (ieq a1.Fresh a2.Fresh) then
    (bif (ieq a1.Step a2.Step) then
     (bif (ieq a1.P a2.P) then
      (bif (ieq a1.Q a2.Q) then
       (bif (ieq a1.To a2.To) then
        (bif (ieq a1.E a2.E) then
         ((F64 K a1.Owners a2.Owners).bind fun r3 =>
         bif r3 then
          ((F64 K a1.Ids a2.Ids).bind fun r4 =>
          bif r4 then
           ((F64 K a1.Incs a2.Incs).bind fun r5 =>
           bif r5 then
            ((F28 K a1.X a2.X).bind fun r6 =>
            bif r6 then
             ((F37 K a1.Msgs a2.Msgs).bind fun r7 =>
             some r7)
            else
            some false)
           else
           some false)
          else
          some false)
         else
         some false)
        else
        some false)
       else
       some false)
      else
      some false)
     else
     some false)
    else
    some false)
   else
   some false)
  else
  some false)
 else
 some false
theorem Mf (K : Nat) (a1 : GMail) (a2 : GMail) (r : Bool) (F : F65 K a1 a2 = some r) : Evt E H 65 [.agg (eGMail a1), .agg (eGMail a2)] (LO r) := by
 rw [F65] at F
 apply jc F <;> intro h3 F
 have q25 {l} (z : HA Ax l) := C9 h3 <| z
 apply jc F <;> intro h4 F
 have q26 {l} (z : HA Ax l) := C9 h4 <| z
 apply jc F <;> intro h5 F
 have q27 {l} (z : HA Ax l) := C9 h5 <| z
 apply jc F <;> intro h6 F
 have q28 {l} (z : HA Ax l) := C9 h6 <| z
 apply jc F <;> intro h7 F
 have q29 {l} (z : HA Ax l) := C9 h7 <| z
 apply jc F <;> intro h8 F
 have q30 {l} (z : HA Ax l) := C9 h8 <| z
 apply jc F <;> intro h9 F
 have q31 {l} (z : HA Ax l) := C9 h9 <| z
 apply jc F <;> intro h10 F
 apply jb F; intro r11 h12 F
 have q32 {l} (z : HA Ax l) := zC5 h10 <| zl (Ea K a1.Owners a2.Owners _ h12) <| zT h10 <| z
 apply jc F <;> intro h13 F
 apply jb F; intro r14 h15 F
 have q33 {l} (z : HA Ax l) := zC5 h13 <| zl (Ea K a1.Ids a2.Ids _ h15) <| zT h13 <| z
 apply jc F <;> intro h16 F
 apply jb F; intro r17 h18 F
 have q34 {l} (z : HA Ax l) := zC5 h16 <| zl (Ea K a1.Incs a2.Incs _ h18) <| zT h16 <| z
 apply jc F <;> intro h19 F
 apply jb F; intro r20 h21 F
 have q35 {l} (z : HA Ax l) := zC5 h19 <| zl (G3 K a1.X a2.X _ h21) <| zT h19 <| z
 apply jc F <;> intro h22 F
 apply jb F; intro r23 h24 F
 apply jr F
 exact fpC Ax <| q25 <| q26 <| q27 <| q28 <| q29 <| q30 <| q31 <| q32 <| q33 <| q34 <| q35 <| zC5 h22 <| zl (G5 K a1.Msgs a2.Msgs _ h24) <| zT h22 <| z0
 apply jr F
 exact fpC Ax <| q25 <| q26 <| q27 <| q28 <| q29 <| q30 <| q31 <| q32 <| q33 <| q34 <| q35 <| Af h22 <| z0
 apply jr F
 exact fpC Ax <| q25 <| q26 <| q27 <| q28 <| q29 <| q30 <| q31 <| q32 <| q33 <| q34 <| Af h19 <| zk5 <| zf1 <| z0
 apply jr F
 exact fpC Ax <| q25 <| q26 <| q27 <| q28 <| q29 <| q30 <| q31 <| q32 <| q33 <| Af h16 <| zk5 <| zf1 <| zk5 <| zf1 <| z0
 apply jr F
 exact fpC Ax <| q25 <| q26 <| q27 <| q28 <| q29 <| q30 <| q31 <| q32 <| Af h13 <| zk5 <| zf1 <| zk5 <| zf1 <| zk5 <| zf1 <| z0
 apply jr F
 exact fpC Ax <| q25 <| q26 <| q27 <| q28 <| q29 <| q30 <| q31 <| Af h10 <| zk5 <| zf1 <| zk5 <| zf1 <| zk5 <| zf1 <| zk5 <| zf1 <| z0
 apply jr F
 exact fpC Ax <| q25 <| q26 <| q27 <| q28 <| q29 <| q30 <| Af h9 <| zk5 <| zf1 <| zk5 <| zf1 <| zk5 <| zf1 <| zk5 <| zf1 <| zk5 <| zf1 <| z0
 apply jr F
 exact fpC Ax <| q25 <| q26 <| q27 <| q28 <| q29 <| Af h8 <| zk5 <| zf1 <| zk5 <| zf1 <| zk5 <| zf1 <| zk5 <| zf1 <| zk5 <| zf1 <| zk5 <| zf1 <| z0
 apply jr F
 exact fpC Ax <| q25 <| q26 <| q27 <| q28 <| Af h7 <| zk5 <| zf1 <| zk5 <| zf1 <| zk5 <| zf1 <| zk5 <| zf1 <| zk5 <| zf1 <| zk5 <| zf1 <| zk5 <| zf1 <| z0
 apply jr F
 exact fpC Ax <| q25 <| q26 <| q27 <| Af h6 <| zk5 <| zf1 <| zk5 <| zf1 <| zk5 <| zf1 <| zk5 <| zf1 <| zk5 <| zf1 <| zk5 <| zf1 <| zk5 <| zf1 <| zk5 <| zf1 <| z0
 apply jr F
 exact fpC Ax <| q25 <| q26 <| Af h5 <| zk5 <| zf1 <| zk5 <| zf1 <| zk5 <| zf1 <| zk5 <| zf1 <| zk5 <| zf1 <| zk5 <| zf1 <| zk5 <| zf1 <| zk5 <| zf1 <| zk5 <| zf1 <| z0
 apply jr F
 exact fpC Ax <| q25 <| Af h4 <| zk5 <| zf1 <| zk5 <| zf1 <| zk5 <| zf1 <| zk5 <| zf1 <| zk5 <| zf1 <| zk5 <| zf1 <| zk5 <| zf1 <| zk5 <| zf1 <| zk5 <| zf1 <| zk5 <| zf1 <| z0
 apply jr F
 exact fpC Ax <| Af h3 <| zk5 <| zf1 <| zk5 <| zf1 <| zk5 <| zf1 <| zk5 <| zf1 <| zk5 <| zf1 <| zk5 <| zf1 <| zk5 <| zf1 <| zk5 <| zf1 <| zk5 <| zf1 <| zk5 <| zf1 <| zk5 <| zf1 <| z0
def CR : Hint := { H 36 with nt := 55, prot := 0, kp := 0 }
def I9 : Code := loopOf E 36 0
def PJ (r1 : Bool) : Res := ⟨[(.one (mB r1))], []⟩
def EF (K : Nat) (a1 : List GPost153) (a2 : List GPost153) : Nat → Int → Option ((Unit) ⊕ (Unit))
 | 0, _ => none
 | k + 1, v3 =>
  bif (ilt v3 (nlen (len a1))) then
   (bif (inr v3 (len a1)) then
   (elAt a1 v3).bind fun x4 =>
   bif (inr v3 (len a2)) then
   (elAt a2 v3).bind fun x5 =>
   bif (ieq x4.To x5.To) then
    (bif (ieq x4.Inc x5.Inc) then
     ((F65 K x4.M x5.M).bind fun r6 =>
     bif r6 then
      (EF K a1 a2 k (wadd .i64 v3 1))
     else
     some (.inl ()))
    else
    some (.inl ()))
   else
   some (.inl ())
   else none
   else none)
  else
  some (.inr ())
def Jj (a1 : List GPost153) (a2 : List GPost153) (v3 : Int) : TS := .on (kq 0 2 <| kq 64 2 <| kq 320 2 <| []) <| sq 0 [u0, (uS eGPost153 a1)] <| sq 64 [u0, (uS eGPost153 a2)] <| sq 320 [u0, (uI v3)] []
def LY (a1 : List GPost153) (a2 : List GPost153) (w3 : Unit) : TS := .on (kq 256 2 <| []) <| sq 256 [u0, (uB false)] []
def QK (a1 : List GPost153) (a2 : List GPost153) (w3 : Unit) : TS := .on [] []
theorem HQ (K : Nat) (a1 : List GPost153) (a2 : List GPost153) : ∀ (k : Nat) (v3 : Int) (r : (Unit) ⊕ (Unit)), EF K a1 a2 k v3 = some r → (Sum.elim (fun w => LoopEv E H CR 0 I9 (Jj a1 a2 v3) .ret (LY a1 a2 w)) (fun w => LoopEv E H CR 0 I9 (Jj a1 a2 v3) (.exit 0) (QK a1 a2 w))) r := by
 intro k
 induction k with
 | zero => intro v3 r F; cases F
 | succ k ih =>
  intro v3 r F
  rw [EF] at F
  apply jc F <;> intro h4 F
  apply jn F; intro h5 F
  apply jb F; intro x6 h7 F
  apply jn F; intro h8 F
  apply jb F; intro x9 h10 F
  have q16 {l} (z : HA CR l) := zi (nl a1) <| zT h4 <| zT h5 <| zU eGPost153_len h7 0 1 <| zT h8 <| zU eGPost153_len h10 0 1 <| z
  apply jc F <;> intro h11 F
  have q17 {l} (z : HA CR l) := zB3 (ine_t h11) <| zT h5 <| zB2 (ine_t h11) <| zU eGPost153_len h7 1 1 <| zB3 (ine_t h11) <| zT h8 <| zB2 (ine_t h11) <| zU eGPost153_len h10 1 1 <| AB (ine_t h11) <| z
  apply jc F <;> intro h12 F
  apply jb F; intro r13 h14 F
  have q18 {l} (z : HA CR l) := zB3 (ine_t h12) <| zT h5 <| zB2 (ine_t h12) <| zU eGPost153_len h7 2 17 <| zB3 (ine_t h12) <| zT h8 <| zB2 (ine_t h12) <| zU eGPost153_len h10 2 17 <| zB1 (ine_t h12) <| zl (Mf K x6.M x9.M _ h14) <| AB (ine_t h12) <| z
  apply jc F <;> intro h15 F
  exact lN2 (q16 <| q17 <| q18 <| zF (bnot_t h15) <| zi (wadd .i64 v3 1) <| z0) (ih _ _ F)
  apply jr F
  exact lE <| q16 <| q17 <| q18 <| zT (bnot_f h15) <| z0
  apply jr F
  exact lE <| q16 <| q17 <| zA6 (ine_f h12) <| EK (ine_f h12) <| zr1 <| z0
  apply jr F
  exact lE <| q16 <| zA6 (ine_f h11) <| AR (ine_f h11) <| zt6 <| zt6 <| zr2 <| z0
  apply jr F
  exact lE <| zi (nl a1) <| zF h4 <| z0
def F36 (K : Nat) (a1 : List GPost153) (a2 : List GPost153) : Option (Bool) :=
 bif (ieq (nlen (len a1)) (nlen (len a2))) then
  ((EF K a1 a2 K 0).bind fun y3 =>
  Sum.elim (fun w4 =>
   some false)
   (fun w5 =>
   some true) y3)
 else
 some false
theorem N0 (K : Nat) (a1 : List GPost153) (a2 : List GPost153) (r : Bool) (F : F36 K a1 a2 = some r) : Evt E H 36 [.one (sE eGPost153 a1), .one (sE eGPost153 a2)] (PJ r) := by
 rw [F36] at F
 apply jc F <;> intro h3 F
 have q8 {l} (z : HA CR l) := zi (nl a1) <| zi (nl a2) <| zF (ine_t h3) <| z
 apply jb F; intro y5 h4 F
 refine js F (fun w6 hx F => ?_) fun w7 hx F => ?_
 subst hx
 apply jr F
 exact fpC CR <| q8 <| zo (HQ K a1 a2 K 0 _ h4) <| z0
 subst hx
 apply jr F
 exact fpC CR <| q8 <| zo (HQ K a1 a2 K 0 _ h4) <| z0
 apply jr F
 exact fpC CR <| zi (nl a1) <| zi (nl a2) <| zT (ine_f h3) <| z0
def Al : Hint := { H 15 with nt := 210, prot := 0, kp := 0 }
def JC : Code := loopOf E 15 0
def Jp : Code := loopOf E 15 1
def HM : Code := loopOf E 15 2
def Pc (r1 : Bool) : Res := ⟨[(.one (mB r1))], []⟩
def EH (K : Nat) (a1 : GWorker60) (a2 : GWorker60) : Nat → Int → Option ((Unit) ⊕ (Unit))
 | 0, _ => none
 | k + 1, v3 =>
  bif (ilt v3 (nlen (len a1.Held))) then
   (bif (inr v3 (len a1.Held)) then
   (elAt a1.Held v3).bind fun x4 =>
   bif (inr v3 (len a2.Held)) then
   (elAt a2.Held v3).bind fun x5 =>
   bif (beqb x4.Wait x5.Wait) then
    (bif (beqb x4.Given x5.Given) then
     ((F28 K x4.X x5.X).bind fun r6 =>
     bif r6 then
      (EH K a1 a2 k (wadd .i64 v3 1))
     else
     some (.inl ()))
    else
    some (.inl ()))
   else
   some (.inl ())
   else none
   else none)
  else
  some (.inr ())
def HX (a1 : GWorker60) (a2 : GWorker60) (v3 : Int) : TS := .on (kq 128 12 <| kq 192 12 <| kq 320 2 <| []) <| b6 128 a1 <| b6 192 a2 <| sq 320 [u0, (uI v3)] []
def QM (a1 : GWorker60) (a2 : GWorker60) (w3 : Unit) : TS := .on (kq 256 2 <| []) <| sq 256 [u0, (uB false)] []
def L6 (a1 : GWorker60) (a2 : GWorker60) (w3 : Unit) : TS := .on (kq 128 12 <| kq 192 12 <| []) <| b6 128 a1 <| b6 192 a2 []
theorem Hi (K : Nat) (a1 : GWorker60) (a2 : GWorker60) : ∀ (k : Nat) (v3 : Int) (r : (Unit) ⊕ (Unit)), EH K a1 a2 k v3 = some r → (Sum.elim (fun w => LoopEv E H Al 0 JC (HX a1 a2 v3) .ret (QM a1 a2 w)) (fun w => LoopEv E H Al 0 JC (HX a1 a2 v3) (.exit 0) (L6 a1 a2 w))) r := by
 intro k
 induction k with
 | zero => intro v3 r F; cases F
 | succ k ih =>
  intro v3 r F
  rw [EH] at F
  apply jc F <;> intro h4 F
  apply jn F; intro h5 F
  apply jb F; intro x6 h7 F
  apply jn F; intro h8 F
  apply jb F; intro x9 h10 F
  have q16 {l} (z : HA Al l) := zi (nl a1.Held) <| zT h4 <| zT h5 <| zU eGHeld_len h7 5 1 <| zT h8 <| zU eGHeld_len h10 5 1 <| z
  apply jc F <;> intro h11 F
  have q17 {l} (z : HA Al l) := zB4 (bnot_t h11) <| zT h5 <| zB2 (bnot_t h11) <| zU eGHeld_len h7 6 1 <| zB4 (bnot_t h11) <| zT h8 <| zB2 (bnot_t h11) <| zU eGHeld_len h10 6 1 <| AB (bnot_t h11) <| z
  apply jc F <;> intro h12 F
  apply jb F; intro r13 h14 F
  have q18 {l} (z : HA Al l) := zB4 (bnot_t h12) <| zT h5 <| zB2 (bnot_t h12) <| zU eGHeld_len h7 0 5 <| zB4 (bnot_t h12) <| zT h8 <| zB2 (bnot_t h12) <| zU eGHeld_len h10 0 5 <| zB1 (bnot_t h12) <| zl (G3 K x6.X x9.X _ h14) <| AB (bnot_t h12) <| z
  apply jc F <;> intro h15 F
  exact lN2 (q16 <| q17 <| q18 <| zF (bnot_t h15) <| zi (wadd .i64 v3 1) <| z0) (ih _ _ F)
  apply jr F
  exact lE <| q16 <| q17 <| q18 <| zT (bnot_f h15) <| z0
  apply jr F
  exact lE <| q16 <| q17 <| zA6 (bnot_f h12) <| zA6 (bnot_f h12) <| BS (bnot_f h12) <| zr1 <| z0
  apply jr F
  exact lE <| q16 <| zA6 (bnot_f h11) <| zA6 (bnot_f h11) <| CQ (bnot_f h11) <| zt6 <| zt6 <| zt2 <| zr2 <| z0
  apply jr F
  exact lE <| zi (nl a1.Held) <| zF h4 <| z0
def ER (K : Nat) (a1 : GWorker60) (a2 : GWorker60) : Nat → Int → Option ((Unit) ⊕ (Unit))
 | 0, _ => none
 | k + 1, v3 =>
  bif (ilt v3 (nlen (len a1.Buf))) then
   (bif (inr v3 (len a1.Buf)) then
   (elAt a1.Buf v3).bind fun x4 =>
   bif (inr v3 (len a2.Buf)) then
   (elAt a2.Buf v3).bind fun x5 =>
   bif (ieq x4.Epoch x5.Epoch) then
    (bif (ieq x4.Step x5.Step) then
     (bif (ieq x4.Q x5.Q) then
      (bif (ieq x4.P x5.P) then
       ((F37 K x4.Msgs x5.Msgs).bind fun r6 =>
       bif r6 then
        (ER K a1 a2 k (wadd .i64 v3 1))
       else
       some (.inl ()))
      else
      some (.inl ()))
     else
     some (.inl ()))
    else
    some (.inl ()))
   else
   some (.inl ())
   else none
   else none)
  else
  some (.inr ())
def H4 (a1 : GWorker60) (a2 : GWorker60) (v3 : Int) : TS := .on (kq 128 12 <| kq 192 12 <| kq 384 2 <| []) <| b6 128 a1 <| b6 192 a2 <| sq 384 [u0, (uI v3)] []
def QT (a1 : GWorker60) (a2 : GWorker60) (w3 : Unit) : TS := .on (kq 256 2 <| []) <| sq 256 [u0, (uB false)] []
def MP (a1 : GWorker60) (a2 : GWorker60) (w3 : Unit) : TS := .on (kq 128 12 <| kq 192 12 <| []) <| b6 128 a1 <| b6 192 a2 []
theorem J1 (K : Nat) (a1 : GWorker60) (a2 : GWorker60) : ∀ (k : Nat) (v3 : Int) (r : (Unit) ⊕ (Unit)), ER K a1 a2 k v3 = some r → (Sum.elim (fun w => LoopEv E H Al 2 Jp (H4 a1 a2 v3) .ret (QT a1 a2 w)) (fun w => LoopEv E H Al 2 Jp (H4 a1 a2 v3) (.exit 2) (MP a1 a2 w))) r := by
 intro k
 induction k with
 | zero => intro v3 r F; cases F
 | succ k ih =>
  intro v3 r F
  rw [ER] at F
  apply jc F <;> intro h4 F
  apply jn F; intro h5 F
  apply jb F; intro x6 h7 F
  apply jn F; intro h8 F
  apply jb F; intro x9 h10 F
  have q18 {l} (z : HA Al l) := zi (nl a1.Buf) <| zT h4 <| zT h5 <| zS eGData_len h7 5 <| zT h8 <| zS eGData_len h10 5 <| z
  apply jc F <;> intro h11 F
  have q19 {l} (z : HA Al l) := BP (ine_t h11) <| z
  apply jc F <;> intro h12 F
  have q20 {l} (z : HA Al l) := BP (ine_t h12) <| z
  apply jc F <;> intro h13 F
  have q21 {l} (z : HA Al l) := BP (ine_t h13) <| z
  apply jc F <;> intro h14 F
  apply jb F; intro r15 h16 F
  have q22 {l} (z : HA Al l) := zB5 (ine_t h14) <| zl (G5 K x6.Msgs x9.Msgs _ h16) <| AB (ine_t h14) <| z
  apply jc F <;> intro h17 F
  exact lN2 (q18 <| q19 <| q20 <| q21 <| q22 <| zF (bnot_t h17) <| zi (wadd .i64 v3 1) <| z0) (ih _ _ F)
  apply jr F
  exact lE <| q18 <| q19 <| q20 <| q21 <| q22 <| zT (bnot_f h17) <| z0
  apply jr F
  exact lE <| q18 <| q19 <| q20 <| q21 <| EK (ine_f h14) <| zr1 <| z0
  apply jr F
  exact lE <| q18 <| q19 <| q20 <| AR (ine_f h13) <| zt6 <| zr2 <| z0
  apply jr F
  exact lE <| q18 <| q19 <| AR (ine_f h12) <| zt5 <| zr1 <| zt6 <| zr2 <| z0
  apply jr F
  exact lE <| q18 <| AR (ine_f h11) <| zt5 <| zr1 <| zt5 <| zr1 <| zt6 <| zr2 <| z0
  apply jr F
  exact lE <| zi (nl a1.Buf) <| zF h4 <| z0
def ET (K : Nat) (a1 : GWorker60) (a2 : GWorker60) : Nat → Int → Option ((Unit) ⊕ (Unit))
 | 0, _ => none
 | k + 1, v3 =>
  bif (ilt v3 (nlen (len a1.Coming))) then
   (bif (inr v3 (len a1.Coming)) then
   (elAt a1.Coming v3).bind fun x4 =>
   bif (inr v3 (len a2.Coming)) then
   (elAt a2.Coming v3).bind fun x5 =>
   bif (ieq x4.Epoch x5.Epoch) then
    ((F28 K x4.X x5.X).bind fun r6 =>
    bif r6 then
     (ET K a1 a2 k (wadd .i64 v3 1))
    else
    some (.inl ()))
   else
   some (.inl ())
   else none
   else none)
  else
  some (.inr ())
def J7 (a1 : GWorker60) (a2 : GWorker60) (v3 : Int) : TS := .on (kq 128 12 <| kq 192 12 <| kq 576 2 <| []) <| b6 128 a1 <| b6 192 a2 <| sq 576 [u0, (uI v3)] []
def KY (a1 : GWorker60) (a2 : GWorker60) (w3 : Unit) : TS := .on (kq 256 2 <| []) <| sq 256 [u0, (uB false)] []
def Mt (a1 : GWorker60) (a2 : GWorker60) (w3 : Unit) : TS := .on [] []
theorem Kj (K : Nat) (a1 : GWorker60) (a2 : GWorker60) : ∀ (k : Nat) (v3 : Int) (r : (Unit) ⊕ (Unit)), ET K a1 a2 k v3 = some r → (Sum.elim (fun w => LoopEv E H Al 4 HM (J7 a1 a2 v3) .ret (KY a1 a2 w)) (fun w => LoopEv E H Al 4 HM (J7 a1 a2 v3) (.exit 4) (Mt a1 a2 w))) r := by
 intro k
 induction k with
 | zero => intro v3 r F; cases F
 | succ k ih =>
  intro v3 r F
  rw [ET] at F
  apply jc F <;> intro h4 F
  apply jn F; intro h5 F
  apply jb F; intro x6 h7 F
  apply jn F; intro h8 F
  apply jb F; intro x9 h10 F
  have q15 {l} (z : HA Al l) := zi (nl a1.Coming) <| zT h4 <| zT h5 <| zU eGComing_len h7 0 1 <| zT h8 <| zU eGComing_len h10 0 1 <| z
  apply jc F <;> intro h11 F
  apply jb F; intro r12 h13 F
  have q16 {l} (z : HA Al l) := zB4 (ine_t h11) <| zT h5 <| zB2 (ine_t h11) <| zU eGComing_len h7 1 5 <| zB4 (ine_t h11) <| zT h8 <| zB2 (ine_t h11) <| zU eGComing_len h10 1 5 <| zB1 (ine_t h11) <| zl (G3 K x6.X x9.X _ h13) <| AB (ine_t h11) <| z
  apply jc F <;> intro h14 F
  exact lN2 (q15 <| q16 <| zF (bnot_t h14) <| zi (wadd .i64 v3 1) <| z0) (ih _ _ F)
  apply jr F
  exact lE <| q15 <| q16 <| zT (bnot_f h14) <| z0
  apply jr F
  exact lE <| q15 <| zA6 (ine_f h11) <| zA6 (ine_f h11) <| BS (ine_f h11) <| zr1 <| z0
  apply jr F
  exact lE <| zi (nl a1.Coming) <| zF h4 <| z0
def F15 (K : Nat) (a1 : GWorker60) (a2 : GWorker60) : Option (Bool) :=
 bif (ieq a1.Id a2.Id) then
  (bif (ieq a1.Goal a2.Goal) then
   (bif (ieq a1.Until a2.Until) then
    ((F35 K a1.T a2.T).bind fun r3 =>
    bif r3 then
     (bif (ieq (nlen (len a1.Held)) (nlen (len a2.Held))) then
      (bif (ieq (nlen (len a1.Buf)) (nlen (len a2.Buf))) then
       (bif (ieq (nlen (len a1.Coming)) (nlen (len a2.Coming))) then
        ((F36 K a1.Out a2.Out).bind fun r4 =>
        bif r4 then
         ((EH K a1 a2 K 0).bind fun y5 =>
         Sum.elim (fun w6 =>
          some false)
          (fun w7 =>
          (ER K a1 a2 K 0).bind fun y8 =>
          Sum.elim (fun w9 =>
           some false)
           (fun w10 =>
           (ET K a1 a2 K 0).bind fun y11 =>
           Sum.elim (fun w12 =>
            some false)
            (fun w13 =>
            some true) y11) y8) y5)
        else
        some false)
       else
       some false)
      else
      some false)
     else
     some false)
    else
    some false)
   else
   some false)
  else
  some false)
 else
 some false
theorem Kb (K : Nat) (a1 : GWorker60) (a2 : GWorker60) (r : Bool) (F : F15 K a1 a2 = some r) : Evt E H 15 [.agg (eGWorker60 a1), .agg (eGWorker60 a2)] (Pc r) := by
 rw [F15] at F
 apply jc F <;> intro h3 F
 have q27 {l} (z : HA Al l) := BP (ine_t h3) <| z
 apply jc F <;> intro h4 F
 have q28 {l} (z : HA Al l) := BP (ine_t h4) <| z
 apply jc F <;> intro h5 F
 apply jb F; intro r6 h7 F
 have q29 {l} (z : HA Al l) := zB5 (ine_t h5) <| zl (QU K a1.T a2.T _ h7) <| AB (ine_t h5) <| z
 apply jc F <;> intro h8 F
 have q30 {l} (z : HA Al l) := zB3 (bnot_t h8) <| zi (nl a1.Held) <| zB3 (bnot_t h8) <| zi (nl a2.Held) <| AB (bnot_t h8) <| z
 apply jc F <;> intro h9 F
 have q31 {l} (z : HA Al l) := zB3 (ine_t h9) <| zi (nl a1.Buf) <| zB3 (ine_t h9) <| zi (nl a2.Buf) <| AB (ine_t h9) <| z
 apply jc F <;> intro h10 F
 have q32 {l} (z : HA Al l) := zB3 (ine_t h10) <| zi (nl a1.Coming) <| zB3 (ine_t h10) <| zi (nl a2.Coming) <| AB (ine_t h10) <| z
 apply jc F <;> intro h11 F
 apply jb F; intro r12 h13 F
 have q33 {l} (z : HA Al l) := zB5 (ine_t h11) <| zl (N0 K a1.Out a2.Out _ h13) <| AB (ine_t h11) <| z
 apply jc F <;> intro h14 F
 apply jb F; intro y16 h15 F
 refine js F (fun w17 hx F => ?_) fun w18 hx F => ?_
 subst hx
 apply jr F
 exact fpC Al <| q27 <| q28 <| q29 <| q30 <| q31 <| q32 <| q33 <| zF (bnot_t h14) <| zo (Hi K a1 a2 K 0 _ h15) <| z0
 subst hx
 apply jb F; intro y20 h19 F
 refine js F (fun w21 hx F => ?_) fun w22 hx F => ?_
 subst hx
 apply jr F
 exact fpC Al <| q27 <| q28 <| q29 <| q30 <| q31 <| q32 <| q33 <| zF (bnot_t h14) <| zo (Hi K a1 a2 K 0 _ h15) <| zo (J1 K a1 a2 K 0 _ h19) <| z0
 subst hx
 have q34 {l} (z : HA Al l) := zF (bnot_t h14) <| zo (Hi K a1 a2 K 0 _ h15) <| zo (J1 K a1 a2 K 0 _ h19) <| z
 apply jb F; intro y24 h23 F
 refine js F (fun w25 hx F => ?_) fun w26 hx F => ?_
 subst hx
 apply jr F
 exact fpC Al <| q27 <| q28 <| q29 <| q30 <| q31 <| q32 <| q33 <| q34 <| zo (Kj K a1 a2 K 0 _ h23) <| z0
 subst hx
 apply jr F
 exact fpC Al <| q27 <| q28 <| q29 <| q30 <| q31 <| q32 <| q33 <| q34 <| zo (Kj K a1 a2 K 0 _ h23) <| z0
 apply jr F
 exact fpC Al <| q27 <| q28 <| q29 <| q30 <| q31 <| q32 <| q33 <| zT (bnot_f h14) <| z0
 apply jr F
 exact fpC Al <| q27 <| q28 <| q29 <| q30 <| q31 <| q32 <| EK (ine_f h11) <| zr1 <| z0
 apply jr F
 exact fpC Al <| q27 <| q28 <| q29 <| q30 <| q31 <| zA6 (ine_f h10) <| CQ (ine_f h10) <| zt6 <| zr2 <| z0
 apply jr F
 exact fpC Al <| q27 <| q28 <| q29 <| q30 <| zA6 (ine_f h9) <| CQ (ine_f h9) <| zt6 <| zt1 <| zr1 <| zt6 <| zr2 <| z0
 apply jr F
 exact fpC Al <| q27 <| q28 <| q29 <| zA6 (bnot_f h8) <| CQ (bnot_f h8) <| zt6 <| zt1 <| zr1 <| zt6 <| zt1 <| zr1 <| zt6 <| zr2 <| z0
 apply jr F
 exact fpC Al <| q27 <| q28 <| EK (ine_f h5) <| zt6 <| zt1 <| zr1 <| zt6 <| zt1 <| zr1 <| zt6 <| zt1 <| zr1 <| zt6 <| zr2 <| z0
 apply jr F
 exact fpC Al <| q27 <| AR (ine_f h4) <| zt6 <| zr1 <| zt6 <| zt1 <| zr1 <| zt6 <| zt1 <| zr1 <| zt6 <| zt1 <| zr1 <| zt6 <| zr2 <| z0
 apply jr F
 exact fpC Al <| AR (ine_f h3) <| zt5 <| zr1 <| zt6 <| zr1 <| zt6 <| zt1 <| zr1 <| zt6 <| zt1 <| zr1 <| zt6 <| zt1 <| zr1 <| zt6 <| zr2 <| z0
def GH (K : Nat) (a1 : Int) (a2 : Int) : Option (Int × Bool) :=
 bif (ieq a1 0) then
  (some (0, true))
 else
 bif (ieq a2 0) then
  (some (0, true))
 else
 bif (ieq a1 (-1)) then
  (bif (ieq a1 (-9223372036854775808)) then
   (some (0, false))
  else
  bif (ieq a2 (-9223372036854775808)) then
   (some (0, false))
  else
  some ((wmul .i64 a1 a2), true))
 else
 bif (ieq a2 (-1)) then
  (bif (ieq a1 (-9223372036854775808)) then
   (some (0, false))
  else
  bif (ieq a2 (-9223372036854775808)) then
   (some (0, false))
  else
  some ((wmul .i64 a1 a2), true))
 else
 bif (izero a2) then none else
 bif (ieq (wquo .i64 (wmul .i64 a1 a2) a2) a1) then
  (some ((wmul .i64 a1 a2), true))
 else
 some (0, false)
def GL (K : Nat) (a1 : Int) (a2 : Int) (a3 : Int) : Option (Int × Bool) :=
 bif (ilt a3 1) then
  (some (0, false))
 else
 (GH K a1 a2).bind fun r4 =>
 bif r4.2 then
  (bif (izero a3) then none else
  some ((wquo .i64 r4.1 a3), true))
 else
 some (0, false)
def Gi (K : Nat) (a1 : Int) (a2 : Int) : Option (Int × Bool) :=
 bif (ilt 0 a2) then
  (bif (ilt (wsub .i64 9223372036854775807 a2) a1) then
   (some (0, false))
  else
  bif (ilt a2 0) then
   (bif (ilt a1 (wsub .i64 (-9223372036854775808) a2)) then
    (some (0, false))
   else
   some ((wadd .i64 a1 a2), true))
  else
  some ((wadd .i64 a1 a2), true))
 else
 bif (ilt a2 0) then
  (bif (ilt a1 (wsub .i64 (-9223372036854775808) a2)) then
   (some (0, false))
  else
  some ((wadd .i64 a1 a2), true))
 else
 some ((wadd .i64 a1 a2), true)
def F76 (K : Nat) (a1 : Int) (a2 : Int) (a3 : GEdge) (a4 : Int) : Option (Int × Bool) :=
 bif (ieq a1 1) then
  ((Gi K a2 a3.W).bind fun r5 =>
  some (r5.1, r5.2))
 else
 bif (ieq a1 3) then
  ((Gi K a2 1).bind fun r6 =>
  some (r6.1, r6.2))
 else
 bif (ieq a1 5) then
  ((GL K a2 1 a4).bind fun r7 =>
  some (r7.1, r7.2))
 else
 some (a2, true)
def FU (K : Nat) (v1 : Int) (v2 : Int) (v3 : Int) (v4 : Int) (v5 : Int) (v6 : Bool) (v7 : List GEdge) : Nat → List GMsg → Int → Option ((Unit) ⊕ (List GMsg))
 | 0, _, _ => none
 | k + 1, v8, v9 =>
  bif (ilt v9 (nlen (len v7))) then
   (bif v6 then
    (bif (inr v9 (len v7)) then
    (elAt v7 v9).bind fun x10 =>
    (F76 K v2 v1 x10 (nlen (len v7))).bind fun r11 =>
    bif r11.2 then
     (bif (apok (len v8) 1 16) then
     FU K v1 v2 v3 v4 v5 v6 v7 k (appL v8 [(GMsg.mk x10.To r11.1)]) (wadd .i64 v9 1)
     else none)
    else
    some (.inl ())
    else none)
   else
   some (.inr v8))
  else
  some (.inr v8)
def GG (K : Nat) (v1 : Int) (v2 : Int) (v3 : Int) (v4 : Int) (v5 : Int) (v6 : List GEdge) : Nat → List GMsg → Int → Option ((Unit) ⊕ (List GMsg))
 | 0, _, _ => none
 | k + 1, v7, v8 =>
  bif (ilt v8 (nlen (len v6))) then
   (bif (inr v8 (len v6)) then
   (elAt v6 v8).bind fun x9 =>
   (F76 K v2 v1 x9 (nlen (len v6))).bind fun r10 =>
   bif r10.2 then
    (bif (apok (len v7) 1 16) then
    GG K v1 v2 v3 v4 v5 v6 k (appL v7 [(GMsg.mk x9.To r10.1)]) (wadd .i64 v8 1)
    else none)
   else
   some (.inl ())
   else none)
  else
  some (.inr v7)
def FL (K : Nat) (v1 : Int) (v2 : Int) (v3 : Int) (v4 : Int) (v5 : Int) (v6 : Bool) (v7 : List GEdge) : Nat → List GMsg → Int → Option ((Unit) ⊕ (List GMsg))
 | 0, _, _ => none
 | k + 1, v8, v9 =>
  bif (ilt v9 (nlen (len v7))) then
   (bif v6 then
    (bif (inr v9 (len v7)) then
    (elAt v7 v9).bind fun x10 =>
    (F76 K v2 v1 x10 (nlen (len v7))).bind fun r11 =>
    bif r11.2 then
     (bif (apok (len v8) 1 16) then
     FL K v1 v2 v3 v4 v5 v6 v7 k (appL v8 [(GMsg.mk x10.To r11.1)]) (wadd .i64 v9 1)
     else none)
    else
    some (.inl ())
    else none)
   else
   some (.inr v8))
  else
  some (.inr v8)
def G8 (K : Nat) (v1 : Int) (v2 : Int) (v3 : Int) (v4 : Int) (v5 : Int) (v6 : List GEdge) : Nat → List GMsg → Int → Option (((List GMsg)) ⊕ (Unit))
 | 0, _, _ => none
 | k + 1, v7, v8 =>
  bif (ilt v8 (nlen (len v6))) then
   (bif (ieq v1 v1) then
    (some (.inl v7))
   else
   bif (inr v8 (len v6)) then
   (elAt v6 v8).bind fun x9 =>
   (F76 K v2 v1 x9 (nlen (len v6))).bind fun r10 =>
   bif r10.2 then
    (bif (apok (len v7) 1 16) then
    G8 K v1 v2 v3 v4 v5 v6 k (appL v7 [(GMsg.mk x9.To r10.1)]) (wadd .i64 v8 1)
    else none)
   else
   some (.inr ())
   else none)
  else
  some (.inl v7)
def goI {α σ β : Type} (step : Nat → α → σ → (σ → Option β) → Option β) (fin : σ → Option β) : Nat → List α → σ → Option β
 | _, [], s => fin s
 | i, x :: r, s => step i x s (goI step fin (i + 1) r)
def goL {α σ β : Type} (step : α → σ → (σ → Option β) → Option β) (fin : σ → Option β) : List α → σ → Option β
 | [], s => fin s
 | x :: r, s => step x s (goL step fin r)
theorem Dx {α : Type} {l : List α} {i : Nat} {x : α} {r : List α} (h : l.drop i = x :: r) : i < l.length := by
 rcases Nat.lt_or_ge i l.length with g | g
 · exact g
 · rw [List.drop_eq_nil_of_le g] at h; cases h
theorem Bj {α σ β : Type} {l : List α} {L : Nat → σ → Int → Option β} (step : Nat → α → σ → (σ → Option β) → Option β) (fin : σ → Option β)
 (h : ∀ k s (i : Nat), i ≤ l.length → L (k + 1) s i = bif ilt i (nlen (len l)) then (bif inr i (len l) then (elAt l i).bind fun x => step i x s (fun s' => L k s' (wadd .i64 i 1)) else none) else fin s)
 (hl : l.length < 4611686018427387904) : ∀ (k : Nat) (s : σ) (i : Nat), l.length - i < k → i ≤ l.length → L k s i = goI step fin i (l.drop i) s := by
 intro k
 induction k with
 | zero => intro s i h; omega
 | succ k ih =>
  intro s i hk hi
  rw [h k s i hi]
  rcases G2 l i with ⟨x, e1, e2, e3, e4⟩ | ⟨e1, e2⟩
  · have hlt := Dx e1
    rw [e1, e2, e3, e4]
    simp only [cT, bS, goI]
    congr 1
    funext s'
    rw [FR om]
    exact ih s' (i + 1) om om
  · rw [e1, e2]; rfl
theorem Ao {α σ β : Type} {l : List α} {L : Nat → σ → Int → Option β} (step : α → σ → (σ → Option β) → Option β) (fin : σ → Option β)
 (h : ∀ k s (i : Nat), i ≤ l.length → L (k + 1) s i = bif ilt i (nlen (len l)) then (bif inr i (len l) then (elAt l i).bind fun x => step x s (fun s' => L k s' (wadd .i64 i 1)) else none) else fin s)
 (hl : l.length < 4611686018427387904) {K : Nat} (hK : l.length < K) (s : σ) : L K s 0 = goL step fin l s := by
 have e : ∀ (i : Nat) (r : List α) (s : σ), goI (fun _ => step) fin i r s = goL step fin r s := by
  intro i r
  induction r generalizing i with
  | nil => intro s; rfl
  | cons x r ih =>
   intro s
   simp only [goI, goL]
   congr 1
   funext s'
   exact ih (i + 1) s'
 have := Bj (fun _ => step) fin h hl K s 0 om om
 rw [e, List.drop_zero] at this
 exact this
theorem FT (a b : Int) : ilt a b = !(ile b a) := by
 unfold ilt ile
 by_cases h : a < b <;> simp [h] <;> omega
theorem Ai (a : Int) : ieq a a = true := by simp [ieq]
theorem Gu (a : Bool) : beqb a a = true := by cases a <;> rfl
theorem CJ {a b : Int} : ile a b = true ↔ a ≤ b := decide_eq_true_iff
theorem Ae {a b : Int} : ilt a b = true ↔ a < b := decide_eq_true_iff
theorem Ap {a b : Int} : ieq a b = true ↔ a = b := by simp [ieq]
theorem EE {a b : Int} : ile a b = false ↔ b < a := by simp [ile]
theorem Ac {a b : Int} : ilt a b = false ↔ b ≤ a := by simp [ilt]
theorem Aq {a b : Int} : ieq a b = false ↔ a ≠ b := by simp [ieq]
def B4 (n : Int) (e : GEdge) : Int :=
 bif ilt e.From 0 || ile n e.From || ilt e.To 0 || ile n e.To then 4 else bif ilt e.W 0 || ilt 4611686018427387904 e.W then 1 else 0
def B2 (d e : GEdge) : Int := bif ieq d.From e.From && ieq d.To e.To then 5 else bif ilt e.From d.From || (ieq d.From e.From && ilt e.To d.To) then 6 else 0
def B0 (n : Int) : Option GEdge → List GEdge → Int
 | _, [] => 0
 | prev, e :: r => bif ieq (B4 n e) 0 then (match prev with
  | none => B0 n (some e) r
  | some d => bif ieq (B2 d e) 0 then B0 n (some e) r else B2 d e) else B4 n e
def BW (g : GGraph) : Int := bif ilt g.N 1 || ilt 24 g.N then 1 else bif ilt 80 (nlen (len g.Edges)) then 3 else B0 g.N none g.Edges
def DP {α : Type} (l : List α) : Nat → Option α
 | 0 => none
 | i + 1 => l[i]?
theorem Mi {i : Nat} (h0 : 0 < i) (h : i < 4611686018427387904) : wsub .i64 (i : Int) 1 = ((i - 1 : Nat) : Int) := by
 show IntKind.i64.wrap ((i : Int) - 1) = _
 rw [IntKind.wrap_i64]; omega
theorem K7 {α : Type} {l : List α} {i : Nat} (h0 : 0 < i) (hi : i < l.length) (hl : l.length < 4611686018427387904) :
 ∃ d, DP l i = some d ∧ wsub .i64 (i : Int) 1 = ((i - 1 : Nat) : Int) ∧ inr ((i - 1 : Nat) : Int) (len l) = true ∧ elAt l ((i - 1 : Nat) : Int) = some d := by
 obtain ⟨j, rfl⟩ : ∃ j, i = j + 1 := ⟨i - 1, by omega⟩
 refine ⟨l[j], by simp [DP], Mi h0 om, decide_eq_true ⟨by omega, by show ((j + 1 - 1 : Nat) : Int) < (l.length : Int); omega⟩, ?_⟩
 rw [BB]
 simp
theorem Nb {α : Type} {l : List α} {i : Nat} {x : α} {r : List α} (h : l.drop i = x :: r) : DP l (i + 1) = some x ∧ l.drop (i + 1) = r ∧ i < l.length := by
 have hi := Dx h
 have := List.drop_eq_getElem_cons hi
 rw [h] at this
 injection this with a b
 exact ⟨by simp [DP, hi, a], b.symm, hi⟩
def DJ (v : Int) : Int ⊕ Unit := bif ieq v 0 then .inr () else .inl v
theorem OX (K : Nat) (e : GEdge) (n : Int) : F79 K e n = some (B4 n e) := by
 rw [F79, B4]
 cases ilt e.From 0 <;> cases ile n e.From <;> cases ilt e.To 0 <;> cases ile n e.To <;> cases ilt e.W 0 <;> cases ilt 4611686018427387904 e.W <;> rfl
theorem Ei {n : Int} {e : GEdge} (h : ieq (B4 n e) 0 = true) : 0 ≤ e.From ∧ e.From < n ∧ 0 ≤ e.To ∧ e.To < n ∧ 0 ≤ e.W ∧ e.W ≤ 4611686018427387904 := by
 rw [B4] at h
 cases h1 : ilt e.From 0 || ile n e.From || ilt e.To 0 || ile n e.To
 · cases h2 : ilt e.W 0 || ilt 4611686018427387904 e.W
   · simp only [Bool.or_eq_false_iff, Ac, EE] at h1 h2
     omega
   · rw [h1, h2] at h; cases h
 · rw [h1] at h; cases h
theorem Oz (K : Nat) {n : Int} {d e : GEdge} (hn : n ≤ 24) (hd : ieq (B4 n d) 0 = true) (he : ieq (B4 n e) 0 = true) :
 F80 K d e = some (bif ieq d.From e.From then d.To - e.To else d.From - e.From) := by
 have h1 := Ei hd
 have h2 := Ei he
 rw [F80]
 have e1 : wsub .i64 d.To e.To = d.To - e.To := by show IntKind.i64.wrap _ = _; rw [IntKind.wrap_i64]; omega
 have e2 : wsub .i64 d.From e.From = d.From - e.From := by show IntKind.i64.wrap _ = _; rw [IntKind.wrap_i64]; omega
 rw [e1, e2]
 cases ieq d.From e.From <;> rfl
theorem Qw {K : Nat} (hK : 100 ≤ K) (g : GGraph) (hl : g.Edges.length ≤ 80) (hn : g.N ≤ 24) : DT K g K 0 = some (DJ (B0 g.N none g.Edges)) := by
 let step : Nat → GEdge → Unit → (Unit → Option (Int ⊕ Unit)) → Option (Int ⊕ Unit) := fun i x _ c =>
  (F79 K x g.N).bind fun r => bif (ieq r 0) then (bif (ieq (i : Int) 0) then c () else bif (inr (wsub .i64 (i : Int) 1) (len g.Edges)) then
   (elAt g.Edges (wsub .i64 (i : Int) 1)).bind fun d => (F80 K d x).bind fun r => bif (ieq r 0) then (some (.inl 5)) else bif (ilt 0 r) then (some (.inl 6)) else c ()
   else none) else some (.inl r)
 let fin : Unit → Option (Int ⊕ Unit) := fun _ => some (.inr ())
 have h := Bj (l := g.Edges) (L := fun k (_ : Unit) i => DT K g k i) step fin (fun k st i hi => rfl) om K () 0 om om
 have hw : ∀ (r : List GEdge) (i : Nat), g.Edges.drop i = r → (∀ d, DP g.Edges i = some d → ieq (B4 g.N d) 0 = true) → (i = 0 ∨ i ≤ g.Edges.length) → goI step fin i r () = some (DJ (B0 g.N (DP g.Edges i) r)) := by
  intro r
  induction r with
  | nil => intro i _ _ _; rfl
  | cons x r ih =>
   intro i hr hp _
   obtain ⟨n1, n2, hi⟩ := Nb hr
   rw [goI]
   show ((F79 K x g.N).bind fun r' => bif (ieq r' 0) then (bif (ieq (i : Int) 0) then goI step fin (i + 1) r () else bif (inr (wsub .i64 (i : Int) 1) (len g.Edges)) then
    (elAt g.Edges (wsub .i64 (i : Int) 1)).bind fun d => (F80 K d x).bind fun r' => bif (ieq r' 0) then (some (.inl 5)) else bif (ilt 0 r') then (some (.inl 6)) else goI step fin (i + 1) r ()
    else none) else some (.inl r')) = _
   rw [OX, bS]
   cases hb : ieq (B4 g.N x) 0
   · have hne : B4 g.N x ≠ 0 := Aq.1 hb
     cases DP g.Edges i <;> simp only [B0, hb, cF, DJ]
   · have nx : goI step fin (i + 1) r () = some (DJ (B0 g.N (some x) r)) := by
      have := ih (i + 1) n2 (fun d hd => by rw [n1] at hd; cases hd; exact hb) (.inr om)
      rw [n1] at this; exact this
     rw [cT, nx]
     cases i with
     | zero =>
      have : ieq ((0 : Nat) : Int) 0 = true := rfl
      rw [this, cT]
      show _ = some (DJ (B0 g.N none (x :: r)))
      rw [B0, hb]; rfl
     | succ j =>
      obtain ⟨d, p1, p2, p3, p4⟩ := K7 (l := g.Edges) (i := j + 1) om hi om
      have hd := hp d p1
      have : ieq ((j + 1 : Nat) : Int) 0 = false := Aq.2 om
      rw [this, cF, p2, p3, cT, p4, bS, Oz K hn hd hb, bS, p1, B0, hb, cT]
      have b1 := Ei hd
      have b2 := Ei hb
      by_cases q1 : d.From = x.From
      · have i1 : ieq d.From x.From = true := Ap.2 q1
        rw [i1, cT]
        by_cases q2 : d.To = x.To
        · have o5 : B2 d x = 5 := by simp [B2, Ap.2 q1, Ap.2 q2]
          have : ieq (d.To - x.To) 0 = true := Ap.2 om
          rw [this, cT, o5]; rfl
        · have : ieq (d.To - x.To) 0 = false := Aq.2 om
          rw [this, cF]
          have j2 : ieq d.To x.To = false := Aq.2 q2
          by_cases q3 : x.To < d.To
          · have o6 : B2 d x = 6 := by simp [B2, i1, j2, Ae.2 q3]
            have : ilt 0 (d.To - x.To) = true := Ae.2 om
            rw [this, cT, o6]; rfl
          · have o0 : B2 d x = 0 := by simp [B2, i1, j2, Ac.2 (show d.To ≤ x.To by omega), Ac.2 (show d.From ≤ x.From by omega)]
            have : ilt 0 (d.To - x.To) = false := Ac.2 om
            rw [this, cF, o0]; rfl
      · have i1 : ieq d.From x.From = false := Aq.2 q1
        rw [i1, cF]
        have : ieq (d.From - x.From) 0 = false := Aq.2 om
        rw [this, cF]
        by_cases q3 : x.From < d.From
        · have o6 : B2 d x = 6 := by simp [B2, i1, Ae.2 q3]
          have : ilt 0 (d.From - x.From) = true := Ae.2 om
          rw [this, cT, o6]; rfl
        · have o0 : B2 d x = 0 := by simp [B2, i1, Ac.2 (show d.From ≤ x.From by omega)]
          have : ilt 0 (d.From - x.From) = false := Ac.2 om
          rw [this, cF, o0]; rfl
 have := hw g.Edges 0 rfl (fun d hd => by cases hd) (.inl rfl)
 rw [List.drop_zero, this] at h
 exact h
theorem PW (v : Int) : (some (DJ v)).bind (fun y => Sum.elim (fun w => some w) (fun w => some 0) y) = some v := by
 unfold DJ
 cases h : ieq v 0
 · rfl
 · have : v = 0 := Ap.1 h
   subst this; rfl
theorem Hw {K : Nat} (hK : 100 ≤ K) (g : GGraph) : F56 K g = some (BW g) := by
 rw [F56, BW]
 cases ilt g.N 1
 · cases h2 : ilt 24 g.N
   · cases h3 : ilt 80 (nlen (len g.Edges))
     · have hl : g.Edges.length ≤ 80 := by have := Ac.1 h3; simp only [nlen, len] at this; omega
       have hn := Ac.1 h2
       rw [Qw hK g hl hn]
       exact PW _
     · rfl
   · rfl
 · rfl
theorem Cl {g : GGraph} (h : ieq (BW g) 0 = true) : 1 ≤ g.N ∧ g.N ≤ 24 ∧ g.Edges.length ≤ 80 ∧ B0 g.N none g.Edges = 0 := by
 rw [BW] at h
 cases h1 : ilt g.N 1 || ilt 24 g.N
 · rw [h1, cF] at h
   cases h2 : ilt 80 (nlen (len g.Edges))
   · rw [h2, cF] at h
     simp only [Bool.or_eq_false_iff, Ac] at h1
     have := Ac.1 h2
     simp only [nlen, len] at this
     exact ⟨by omega, by omega, by omega, Ap.1 h⟩
   · rw [h2] at h; cases h
 · rw [h1] at h; cases h
theorem F8 {n : Int} : ∀ {l : List GEdge} {p : Option GEdge}, B0 n p l = 0 → ∀ e ∈ l, ieq (B4 n e) 0 = true
 | [], _, _, e, h => by cases h
 | x :: l, p, h, e, he => by
  unfold B0 at h
  cases hb : ieq (B4 n x) 0
  · rw [hb, cF] at h; rw [h] at hb; cases hb
  · rw [hb, cT] at h
    rcases List.mem_cons.1 he with q | q
    · subst q; exact hb
    · cases p with
      | none => exact F8 h e q
      | some d =>
       dsimp only at h
       cases ho : ieq (B2 d x) 0
       · rw [ho, cF] at h; rw [h] at ho; cases ho
       · rw [ho, cT] at h; exact F8 h e q
theorem AU : areFns [(fnV 81), (fnV 82), (fnV 83)] [81, 82, 83] = true := rfl
theorem AY : areFns [(fnV 81), (fnV 82), (fnV 83)] [81, 82, 85] = false := rfl
theorem Ba : areFns [(fnV 81), (fnV 82), (fnV 83)] [86, 82, 87] = false := rfl
theorem AX : areFns [(fnV 81), (fnV 82), (fnV 83)] [88, 89, 87] = false := rfl
theorem A5 : areFns [(fnV 81), (fnV 82), (fnV 83)] [90, 0, 87] = false := rfl
theorem Bd : areFns [(fnV 81), (fnV 82), (fnV 83)] [0, 0, 0] = false := rfl
theorem A3 : areFns [(fnV 81), (fnV 82), (fnV 85)] [81, 82, 83] = false := rfl
theorem Bn : areFns [(fnV 81), (fnV 82), (fnV 85)] [81, 82, 85] = true := rfl
theorem Be : areFns [(fnV 81), (fnV 82), (fnV 85)] [86, 82, 87] = false := rfl
theorem Bi : areFns [(fnV 81), (fnV 82), (fnV 85)] [88, 89, 87] = false := rfl
theorem Bh : areFns [(fnV 81), (fnV 82), (fnV 85)] [90, 0, 87] = false := rfl
theorem Bq : areFns [(fnV 81), (fnV 82), (fnV 85)] [0, 0, 0] = false := rfl
theorem A1 : areFns [(fnV 86), (fnV 82), (fnV 87)] [81, 82, 83] = false := rfl
theorem Br : areFns [(fnV 86), (fnV 82), (fnV 87)] [81, 82, 85] = false := rfl
theorem A4 : areFns [(fnV 86), (fnV 82), (fnV 87)] [86, 82, 87] = true := rfl
theorem Bs : areFns [(fnV 86), (fnV 82), (fnV 87)] [88, 89, 87] = false := rfl
theorem A9 : areFns [(fnV 86), (fnV 82), (fnV 87)] [90, 0, 87] = false := rfl
theorem Bo : areFns [(fnV 86), (fnV 82), (fnV 87)] [0, 0, 0] = false := rfl
theorem A8 : areFns [(fnV 88), (fnV 89), (fnV 87)] [81, 82, 83] = false := rfl
theorem Bp : areFns [(fnV 88), (fnV 89), (fnV 87)] [81, 82, 85] = false := rfl
theorem AS : areFns [(fnV 88), (fnV 89), (fnV 87)] [86, 82, 87] = false := rfl
theorem AW : areFns [(fnV 88), (fnV 89), (fnV 87)] [88, 89, 87] = true := rfl
theorem AZ : areFns [(fnV 88), (fnV 89), (fnV 87)] [90, 0, 87] = false := rfl
theorem Bx : areFns [(fnV 88), (fnV 89), (fnV 87)] [0, 0, 0] = false := rfl
theorem A6 : areFns [(fnV 90), .nilFunc, (fnV 87)] [81, 82, 83] = false := rfl
theorem A7 : areFns [(fnV 90), .nilFunc, (fnV 87)] [81, 82, 85] = false := rfl
theorem Bg : areFns [(fnV 90), .nilFunc, (fnV 87)] [86, 82, 87] = false := rfl
theorem Bv : areFns [(fnV 90), .nilFunc, (fnV 87)] [88, 89, 87] = false := rfl
theorem Bm : areFns [(fnV 90), .nilFunc, (fnV 87)] [90, 0, 87] = true := rfl
theorem Bf : areFns [(fnV 90), .nilFunc, (fnV 87)] [0, 0, 0] = false := rfl
theorem Bw : areFns [.nilFunc, .nilFunc, .nilFunc] [81, 82, 83] = false := rfl
theorem Bl : areFns [.nilFunc, .nilFunc, .nilFunc] [81, 82, 85] = false := rfl
theorem A0 : areFns [.nilFunc, .nilFunc, .nilFunc] [86, 82, 87] = false := rfl
theorem Bk : areFns [.nilFunc, .nilFunc, .nilFunc] [88, 89, 87] = false := rfl
theorem AV : areFns [.nilFunc, .nilFunc, .nilFunc] [90, 0, 87] = false := rfl
theorem Bc : areFns [.nilFunc, .nilFunc, .nilFunc] [0, 0, 0] = true := rfl
theorem Hf (K : Nat) : F57 K 1 = some (Grule.mk (fnV 81) (fnV 82) true (fnV 83), true) := rfl
theorem G9 (K : Nat) : F57 K 2 = some (Grule.mk (fnV 86) (fnV 82) false (fnV 87), true) := rfl
theorem Ho (K : Nat) : F57 K 3 = some (Grule.mk (fnV 81) (fnV 82) true (fnV 85), true) := rfl
theorem Gw (K : Nat) : F57 K 4 = some (Grule.mk (fnV 88) (fnV 89) false (fnV 87), true) := rfl
theorem GT (K : Nat) : F57 K 5 = some (Grule.mk (fnV 90) .nilFunc false (fnV 87), true) := rfl
theorem HK (K : Nat) {p : Int} (h : p < 1 ∨ 5 < p) : F57 K p = some (Grule.mk .nilFunc .nilFunc false .nilFunc, false) := by
 rw [F57, Aq.2 (by omega : p ≠ 1), Aq.2 (by omega : p ≠ 3), Aq.2 (by omega : p ≠ 2), Aq.2 (by omega : p ≠ 4), Aq.2 (by omega : p ≠ 5)]; rfl
theorem GV (p : Int) : p = 1 ∨ p = 2 ∨ p = 3 ∨ p = 4 ∨ p = 5 ∨ (p < 1 ∨ 5 < p) := by omega
def Ff (n : Int) (j : GJob) : Bool := ilt j.Source 0 || (ile n j.Source || (ilt j.Limit 0 || (ilt 40 j.Limit || (ilt j.Parts 1 || ilt 6 j.Parts))))
def Ar (p : Int) : Bool := ilt p 1 || ilt 5 p
def Am (g : GGraph) (j : GJob) : Int := bif ieq (BW g) 0 then (bif Ar j.Prog || Ff g.N j then 1 else 0) else BW g
theorem Fw (n : Int) (j : GJob) : (bif (ilt j.Source 0) then (some 1) else bif (ile n j.Source) then (some 1) else bif (ilt j.Limit 0) then (some 1) else bif (ilt 40 j.Limit) then (some 1) else bif (ilt j.Parts 1) then (some 1) else bif (ilt 6 j.Parts) then (some 1) else some 0) = some (bif Ff n j then 1 else 0 : Int) := by
 unfold Ff
 cases ilt j.Source 0 <;> cases ile n j.Source <;> cases ilt j.Limit 0 <;> cases ilt 40 j.Limit <;> cases ilt j.Parts 1 <;> cases ilt 6 j.Parts <;> rfl
theorem DR {K : Nat} (hK : 100 ≤ K) (g : GGraph) (j : GJob) : F31 K g j = some (Am g j) := by
 rw [F31, Hw hK, bS, Am]
 cases ieq (BW g) 0
 · rfl
 · rw [cT, cT]
   rcases GV j.Prog with h | h | h | h | h | h
   · have hb : Ar j.Prog = false := by rw [h]; rfl
     rw [hb, Bool.false_or, h, Hf]
     simp only [bS, cT, cF, AU, AY, Ba, AX, A5, Bd, A3, Bn, Be, Bi, Bh, Bq, A1, Br, A4, Bs, A9, Bo, A8, Bp, AS, AW, AZ, Bx, A6, A7, Bg, Bv, Bm, Bf, Bw, Bl, A0, Bk, AV, Bc, Fw]
   · have hb : Ar j.Prog = false := by rw [h]; rfl
     rw [hb, Bool.false_or, h, G9]
     simp only [bS, cT, cF, AU, AY, Ba, AX, A5, Bd, A3, Bn, Be, Bi, Bh, Bq, A1, Br, A4, Bs, A9, Bo, A8, Bp, AS, AW, AZ, Bx, A6, A7, Bg, Bv, Bm, Bf, Bw, Bl, A0, Bk, AV, Bc, Fw]
   · have hb : Ar j.Prog = false := by rw [h]; rfl
     rw [hb, Bool.false_or, h, Ho]
     simp only [bS, cT, cF, AU, AY, Ba, AX, A5, Bd, A3, Bn, Be, Bi, Bh, Bq, A1, Br, A4, Bs, A9, Bo, A8, Bp, AS, AW, AZ, Bx, A6, A7, Bg, Bv, Bm, Bf, Bw, Bl, A0, Bk, AV, Bc, Fw]
   · have hb : Ar j.Prog = false := by rw [h]; rfl
     rw [hb, Bool.false_or, h, Gw]
     simp only [bS, cT, cF, AU, AY, Ba, AX, A5, Bd, A3, Bn, Be, Bi, Bh, Bq, A1, Br, A4, Bs, A9, Bo, A8, Bp, AS, AW, AZ, Bx, A6, A7, Bg, Bv, Bm, Bf, Bw, Bl, A0, Bk, AV, Bc, Fw]
   · have hb : Ar j.Prog = false := by rw [h]; rfl
     rw [hb, Bool.false_or, h, GT]
     simp only [bS, cT, cF, AU, AY, Ba, AX, A5, Bd, A3, Bn, Be, Bi, Bh, Bq, A1, Br, A4, Bs, A9, Bo, A8, Bp, AS, AW, AZ, Bx, A6, A7, Bg, Bv, Bm, Bf, Bw, Bl, A0, Bk, AV, Bc, Fw]
   · have hb : Ar j.Prog = true := by
      unfold Ar
      rcases h with h | h
      · rw [Ae.2 h]; rfl
      · rw [Ae.2 h, Bool.or_true]
     rw [hb, Bool.true_or, HK K h]
     simp only [bS, cT, cF, AU, AY, Ba, AX, A5, Bd, A3, Bn, Be, Bi, Bh, Bq, A1, Br, A4, Bs, A9, Bo, A8, Bp, AS, AW, AZ, Bx, A6, A7, Bg, Bv, Bm, Bf, Bw, Bl, A0, Bk, AV, Bc]
theorem Co {g : GGraph} {j : GJob} (h : ieq (Am g j) 0 = true) : ieq (BW g) 0 = true ∧ 1 ≤ j.Prog ∧ j.Prog ≤ 5 ∧ 0 ≤ j.Source ∧ j.Source < g.N ∧ 0 ≤ j.Limit ∧ j.Limit ≤ 40 ∧ 1 ≤ j.Parts ∧ j.Parts ≤ 6 := by
 rw [Am] at h
 cases hg : ieq (BW g) 0
 · rw [hg, cF] at h; rw [h] at hg; cases hg
 · rw [hg, cT] at h
   cases hb : Ar j.Prog || Ff g.N j
   · simp only [Ar, Ff, Bool.or_eq_false_iff, Ac, EE] at hb
     obtain ⟨⟨h1, h2⟩, h3, h4, h5, h6, h7, h8⟩ := hb
     exact ⟨rfl, h1, h2, h3, h4, h5, h6, h7, h8⟩
   · rw [hb] at h; cases h
theorem FO {σ β : Type} {N : Int} {L : Nat → σ → Int → Option β} (step : Nat → σ → (σ → Option β) → Option β) (fin : σ → Option β)
 (h : ∀ k s (i : Nat), i ≤ N.toNat → L (k + 1) s i = bif ilt i N then step i s (fun s' => L k s' (wadd .i64 i 1)) else fin s) (hN : N ≤ 1000000) {K : Nat} (hK : N.toNat < K) (s : σ) :
 L K s 0 = goL step fin (List.range N.toNat) s := by
 have hw : ∀ (k : Nat) (s : σ) (i : Nat), N.toNat - i < k → i ≤ N.toNat → L k s i = goL step fin ((List.range N.toNat).drop i) s := by
  intro k
  induction k with
  | zero => intro s i h; omega
  | succ k ih =>
   intro s i hk hi
   rw [h k s i hi]
   by_cases hlt : i < N.toNat
   · have e : (List.range N.toNat).drop i = i :: (List.range N.toNat).drop (i + 1) := by
      rw [List.drop_eq_getElem_cons (by simpa using hlt)]; simp
     rw [Ae.2 (by omega : (i : Int) < N), cT, e, goL]
     congr 1
     funext s'
     rw [FR om]
     exact ih s' (i + 1) om om
   · have e : (List.range N.toNat).drop i = [] := List.drop_eq_nil_of_le (by simp; omega)
     rw [Ac.2 (by omega : N ≤ (i : Int)), cF, e]; rfl
 have := hw K s 0 om om
 rw [List.drop_zero] at this
 exact this
def AO (j : GJob) (v : Int) : Int := bif ilt v 0 || (ilt j.Parts 1 || ilt 6 j.Parts) then -1 else v % j.Parts
theorem HO {a b : Int} (h : 0 ≤ a) : wrem a b = a % b := by
 show Int.tmod _ _ = _
 exact Int.tmod_eq_emod_of_nonneg h
theorem J2 (K : Nat) (j : GJob) (v : Int) : F94 K j v = some (AO j v) := by
 rw [F94, AO]
 cases h0 : ilt v 0
 · cases h1 : ilt j.Parts 1
   · cases h2 : ilt 6 j.Parts
     · have v0 := Ac.1 h0
       have p1 := Ac.1 h1
       have hz : izero j.Parts = false := decide_eq_false om
       rw [hz, HO v0]; rfl
     · rfl
   · rfl
 · rfl
def C1 (n parts : Nat) (p : Int) : List Nat := (List.range n).filter fun v => ieq ((v % parts : Nat) : Int) p
def Au (g : GGraph) (j : GJob) (p : Int) : List Nat := C1 g.N.toNat j.Parts.toNat p
theorem MG : ∀ parts < 7, 0 < parts → ∀ n < 25, ∀ p < parts, ((List.range n).filter fun v => v % parts == p).length = (n + parts - 1 - p) / parts := by decide +kernel
def Bb (g : GGraph) (j : GJob) (p : Int) : Int := ((Au g j p).length : Int)
theorem Lq {n parts : Nat} (h1 : 0 < parts) (h2 : parts < 7) (hn : n < 25) {p : Nat} (hp : p < parts) : (C1 n parts (p : Int)).length = (n + parts - 1 - p) / parts := by
 rw [← MG parts h2 h1 n hn p hp, C1]
 congr 1
 refine List.filter_congr fun v _ => ?_
 rw [Bool.eq_iff_iff, Ap, beq_iff_eq]; omega
theorem HV {n parts : Nat} (h1 : 0 < parts) {p : Int} (hp : p < 0 ∨ (parts : Int) ≤ p) : C1 n parts p = [] := by
 rw [C1, List.filter_eq_nil_iff]
 intro v _ hc
 have := Ap.1 hc
 have := Nat.mod_lt v h1
 omega
theorem Ks {K : Nat} (hK : 100 ≤ K) (g : GGraph) (j : GJob) (p : Int) (hp : -9223372036854775808 ≤ p ∧ p ≤ 9223372036854775807) : E8 K g j p = some (bif ieq (Am g j) 0 then Bb g j p else 0) := by
 rw [E8, DR hK, bS]
 cases hc : ieq (Am g j) 0
 · rfl
 · obtain ⟨hg, p1, p2, p3, p4, p5, p6, p7, p8⟩ := Co hc
   obtain ⟨g1, g2, _, _⟩ := Cl hg
   rw [cT, cT, FV]
   cases h0 : ilt p 0
   · cases h1 : ile j.Parts p
     · have q0 := Ac.1 h0
       have q1 := EE.1 h1
       obtain ⟨q, rfl⟩ := Int.eq_ofNat_of_zero_le q0
       have hz : izero j.Parts = false := decide_eq_false om
       have e1 : wsub .i64 g.N (q : Int) = g.N - q := by show IntKind.i64.wrap _ = _; rw [IntKind.wrap_i64]; omega
       have e2 : wadd .i64 (g.N - q) j.Parts = g.N - q + j.Parts := by show IntKind.i64.wrap _ = _; rw [IntKind.wrap_i64]; omega
       have e3 : wsub .i64 (g.N - q + j.Parts) 1 = g.N - q + j.Parts - 1 := by show IntKind.i64.wrap _ = _; rw [IntKind.wrap_i64]; omega
       obtain ⟨n, hn⟩ := Int.eq_ofNat_of_zero_le (show 0 ≤ g.N by omega)
       obtain ⟨m, hm⟩ := Int.eq_ofNat_of_zero_le (show 0 ≤ j.Parts by omega)
       have hnum : g.N - (q : Int) + j.Parts - 1 = ((n + m - 1 - q : Nat) : Int) := by omega
       obtain ⟨d, hd⟩ : ∃ d, (n + m - 1 - q) / m = d := ⟨_, rfl⟩
       have e4 : wquo .i64 (g.N - q + j.Parts - 1) j.Parts = (d : Int) := by
        show IntKind.i64.wrap ((g.N - q + j.Parts - 1).tdiv j.Parts) = _
        rw [hnum, hm, Int.tdiv_eq_ediv_of_nonneg om]
        have hle : d ≤ n + m - 1 - q := hd ▸ Nat.div_le_self _ _
        have : (((n + m - 1 - q : Nat) : Int) / ((m : Nat) : Int)) = (d : Int) := by rw [← hd]; rfl
        rw [this, IntKind.wrap_i64]; omega
       have ecs : Bb g j (q : Int) = (d : Int) := by
        unfold Bb Au
        have a1 : g.N.toNat = n := by omega
        have a2 : j.Parts.toNat = m := by omega
        rw [a1, a2, Lq om om om om, hd]
       rw [cF, cF, hz, cF, e1, e2, e3, e4, bS, ecs]
       cases hpos : ilt 0 (d : Int)
       · have := Ac.1 hpos
         have : d = 0 := by omega
         rw [this]; rfl
       · rfl
     · have q1 := CJ.1 h1
       have : Bb g j p = 0 := by
        unfold Bb Au
        rw [HV om (.inr om)]; rfl
       rw [this]; rfl
   · have q0 := Ae.1 h0
     have : Bb g j p = 0 := by
      unfold Bb Au
      rw [HV om (.inl q0)]; rfl
     rw [this]; rfl
theorem N9 {g : GGraph} {j : GJob} (h1 : 1 ≤ j.Parts) {p : Int} {v : Nat} : v ∈ Au g j p ↔ (v : Int) < g.N ∧ (v : Int) % j.Parts = p := by
 obtain ⟨m, hm⟩ := Int.eq_ofNat_of_zero_le (show 0 ≤ j.Parts by omega)
 simp only [Au, C1, List.mem_filter, List.mem_range, Ap]
 have : j.Parts.toNat = m := by omega
 rw [this, hm]
 constructor
 · rintro ⟨a, b⟩; exact ⟨by omega, by rw [← b]; simp⟩
 · rintro ⟨a, b⟩; exact ⟨by omega, by rw [← b]; simp⟩
def CI (n parts p : Int) : Int → List GMsg → Bool
 | _, [] => true
 | prev, m :: r => ilt prev m.To && (ilt m.To n && (ieq (m.To % parts) p && CI n parts p m.To r))
def CA (b : Bool) : Unit ⊕ Unit := bif b then .inr () else .inl ()
theorem Lj (b : Bool) : (some (CA b)).bind (fun y => Sum.elim (fun w => some false) (fun w => some true) y) = some b := by cases b <;> rfl
theorem F4 {a b : Int} : ile a b = !(ilt b a) := by
 unfold ile ilt; by_cases h : b < a <;> simp [h] <;> omega
def Ay (g : GGraph) (j : GJob) (x : GPart) : Bool :=
 ieq (Am g j) 0 && (ile 0 x.P && (ilt x.P j.Parts && (ile 0 x.Step && (ile x.Step 40 && (ieq (x.Vals.length : Int) (Bb g j x.P) && (ieq (x.Rest.length : Int) (Bb g j x.P) && CI g.N j.Parts x.P (-1) x.In))))))
theorem OC {K : Nat} (g : GGraph) (j : GJob) (x : GPart) (hp : 1 ≤ j.Parts) (hl : x.In.length < 1000000) (hK : x.In.length < K) : EB K g j x K (-1) 0 = some (CA (CI g.N j.Parts x.P (-1) x.In)) := by
 let step : GMsg → Int → (Int → Option (Unit ⊕ Unit)) → Option (Unit ⊕ Unit) := fun m s c =>
  bif (ile m.To s) then (some (.inl ())) else bif (ile g.N m.To) then (some (.inl ())) else bif (izero j.Parts) then none else bif (ieq (wrem m.To j.Parts) x.P) then c m.To else some (.inl ())
 have h := Ao (l := x.In) (L := fun k s i => EB K g j x k s i) step (fun _ => some (.inr ())) (fun k s i _ => rfl) om (K := K) hK (-1)
 have hz : izero j.Parts = false := decide_eq_false om
 have hw : ∀ (l : List GMsg) (s : Int), -1 ≤ s → goL step (fun _ => some (.inr ())) l s = some (CA (CI g.N j.Parts x.P s l)) := by
  intro l
  induction l with
  | nil => intro s _; rfl
  | cons m l ih =>
   intro s hs
   rw [goL]
   show (bif (ile m.To s) then (some (.inl ())) else bif (ile g.N m.To) then (some (.inl ())) else bif (izero j.Parts) then none else bif (ieq (wrem m.To j.Parts) x.P) then goL step (fun _ => some (.inr ())) l m.To else some (.inl ())) = _
   rw [CI, hz, F4, F4]
   cases h1 : ilt s m.To
   · rfl
   · have h1' := Ae.1 h1
     rw [HO om, ih m.To om]
     cases ilt m.To g.N <;> cases ieq (m.To % j.Parts) x.P <;> rfl
 rw [hw _ _ om] at h
 exact h
theorem GX {K : Nat} (hK : 1000 ≤ K) (g : GGraph) (j : GJob) (x : GPart) (hl : x.In.length < 1000000) (hk : x.In.length < K) (hp : -9223372036854775808 ≤ x.P ∧ x.P ≤ 9223372036854775807) : F91 K g j x = some (Ay g j x) := by
 rw [F91, DR om, bS, Ay]
 cases hc : ieq (Am g j) 0
 · rfl
 · obtain ⟨hg, p1, p2, p3, p4, p5, p6, p7, p8⟩ := Co hc
   rw [cT, Ks om g j x.P hp, hc, OC g j x p7 hl hk]
   have n1 : nlen (len x.Vals) = (x.Vals.length : Int) := rfl
   have n2 : nlen (len x.Rest) = (x.Rest.length : Int) := rfl
   rw [FT x.P 0, F4 (a := j.Parts), FT x.Step 0, FT 40 x.Step, n1, n2, cT, bS, Lj]
   cases ile 0 x.P <;> cases ilt x.P j.Parts <;> cases ile 0 x.Step <;> cases ile x.Step 40 <;> cases ieq (x.Vals.length : Int) (Bb g j x.P) <;> cases ieq (x.Rest.length : Int) (Bb g j x.P) <;> rfl
theorem Gf (g : GGraph) (j : GJob) (hn : g.N ≤ 24) (p : Int) : (Au g j p).length ≤ 24 := by
 unfold Au C1
 refine Nat.le_trans (List.length_filter_le _ _) ?_
 simp; omega
theorem Du {α : Type} {l : List α} (eq : α → α → Option (Unit ⊕ Unit) → Option (Unit ⊕ Unit)) (he : ∀ x ∈ l, ∀ c, eq x x c = c) : ∀ (r : List α) (i : Nat), l.drop i = r →
 goI (fun i x (_ : Unit) c => bif inr (i : Int) (len l) then (elAt l (i : Int)).bind fun y => eq x y (c ()) else none) (fun _ => some (.inr ())) i r () = some (.inr ()) := by
 intro r
 induction r with
 | nil => intro i _; rfl
 | cons x r ih =>
  intro i hr
  have hi := Dx hr
  have hd := List.drop_eq_getElem_cons hi
  rw [hr] at hd
  injection hd with a b
  have e1 : inr (i : Int) (len l) = true := decide_eq_true ⟨by omega, by show (i : Int) < (l.length : Int); omega⟩
  have e2 : elAt l (i : Int) = some x := by rw [BB, a]; simp [hi]
  rw [goI, e1, e2, cT, bS, he x (by rw [a]; exact List.getElem_mem hi)]
  exact ih (i + 1) b.symm
theorem Lr {K : Nat} (l : List Int) (hl : l.length < 1000000) (hK : l.length < K) : F52 K l l = some true := by
 have h := Bj (l := l) (L := fun k (_ : Unit) i => Et K l l k i) (fun i x (_ : Unit) c => bif inr (i : Int) (len l) then (elAt l (i : Int)).bind fun y => bif ieq x y then c () else some (.inl ()) else none) (fun _ => some (.inr ())) (fun k st i hi => rfl) om K () 0 om om
 have g := Du (l := l) (fun x y c => bif ieq x y then c else some (.inl ())) (fun x _ c => by rw [Ai]; rfl) l 0 rfl
 have h' : Et K l l K 0 = some (.inr ()) := h.trans g
 rw [F52, Ai, h']; rfl
theorem Ku {K : Nat} (l : List Bool) (hl : l.length < 1000000) (hK : l.length < K) : F53 K l l = some true := by
 have h := Bj (l := l) (L := fun k (_ : Unit) i => Ek K l l k i) (fun i x (_ : Unit) c => bif inr (i : Int) (len l) then (elAt l (i : Int)).bind fun y => bif beqb x y then c () else some (.inl ()) else none) (fun _ => some (.inr ())) (fun k st i hi => rfl) om K () 0 om om
 have g := Du (l := l) (fun x y c => bif beqb x y then c else some (.inl ())) (fun x _ c => by rw [Gu]; rfl) l 0 rfl
 have h' : Ek K l l K 0 = some (.inr ()) := h.trans g
 rw [F53, Ai, h']; rfl
theorem Hn {K : Nat} (l : List GMsg) (hl : l.length < 1000000) (hK : l.length < K) : F37 K l l = some true := by
 have h := Bj (l := l) (L := fun k (_ : Unit) i => Eo K l l k i) (fun i x (_ : Unit) c => bif inr (i : Int) (len l) then (elAt l (i : Int)).bind fun y => bif ieq x.To y.To then (bif ieq x.V y.V then c () else some (.inl ())) else some (.inl ()) else none) (fun _ => some (.inr ())) (fun k st i hi => rfl) om K () 0 om om
 have g := Du (l := l) (fun x y c => bif ieq x.To y.To then (bif ieq x.V y.V then c else some (.inl ())) else some (.inl ())) (fun x _ c => by rw [Ai, Ai]; rfl) l 0 rfl
 have h' : Eo K l l K 0 = some (.inr ()) := h.trans g
 rw [F37, Ai, h']; rfl
def FM (K : Nat) (x : GPart) : Prop := (x.Vals.length < 1000000 ∧ x.Vals.length < K) ∧ (x.Rest.length < 1000000 ∧ x.Rest.length < K) ∧ x.In.length < 1000000 ∧ x.In.length < K
theorem GM {K : Nat} (x : GPart) (h : FM K x) : F28 K x x = some true := by
 rw [F28, Ai, Ai, Lr x.Vals h.1.1 h.1.2, Ku x.Rest h.2.1.1 h.2.1.2, Hn x.In h.2.2.1 h.2.2.2]; rfl
def leM (a b : GMsg) : Bool := ilt a.To b.To || (ieq a.To b.To && ile a.V b.V)
theorem E3 {a b : GMsg} : leM a b = true ↔ a.To < b.To ∨ a.To = b.To ∧ a.V ≤ b.V := by simp [leM, ilt, ieq, ile]
theorem Mp {a b : GMsg} : leM a b = false ↔ ¬ (a.To < b.To ∨ a.To = b.To ∧ a.V ≤ b.V) := by rw [← E3]; simp
theorem Ha {a b c : GMsg} (h : leM a b = true) (g : leM b c = true) : leM a c = true := by rw [E3] at *; omega
theorem ND {a b : GMsg} (h : leM a b = true) (g : leM b a = true) : a = b := by
 rw [E3] at h g
 cases a; cases b
 simp only [GMsg.mk.injEq]
 dsimp only at h g
 omega
theorem Ik {a b : GMsg} (h : leM a b = false) : leM b a = true := by rw [Mp] at h; rw [E3]; omega
def Cj (l : List GMsg) : Prop := l.Pairwise fun a b => leM a b = true
theorem Qb {l l' : List GMsg} (h : Cj l) (h' : Cj l') (hp : l.Perm l') : l = l' :=
 List.Perm.eq_of_pairwise (fun a b _ _ h1 h2 => ND h1 h2) h h' hp
def CM : List GMsg → GMsg → List GMsg → List GMsg
 | [], x, Q => x :: Q
 | y :: R, x, Q => bif leM y x then (y :: R).reverse ++ x :: Q else CM R x (y :: Q)
def As (l : List GMsg) : List GMsg := l.foldl (fun acc x => CM acc.reverse x []) []
theorem Ir (x : GMsg) : ∀ (R Q : List GMsg), (CM R x Q).Perm (R.reverse ++ x :: Q)
 | [], Q => List.Perm.refl _
 | y :: R, Q => by
  rw [CM]
  cases leM y x
  · refine (Ir x R (y :: Q)).trans ?_
    rw [List.reverse_cons, List.append_assoc]
    exact List.Perm.append_left _ (List.Perm.swap y x Q)
  · exact List.Perm.refl _
theorem Ih (x : GMsg) : ∀ (R Q : List GMsg), Cj (R.reverse ++ Q) → (∀ q ∈ Q, leM x q = true) → Cj (CM R x Q)
 | [], Q, h, hx => List.pairwise_cons.2 ⟨hx, h⟩
 | y :: R, Q, h, hx => by
  rw [CM]
  cases hy : leM y x
  · refine Ih x R (y :: Q) ?_ fun q hq => ?_
    · rw [List.reverse_cons, List.append_assoc] at h; exact h
    · rcases List.mem_cons.1 hq with e | e
      · subst e; exact Ik hy
      · exact hx q e
  · obtain ⟨h1, h2, h3⟩ := List.pairwise_append.1 h
    refine List.pairwise_append.2 ⟨h1, List.pairwise_cons.2 ⟨hx, h2⟩, fun a ha b hb => ?_⟩
    have hay : a = y ∨ leM a y = true := by
     rw [List.reverse_cons] at ha h1
     obtain ⟨_, _, h6⟩ := List.pairwise_append.1 h1
     rcases List.mem_append.1 ha with e | e
     · exact .inr (h6 a e y (by simp))
     · exact .inl (List.mem_singleton.1 e)
    rcases List.mem_cons.1 hb with e | e
    · subst e
      rcases hay with e | e
      · subst e; exact hy
      · exact Ha e hy
    · exact h3 a ha b e
theorem GB : ∀ (l acc : List GMsg), Cj acc → Cj (l.foldl (fun acc x => CM acc.reverse x []) acc) ∧ (l.foldl (fun acc x => CM acc.reverse x []) acc).Perm (acc ++ l)
 | [], acc, h => ⟨h, by simp⟩
 | x :: l, acc, h => by
  have h1 : Cj (CM acc.reverse x []) := Ih x acc.reverse [] (by simpa using h) (fun q hq => (nomatch hq))
  have h2 : (CM acc.reverse x []).Perm (acc ++ [x]) := by simpa using Ir x acc.reverse []
  obtain ⟨a, b⟩ := GB l _ h1
  refine ⟨a, b.trans ?_⟩
  have := h2.append_right l
  simpa using this
theorem Fh (l : List GMsg) : Cj (As l) := (GB l [] List.Pairwise.nil).1
theorem CB (l : List GMsg) : (As l).Perm l := by
 have := (GB l [] List.Pairwise.nil).2
 rwa [List.nil_append] at this
theorem DS (l : List GMsg) : (As l).length = l.length := (CB l).length_eq
theorem GK {l r : List GMsg} (h : Cj r) (hp : r.Perm l) : As l = r := Qb (Fh l) h ((CB l).trans hp.symm)
theorem LW {l l' : List GMsg} (hp : l.Perm l') : As l = As l' := GK (Fh l') ((CB l').trans hp.symm)
def i64 (n : Int) : Prop := -9223372036854775808 ≤ n ∧ n ≤ 9223372036854775807
theorem F2 {n : Int} (h : (Lit.int .i64 n).wf = true) : i64 n := bounds_i64 h
theorem Jl {a b : Int} (h : i64 (a * b)) : wmul .i64 a b = a * b := by
 show IntKind.i64.wrap (a * b) = _
 rw [IntKind.wrap_i64]; unfold i64 at h; omega
theorem Eb {a b : Int} (h : i64 (a + b)) : wadd .i64 a b = a + b := by
 show IntKind.i64.wrap (a + b) = _
 rw [IntKind.wrap_i64]; unfold i64 at h; omega
def AF (n : Int) : Bool := decide (-9223372036854775808 ≤ n) && decide (n ≤ 9223372036854775807)
theorem BG {n : Int} : AF n = true ↔ i64 n := by simp [AF, i64]
theorem CO {n : Int} : AF n = false ↔ n < -9223372036854775808 ∨ 9223372036854775807 < n := by
 cases h : AF n
 · have : ¬ i64 n := fun q => by rw [BG.2 q] at h; cases h
   unfold i64 at this
   simp only [true_iff]; omega
 · have := BG.1 h
   unfold i64 at this
   simp only [Bool.true_eq_false, false_iff]; omega
def BF (a b : Int) : Int × Bool := bif AF (a + b) then (a + b, true) else (0, false)
theorem Jb (K : Nat) {a b : Int} (ha : i64 a) (hb : i64 b) : Gi K a b = some (BF a b) := by
 unfold i64 at ha hb
 rw [Gi, BF]
 cases h1 : ilt 0 b
 · have b1 := Ac.1 h1
   cases h2 : ilt b 0
   · have b2 := Ac.1 h2
     have : b = 0 := by omega
     rw [BG.2 (by unfold i64; omega), Eb (by unfold i64; omega)]; rfl
   · have b2 := Ae.1 h2
     have ew : wsub .i64 (-9223372036854775808) b = -9223372036854775808 - b := by
      show IntKind.i64.wrap _ = _
      rw [IntKind.wrap_i64]; omega
     rw [cF, cT, ew]
     cases h3 : ilt a (-9223372036854775808 - b)
     · have := Ac.1 h3
       rw [BG.2 (by unfold i64; omega), Eb (by unfold i64; omega)]; rfl
     · have := Ae.1 h3
       rw [CO.2 om]; rfl
 · have b1 := Ae.1 h1
   have ew : wsub .i64 9223372036854775807 b = 9223372036854775807 - b := by
    show IntKind.i64.wrap _ = _
    rw [IntKind.wrap_i64]; omega
   rw [cT, ew, Ac.2 (by omega : (0 : Int) ≤ b), cF]
   cases h3 : ilt (9223372036854775807 - b) a
   · have := Ac.1 h3
     rw [BG.2 (by unfold i64; omega), Eb (by unfold i64; omega)]; rfl
   · have := Ae.1 h3
     rw [CO.2 om]; rfl
theorem FH (K : Nat) {a b : Int} (ha : i64 a) (hb : i64 b) : F84 K a b = some (BF a b) := by
 unfold i64 at ha hb
 have ew : wadd .i64 a b = bif AF (a + b) then a + b else bif ilt (a + b) 0 then a + b + 18446744073709551616 else a + b - 18446744073709551616 := by
  show IntKind.i64.wrap (a + b) = _
  rw [IntKind.wrap_i64]
  cases h : AF (a + b)
  · have := CO.1 h
    cases h2 : ilt (a + b) 0
    · have := Ac.1 h2; simp only [cF]; omega
    · have := Ae.1 h2; simp only [cF, cT]; omega
  · have := BG.1 h; unfold i64 at this; simp only [cT]; omega
 have eg : ∀ x : Int, ige x 0 = !(ilt x 0) := fun x => by
  unfold ige ilt
  by_cases h : x < 0 <;> simp [h] <;> omega
 rw [F84, BF, eg, eg, eg, ew]
 cases h : AF (a + b)
 · have h' := CO.1 h
   rcases h' with h' | h'
   · rw [Ae.2 (by omega : a < 0), Ae.2 (by omega : b < 0), Ae.2 (by omega : a + b < 0)]
     simp only [cF, cT]
     rw [Ac.2 (by omega : 0 ≤ a + b + 18446744073709551616)]; rfl
   · rw [Ac.2 (by omega : 0 ≤ a), Ac.2 (by omega : 0 ≤ b), Ac.2 (by omega : 0 ≤ a + b)]
     simp only [cF, cT]
     rw [Ae.2 (by omega : a + b - 18446744073709551616 < 0)]; rfl
 · simp only [cT]
   cases h1 : ilt a 0 <;> cases h2 : ilt b 0
   · rw [Ac.2 (by have := Ac.1 h1; have := Ac.1 h2; omega : 0 ≤ a + b)]; rfl
   · rfl
   · rfl
   · rw [Ae.2 (by have := Ae.1 h1; have := Ae.1 h2; omega : a + b < 0)]; rfl
def Az (p a b : Int) : Int × Int := bif Ar p then (0, 1) else bif ieq p 5 then (bif (BF a b).2 then ((BF a b).1, 0) else (0, 8)) else bif ieq p 4 then (bif ilt a b then (b, 0) else (a, 0)) else bif ilt b a then (b, 0) else (a, 0)
theorem Kh (K : Nat) (p : Int) {a b : Int} (ha : i64 a) (hb : i64 b) : Dd K p a b = some (Az p a b) := by
 rw [Dd]
 rcases GV p with q | q | q | q | q | q
 · subst q
   have e5 : ieq 1 5 = false := rfl
   have e4 : ieq 1 4 = false := rfl
   have eb : Ar 1 = false := rfl
   rw [Hf, Az, e5, e4, eb]
   simp only [bS, cT, cF, AU, AY, Ba, AX, A5, Bd, A3, Bn, Be, Bi, Bh, Bq, A1, Br, A4, Bs, A9, Bo, A8, Bp, AS, AW, AZ, Bx, A6, A7, Bg, Bv, Bm, Bf, Bw, Bl, A0, Bk, AV, Bc, F82]
   cases ilt b a <;> rfl
 · subst q
   have e5 : ieq 2 5 = false := rfl
   have e4 : ieq 2 4 = false := rfl
   have eb : Ar 2 = false := rfl
   rw [G9, Az, e5, e4, eb]
   simp only [bS, cT, cF, AU, AY, Ba, AX, A5, Bd, A3, Bn, Be, Bi, Bh, Bq, A1, Br, A4, Bs, A9, Bo, A8, Bp, AS, AW, AZ, Bx, A6, A7, Bg, Bv, Bm, Bf, Bw, Bl, A0, Bk, AV, Bc, F82]
   cases ilt b a <;> rfl
 · subst q
   have e5 : ieq 3 5 = false := rfl
   have e4 : ieq 3 4 = false := rfl
   have eb : Ar 3 = false := rfl
   rw [Ho, Az, e5, e4, eb]
   simp only [bS, cT, cF, AU, AY, Ba, AX, A5, Bd, A3, Bn, Be, Bi, Bh, Bq, A1, Br, A4, Bs, A9, Bo, A8, Bp, AS, AW, AZ, Bx, A6, A7, Bg, Bv, Bm, Bf, Bw, Bl, A0, Bk, AV, Bc, F82]
   cases ilt b a <;> rfl
 · subst q
   have e5 : ieq 4 5 = false := rfl
   have e4 : ieq 4 4 = true := rfl
   have eb : Ar 4 = false := rfl
   rw [Gw, Az, e5, e4, eb]
   simp only [bS, cT, cF, AU, AY, Ba, AX, A5, Bd, A3, Bn, Be, Bi, Bh, Bq, A1, Br, A4, Bs, A9, Bo, A8, Bp, AS, AW, AZ, Bx, A6, A7, Bg, Bv, Bm, Bf, Bw, Bl, A0, Bk, AV, Bc, F89, igt]
   have : decide (b > a) = ilt a b := rfl
   rw [this]
   cases ilt a b <;> rfl
 · subst q
   have e5 : ieq 5 5 = true := rfl
   have e4 : ieq 5 4 = false := rfl
   have eb : Ar 5 = false := rfl
   rw [GT, Az, e5, e4, eb]
   simp only [bS, cT, cF, AU, AY, Ba, AX, A5, Bd, A3, Bn, Be, Bi, Bh, Bq, A1, Br, A4, Bs, A9, Bo, A8, Bp, AS, AW, AZ, Bx, A6, A7, Bg, Bv, Bm, Bf, Bw, Bl, A0, Bk, AV, Bc, FH K ha hb]
   cases (BF a b).2 <;> rfl
 · have eb : Ar p = true := by
    unfold Ar
    rcases q with q | q
    · rw [Ae.2 q]; rfl
    · rw [Ae.2 q, Bool.or_true]
   rw [HK K q, Az, eb]
   simp only [bS, cT, cF, AU, AY, Ba, AX, A5, Bd, A3, Bn, Be, Bi, Bh, Bq, A1, Br, A4, Bs, A9, Bo, A8, Bp, AS, AW, AZ, Bx, A6, A7, Bg, Bv, Bm, Bf, Bw, Bl, A0, Bk, AV, Bc]
theorem Hq {p a b : Int} (ha : i64 a) (hb : i64 b) : i64 (Az p a b).1 := by
 have h0 : i64 0 := by unfold i64; omega
 rw [Az]
 cases Ar p
 · cases ieq p 5
   · cases ieq p 4
     · simp only [cF]
       cases ilt b a
       · exact ha
       · exact hb
     · simp only [cF, cT]
       cases ilt a b
       · exact ha
       · exact hb
   · simp only [cF, cT]
     unfold BF
     cases h : AF (a + b)
     · exact h0
     · exact BG.1 h
 · exact h0
theorem O0 (K : Nat) (y x : GMsg) : Fc K y x = some (!(leM x y)) := by
 rw [Fc, leM]
 cases h1 : ilt y.To x.To
 · cases h2 : ieq y.To x.To
   · have := Ac.1 h1; have := Aq.1 h2
     rw [Ae.2 (by omega : x.To < y.To)]; rfl
   · have e := Ap.1 h2
     rw [Ac.2 (by omega : y.To ≤ x.To), Ap.2 e.symm]
     simp only [cF, cT, Bool.false_or, Bool.true_and]
     congr 1
     cases h3 : ilt y.V x.V
     · rw [CJ.2 (by have := Ac.1 h3; omega)]; rfl
     · rw [EE.2 (by have := Ae.1 h3; omega)]; rfl
 · have := Ae.1 h1
   rw [Ac.2 (by omega : y.To ≤ x.To), Aq.2 (by omega : x.To ≠ y.To)]; rfl
theorem O1 {K : Nat} : ∀ (k : Nat) (a b c : List GMsg), a.length + b.length < k → a.length + b.length + c.length < 100000 → Cj (c ++ a) → Cj (c ++ b) →
 ∃ a' b' c', DK K k a b c = some (a', (b', c')) ∧ (c' ++ a' ++ b').Perm (c ++ a ++ b) ∧ Cj (c' ++ a' ++ b') := by
 intro k
 induction k with
 | zero => intro a b c h; omega
 | succ k ih =>
  intro a b c hk hl ha hb
  rw [DK]
  cases a with
  | nil => exact ⟨[], b, c, rfl, List.Perm.refl _, by simpa using hb⟩
  | cons x a =>
   cases b with
   | nil =>
    refine ⟨x :: a, [], c, ?_, List.Perm.refl _, by simpa using ha⟩
    rw [Ae.2 (show (0 : Int) < nlen (len (x :: a)) by show (0 : Int) < ((a.length + 1 : Nat) : Int); omega)]; rfl
   | cons y b =>
    simp only [List.length_cons] at hk hl
    have i1 : ilt 0 (nlen (len (x :: a))) = true := Ae.2 (by show (0 : Int) < ((a.length + 1 : Nat) : Int); omega)
    have i2 : ilt 0 (nlen (len (y :: b))) = true := Ae.2 (by show (0 : Int) < ((b.length + 1 : Nat) : Int); omega)
    have r1 : inr 0 (len (x :: a)) = true := decide_eq_true ⟨by omega, by show (0 : Int) < (((a.length + 1 : Nat)) : Int); omega⟩
    have r2 : inr 0 (len (y :: b)) = true := decide_eq_true ⟨by omega, by show (0 : Int) < (((b.length + 1 : Nat)) : Int); omega⟩
    have g1 : elAt (x :: a) 0 = some x := rfl
    have g2 : elAt (y :: b) 0 = some y := rfl
    have ap : apok (len c) 1 16 = true := decide_eq_true ⟨by show c.length + 1 ≤ _; omega, by show (c.length + 1) * 16 ≤ _; omega⟩
    have b1 : bnd 1 (nlen (len (x :: a))) (len (x :: a)) = true := by simp [bnd, nlen, len]; omega
    have b2 : bnd 1 (nlen (len (y :: b))) (len (y :: b)) = true := by simp [bnd, nlen, len]; omega
    have s1 : subL (x :: a) 1 (nlen (len (x :: a))) = a := by simp [subL, nlen, len]
    have s2 : subL (y :: b) 1 (nlen (len (y :: b))) = b := by simp [subL, nlen, len]
    rw [i1, i2, r1, r2, g1, g2, ap, b1, b2, s1, s2]
    simp only [cT, bS, O0]
    have ha' := List.pairwise_append.1 ha
    have hb' := List.pairwise_append.1 hb
    have hxa := List.pairwise_cons.1 ha'.2.1
    have hyb := List.pairwise_cons.1 hb'.2.1
    cases hxy : leM x y
    · have hyx := Ik hxy
      obtain ⟨a', b', c', e, p, q⟩ := ih (x :: a) b (c ++ [y]) (by simp; omega) (by simp; omega)
       (by
        refine List.pairwise_append.2 ⟨List.pairwise_append.2 ⟨hb'.1, List.pairwise_singleton _ _, fun u hu w hw => ?_⟩, ha'.2.1, fun u hu w hw => ?_⟩
        · rw [List.mem_singleton.1 hw]; exact hb'.2.2 u hu y List.mem_cons_self
        · rcases List.mem_append.1 hu with hu | hu
          · exact ha'.2.2 u hu w hw
          · rw [List.mem_singleton.1 hu]
            rcases List.mem_cons.1 hw with rfl | hw
            · exact hyx
            · exact Ha hyx (hxa.1 w hw))
       (by rw [List.append_assoc]; exact hb)
      refine ⟨a', b', c', e, p.trans ?_, q⟩
      have : (c ++ [y] ++ (x :: a) ++ b) = c ++ (y :: (x :: a)) ++ b := by simp
      rw [this, List.append_assoc, List.append_assoc]
      exact List.Perm.append_left c (List.perm_middle (l₁ := x :: a) (a := y) (l₂ := b)).symm
    · obtain ⟨a', b', c', e, p, q⟩ := ih a (y :: b) (c ++ [x]) (by simp; omega) (by simp; omega)
       (by rw [List.append_assoc]; exact ha)
       (by
        refine List.pairwise_append.2 ⟨List.pairwise_append.2 ⟨hb'.1, List.pairwise_singleton _ _, fun u hu w hw => ?_⟩, hb'.2.1, fun u hu w hw => ?_⟩
        · rw [List.mem_singleton.1 hw]; exact ha'.2.2 u hu x List.mem_cons_self
        · rcases List.mem_append.1 hu with hu | hu
          · exact hb'.2.2 u hu w hw
          · rw [List.mem_singleton.1 hu]
            rcases List.mem_cons.1 hw with rfl | hw
            · exact hxy
            · exact Ha hxy (hyb.1 w hw))
      refine ⟨a', b', c', e, p.trans ?_, q⟩
      have : (c ++ [x] ++ a ++ (y :: b)) = c ++ (x :: a) ++ (y :: b) := by simp
      rw [this]
theorem MM {K : Nat} : ∀ (d : Nat) (l : List GMsg), l.length < d → l.length < K → l.length < 10000 → D1 K d l = some (As l) := by
 intro d
 induction d with
 | zero => intro l h; omega
 | succ d ih =>
  intro l hd hK hl
  rw [D1]
  cases h2 : ilt (nlen (len l)) 2
  · have h2' : 2 ≤ l.length := by have := Ac.1 h2; simp only [nlen, len] at this; omega
    have hq : wquo .i64 (nlen (len l)) 2 = ((l.length / 2 : Nat) : Int) := by
     show IntKind.i64.wrap (((l.length : Nat) : Int).tdiv 2) = _
     rw [Int.tdiv_eq_ediv_of_nonneg om, IntKind.wrap_i64]; omega
    have b1 : bnd 0 ((l.length / 2 : Nat) : Int) (len l) = true := by simp [bnd, len]; omega
    have b2 : bnd ((l.length / 2 : Nat) : Int) (nlen (len l)) (len l) = true := by simp [bnd, len, nlen]; omega
    have s1 : subL l 0 ((l.length / 2 : Nat) : Int) = l.take (l.length / 2) := by simp [subL]; omega
    have s2 : subL l ((l.length / 2 : Nat) : Int) (nlen (len l)) = l.drop (l.length / 2) := by
     simp only [subL, nlen, len, Int.toNat_natCast]
     exact List.take_of_length_le (by rw [List.length_drop]; omega)
    have l1 : (l.take (l.length / 2)).length ≤ l.length / 2 := by rw [List.length_take]; omega
    have l2 : (l.drop (l.length / 2)).length = l.length - l.length / 2 := List.length_drop
    have mk : mkok 0 (nlen (len l)) 16 = true := by simp [mkok, nlen, len]; omega
    obtain ⟨a', b', c', e, p, q⟩ := O1 (K := K) K (As (l.take (l.length / 2))) (As (l.drop (l.length / 2))) [] (by rw [DS, DS]; omega) (by rw [DS, DS]; simp only [List.length_nil]; omega) (by simpa using Fh _) (by simpa using Fh _)
    have er : repL (α := GMsg) 0 (GMsg.mk 0 0) = [] := rfl
    have pl : (c' ++ a' ++ b').Perm l := p.trans (by
     rw [List.nil_append]
     have := (CB (l.take (l.length / 2))).append (CB (l.drop (l.length / 2)))
     rwa [List.take_append_drop] at this)
    have ln := pl.length_eq
    rw [List.length_append, List.length_append] at ln
    have a1 : apok (len c') (len a') 16 = true := decide_eq_true ⟨by show c'.length + a'.length ≤ _; omega, by show (c'.length + a'.length) * 16 ≤ _; omega⟩
    have a2 : apok (len (appL c' a')) (len b') 16 = true := decide_eq_true ⟨by show (c' ++ a').length + b'.length ≤ _; rw [List.length_append]; omega, by show ((c' ++ a').length + b'.length) * 16 ≤ _; rw [List.length_append]; omega⟩
    rw [cF, hq, b1, b2, s1, s2, ih _ om om om, ih _ om om om, mk, er]
    simp only [cT, bS, e, a1, a2]
    rw [GK q pl]; rfl
  · have h2' : l.length < 2 := by have := Ae.1 h2; simp only [nlen, len] at this; omega
    have ap : apok 0 (len l) 16 = true := decide_eq_true ⟨by show 0 + l.length ≤ _; omega, by show (0 + l.length) * 16 ≤ _; omega⟩
    rw [cT, ap, cT]
    congr 1
    rw [GK (l := l) (r := l) ?_ (List.Perm.refl l)]; rfl
    match l, h2' with
    | [], _ => exact List.Pairwise.nil
    | [x], _ => exact List.pairwise_singleton _ _
theorem IX {K : Nat} (l : List GMsg) (hK : l.length < K) (hl : l.length < 10000) : Ep K l = some (As l) := by
 rw [Ep, MM K l hK hK hl]; rfl
def CF (p : Int) : List GMsg → GMsg → List GMsg → Int ⊕ List GMsg
 | [], cur, done => .inr (done ++ [cur])
 | x :: r, cur, done => bif ieq cur.To x.To then (bif ieq (Az p cur.V x.V).2 0 then CF p r (GMsg.mk cur.To (Az p cur.V x.V).1) done else .inl (Az p cur.V x.V).2) else CF p r x (done ++ [cur])
def Fq (p : Int) : List GMsg → List GMsg → Int ⊕ List GMsg
 | [], done => .inr done
 | x :: r, done => CF p r x done
def KH : Int ⊕ List GMsg → List GMsg × Int
 | .inl e => ([], e)
 | .inr s => (s, 0)
def An (p : Int) (l : List GMsg) : List GMsg × Int := bif Ar p then ([], 1) else KH (Fq p (As l) [])
theorem Kl {α : Type} (d : List α) (c x : α) : inr (wsub .i64 (nlen (len (d ++ [c]))) 1) (len (d ++ [c])) = true ∧ (d.length < 1000000 → elAt (d ++ [c]) (wsub .i64 (nlen (len (d ++ [c]))) 1) = some c ∧ putAt (d ++ [c]) (wsub .i64 (nlen (len (d ++ [c]))) 1) x = d ++ [x]) ∨ ¬ d.length < 1000000 := by
 by_cases h : d.length < 1000000
 · left
   have w : wsub .i64 (nlen (len (d ++ [c]))) 1 = ((d.length : Nat) : Int) := by
    show IntKind.i64.wrap (((d ++ [c]).length : Int) - 1) = _
    rw [List.length_append, IntKind.wrap_i64]; simp; omega
   rw [w]
   refine ⟨decide_eq_true ⟨by omega, by show (d.length : Int) < ((d ++ [c]).length : Int); simp; omega⟩, fun _ => ⟨by rw [BB]; simp, ?_⟩⟩
   unfold putAt
   rw [Int.toNat_natCast, List.set_append_right (h := by omega)]; simp
 · right; exact h
theorem JG {K : Nat} (p : Int) (l : List GMsg) (hv : ∀ x ∈ l, i64 x.V) (hK : l.length < K) (hl : l.length < 10000) : F95 K p l = some (An p l) := by
 have i0 : i64 0 := by unfold i64; omega
 have hz : (Az p 0 0).2 = bif Ar p then 1 else 0 := by
  rw [Az]
  cases Ar p
  · have : BF 0 0 = (0, true) := rfl
    have e : ilt 0 0 = false := rfl
    rw [this, e]
    cases ieq p 5 <;> cases ieq p 4 <;> rfl
  · rfl
 rw [F95, Kh K p i0 i0, bS, hz, An, IX l hK hl]
 cases hb : Ar p
 · let step : GMsg → List GMsg → (List GMsg → Option (Int ⊕ List GMsg)) → Option (Int ⊕ List GMsg) := fun x s c =>
    bif (ilt 0 (nlen (len s))) then
     (bif (inr (wsub .i64 (nlen (len s)) 1) (len s)) then
     (elAt s (wsub .i64 (nlen (len s)) 1)).bind fun y =>
     bif (ieq y.To x.To) then
      ((Dd K p y.V x.V).bind fun r =>
      bif (ieq r.2 0) then
       (c (putAt s (wsub .i64 (nlen (len s)) 1) (GMsg.mk y.To r.1)))
      else
      some (.inl r.2))
     else
     bif (apok (len s) 1 16) then
     c (appL s [x])
     else none
     else none)
    else
    bif (apok (len s) 1 16) then
    c (appL s [x])
    else none
   have hsl : (As l).length = l.length := DS l
   have h := Ao (l := As l) (L := fun k s i => C5 K p (As l) k s i) step (fun s => some (.inr s)) (fun k s i _ => rfl) om (K := K) om []
   have hw : ∀ (r : List GMsg) (d : List GMsg) (c : GMsg), d.length + r.length < 100000 → i64 c.V → (∀ x ∈ r, i64 x.V) → goL step (fun s => some (.inr s)) r (d ++ [c]) = some (CF p r c d) := by
    intro r
    induction r with
    | nil => intro d c _ _ _; rfl
    | cons x r ih =>
     intro d c hd hc hr
     simp only [List.length_cons] at hd
     have hx := hr x List.mem_cons_self
     have hr' := fun y hy => hr y (List.mem_cons_of_mem _ hy)
     rw [goL]
     show (bif (ilt 0 (nlen (len (d ++ [c])))) then
      (bif (inr (wsub .i64 (nlen (len (d ++ [c]))) 1) (len (d ++ [c]))) then
      (elAt (d ++ [c]) (wsub .i64 (nlen (len (d ++ [c]))) 1)).bind fun y =>
      bif (ieq y.To x.To) then
       ((Dd K p y.V x.V).bind fun q =>
       bif (ieq q.2 0) then
        (goL step (fun s => some (.inr s)) r (putAt (d ++ [c]) (wsub .i64 (nlen (len (d ++ [c]))) 1) (GMsg.mk y.To q.1)))
       else
       some (.inl q.2))
      else
      bif (apok (len (d ++ [c])) 1 16) then
      goL step (fun s => some (.inr s)) r (appL (d ++ [c]) [x])
      else none
      else none)
     else
     bif (apok (len (d ++ [c])) 1 16) then
     goL step (fun s => some (.inr s)) r (appL (d ++ [c]) [x])
     else none) = _
     have i1 : ilt 0 (nlen (len (d ++ [c]))) = true := Ae.2 (by show (0 : Int) < ((d ++ [c]).length : Int); rw [List.length_append]; simp only [List.length_singleton]; omega)
     have ap : apok (len (d ++ [c])) 1 16 = true := decide_eq_true ⟨by show (d ++ [c]).length + 1 ≤ _; rw [List.length_append]; simp only [List.length_singleton]; omega, by show ((d ++ [c]).length + 1) * 16 ≤ _; rw [List.length_append]; simp only [List.length_singleton]; omega⟩
     rcases Kl d c (GMsg.mk c.To (Az p c.V x.V).1) with ⟨q1, q2⟩ | q
     · obtain ⟨q2, q3⟩ := q2 om
       rw [i1, q1, q2, ap]
       simp only [cT, bS, Kh K p hc hx, q3]
       rw [CF]
       cases ieq c.To x.To
       · rw [cF, cF]
         exact ih (d ++ [c]) x (by rw [List.length_append]; simp only [List.length_singleton]; omega) hx hr'
       · rw [cT, cT]
         cases ieq (Az p c.V x.V).2 0
         · rfl
         · rw [cT, cT]
           exact ih d _ om (Hq hc hx) hr'
     · omega
   have h' : C5 K p (As l) K [] 0 = some (Fq p (As l) []) := by
    rw [show C5 K p (As l) K [] 0 = _ from h]
    have hs : ∀ x ∈ As l, i64 x.V := fun x hx => hv x ((CB l).mem_iff.1 hx)
    generalize As l = m at *
    cases m with
    | nil => rfl
    | cons x r =>
     rw [goL]
     show goL step (fun s => some (.inr s)) r (appL [] [x]) = _
     simp only [List.length_cons] at hsl
     exact hw r [] x (by simp only [List.length_nil]; omega) (hs x List.mem_cons_self) (fun y hy => hs y (List.mem_cons_of_mem _ hy))
   have z0 : ieq (bif false then 1 else 0) 0 = true := rfl
   rw [z0, cT, bS, h', bS]
   cases Fq p (As l) [] <;> rfl
 · rfl
def atS (l : List GMsg) (v : Int) : Int × Bool := match l.find? (fun m => ieq m.To v) with
 | some m => (m.V, true)
 | none => (0, false)
def QV : Option GMsg → Int ⊕ Unit
 | some m => .inl m.V
 | none => .inr ()
theorem Lv (l : List GMsg) (v : Int) : goL (fun (x : GMsg) (_ : Unit) c => bif ieq x.To v then some (.inl x.V) else c ()) (fun _ => some (.inr ())) l () = (some (QV (l.find? fun m => ieq m.To v)) : Option (Int ⊕ Unit)) := by
 induction l with
 | nil => rfl
 | cons x l ih =>
  rw [goL, List.find?_cons]
  cases h : ieq x.To v
  · exact ih
  · rfl
theorem NZ {K : Nat} (l : List GMsg) (v : Int) (hl : l.length < 100000) (hK : l.length < K) : F92 K l v = some (atS l v) := by
 have e : Ey K l v K 0 = _ := Ao (l := l) (L := fun k (_ : Unit) i => Ey K l v k i) (fun x _ c => bif ieq x.To v then some (.inl x.V) else c ()) (fun _ => some (.inr ())) (fun k s i _ => rfl) om hK ()
 rw [F92, e, Lv, atS]
 cases l.find? fun m => ieq m.To v <;> rfl
theorem Ix {l : List GMsg} {v : Int} (h : ∀ x ∈ l, i64 x.V) : i64 (atS l v).1 := by
 rw [atS]
 cases hq : l.find? fun m => ieq m.To v with
 | none => show i64 0; unfold i64; omega
 | some m => exact h m (List.mem_of_find?_eq_some hq)
def Cr : Nat → Nat → Nat → Nat → List Nat
 | 0, _, _, _ => []
 | k + 1, n, parts, v => if v < n then v :: Cr k n parts (v + parts) else []
theorem Pz : ∀ parts < 7, 0 < parts → ∀ n < 25, ∀ p < parts, Cr 30 n parts p = (List.range n).filter fun v => v % parts == p := by decide +kernel
theorem MV {n parts : Nat} (h1 : 0 < parts) (h2 : parts < 7) (hn : n < 25) {p : Nat} (hp : p < parts) : Cr 30 n parts p = C1 n parts (p : Int) := by
 rw [Pz parts h2 h1 n hn p hp, C1]
 refine List.filter_congr fun v _ => ?_
 rw [Bool.eq_iff_iff, Ap, beq_iff_eq]; omega
theorem Dl {g : GGraph} {j : GJob} {x : GPart} (h : Ay g j x = true) : ieq (Am g j) 0 = true ∧ 0 ≤ x.P ∧ x.P < j.Parts ∧ 0 ≤ x.Step ∧ x.Step ≤ 40 ∧ (x.Vals.length : Int) = Bb g j x.P ∧ (x.Rest.length : Int) = Bb g j x.P ∧ CI g.N j.Parts x.P (-1) x.In = true := by
 simp only [Ay, Bool.and_eq_true, CJ, Ae, Ap] at h
 obtain ⟨h1, h2, h3, h4, h5, h6, h7, h8⟩ := h
 exact ⟨Ap.2 h1, h2, h3, h4, h5, h6, h7, h8⟩
theorem Gl {n parts p : Int} : ∀ {l : List GMsg} {v : Int}, CI n parts p v l = true → l.Pairwise (fun a b => a.To < b.To) ∧ (∀ m ∈ l, v < m.To ∧ m.To < n ∧ m.To % parts = p)
 | [], v, _ => ⟨List.Pairwise.nil, fun m h => (nomatch h)⟩
 | m :: l, v, h => by
  simp only [CI, Bool.and_eq_true, Ae, Ap] at h
  obtain ⟨h1, h2, h3, h4⟩ := h
  obtain ⟨a, b⟩ := Gl h4
  refine ⟨List.pairwise_cons.2 ⟨fun x hx => (b x hx).1, a⟩, fun x hx => ?_⟩
  rcases List.mem_cons.1 hx with e | e
  · subst e; exact ⟨h1, h2, h3⟩
  · have := b x e; exact ⟨by omega, this.2⟩
theorem JQ {n parts p : Int} : ∀ {l : List GMsg} {v : Int}, l.Pairwise (fun a b => a.To < b.To) → (∀ m ∈ l, v < m.To ∧ m.To < n ∧ m.To % parts = p) → CI n parts p v l = true
 | [], _, _, _ => rfl
 | m :: l, v, h, hm => by
  obtain ⟨a, b⟩ := List.pairwise_cons.1 h
  have h1 := hm m List.mem_cons_self
  rw [CI, Ae.2 h1.1, Ae.2 h1.2.1, Ap.2 h1.2.2]
  exact JQ b fun x hx => ⟨a x hx, (hm x (List.mem_cons_of_mem _ hx)).2⟩
def BN : GPart := GPart.mk 0 0 [] [] []
def Cg (n parts p : Int) (l : List GMsg) : Bool := l.all fun m => ile 0 m.To && (ilt m.To n && ieq (m.To % parts) p)
def Fr (j : GJob) (x : GPart) (l : List GMsg) : GPart × Int := bif ieq (An j.Prog l).2 0 then (GPart.mk x.P x.Step x.Vals x.Rest (An j.Prog l).1, 0) else (BN, (An j.Prog l).2)
def AQ (g : GGraph) (j : GJob) (x : GPart) (l : List GMsg) : GPart × Int :=
 bif ieq (Am g j) 0 then (bif Ay g j x then (bif ieq (nlen (len x.In)) 0 then (bif Cg g.N j.Parts x.P l then Fr j x l else (BN, 1)) else (BN, 1)) else (BN, 1)) else (BN, Am g j)
theorem K4 {n parts p : Int} {l l' : List GMsg} (h : l.Perm l') : Cg n parts p l = Cg n parts p l' := by
 rw [Bool.eq_iff_iff]
 simp only [Cg, List.all_eq_true]
 exact ⟨fun q m hm => q m (h.mem_iff.2 hm), fun q m hm => q m (h.mem_iff.1 hm)⟩
theorem Pt {p : Int} {l l' : List GMsg} (h : l.Perm l') : An p l = An p l' := by
 rw [An, An, LW h]
theorem NX {K : Nat} (ls : List (List GMsg)) (h1 : ls.length < 10000) (h2 : ls.length < K) (h3 : (ls.flatten).length < 10000) (h4 : (ls.flatten).length < K) : F98 K ls = some (As ls.flatten) := by
 let step : List GMsg → List GMsg → (List GMsg → Option (List GMsg)) → Option (List GMsg) := fun x a c => bif (apok (len a) (len x) 16) then c (appL a x) else none
 have h := Ao (l := ls) (L := fun k s i => Eg K ls k s i) step (fun s => some s) (fun k s i _ => rfl) om h2 []
 have hw : ∀ (r : List (List GMsg)) (a : List GMsg), a.length + r.flatten.length < 100000 → goL step (fun s => some s) r a = some (a ++ r.flatten) := by
  intro r
  induction r with
  | nil => intro a _; simp [goL]
  | cons x r ih =>
   intro a ha
   rw [List.flatten_cons, List.length_append] at ha
   rw [goL]
   show (bif (apok (len a) (len x) 16) then goL step (fun s => some s) r (appL a x) else none) = _
   have ap : apok (len a) (len x) 16 = true := decide_eq_true ⟨by show a.length + x.length ≤ _; omega, by show (a.length + x.length) * 16 ≤ _; omega⟩
   rw [ap, cT, ih _ (by simp only [appL, List.length_append]; omega)]; simp [appL]
 rw [hw ls [] (by simp only [List.length_nil]; omega), List.nil_append] at h
 have h' : Eg K ls K [] 0 = some ls.flatten := h
 rw [F98, h', bS, IX _ h4 h3]; rfl
theorem Nq {K : Nat} (g : GGraph) (j : GJob) (x : GPart) (l : List GMsg) (hp : 1 ≤ j.Parts) (h6 : j.Parts ≤ 6) (h0 : 0 ≤ x.P) (hl : l.length < 1000000) (hK : l.length < K) : EQ K g j x l K 0 = some (CA (Cg g.N j.Parts x.P l)) := by
 let step : GMsg → Unit → (Unit → Option (Unit ⊕ Unit)) → Option (Unit ⊕ Unit) := fun m _ c =>
  bif (ile g.N m.To) then (some (.inl ())) else (F94 K j m.To).bind fun r => bif (ieq r x.P) then c () else some (.inl ())
 have h := Ao (l := l) (L := fun k (_ : Unit) i => EQ K g j x l k i) step (fun _ => some (.inr ())) (fun k s i _ => rfl) om (K := K) hK ()
 have hw : ∀ (r : List GMsg), goL step (fun _ => some (.inr ())) r () = some (CA (Cg g.N j.Parts x.P r)) := by
  intro r
  induction r with
  | nil => rfl
  | cons m r ih =>
   rw [goL]
   show (bif (ile g.N m.To) then (some (.inl ())) else (F94 K j m.To).bind fun r' => bif (ieq r' x.P) then goL step (fun _ => some (.inr ())) r () else some (.inl ())) = _
   rw [J2, ih, bS, F4, AO, Ac.2 hp, Ac.2 h6, Cg, Cg, List.all_cons, FT m.To 0]
   cases h1 : ilt m.To g.N
   · cases ile 0 m.To <;> rfl
   · cases h2 : ile 0 m.To
     · rw [Bool.not_false, Bool.true_or, cT, Aq.2 (by omega : (-1 : Int) ≠ x.P)]; rfl
     · simp only [Bool.not_true, Bool.false_or, cF, Bool.true_and]
       cases ieq (m.To % j.Parts) x.P <;> rfl
 rw [hw] at h
 exact h
theorem O9 {α : Type} (b : Bool) (x : Option α) (y : Option α) : (some (CA b)).bind (fun z => Sum.elim (fun _ => x) (fun _ => y) z) = bif b then y else x := by cases b <;> rfl
theorem Ox {K : Nat} (hK : 1000 ≤ K) (g : GGraph) (j : GJob) (x : GPart) (ls : List (List GMsg)) (hp : i64 x.P) (hx : x.In.length ≤ 300) (hv : x.Vals.length ≤ 100) (hr : x.Rest.length ≤ 100)
 (h1 : ls.length < 1000) (h3 : (ls.flatten).length < 10000) (h4 : (ls.flatten).length < K) (hs : ∀ m ∈ ls.flatten, i64 m.V) : F62 K g j x ls = some (AQ g j x ls.flatten) := by
 rw [F62, DR om, GX hK g j x om om hp, bS, bS, AQ]
 cases hc : ieq (Am g j) 0
 · rfl
 · cases hR : Ay g j x
   · rfl
   · obtain ⟨_, p1, p2, _⟩ := Dl hR
     obtain ⟨hg, _, _, _, _, _, _, p7, p8⟩ := Co hc
     have hsl := DS ls.flatten
     have e1 : ilt 0 (nlen (len x.In)) = !(ieq (nlen (len x.In)) 0) := by
      show ilt 0 (x.In.length : Int) = !(ieq (x.In.length : Int) 0)
      cases x.In.length with
      | zero => rfl
      | succ n => rw [Ae.2 om, Aq.2 om]; rfl
     have ap1 : apok 0 (len x.Vals) 8 = true := decide_eq_true ⟨by show 0 + x.Vals.length ≤ _; omega, by show (0 + x.Vals.length) * 8 ≤ _; omega⟩
     have ap2 : apok 0 (len x.Rest) 1 = true := decide_eq_true ⟨by show 0 + x.Rest.length ≤ _; omega, by show (0 + x.Rest.length) * 1 ≤ _; omega⟩
     have hso : ∀ m ∈ As ls.flatten, i64 m.V := fun m hm => hs m ((CB _).mem_iff.1 hm)
     simp only [cT, e1, NX ls (show ls.length < 10000 by omega) (show ls.length < K by omega) h3 h4, bS]
     rw [Nq g j x _ p7 p8 p1 om om, JG j.Prog (As ls.flatten) hso om om, O9, F99, ap1, ap2, K4 (CB ls.flatten), Pt (CB ls.flatten)]
     cases ieq (nlen (len x.In)) 0
     · rfl
     · cases Cg g.N j.Parts x.P ls.flatten
       · rfl
       · rw [Fr]
         simp only [cT, bS, Bool.not_true, cF]
         cases ieq (An j.Prog ls.flatten).2 0 <;> rfl
theorem DA {a b : Int} (h : 0 ≤ a + b) (h2 : a + b < 18446744073709551616) : wadd .u64 a b = a + b := by
 show IntKind.u64.wrap (a + b) = _
 simp [IntKind.wrap, IntKind.signed, IntKind.bits]; omega
theorem E4 {a b : Int} (h : 0 ≤ a * b) (h2 : a * b < 18446744073709551616) : wmul .u64 a b = a * b := by
 show IntKind.u64.wrap (a * b) = _
 simp only [IntKind.wrap, IntKind.signed, IntKind.bits, Bool.false_and]
 generalize a * b = t at *
 simp; omega
theorem EV {a : Int} (h : 0 ≤ a) (h2 : a < 18446744073709551616) : wquo .u64 a 4294967296 = a / 4294967296 := by
 show IntKind.u64.wrap (a.tdiv 4294967296) = _
 rw [Int.tdiv_eq_ediv_of_nonneg h]
 simp [IntKind.wrap, IntKind.signed, IntKind.bits]; omega
theorem EO {a : Int} (h : 0 ≤ a) : wrem a 4294967296 = a % 4294967296 := by
 show a.tmod 4294967296 = _
 exact Int.tmod_eq_emod_of_nonneg h
theorem HL (K : Nat) {x b : Int} (hx : 0 ≤ x) (hx2 : x ≤ 9223372036854775808) (hb : 1 ≤ b) (hb2 : b ≤ 1000) :
 ∃ hi lo, Fk K x b = some (GA193.mk hi lo) ∧ hi * 18446744073709551616 + lo = x * b ∧ 0 ≤ lo ∧ lo < 18446744073709551616 ∧ 0 ≤ hi := by
 obtain ⟨u, hu⟩ : ∃ u, x / 4294967296 = u := ⟨_, rfl⟩
 obtain ⟨v, hv⟩ : ∃ v, x % 4294967296 = v := ⟨_, rfl⟩
 have hu0 : 0 ≤ u ∧ u ≤ 2147483648 := by omega
 have hv0 : 0 ≤ v ∧ v < 4294967296 := by omega
 have hxu : x = u * 4294967296 + v := by omega
 obtain ⟨P, hP⟩ : ∃ P, u * b = P := ⟨_, rfl⟩
 obtain ⟨Q, hQ⟩ : ∃ Q, v * b = Q := ⟨_, rfl⟩
 have hP0 : 0 ≤ P := hP ▸ Int.mul_nonneg hu0.1 om
 have hQ0 : 0 ≤ Q := hQ ▸ Int.mul_nonneg hv0.1 om
 have hP1 : P ≤ 2147483648 * 1000 := hP ▸ Int.mul_le_mul hu0.2 hb2 om om
 have hQ1 : Q ≤ 4294967296 * 1000 := hQ ▸ Int.mul_le_mul om hb2 om om
 have hxb : x * b = P * 4294967296 + Q := by rw [hxu, Int.add_mul, hQ, ← hP, Int.mul_right_comm]
 have a1 : wquo .u64 x 4294967296 = u := by rw [EV hx om, hu]
 have a2 : wquo .u64 b 4294967296 = 0 := by rw [EV om om]; omega
 have a3 : wrem x 4294967296 = v := by rw [EO hx, hv]
 have a4 : wrem b 4294967296 = b := by rw [EO om]; omega
 have b1 : wmul .u64 u 0 = 0 := by rw [E4 om om]; omega
 have b2 : wmul .u64 u b = P := by rw [E4 om om, hP]
 have b3 : wmul .u64 v 0 = 0 := by rw [E4 om om]; omega
 have b4 : wmul .u64 v b = Q := by rw [E4 om om, hQ]
 have c1 : wquo .u64 P 4294967296 = P / 4294967296 := EV hP0 om
 have c2 : wquo .u64 0 4294967296 = 0 := by rw [EV om om]; omega
 have c3 : wquo .u64 Q 4294967296 = Q / 4294967296 := EV hQ0 om
 have c4 : wrem P 4294967296 = P % 4294967296 := EO hP0
 have c5 : wrem 0 4294967296 = 0 := by rw [EO om]; omega
 have c6 : wrem Q 4294967296 = Q % 4294967296 := EO hQ0
 have d1 : wadd .u64 (Q / 4294967296) (P % 4294967296) = Q / 4294967296 + P % 4294967296 := DA om om
 have d2 : wadd .u64 (Q / 4294967296 + P % 4294967296) 0 = Q / 4294967296 + P % 4294967296 := by rw [DA om om]; omega
 have d3 : wquo .u64 (Q / 4294967296 + P % 4294967296) 4294967296 = (Q / 4294967296 + P % 4294967296) / 4294967296 := EV om om
 have d4 : wrem (Q / 4294967296 + P % 4294967296) 4294967296 = (Q / 4294967296 + P % 4294967296) % 4294967296 := EO om
 have d5 : wadd .u64 0 (P / 4294967296) = P / 4294967296 := by rw [DA om om]; omega
 have d6 : wadd .u64 (P / 4294967296) 0 = P / 4294967296 := by rw [DA om om]; omega
 have d7 : wadd .u64 (P / 4294967296) ((Q / 4294967296 + P % 4294967296) / 4294967296) = P / 4294967296 + (Q / 4294967296 + P % 4294967296) / 4294967296 := DA om om
 have d8 : wmul .u64 ((Q / 4294967296 + P % 4294967296) % 4294967296) 4294967296 = (Q / 4294967296 + P % 4294967296) % 4294967296 * 4294967296 := E4 om om
 have d9 : wadd .u64 ((Q / 4294967296 + P % 4294967296) % 4294967296 * 4294967296) (Q % 4294967296) = (Q / 4294967296 + P % 4294967296) % 4294967296 * 4294967296 + Q % 4294967296 := DA om om
 refine ⟨P / 4294967296 + (Q / 4294967296 + P % 4294967296) / 4294967296, (Q / 4294967296 + P % 4294967296) % 4294967296 * 4294967296 + Q % 4294967296, ?_, ?_, by omega, by omega, by omega⟩
 · rw [Fk, a1, a2, a3, a4, b1, b2, b3, b4, c1, c2, c3, c4, c5, c6, d1, d2, d3, d4, d5, d6, d7, d8, d9]
 · rw [hxb]; omega
theorem I3 (K : Nat) {a : Int} (ha : i64 a) : DX K a = some (bif ilt a 0 then -a else a) := by
 unfold i64 at ha
 rw [DX]
 cases h : ilt a 0
 · have := Ac.1 h
   have e : wconv .u64 a = a := by
    show IntKind.u64.wrap a = _
    simp [IntKind.wrap, IntKind.signed, IntKind.bits]; omega
   rw [e]; rfl
 · have := Ae.1 h
   have e1 : wadd .i64 a 1 = a + 1 := Eb (by unfold i64; omega)
   have e2 : wneg .i64 (a + 1) = -(a + 1) := by
    show IntKind.i64.wrap (0 - (a + 1)) = _
    rw [IntKind.wrap_i64]; omega
   have e3 : wconv .u64 (-(a + 1)) = -(a + 1) := by
    show IntKind.u64.wrap _ = _
    simp [IntKind.wrap, IntKind.signed, IntKind.bits]; omega
   have e4 : wadd .u64 (-(a + 1)) 1 = -a := by rw [DA om om]; omega
   rw [e1, e2, e3, e4]; rfl
def Cb (a b : Int) : Int × Bool := bif AF (a * b) then (a * b, true) else (0, false)
theorem Nt (K : Nat) {a b : Int} (ha : i64 a) (hb : 1 ≤ b) (hb2 : b ≤ 1000) : Fj K a b = some (Cb a b) := by
 have hb0 : ilt b 0 = false := Ac.2 om
 have h175 : DX K b = some b := by rw [I3 K (by unfold i64; omega), hb0]; rfl
 have hconv : ∀ n : Int, 0 ≤ n → n ≤ 9223372036854775807 → wconv .i64 n = n := fun n h1 h2 => by
  show IntKind.i64.wrap n = _
  rw [IntKind.wrap_i64]; omega
 rw [Fj, I3 K ha, h175, Cb, hb0]
 unfold i64 at ha
 cases h : ilt a 0
 · have hn := Ac.1 h
   obtain ⟨hi, lo, e, h1, h2, h3, h4⟩ := HL K hn om hb hb2
   simp only [bS, cF, e]
   cases c1 : ilt 0 hi
   · have c1' := Ac.1 c1
     cases c2 : ilt 9223372036854775808 lo
     · have c2' := Ac.1 c2
       cases c3 : ieq lo 9223372036854775808
       · have c3' := Aq.1 c3
         have hf : AF (a * b) = true := BG.2 (by unfold i64; omega)
         have : lo = a * b := by omega
         rw [hf, hconv lo h2 om, this]; rfl
       · have c3' := Ap.1 c3
         have hf : AF (a * b) = false := CO.2 om
         rw [hf]; rfl
     · have c2' := Ae.1 c2
       have hf : AF (a * b) = false := CO.2 om
       rw [hf]; rfl
   · have c1' := Ae.1 c1
     have hf : AF (a * b) = false := CO.2 om
     rw [hf]; rfl
 · have hn := Ae.1 h
   obtain ⟨hi, lo, e, h1, h2, h3, h4⟩ := HL K (x := -a) om om hb hb2
   rw [Int.neg_mul] at h1
   simp only [bS, cT, e]
   cases c1 : ilt 0 hi
   · have c1' := Ac.1 c1
     cases c2 : ilt 9223372036854775808 lo
     · have c2' := Ac.1 c2
       cases c3 : ieq lo 9223372036854775808
       · have c3' := Aq.1 c3
         have hf : AF (a * b) = true := BG.2 (by unfold i64; omega)
         have hw : wneg .i64 lo = a * b := by
          show IntKind.i64.wrap (0 - lo) = _
          rw [IntKind.wrap_i64]; omega
         rw [hf, hconv lo h2 om, hw]; rfl
       · have c3' := Ap.1 c3
         have hf : AF (a * b) = true := BG.2 (by unfold i64; omega)
         have : a * b = -9223372036854775808 := by omega
         rw [hf, this]; rfl
     · have c2' := Ae.1 c2
       have hf : AF (a * b) = false := CO.2 om
       rw [hf]; rfl
   · have c1' := Ae.1 c1
     have hf : AF (a * b) = false := CO.2 om
     rw [hf]; rfl
theorem E6 {a d : Int} (ha : i64 a) (hd : 1 ≤ d) : wquo .i64 a d = a.tdiv d ∧ i64 (a.tdiv d) := by
 unfold i64 at ha
 have h1 : (a.tdiv d).natAbs ≤ a.natAbs := Int.natAbs_tdiv_le_natAbs a d
 have h2 : -9223372036854775808 ≤ a.tdiv d ∧ a.tdiv d ≤ 9223372036854775808 := by omega
 have h3 : 0 ≤ a → 0 ≤ a.tdiv d := fun h => Int.tdiv_nonneg h om
 have h4 : a ≤ 0 → a.tdiv d ≤ 0 := fun h => by
  have := Int.tdiv_nonneg (show 0 ≤ -a by omega) (show 0 ≤ d by omega)
  rw [Int.neg_tdiv] at this; omega
 have h5 : i64 (a.tdiv d) := by
  unfold i64
  rcases Int.le_total 0 a with h | h
  · have := h3 h; omega
  · have := h4 h; omega
 refine ⟨?_, h5⟩
 unfold i64 at h5
 show IntKind.i64.wrap (a.tdiv d) = _
 rw [IntKind.wrap_i64]; omega
theorem Mw (K : Nat) {a b : Int} (ha : i64 a) (hb : 1 ≤ b) (hb2 : b ≤ 1000) : GH K a b = some (Cb a b) := by
 unfold i64 at ha
 rw [GH, Cb, Aq.2 (by omega : b ≠ 0), Aq.2 (by omega : b ≠ -1)]
 cases h0 : ieq a 0
 · have h0' := Aq.1 h0
   cases h1 : ieq a (-1)
   · have hz : izero b = false := decide_eq_false om
     simp only [cF, hz]
     obtain ⟨t, ht⟩ : ∃ t, a * b = t := ⟨_, rfl⟩
     obtain ⟨p, hp⟩ : ∃ p, wmul .i64 a b = p := ⟨_, rfl⟩
     have hp' : p = if 9223372036854775808 ≤ t % 18446744073709551616 then t % 18446744073709551616 - 18446744073709551616 else t % 18446744073709551616 := by
      rw [← hp, ← ht]
      show IntKind.i64.wrap (a * b) = _
      rw [IntKind.wrap_i64, ht]
      split <;> omega
     have hpr : -9223372036854775808 ≤ p ∧ p ≤ 9223372036854775807 := by rw [hp']; split <;> omega
     obtain ⟨q, hq⟩ : ∃ q, p.tdiv b = q := ⟨_, rfl⟩
     obtain ⟨r, hr⟩ : ∃ r, p.tmod b = r := ⟨_, rfl⟩
     have hdiv : b * q + r = p := by rw [← hq, ← hr]; exact Int.mul_tdiv_add_tmod p b
     have hrb : -1000 < r ∧ r < 1000 := by
      have h1 := Int.tmod_lt_of_pos p (show 0 < b by omega)
      have h2 := Int.lt_tmod_of_pos p (show 0 < b by omega)
      omega
     have hqr : -9223372036854775808 ≤ q ∧ q ≤ 9223372036854775807 := by
      have : i64 (p.tdiv b) := (E6 (show i64 p from hpr) hb).2
      unfold i64 at this
      rw [hq] at this; exact this
     have hw : wquo .i64 p b = q := by rw [(E6 (show i64 p from hpr) hb).1, hq]
     rw [hp, hw, ht]
     cases hf : AF t
     · have hf' := CO.1 hf
       have hne : ieq q a = false := Aq.2 fun hc => by
        have hba : b * q = t := by rw [hc, Int.mul_comm]; exact ht
        rw [hba] at hdiv
        have := hp'
        split at this <;> omega
       rw [hne]; rfl
     · have hf' := BG.1 hf
       unfold i64 at hf'
       have hpt : p = t := by rw [hp']; split <;> omega
       have hqa : q = a := by
        rw [← hq, hpt, ← ht]
        exact Int.mul_tdiv_cancel a om
       rw [hqa, Ai, hpt]; rfl
   · have h1' := Ap.1 h1
     subst h1'
     have e1 : ieq (-1) (-9223372036854775808) = false := rfl
     have e2 : ieq b (-9223372036854775808) = false := Aq.2 om
     have e3 : AF (-1 * b) = true := BG.2 (by unfold i64; omega)
     have e4 : wmul .i64 (-1) b = -1 * b := Jl (by unfold i64; omega)
     rw [e1, e2, e3, e4]; rfl
 · have h0' := Ap.1 h0
   subst h0'
   have e3 : AF (0 * b) = true := BG.2 (by unfold i64; omega)
   rw [e3, Int.zero_mul]; rfl
def Cp (v n d : Int) : Int × Bool := bif ilt d 1 then (0, false) else bif (Cb v n).2 then ((Cb v n).1.tdiv d, true) else (0, false)
theorem Hg {a b : Int} : i64 (Cb a b).1 := by
 rw [Cb]
 cases h : AF (a * b)
 · unfold i64; simp
 · exact BG.1 h
theorem IY {v n d : Int} : i64 (Cp v n d).1 := by
 have h0 : i64 0 := by unfold i64; omega
 rw [Cp]
 cases hd : ilt d 1
 · cases (Cb v n).2
   · exact h0
   · exact (E6 Hg (Ac.1 hd)).2
 · exact h0
theorem HD (K : Nat) {v n : Int} (d : Int) (hv : i64 v) (hn : 1 ≤ n) (hn2 : n ≤ 1000) : Dk K v n d = some (Cp v n d) := by
 rw [Dk, Nt K hv hn hn2, bS, Cp]
 cases hd : ilt d 1
 · have hd' := Ac.1 hd
   have hz : izero d = false := decide_eq_false om
   rw [(E6 (Hg (a := v) (b := n)) hd').1, hz]
   cases (Cb v n).2 <;> rfl
 · cases (Cb v n).2 <;> rfl
theorem ME (K : Nat) {v n : Int} (d : Int) (hv : i64 v) (hn : 1 ≤ n) (hn2 : n ≤ 1000) : GL K v n d = some (Cp v n d) := by
 rw [GL, Mw K hv hn hn2, Cp]
 cases hd : ilt d 1
 · have hd' := Ac.1 hd
   have hz : izero d = false := decide_eq_false om
   rw [cF, cF, bS, (E6 (Hg (a := v) (b := n)) hd').1, hz]
   cases (Cb v n).2 <;> rfl
 · rfl
def F7 (got : Int) : Int × Bool := bif (Cp got 85 100).2 then BF 150000 (Cp got 85 100).1 else (0, false)
theorem F6 {a b : Int} : i64 (BF a b).1 := by
 rw [BF]
 cases h : AF (a + b)
 · unfold i64; simp
 · exact BG.1 h
theorem O6 {got : Int} : i64 (F7 got).1 := by
 rw [F7]
 cases (Cp got 85 100).2
 · unfold i64; simp
 · exact F6
def Ad (g : GGraph) (v : Int) : List GEdge := bif ieq (BW g) 0 then g.Edges.filter (fun e => ieq e.From v) else []
theorem KO (l : List GEdge) (v : Int) : ∀ (s : List GEdge), s.length + l.length ≤ 80 →
 goL (fun x (s : List GEdge) c => bif (ieq x.From v) then (bif (apok (len s) 1 24) then c (appL s [x]) else none) else c s) (fun s => some s) l s = some (s ++ l.filter (fun e => ieq e.From v)) := by
 induction l with
 | nil => intro s _; simp [goL]
 | cons x l ih =>
  intro s hs
  simp only [List.length_cons] at hs
  rw [goL]
  cases hx : ieq x.From v
  · rw [cF, ih s om, List.filter_cons, hx]; rfl
  · have ha : apok (len s) 1 24 = true := decide_eq_true ⟨by show s.length + 1 ≤ _; omega, by show (s.length + 1) * 24 ≤ _; omega⟩
    rw [cT, ha, cT, ih _ (by simp [appL]; omega), List.filter_cons, hx]
    simp [appL]
theorem Fi {K : Nat} (hK : 100 ≤ K) (g : GGraph) (v : Int) : BE K g v = some (Ad g v) := by
 rw [BE, Hw hK, bS, Ad]
 cases hc : ieq (BW g) 0
 · rfl
 · obtain ⟨h1, h2, h3, h4⟩ := Cl hc
   have e : DQ K g v K [] 0 = _ := Ao (l := g.Edges) (L := fun k s i => DQ K g v k s i) (fun x (s : List GEdge) c => bif (ieq x.From v) then (bif (apok (len s) 1 24) then c (appL s [x]) else none) else c s) (fun s => some s) (fun k s i _ => rfl) om om []
   rw [cT, cT, e, KO _ _ _ (by simpa using h3)]; rfl
theorem C2 {g : GGraph} {v : Int} : (Ad g v).length ≤ 80 := by
 rw [Ad]
 cases hc : ieq (BW g) 0
 · simp
 · obtain ⟨h1, h2, h3, h4⟩ := Cl hc
   exact Nat.le_trans (List.length_filter_le _ _) h3
def Ca (p val : Int) (e : GEdge) (many : Int) : Int × Bool := bif ieq p 1 then BF val e.W else bif ieq p 3 then BF val 1 else bif ieq p 5 then Cp val 1 many else (val, true)
def AE (p val many : Int) : List GEdge → List GMsg → Option (List GMsg)
 | [], s => some s
 | e :: l, s => bif (Ca p val e many).2 then AE p val many l (s ++ [GMsg.mk e.To (Ca p val e many).1]) else none
def Cx {α : Type} : Option α → Unit ⊕ α
 | none => .inl ()
 | some s => .inr s
def B8 (rest : Bool) (val : Int) : Option (List GMsg) → Int × List GMsg × Bool × Int
 | none => (0, [], false, 8)
 | some s => (val, s, rest, 0)
theorem H0 (rest : Bool) (val : Int) (o : Option (List GMsg)) : (some (Cx o)).bind (fun y => Sum.elim (fun w => some ((0, ([], (false, 8))) : Int × List GMsg × Bool × Int)) (fun w => some (val, (w, (rest, 0)))) y) = some (B8 rest val o) := by
 cases o <;> rfl
theorem FX (rest : Bool) (val : Int) (o : Option (List GMsg)) : Sum.elim (fun w => some ((0, ([], (false, 8))) : Int × List GMsg × Bool × Int)) (fun w => some (val, (w, (rest, 0)))) (Cx o) = some (B8 rest val o) := by
 cases o <;> rfl
theorem Dg (p val many : Int) (f : GEdge → Option (Int × Bool)) (l : List GEdge) (hf : ∀ e ∈ l, f e = some (Ca p val e many)) : ∀ (s : List GMsg), s.length + l.length ≤ 80 →
 goL (fun e (s : List GMsg) c => (f e).bind fun r => bif r.2 then (bif (apok (len s) 1 16) then c (appL s [(GMsg.mk e.To r.1)]) else none) else some (.inl ())) (fun s => some (.inr s)) l s = some (Cx (AE p val many l s)) := by
 induction l with
 | nil => intro s _; rfl
 | cons x l ih =>
  intro s hs
  simp only [List.length_cons] at hs
  rw [goL, hf x List.mem_cons_self, bS, AE]
  cases (Ca p val x many).2
  · rfl
  · have ha : apok (len s) 1 16 = true := decide_eq_true ⟨by show s.length + 1 ≤ _; omega, by show (s.length + 1) * 16 ≤ _; omega⟩
    rw [cT, ha, cT, ih (fun e he => hf e (List.mem_cons_of_mem _ he)) _ (by simp [appL]; omega), cT]; rfl
theorem Gh {g : GGraph} {v : Int} {e : GEdge} (h : e ∈ Ad g v) : 0 ≤ e.W ∧ e.W ≤ 4611686018427387904 := by
 rw [Ad] at h
 cases hc : ieq (BW g) 0
 · rw [hc] at h; cases h
 · obtain ⟨h1, h2, h3, h4⟩ := Cl hc
   rw [hc] at h
   have := Ei (F8 h4 e (List.mem_filter.1 h).1)
   omega
theorem Lz (K : Nat) {val : Int} {e : GEdge} (many : Int) (hv : i64 val) (he : i64 e.W) : F83 K val e = some (Ca 1 val e many) := by
 rw [F83, FH K hv he]; rfl
theorem Oy (K : Nat) {val : Int} (e : GEdge) (many : Int) (hv : i64 val) : F85 K val e = some (Ca 3 val e many) := by
 rw [F85, FH K hv (by unfold i64; omega)]; rfl
theorem GY (K : Nat) (p : Int) {val many : Int} {e : GEdge} (hv : i64 val) (he : i64 e.W) : F76 K p val e many = some (Ca p val e many) := by
 rw [F76, Ca, Jb K hv he, Jb K hv (show i64 1 by unfold i64; omega), ME K many hv (show (1 : Int) ≤ 1 by omega) (show (1 : Int) ≤ 1000 by omega)]
 cases ieq p 1 <;> cases ieq p 3 <;> cases ieq p 5 <;> rfl
def AL (g : GGraph) (v : Int) : Int := nlen (len (Ad g v))
section loops
variable {K : Nat} (hK : 100 ≤ K) (g : GGraph) (v : Int) {val : Int} (hv : i64 val)
include hK hv
theorem JF (b : Bool) : Cq K val b (Ad g v) K [] 0 = some (Cx (AE 1 val (AL g v) (Ad g v) [])) := by
 have hl := C2 (g := g) (v := v)
 have e := Ao (l := Ad g v) (L := fun k s i => Cq K val b (Ad g v) k s i) (fun e (s : List GMsg) c => (F83 K val e).bind fun r => bif r.2 then (bif (apok (len s) 1 16) then c (appL s [(GMsg.mk e.To r.1)]) else none) else some (.inl ())) (fun s => some (.inr s)) (fun k s i _ => rfl) (K := K) om om []
 exact e.trans (Dg 1 val (AL g v) (F83 K val) _ (fun e he => Lz K _ hv (by have := Gh he; unfold i64; omega)) [] (by simpa using hl))
theorem IL (b : Bool) : Ch K val b (Ad g v) K [] 0 = some (Cx (AE 3 val (AL g v) (Ad g v) [])) := by
 have hl := C2 (g := g) (v := v)
 have e := Ao (l := Ad g v) (L := fun k s i => Ch K val b (Ad g v) k s i) (fun e (s : List GMsg) c => (F85 K val e).bind fun r => bif r.2 then (bif (apok (len s) 1 16) then c (appL s [(GMsg.mk e.To r.1)]) else none) else some (.inl ())) (fun s => some (.inr s)) (fun k s i _ => rfl) (K := K) om om []
 exact e.trans (Dg 3 val (AL g v) (F85 K val) _ (fun e he => Oy K e _ hv) [] (by simpa using hl))
omit hv in
theorem HJ (val : Int) (b : Bool) : Cn K val b (Ad g v) K [] 0 = some (Cx (AE 2 val (AL g v) (Ad g v) [])) := by
 have hl := C2 (g := g) (v := v)
 have e := Ao (l := Ad g v) (L := fun k s i => Cn K val b (Ad g v) k s i) (fun e (s : List GMsg) c => (F87 K val e).bind fun r => bif r.2 then (bif (apok (len s) 1 16) then c (appL s [(GMsg.mk e.To r.1)]) else none) else some (.inl ())) (fun s => some (.inr s)) (fun k s i _ => rfl) (K := K) om om []
 exact e.trans (Dg 2 val (AL g v) (F87 K val) _ (fun e he => rfl) [] (by simpa using hl))
omit hv in
theorem IH (val : Int) (b : Bool) : Cf K val b (Ad g v) K [] 0 = some (Cx (AE 4 val (AL g v) (Ad g v) [])) := by
 have hl := C2 (g := g) (v := v)
 have e := Ao (l := Ad g v) (L := fun k s i => Cf K val b (Ad g v) k s i) (fun e (s : List GMsg) c => (F87 K val e).bind fun r => bif r.2 then (bif (apok (len s) 1 16) then c (appL s [(GMsg.mk e.To r.1)]) else none) else some (.inl ())) (fun s => some (.inr s)) (fun k s i _ => rfl) (K := K) om om []
 exact e.trans (Dg 4 val (AL g v) (F87 K val) _ (fun e he => rfl) [] (by simpa using hl))
theorem JL : DW K (Ad g v) val K [] 0 = some (Cx (AE 5 val (AL g v) (Ad g v) [])) := by
 have hl := C2 (g := g) (v := v)
 have e := Ao (l := Ad g v) (L := fun k s i => DW K (Ad g v) val k s i) (fun e (s : List GMsg) c => (Dk K val 1 (nlen (len (Ad g v)))).bind fun r => bif r.2 then (bif (apok (len s) 1 16) then c (appL s [(GMsg.mk e.To r.1)]) else none) else some (.inl ())) (fun s => some (.inr s)) (fun k s i _ => rfl) (K := K) om om []
 exact e.trans (Dg 5 val (AL g v) (fun _ => Dk K val 1 (nlen (len (Ad g v)))) _ (fun e he => HD K _ hv om om) [] (by simpa using hl))
theorem Q5 (p a b c : Int) : GG K val p a b c (Ad g v) K [] 0 = some (Cx (AE p val (AL g v) (Ad g v) [])) := by
 have hl := C2 (g := g) (v := v)
 have e := Ao (l := Ad g v) (L := fun k s i => GG K val p a b c (Ad g v) k s i) (fun e (s : List GMsg) c => (F76 K p val e (nlen (len (Ad g v)))).bind fun r => bif r.2 then (bif (apok (len s) 1 16) then c (appL s [(GMsg.mk e.To r.1)]) else none) else some (.inl ())) (fun s => some (.inr s)) (fun k s i _ => rfl) (K := K) om om []
 exact e.trans (Dg p val (AL g v) (fun e => F76 K p val e (nlen (len (Ad g v)))) _ (fun e he => GY K p hv (by have := Gh he; unfold i64; omega)) [] (by simpa using hl))
theorem Q1 (p a b c : Int) (m : Bool) : FU K val p a b c m (Ad g v) K [] 0 = some (bif m then Cx (AE p val (AL g v) (Ad g v) []) else .inr []) := by
 have hl := C2 (g := g) (v := v)
 cases m
 · obtain ⟨k, rfl⟩ : ∃ k, K = k + 1 := ⟨K - 1, by omega⟩
   rw [FU]
   cases ilt 0 (nlen (len (Ad g v))) <;> rfl
 · have e := Ao (l := Ad g v) (L := fun k s i => FU K val p a b c true (Ad g v) k s i) (fun e (s : List GMsg) c => (F76 K p val e (nlen (len (Ad g v)))).bind fun r => bif r.2 then (bif (apok (len s) 1 16) then c (appL s [(GMsg.mk e.To r.1)]) else none) else some (.inl ())) (fun s => some (.inr s)) (fun k s i _ => rfl) (K := K) om om []
   exact e.trans (Dg p val (AL g v) (fun e => F76 K p val e (nlen (len (Ad g v)))) _ (fun e he => GY K p hv (by have := Gh he; unfold i64; omega)) [] (by simpa using hl))
theorem Q2 (p a b c : Int) (m : Bool) : FL K val p a b c m (Ad g v) K [] 0 = some (bif m then Cx (AE p val (AL g v) (Ad g v) []) else .inr []) := by
 have hl := C2 (g := g) (v := v)
 cases m
 · obtain ⟨k, rfl⟩ : ∃ k, K = k + 1 := ⟨K - 1, by omega⟩
   rw [FL]
   cases ilt 0 (nlen (len (Ad g v))) <;> rfl
 · have e := Ao (l := Ad g v) (L := fun k s i => FL K val p a b c true (Ad g v) k s i) (fun e (s : List GMsg) c => (F76 K p val e (nlen (len (Ad g v)))).bind fun r => bif r.2 then (bif (apok (len s) 1 16) then c (appL s [(GMsg.mk e.To r.1)]) else none) else some (.inl ())) (fun s => some (.inr s)) (fun k s i _ => rfl) (K := K) om om []
   exact e.trans (Dg p val (AL g v) (fun e => F76 K p val e (nlen (len (Ad g v)))) _ (fun e he => GY K p hv (by have := Gh he; unfold i64; omega)) [] (by simpa using hl))
omit hv in
theorem Q3 (val p a b c : Int) : G8 K val p a b c (Ad g v) K [] 0 = some (.inl []) := by
 obtain ⟨k, rfl⟩ : ∃ k, K = k + 1 := ⟨K - 1, by omega⟩
 rw [G8, Ai]
 cases ilt 0 (nlen (len (Ad g v))) <;> rfl
end loops
def Dn (step val got : Int) (sm : Bool) : Int × Bool := bif ilt 0 step then F7 (bif sm then got else 0) else (val, true)
def DO (step : Int) (w : Int × Bool) (many : Int) (l : List GEdge) : Int × List GMsg × Bool × Int :=
 bif w.2 then (bif ile 10 step then (w.1, [], true, 0) else B8 false w.1 (AE 5 w.1 many l [])) else (0, [], false, 8)
def Cu (p val got : Int) (sm : Bool) : Int := bif sm then (Az p val got).1 else val
def Dm (p src step v val w : Int) : Bool := bif ieq step 0 && (bif ieq p 1 || ieq p 3 then ieq v src else true) then true else ine w val
def CW (p : Int) (m : Bool) (w many : Int) (l : List GEdge) : Int × List GMsg × Bool × Int :=
 bif m then B8 true w (AE p w many l []) else (w, [], true, 0)
def AC (g : GGraph) (j : GJob) (step v val got : Int) (sm : Bool) : Int × List GMsg × Bool × Int :=
 bif ieq (Am g j) 0 then
  (bif ilt v 0 then (0, [], false, 4) else bif ile g.N v then (0, [], false, 4)
   else bif ilt step 0 then (0, [], false, 1) else bif ilt 40 step then (0, [], false, 1)
   else bif ieq j.Prog 5 then DO step (Dn step val got sm) (AL g v) (Ad g v)
   else CW j.Prog (Dm j.Prog j.Source step v val (Cu j.Prog val got sm)) (Cu j.Prog val got sm) (AL g v) (Ad g v))
 else (0, [], false, Am g j)
theorem JY {K : Nat} (hK : 100 ≤ K) (g : GGraph) (v step : Int) {val got : Int} (hv : i64 val) (hg : i64 got) : Dc K (Ad g v) step val got = some (DO step (Dn step val got true) (AL g v) (Ad g v)) := by
 rw [Dc, HD K 100 hg om om, bS, FH K (by unfold i64; omega) IY, Dn, DO]
 cases hs : ilt 0 step
 · rw [JL hK g v hv, H0]
   cases ile 10 step <;> rfl
 · rw [cT, cT, bS, cT, F7]
   cases (Cp got 85 100).2
   · rfl
   · cases h2 : (BF 150000 (Cp got 85 100).1).2
     · rw [cT, cT, h2]; rfl
     · rw [cT, cT, cT, h2, cT, JL hK g v F6, H0]
       cases ile 10 step <;> rfl
theorem LG {K : Nat} (hK : 100 ≤ K) (g : GGraph) (j : GJob) (step v : Int) {val got : Int} (sm : Bool) (hv : i64 val) (hg : i64 got) : F93 K g j step v val got sm = some (AC g j step v val got sm) := by
 rw [F93, DR hK, bS, AC]
 cases hc : ieq (Am g j) 0
 · rfl
 · obtain ⟨hgc, p1, p2, p3, p4, p5, p6, p7, p8⟩ := Co hc
   rw [cT, cT]
   cases h1 : ilt v 0
   · cases h2 : ile g.N v
     · cases h3 : ilt step 0
       · cases h4 : ilt 40 step
         · simp only [cF]
           rcases GV j.Prog with q | q | q | q | q | q
           · have e5 : ieq 1 5 = false := rfl
             have e4 : ieq 1 4 = false := rfl
             have e1 : ieq 1 1 = true := rfl
             have e3 : ieq 1 3 = false := rfl
             have eb : Ar 1 = false := rfl
             rw [Fi hK, q, Hf, Dm, Cu, Az, e5, e4, e1, e3, eb, CW]
             simp only [bS, cT, cF, AU, AY, Ba, AX, A5, Bd, A3, Bn, Be, Bi, Bh, Bq, A1, Br, A4, Bs, A9, Bo, A8, Bp, AS, AW, AZ, Bx, A6, A7, Bg, Bv, Bm, Bf, Bw, Bl, A0, Bk, AV, Bc, JF hK g v hv, JF hK g v hg, F82, FX, Bool.or_true, Bool.true_or, Bool.or_false, Bool.and_true]
             cases sm
             · have : ine val val = false := ine_t (Ai val)
               simp only [cF, this]
               cases ieq step 0 <;> cases ieq v j.Source <;> rfl
             · cases hb : ilt got val
               · have : ine val val = false := ine_t (Ai val)
                 simp only [cT, cF, this]
                 cases ieq step 0 <;> cases ieq v j.Source <;> rfl
               · have : ine got val = true := ine_f (Aq.2 (by have := Ae.1 hb; omega))
                 simp only [cT, cF, this]
                 cases ieq step 0 <;> cases ieq v j.Source <;> rfl
           · have e5 : ieq 2 5 = false := rfl
             have e4 : ieq 2 4 = false := rfl
             have e1 : ieq 2 1 = false := rfl
             have e3 : ieq 2 3 = false := rfl
             have eb : Ar 2 = false := rfl
             rw [Fi hK, q, G9, Dm, Cu, Az, e5, e4, e1, e3, eb, CW]
             simp only [bS, cT, cF, AU, AY, Ba, AX, A5, Bd, A3, Bn, Be, Bi, Bh, Bq, A1, Br, A4, Bs, A9, Bo, A8, Bp, AS, AW, AZ, Bx, A6, A7, Bg, Bv, Bm, Bf, Bw, Bl, A0, Bk, AV, Bc, HJ hK g v val, HJ hK g v got, F82, FX, Bool.or_true, Bool.true_or, Bool.or_false, Bool.and_true]
             cases sm
             · have : ine val val = false := ine_t (Ai val)
               simp only [cF, this]
               cases ieq step 0 <;> rfl
             · cases hb : ilt got val
               · have : ine val val = false := ine_t (Ai val)
                 simp only [cT, cF, this]
                 cases ieq step 0 <;> rfl
               · have : ine got val = true := ine_f (Aq.2 (by have := Ae.1 hb; omega))
                 simp only [cT, cF, this]
                 cases ieq step 0 <;> rfl
           · have e5 : ieq 3 5 = false := rfl
             have e4 : ieq 3 4 = false := rfl
             have e1 : ieq 3 1 = false := rfl
             have e3 : ieq 3 3 = true := rfl
             have eb : Ar 3 = false := rfl
             rw [Fi hK, q, Ho, Dm, Cu, Az, e5, e4, e1, e3, eb, CW]
             simp only [bS, cT, cF, AU, AY, Ba, AX, A5, Bd, A3, Bn, Be, Bi, Bh, Bq, A1, Br, A4, Bs, A9, Bo, A8, Bp, AS, AW, AZ, Bx, A6, A7, Bg, Bv, Bm, Bf, Bw, Bl, A0, Bk, AV, Bc, IL hK g v hv, IL hK g v hg, F82, FX, Bool.or_true, Bool.true_or, Bool.or_false, Bool.and_true]
             cases sm
             · have : ine val val = false := ine_t (Ai val)
               simp only [cF, this]
               cases ieq step 0 <;> cases ieq v j.Source <;> rfl
             · cases hb : ilt got val
               · have : ine val val = false := ine_t (Ai val)
                 simp only [cT, cF, this]
                 cases ieq step 0 <;> cases ieq v j.Source <;> rfl
               · have : ine got val = true := ine_f (Aq.2 (by have := Ae.1 hb; omega))
                 simp only [cT, cF, this]
                 cases ieq step 0 <;> cases ieq v j.Source <;> rfl
           · have e5 : ieq 4 5 = false := rfl
             have e4 : ieq 4 4 = true := rfl
             have e1 : ieq 4 1 = false := rfl
             have e3 : ieq 4 3 = false := rfl
             have eb : Ar 4 = false := rfl
             rw [Fi hK, q, Gw, Dm, Cu, Az, e5, e4, e1, e3, eb, CW]
             simp only [bS, cT, cF, AU, AY, Ba, AX, A5, Bd, A3, Bn, Be, Bi, Bh, Bq, A1, Br, A4, Bs, A9, Bo, A8, Bp, AS, AW, AZ, Bx, A6, A7, Bg, Bv, Bm, Bf, Bw, Bl, A0, Bk, AV, Bc, IH hK g v val, IH hK g v got, F89, igt, FX, Bool.or_true, Bool.true_or, Bool.or_false, Bool.and_true]
             have hd : decide (got > val) = ilt val got := rfl
             rw [hd]
             cases sm
             · have : ine val val = false := ine_t (Ai val)
               simp only [cF, this]
               cases ieq step 0 <;> rfl
             · cases hb : ilt val got
               · have : ine val val = false := ine_t (Ai val)
                 simp only [cT, cF, this]
                 cases ieq step 0 <;> rfl
               · have : ine got val = true := ine_f (Aq.2 (by have := Ae.1 hb; omega))
                 simp only [cT, cF, this]
                 cases ieq step 0 <;> rfl
           · have e5 : ieq 5 5 = true := rfl
             rw [Fi hK, q, GT, e5]
             simp only [bS, cT, cF, AU, AY, Ba, AX, A5, Bd, A3, Bn, Be, Bi, Bh, Bq, A1, Br, A4, Bs, A9, Bo, A8, Bp, AS, AW, AZ, Bx, A6, A7, Bg, Bv, Bm, Bf, Bw, Bl, A0, Bk, AV, Bc, JY hK g v step hv hg, JY hK g v step hv (show i64 0 by unfold i64; omega)]
             cases sm <;> rfl
           · omega
         · rfl
       · rfl
     · rfl
   · rfl
theorem Hv {p val many : Int} : ∀ {l : List GEdge} {s r : List GMsg}, AE p val many l s = some r → r.map (·.To) = s.map (·.To) ++ l.map (·.To)
 | [], s, r, h => by injection h with h; subst h; simp
 | e :: l, s, r, h => by
  rw [AE] at h
  cases hq : (Ca p val e many).2
  · rw [hq] at h; cases h
  · rw [hq, cT] at h
    rw [Hv h]; simp
theorem Ii {g : GGraph} {j : GJob} {step v val got : Int} {sm : Bool} (h : ieq (AC g j step v val got sm).2.2.2 0 = true) :
 (AC g j step v val got sm).2.1 = [] ∨ ((AC g j step v val got sm).2.1.map (·.To) = (Ad g v).map (·.To)) := by
 have hs : ∀ (b : Bool) (w : Int) (p : Int), (B8 b w (AE p w (AL g v) (Ad g v) [])).2.1 = [] ∨ (B8 b w (AE p w (AL g v) (Ad g v) [])).2.1.map (·.To) = (Ad g v).map (·.To) := fun b w p => by
  cases hq : AE p w (AL g v) (Ad g v) []
  · left; rfl
  · right; have := Hv hq; simpa [B8] using this
 rw [AC]
 cases ieq (Am g j) 0
 · left; rfl
 · cases ilt v 0
   · cases ile g.N v
     · cases ilt step 0
       · cases ilt 40 step
         · simp only [cT, cF]
           cases ieq j.Prog 5
           · rw [cF, CW]
             cases Dm j.Prog j.Source step v val (Cu j.Prog val got sm)
             · left; rfl
             · exact hs _ _ _
           · rw [cT, DO]
             cases (Dn step val got sm).2
             · left; rfl
             · cases ile 10 step
               · exact hs _ _ _
               · left; rfl
         · left; rfl
       · left; rfl
     · left; rfl
   · left; rfl
theorem Kd {g : GGraph} {j : GJob} {step v val got : Int} {sm : Bool} (h : ieq (AC g j step v val got sm).2.2.2 0 = false) : (AC g j step v val got sm).1 = 0 ∧ (AC g j step v val got sm).2.1 = [] := by
 have hs : ∀ (b : Bool) (w : Int) (o : Option (List GMsg)), ieq (B8 b w o).2.2.2 0 = false → (B8 b w o).1 = 0 ∧ (B8 b w o).2.1 = [] := fun b w o => by
  cases o
  · intro _; exact ⟨rfl, rfl⟩
  · intro h; cases h
 rw [AC] at h ⊢
 cases hc : ieq (Am g j) 0
 · exact ⟨rfl, rfl⟩
 · rw [hc] at h
   cases h1 : ilt v 0
   · cases h2 : ile g.N v
     · cases h3 : ilt step 0
       · cases h4 : ilt 40 step
         · rw [h1, h2, h3, h4] at h
           simp only [cT, cF] at h ⊢
           cases h5 : ieq j.Prog 5
           · rw [h5, cF, CW] at h
             rw [cF, CW]
             cases hm : Dm j.Prog j.Source step v val (Cu j.Prog val got sm)
             · rw [hm] at h; cases h
             · rw [hm] at h; exact hs _ _ _ h
           · rw [h5, cT, DO] at h
             rw [cT, DO]
             cases hw : (Dn step val got sm).2
             · exact ⟨rfl, rfl⟩
             · rw [hw] at h
               cases h10 : ile 10 step
               · rw [h10] at h; exact hs _ _ _ h
               · rw [h10] at h; cases h
         · exact ⟨rfl, rfl⟩
       · exact ⟨rfl, rfl⟩
     · exact ⟨rfl, rfl⟩
   · exact ⟨rfl, rfl⟩
theorem OY {g : GGraph} {j : GJob} {step v val got : Int} {sm : Bool} : (AC g j step v val got sm).2.1.length ≤ 80 := by
 have ho := C2 (g := g) (v := v)
 cases h : ieq (AC g j step v val got sm).2.2.2 0
 · rw [(Kd h).2]; simp
 · rcases Ii h with hz | hz
   · rw [hz]; simp
   · have := congrArg List.length hz
     simp only [List.length_map] at this
     omega
abbrev Tri := List Int × List Bool × List GMsg
theorem PM {p val many : Int} {e : GEdge} (hv : i64 val) : i64 (Ca p val e many).1 := by
 rw [Ca]
 cases ieq p 1
 · cases ieq p 3
   · cases ieq p 5
     · exact hv
     · exact IY
   · exact F6
 · exact F6
theorem JX {p val many : Int} (hv : i64 val) : ∀ {l : List GEdge} {s r : List GMsg}, (∀ m ∈ s, i64 m.V) → AE p val many l s = some r → ∀ m ∈ r, i64 m.V
 | [], s, r, hs, h => by injection h with h; subst h; exact hs
 | e :: l, s, r, hs, h => by
  rw [AE] at h
  cases hq : (Ca p val e many).2
  · rw [hq] at h; cases h
  · rw [hq, cT] at h
    refine JX hv (fun m hm => ?_) h
    rcases List.mem_append.1 hm with hm | hm
    · exact hs m hm
    · rw [List.mem_singleton.1 hm]; exact PM hv
theorem Ja {p w many : Int} {b : Bool} {l : List GEdge} (hw : i64 w) : i64 (B8 b w (AE p w many l [])).1 ∧ ∀ m ∈ (B8 b w (AE p w many l [])).2.1, i64 m.V := by
 have h0 : i64 0 := by unfold i64; omega
 cases hq : AE p w many l []
 · exact ⟨h0, fun m hm => absurd hm (List.not_mem_nil)⟩
 · exact ⟨hw, JX hw (fun m hm => absurd hm (List.not_mem_nil)) hq⟩
theorem OR {g : GGraph} {j : GJob} {step v val got : Int} {sm : Bool} (hv : i64 val) (hg : i64 got) : i64 (AC g j step v val got sm).1 ∧ ∀ m ∈ (AC g j step v val got sm).2.1, i64 m.V := by
 have h0 : i64 0 := by unfold i64; omega
 have hn : ∀ m ∈ ([] : List GMsg), i64 m.V := fun m hm => absurd hm (List.not_mem_nil)
 rw [AC]
 cases ieq (Am g j) 0
 · exact ⟨h0, hn⟩
 · cases ilt v 0
   · cases ile g.N v
     · cases ilt step 0
       · cases ilt 40 step
         · simp only [cT, cF]
           cases ieq j.Prog 5
           · have hw : i64 (Cu j.Prog val got sm) := by
              rw [Cu]
              cases sm
              · exact hv
              · exact Hq hv hg
             rw [cF, CW]
             cases Dm j.Prog j.Source step v val (Cu j.Prog val got sm)
             · exact ⟨hw, hn⟩
             · exact Ja hw
           · have hw : i64 (Dn step val got sm).1 := by
              rw [Dn]
              cases ilt 0 step
              · exact hv
              · exact O6
             rw [cT, DO]
             cases (Dn step val got sm).2
             · exact ⟨h0, hn⟩
             · cases ile 10 step
               · exact Ja hw
               · exact ⟨hw, hn⟩
         · exact ⟨h0, hn⟩
       · exact ⟨h0, hn⟩
     · exact ⟨h0, hn⟩
   · exact ⟨h0, hn⟩
theorem Mm {α : Type} {l : List α} {i : Nat} (h : i < l.length) (d : α) : inr (i : Int) (len l) = true ∧ elAt l (i : Int) = some (l.getD i d) := by
 refine ⟨decide_eq_true ⟨by omega, by show (i : Int) < (l.length : Int); omega⟩, ?_⟩
 rw [BB, List.getElem?_eq_getElem h, List.getD_eq_getElem?_getD, List.getElem?_eq_getElem h]; rfl
theorem Hm (p : Int) : ∀ (r : List GMsg) (c : GMsg) (d w : List GMsg), CF p r c d = .inr w → (∀ x ∈ r, c.To ≤ x.To) → r.Pairwise (fun a b => a.To ≤ b.To) → (d ++ [c]).Pairwise (fun a b => a.To < b.To) →
 w.Pairwise (fun a b => a.To < b.To) ∧ ∀ t ∈ w, ∃ s ∈ d ++ c :: r, s.To = t.To
 | [], c, d, w, h, _, _, hd => by
  injection h with h
  subst h
  exact ⟨hd, fun t ht => ⟨t, ht, rfl⟩⟩
 | x :: r, c, d, w, h, hc, hr, hd => by
  rw [CF] at h
  obtain ⟨hx, hr'⟩ := List.pairwise_cons.1 hr
  cases h1 : ieq c.To x.To
  · rw [h1, cF] at h
    have hne := Aq.1 h1
    have hlt := hc x List.mem_cons_self
    obtain ⟨q1, q2⟩ := Hm p r x (d ++ [c]) w h hx hr' (by
     refine List.pairwise_append.2 ⟨hd, List.pairwise_singleton _ _, fun u hu v hv => ?_⟩
     rw [List.mem_singleton.1 hv]
     rcases List.mem_append.1 hu with hu | hu
     · have := (List.pairwise_append.1 hd).2.2 u hu c (List.mem_singleton.2 rfl); omega
     · rw [List.mem_singleton.1 hu]; omega)
    exact ⟨q1, fun t ht => by
     obtain ⟨s, hs, e⟩ := q2 t ht
     exact ⟨s, by simpa using hs, e⟩⟩
  · rw [h1, cT] at h
    cases h2 : ieq (Az p c.V x.V).2 0
    · rw [h2] at h; cases h
    · rw [h2, cT] at h
      obtain ⟨q1, q2⟩ := Hm p r (GMsg.mk c.To (Az p c.V x.V).1) d w h (fun y hy => hc y (List.mem_cons_of_mem _ hy)) hr' (by
       obtain ⟨a, b, e⟩ := List.pairwise_append.1 hd
       exact List.pairwise_append.2 ⟨a, List.pairwise_singleton _ _, fun u hu v hv => by rw [List.mem_singleton.1 hv]; exact e u hu c (List.mem_singleton.2 rfl)⟩)
      refine ⟨q1, fun t ht => ?_⟩
      obtain ⟨s, hs, e⟩ := q2 t ht
      rcases List.mem_append.1 hs with hs | hs
      · exact ⟨s, List.mem_append_left _ hs, e⟩
      · rcases List.mem_cons.1 hs with rfl | hs
        · exact ⟨c, List.mem_append_right _ List.mem_cons_self, e⟩
        · exact ⟨s, List.mem_append_right _ (List.mem_cons_of_mem _ (List.mem_cons_of_mem _ hs)), e⟩
theorem JB {p : Int} {l : List GMsg} : (An p l).1.Pairwise (fun a b => a.To < b.To) ∧ ∀ t ∈ (An p l).1, ∃ s ∈ l, s.To = t.To := by
 have hn : (([] : List GMsg).Pairwise (fun a b => a.To < b.To)) ∧ ∀ t ∈ ([] : List GMsg), ∃ s ∈ l, s.To = t.To := ⟨List.Pairwise.nil, fun t ht => absurd ht List.not_mem_nil⟩
 have hp := CB l
 have hs : (As l).Pairwise (fun a b => a.To ≤ b.To) := (Fh l).imp fun {a b} h => by have := E3.1 h; omega
 rw [An]
 cases Ar p
 · rw [cF]
   generalize As l = m at *
   cases m with
   | nil => exact hn
   | cons x r =>
    rw [Fq]
    cases hq : CF p r x [] with
    | inl e => exact hn
    | inr w =>
     obtain ⟨h1, h2⟩ := List.pairwise_cons.1 hs
     obtain ⟨q1, q2⟩ := Hm p r x [] w hq h1 h2 (List.pairwise_singleton _ _)
     exact ⟨q1, fun t ht => by
      obtain ⟨s, hs, e⟩ := q2 t ht
      exact ⟨s, hp.mem_iff.1 hs, e⟩⟩
 · exact hn
theorem LC {g : GGraph} {v : Int} {e : GEdge} (h : e ∈ Ad g v) : 0 ≤ e.To ∧ e.To < g.N := by
 rw [Ad] at h
 cases hc : ieq (BW g) 0
 · rw [hc] at h; cases h
 · obtain ⟨h1, h2, h3, h4⟩ := Cl hc
   rw [hc] at h
   have := Ei (F8 h4 e (List.mem_filter.1 h).1)
   omega
theorem ML {g : GGraph} {j : GJob} {step v val got : Int} {sm : Bool} : ∀ m ∈ (AC g j step v val got sm).2.1, 0 ≤ m.To ∧ m.To < g.N := by
 intro m hm
 cases h : ieq (AC g j step v val got sm).2.2.2 0
 · rw [(Kd h).2] at hm; exact absurd hm List.not_mem_nil
 · rcases Ii h with hz | hz
   · rw [hz] at hm; exact absurd hm List.not_mem_nil
   · have : m.To ∈ (AC g j step v val got sm).2.1.map (·.To) := List.mem_map.2 ⟨m, hm, rfl⟩
     rw [hz] at this
     obtain ⟨e, he, q⟩ := List.mem_map.1 this
     rw [← q]; exact LC he
def AG (g : GGraph) (j : GJob) (x : GPart) (i v : Nat) : Int × List GMsg × Bool × Int :=
 bif x.Rest.getD i false && !(atS x.In (v : Int)).2 then (x.Vals.getD i 0, [], true, 0)
 else AC g j x.Step (v : Int) (x.Vals.getD i 0) (atS x.In (v : Int)).1 (atS x.In (v : Int)).2
def doA (g : GGraph) (j : GJob) (x : GPart) : List Nat → Nat → List Int → List Bool → List GMsg → Int ⊕ Tri
 | [], _, a, b, c => .inr (a, b, c)
 | v :: l, i, a, b, c => bif ieq (AG g j x i v).2.2.2 0 then doA g j x l (i + 1) (a ++ [(AG g j x i v).1]) (b ++ [(AG g j x i v).2.2.1]) (c ++ (AG g j x i v).2.1) else .inl (AG g j x i v).2.2.2
def toS (j : GJob) (c : List GMsg) (q : Int) : List GMsg := c.filter fun m => ieq (AO j m.To) q
def CK (j : GJob) (c : List GMsg) : List Nat → List (List GMsg) → Int ⊕ List (List GMsg)
 | [], d => .inr d
 | q :: l, d => bif ieq (An j.Prog (toS j c (q : Int))).2 0 then CK j c l (d ++ [(An j.Prog (toS j c (q : Int))).1]) else .inl (An j.Prog (toS j c (q : Int))).2
abbrev Did := GPart × List (List GMsg) × Int
def doC (x : GPart) (w : Tri) : Int ⊕ List (List GMsg) → Did
 | .inl e => (BN, [], e)
 | .inr t => (GPart.mk x.P (x.Step + 1) w.1 w.2.1 [], t, 0)
def doB (j : GJob) (x : GPart) : Int ⊕ Tri → Did
 | .inl e => (BN, [], e)
 | .inr w => doC x w (CK j w.2.2 (List.range j.Parts.toNat) [])
def doS (g : GGraph) (j : GJob) (x : GPart) : Did :=
 bif ieq (Am g j) 0 then (bif Ay g j x then (bif ieq x.Step 40 then (BN, [], 6) else doB j x (doA g j x (Au g j x.P) 0 [] [] [])) else (BN, [], 1)) else (BN, [], Am g j)
def AJ (x : GPart) : Prop := (∀ v ∈ x.Vals, i64 v) ∧ (∀ m ∈ x.In, i64 m.V)
theorem MU {x : GPart} (h : WGPart x) : AJ x := ⟨fun v hv => F2 (h.2.2.1.2 v hv), fun m hm => F2 ((h.2.2.2.2.1).2 m hm).2.1⟩
theorem NQ {g : GGraph} {j : GJob} {x : GPart} (hn : AJ x) {i v : Nat} : i64 (AG g j x i v).1 ∧ ∀ m ∈ (AG g j x i v).2.1, i64 m.V := by
 have h0 : i64 0 := by unfold i64; omega
 have hx : i64 (x.Vals.getD i 0) := by
  rw [List.getD_eq_getElem?_getD]
  cases hq : x.Vals[i]? with
  | none => exact h0
  | some y => exact hn.1 y (List.mem_of_getElem? hq)
 rw [AG]
 cases x.Rest.getD i false && !(atS x.In (v : Int)).2
 · exact OR hx (Ix hn.2)
 · exact ⟨hx, fun m hm => absurd hm (List.not_mem_nil)⟩
theorem JP {g : GGraph} {j : GJob} {x : GPart} {i v : Nat} : (AG g j x i v).2.1.length ≤ 80 ∧ ∀ m ∈ (AG g j x i v).2.1, 0 ≤ m.To ∧ m.To < g.N := by
 rw [AG]
 cases x.Rest.getD i false && !(atS x.In (v : Int)).2
 · exact ⟨OY, ML⟩
 · exact ⟨Nat.zero_le _, fun m hm => absurd hm (List.not_mem_nil)⟩
structure keepP (g : GGraph) (i : Nat) (a : List Int) (b : List Bool) (c : List GMsg) : Prop where
 la : a.length = i
 lb : b.length = i
 lc : c.length ≤ 80 * i
 va : ∀ v ∈ a, i64 v
 vc : ∀ m ∈ c, i64 m.V
 vt : ∀ m ∈ c, 0 ≤ m.To ∧ m.To < g.N
theorem G6 (g : GGraph) : keepP g 0 [] [] [] := ⟨rfl, rfl, Nat.zero_le _, fun v hv => absurd hv (List.not_mem_nil), fun m hm => absurd hm (List.not_mem_nil), fun m hm => absurd hm (List.not_mem_nil)⟩
theorem IZ {g : GGraph} {j : GJob} {x : GPart} (hn : AJ x) {i : Nat} (v : Nat) {a : List Int} {b : List Bool} {c : List GMsg} (h : keepP g i a b c) :
 keepP g (i + 1) (a ++ [(AG g j x i v).1]) (b ++ [(AG g j x i v).2.2.1]) (c ++ (AG g j x i v).2.1) := by
 obtain ⟨o1, o2⟩ := NQ (g := g) (j := j) hn (i := i) (v := v)
 obtain ⟨o3, o4⟩ := JP (g := g) (j := j) (x := x) (i := i) (v := v)
 refine ⟨by simp [h.la], by simp [h.lb], ?_, fun v hv => ?_, fun m hm => ?_, fun m hm => ?_⟩
 · have h3 := h.lc
   rw [List.length_append]; omega
 · rcases List.mem_append.1 hv with hv | hv
   · exact h.va v hv
   · rw [List.mem_singleton.1 hv]; exact o1
 · rcases List.mem_append.1 hm with hm | hm
   · exact h.vc m hm
   · exact o2 m hm
 · rcases List.mem_append.1 hm with hm | hm
   · exact h.vt m hm
   · exact o4 m hm
theorem H8 {g : GGraph} {j : GJob} {x : GPart} (hn : AJ x) : ∀ (l : List Nat) (i : Nat) (a : List Int) (b : List Bool) (c : List GMsg), keepP g i a b c → ∀ w, doA g j x l i a b c = .inr w → keepP g (i + l.length) w.1 w.2.1 w.2.2 := by
 intro l
 induction l with
 | nil => intro i a b c h w hw; injection hw with hw; subst hw; exact h
 | cons v l ih =>
  intro i a b c h w hw
  rw [doA] at hw
  cases hq : ieq (AG g j x i v).2.2.2 0
  · rw [hq] at hw; cases hw
  · rw [hq] at hw
    have := ih (i + 1) _ _ _ (IZ hn v h) w hw
    rwa [show i + 1 + l.length = i + (l.length + 1) by omega] at this
theorem MT (j : GJob) (c d : List GMsg) (q : Int) : toS j (c ++ d) q = toS j c q ++ toS j d q := List.filter_append _ _
theorem G7 (j : GJob) (c : List GMsg) (q : Int) : (toS j c q).length ≤ c.length := List.length_filter_le _ _
theorem FG {j : GJob} {c : List GMsg} {q : Int} {m : GMsg} (h : m ∈ toS j c q) : m ∈ c ∧ AO j m.To = q := by
 obtain ⟨a, b⟩ := List.mem_filter.1 h
 exact ⟨a, Ap.1 b⟩
theorem E2 {α : Type} (p : α → Bool) {step : α → Unit → (Unit → Option (Unit ⊕ Unit)) → Option (Unit ⊕ Unit)} : ∀ (l : List α), (∀ x ∈ l, ∀ c, step x () c = bif p x then c () else some (.inl ())) →
 goL step (fun _ => some (.inr ())) l () = some (CA (l.all p))
 | [], _ => rfl
 | x :: l, h => by
  rw [goL, h x List.mem_cons_self, E2 p l fun y hy => h y (List.mem_cons_of_mem _ hy), List.all_cons]
  cases p x <;> rfl
theorem G4 {α : Type} {l : List α} {i : Nat} (h : i < l.length) (d : α) : l.getD i d = l[i] := by rw [List.getD_eq_getElem?_getD, List.getElem?_eq_getElem h]; rfl
def Cv {α : Type} (p : α → Bool) (l : List α) : Int := match l.findIdx? p with | some q => (q : Int) | none => -1
theorem F0 {α : Type} (p : α → Bool) {step : Nat → α → Unit → (Unit → Option (Int ⊕ Unit)) → Option (Int ⊕ Unit)} : ∀ (l : List α) (i : Nat), (∀ x ∈ l, ∀ i c, step i x () c = bif p x then some (.inl (i : Int)) else c ()) →
 goI step (fun _ => some (.inr ())) i l () = some (match l.findIdx? p with | some q => .inl ((i + q : Nat) : Int) | none => .inr ())
 | [], _, _ => rfl
 | x :: l, i, h => by
  rw [goI, h x List.mem_cons_self, F0 p l (i + 1) fun y hy => h y (List.mem_cons_of_mem _ hy), List.findIdx?_cons]
  cases hp : p x
  · cases hq : l.findIdx? p with
    | none => simp
    | some q => simp; omega
  · simp
theorem GJ {α : Type} {γ : Type} (p : α → Bool) (l : List α) (f : Int → Option γ) : (some (match l.findIdx? p with | some q => Sum.inl ((0 + q : Nat) : Int) | none => Sum.inr ())).bind (fun y => Sum.elim (fun w => f w) (fun (_ : Unit) => f (-1)) y) = f (Cv p l) := by
 unfold Cv
 cases l.findIdx? p with
 | none => rfl
 | some q => simp
theorem Li {α : Type} (p : α → Bool) (l : List α) : Cv p l < 0 ↔ ∀ x ∈ l, p x = false := by
 unfold Cv
 cases h : l.findIdx? p with
 | none => simp only [List.findIdx?_eq_none_iff] at h; simpa using h
 | some q =>
  obtain ⟨hq, hp, _⟩ := List.findIdx?_eq_some_iff_getElem.1 h
  constructor
  · intro h'; dsimp only at h'; omega
  · intro h'; have := h' _ (List.getElem_mem hq); rw [this] at hp; cases hp
theorem Ge {α : Type} {p : α → Bool} {l : List α} (h : ¬ Cv p l < 0) : ∃ (q : Nat) (x : α), Cv p l = (q : Int) ∧ l[q]? = some x ∧ p x = true := by
 unfold Cv at h ⊢
 cases hf : l.findIdx? p with
 | none => rw [hf] at h; exact absurd (by decide) h
 | some q =>
  obtain ⟨hq, hp, _⟩ := List.findIdx?_eq_some_iff_getElem.1 hf
  exact ⟨q, l[q], rfl, List.getElem?_eq_getElem hq, hp⟩
theorem CC {α β : Type} (p : α → Bool) (f : α → β) (b : Nat) {step : α → List β → (List β → Option (List β)) → Option (List β)} (hb : b ≤ 1000) (N : Nat) (hN : N ≤ 1000000) : ∀ (l : List α) (a : List β), a.length + l.length ≤ N →
 (∀ x ∈ l, ∀ a c, step x a c = bif p x then (bif apok (len a) 1 b then c (appL a [f x]) else none) else c a) → goL step (fun a => some a) l a = some (a ++ (l.filter p).map f)
 | [], a, _, _ => by rw [goL]; simp
 | x :: l, a, hl, h => by
  rw [List.length_cons] at hl
  rw [goL, h x List.mem_cons_self]
  have hap : apok (len a) 1 b = true := decide_eq_true ⟨by show a.length + 1 ≤ _; omega, by
   show (a.length + 1) * b ≤ _
   have := Nat.mul_le_mul (show a.length + 1 ≤ 1000001 by omega) hb
   omega⟩
  cases hp : p x
  · rw [cF, CC p f b hb N hN l a om fun y hy => h y (List.mem_cons_of_mem _ hy), List.filter_cons, hp]; simp
  · rw [cT, hap, cT, appL, CC p f b hb N hN l (a ++ [f x]) (by simp; omega) fun y hy => h y (List.mem_cons_of_mem _ hy), List.filter_cons, hp]; simp
theorem Bu {n m b : Nat} (h : n + m ≤ 1000000) (hb : b ≤ 1000) : apok n m b = true := decide_eq_true ⟨by omega, by have := Nat.mul_le_mul h hb; omega⟩
def BO (n : Int) (l : List Int) : Bool := l.all (fun x => !(ilt x 0) && !(ilt 1099511627776 x)) && ile (l.length : Int) n
theorem Fd (K : Nat) (n : Int) (l : List Int) (hl : l.length < 1000000) (hK : l.length < K) : F66 K n l = some (BO n l) := by
 let step : Int → Unit → (Unit → Option (Unit ⊕ Unit)) → Option (Unit ⊕ Unit) := fun x _ c => bif (ilt x 0) then some (.inl ()) else bif (ilt 1099511627776 x) then some (.inl ()) else c ()
 have h := Ao (l := l) (L := fun k (_ : Unit) i => EA K n l k i) step (fun _ => some (.inr ())) (fun k s i _ => rfl) om hK ()
 have g := E2 (step := step) (fun x => !(ilt x 0) && !(ilt 1099511627776 x)) l (fun x _ c => by show (bif (ilt x 0) then _ else _) = _; cases ilt x 0 <;> cases ilt 1099511627776 x <;> rfl)
 have e : EA K n l K 0 = _ := h.trans g
 rw [F66, e, BO]
 cases l.all _ <;> rfl
def Fx (l : List GMsg) : Bool := l.all (fun m => BO 1 [m.To]) && ile (l.length : Int) 24
theorem JO (K : Nat) (l : List GMsg) (hl : l.length < 1000000) (hK : l.length < K) (h1 : 1 < K) : F67 K l = some (Fx l) := by
 let step : GMsg → Unit → (Unit → Option (Unit ⊕ Unit)) → Option (Unit ⊕ Unit) := fun x _ c => (F66 K 1 [x.To]).bind fun r => bif r then c () else some (.inl ())
 have h := Ao (l := l) (L := fun k (_ : Unit) i => D6 K l k i) step (fun _ => some (.inr ())) (fun k s i _ => rfl) om hK ()
 have g := E2 (step := step) (fun m => BO 1 [m.To]) l (fun x _ c => by show (F66 K 1 [x.To]).bind _ = _; rw [Fd K 1 [x.To] (by simp) (by simpa using h1)]; rfl)
 have e : D6 K l K 0 = _ := h.trans g
 rw [F67, e, Fx]
 cases l.all _ <;> rfl
def Cz (m : GMail) : Bool :=
 ile 1 m.Kind && (ile m.Kind 11 && (BO 9 [m.Epoch, m.Fresh, m.Step, m.P, m.Q, m.To, m.E, m.X.P, m.X.Step] && (BO 6 m.Owners && (BO 5 m.Ids && (BO (m.Ids.length : Int) m.Incs && (ieq (m.Incs.length : Int) (m.Ids.length : Int) &&
  (ile (m.X.Vals.length : Int) 24 && (ieq (m.X.Rest.length : Int) (m.X.Vals.length : Int) && (Fx m.X.In && Fx m.Msgs)))))))))
structure FitM (c : Nat) (m : GMail) : Prop where
 o : m.Owners.length ≤ c
 i : m.Ids.length ≤ c
 n : m.Incs.length ≤ c
 v : m.X.Vals.length ≤ c
 r : m.X.Rest.length ≤ c
 x : m.X.In.length ≤ c
 s : m.Msgs.length ≤ c
theorem Nw {K : Nat} (hK : 3000 ≤ K) (m : GMail) (h : FitM 2000 m) : F40 K m = some (Cz m) := by
 obtain ⟨h1, h2, h3, h4, h5, h6, h7⟩ := h
 rw [F40, Fd K 9 _ (by simp) (by simp; omega), Fd K 6 _ om om, Fd K 5 _ om om, Fd K _ m.Incs om om, JO K m.X.In om om om, JO K m.Msgs om om om]
 simp only [bS, Cz, CG]
 cases ile 1 m.Kind <;> cases ile m.Kind 11 <;> cases BO 9 [m.Epoch, m.Fresh, m.Step, m.P, m.Q, m.To, m.E, m.X.P, m.X.Step] <;> try rfl
 cases BO 6 m.Owners <;> cases BO 5 m.Ids <;> cases BO (m.Ids.length : Int) m.Incs <;> cases ieq (m.Incs.length : Int) (m.Ids.length : Int) <;> try rfl
 cases ile (m.X.Vals.length : Int) 24 <;> cases ieq (m.X.Rest.length : Int) (m.X.Vals.length : Int) <;> cases Fx m.X.In <;> rfl
theorem Kw {n : Int} {l : List Int} (h : BO n l = true) : (∀ x ∈ l, 0 ≤ x ∧ x ≤ 1099511627776) ∧ (l.length : Int) ≤ n := by
 simp only [BO, Bool.and_eq_true, List.all_eq_true, Bool.not_eq_true', Ac, CJ] at h
 exact h
def noT : GTable := GTable.mk 0 [] [] []
def Dh : Int → List Int → List Int → Bool
 | _, [], _ => true
 | p, a :: l, n :: r => !(ile a p) && (!(ilt 99 a) && (!(ilt n 1) && (!(ilt 1099511627776 n) && Dh a l r)))
 | _, _ :: _, [] => false
def BX (l : List Int) (a : Int) : Int := Cv (fun x => ieq x a) l
theorem IU (K : Nat) (l : List Int) (a : Int) (hl : l.length < 1000000) (hK : l.length < K) : Db K l a = some (BX l a) := by
 let step : Nat → Int → Unit → (Unit → Option (Int ⊕ Unit)) → Option (Int ⊕ Unit) := fun i x _ c => bif ieq x a then some (.inl (i : Int)) else c ()
 have h := Bj (l := l) (L := fun k (_ : Unit) i => Eu K l a k i) step (fun _ => some (.inr ())) (fun k s i _ => rfl) om K () 0 om om
 have g := F0 (step := step) (fun x => ieq x a) l 0 (fun x _ i c => rfl)
 rw [List.drop_zero] at h
 have e : Eu K l a K 0 = _ := h.trans g
 rw [Db, e]
 exact GJ _ _ fun w => some w
def BL (t : GTable) : Bool :=
 !(ilt t.Epoch 0) && (!(ilt 1099511627776 t.Epoch) && (!(ilt 5 (t.Ids.length : Int)) && (ieq (t.Incs.length : Int) (t.Ids.length : Int) && (!(ilt 6 (t.Owners.length : Int)) && (Dh 0 t.Ids t.Incs && t.Owners.all fun o => !(ilt (BX t.Ids o) 0))))))
theorem LM {K : Nat} (t : GTable) (hl : t.Ids.length ≤ 5) (he : t.Incs.length = t.Ids.length) (hK : 100 ≤ K) : DV K t.Epoch t.Owners t.Ids t.Incs K 0 0 = some (CA (Dh 0 t.Ids t.Incs)) := by
 let step : Nat → Int → Int → (Int → Option (Unit ⊕ Unit)) → Option (Unit ⊕ Unit) := fun i x p c =>
  bif (ile x p) then some (.inl ()) else bif (ilt 99 x) then some (.inl ()) else bif (inr (i : Int) (len t.Incs)) then (elAt t.Incs (i : Int)).bind fun n => bif (ilt n 1) then some (.inl ()) else bif (ilt 1099511627776 n) then some (.inl ()) else c x else none
 have h := Bj (l := t.Ids) (L := fun k p i => DV K t.Epoch t.Owners t.Ids t.Incs k p i) step (fun _ => some (.inr ())) (fun k s i _ => rfl) om K 0 0 om om
 have g : ∀ (l : List Int) (i : Nat) (p : Int), t.Ids.drop i = l → goI step (fun _ => some (.inr ())) i l p = some (CA (Dh p l (t.Incs.drop i))) := by
  intro l
  induction l with
  | nil => intro i p _; rw [goI, Dh]; rfl
  | cons x l ih =>
   intro i p hd
   have hlt := Dx hd
   have hn : t.Incs.drop i = t.Incs[i] :: t.Incs.drop (i + 1) := List.drop_eq_getElem_cons om
   have hd2 : t.Ids.drop (i + 1) = l := by
    have := List.drop_eq_getElem_cons hlt
    rw [hd] at this
    injection this with _ h2; exact h2.symm
   have e1 : inr (i : Int) (len t.Incs) = true := decide_eq_true ⟨by omega, by show (i : Int) < (t.Incs.length : Int); omega⟩
   have e2 : elAt t.Incs (i : Int) = some t.Incs[i] := by rw [BB]; exact List.getElem?_eq_getElem om
   rw [goI]
   show (bif (ile x p) then _ else _) = _
   rw [e1, e2, cT, bS, ih (i + 1) x hd2, hn, Dh]
   cases ile x p <;> cases ilt 99 x <;> cases ilt t.Incs[i] 1 <;> cases ilt 1099511627776 t.Incs[i] <;> rfl
 rw [List.drop_zero] at h
 have e : DV K t.Epoch t.Owners t.Ids t.Incs K 0 0 = _ := h.trans (g t.Ids 0 0 rfl)
 rw [List.drop_zero] at e
 exact e
theorem Hx {K : Nat} (hK : 100 ≤ K) (t : GTable) : En K t = some (BL t) := by
 rw [En, BL, CG, CG, CG]
 cases h1 : ilt t.Epoch 0
 · cases h2 : ilt 1099511627776 t.Epoch
   · cases h3 : ilt 5 (t.Ids.length : Int)
     · cases h4 : ieq (t.Incs.length : Int) (t.Ids.length : Int)
       · rfl
       · cases h5 : ilt 6 (t.Owners.length : Int)
         · rw [Ac] at h3 h5
           rw [Ap] at h4
           rw [LM t om om hK]
           cases Dh 0 t.Ids t.Incs
           · rfl
           · let step : Int → Unit → (Unit → Option (Unit ⊕ Unit)) → Option (Unit ⊕ Unit) := fun x _ c => (Db K t.Ids x).bind fun r => bif ilt r 0 then some (.inl ()) else c ()
             have h := Ao (l := t.Owners) (L := fun k (_ : Unit) i => Ew K t.Epoch t.Owners t.Ids t.Incs k i) step (fun _ => some (.inr ())) (fun k s i _ => rfl) om (K := K) om ()
             have g := E2 (step := step) (fun o => !(ilt (BX t.Ids o) 0)) t.Owners (fun x _ c => by show (Db K t.Ids x).bind _ = _; rw [IU K t.Ids x om om, bS]; cases ilt (BX t.Ids x) 0 <;> rfl)
             have e : Ew K t.Epoch t.Owners t.Ids t.Incs K 0 = _ := h.trans g
             simp only [cT, cF, CA, bS, Sum.elim_inr, e]
             cases t.Owners.all _ <;> rfl
         · rfl
     · rfl
   · rfl
 · rfl
theorem Gq {t : GTable} (h : BL t = true) : 0 ≤ t.Epoch ∧ t.Epoch ≤ 1099511627776 ∧ t.Ids.length ≤ 5 ∧ t.Incs.length = t.Ids.length ∧ t.Owners.length ≤ 6 ∧ Dh 0 t.Ids t.Incs = true ∧ ∀ o ∈ t.Owners, 0 ≤ BX t.Ids o := by
 simp only [BL, Bool.and_eq_true, Bool.not_eq_true', Ac, Ap, List.all_eq_true] at h
 obtain ⟨h1, h2, h3, h4, h5, h6, h7⟩ := h
 exact ⟨h1, h2, by omega, by omega, by omega, h6, h7⟩
def Ak (t : GTable) : GTable := bif BL t then t else noT
theorem Gz {α : Type} (l : List α) : appL [] l = l := List.nil_append l
theorem HW : BL noT = true := by decide
theorem GC (t : GTable) : BL (Ak t) = true := by
 rw [Ak]
 cases h : BL t
 · exact HW
 · exact h
theorem K8 (t : GTable) : Ak (Ak t) = Ak t := by
 have := GC t
 generalize Ak t = u at this ⊢
 rw [Ak, this]; rfl
theorem Jy {K : Nat} (hK : 100 ≤ K) (t : GTable) : F96 K t = some (Ak t) := by
 rw [F96, Hx hK, bS, Ak]
 cases h : BL t
 · rfl
 · obtain ⟨_, _, h3, h4, h5, _⟩ := Gq h
   have e1 : apok 0 (len t.Owners) 8 = true := Bu (by show 0 + t.Owners.length ≤ _; omega) om
   have e2 : apok 0 (len t.Ids) 8 = true := Bu (by show 0 + t.Ids.length ≤ _; omega) om
   have e3 : apok 0 (len t.Incs) 8 = true := Bu (by show 0 + t.Incs.length ≤ _; omega) om
   simp only [cT, e1, e2, e3, Gz]
def DU (t : GTable) (id : Int) : Int := bif ilt (BX (Ak t).Ids id) 0 then 0 else (Ak t).Incs.getD (BX (Ak t).Ids id).toNat 0
theorem NG {K : Nat} (hK : 100 ≤ K) (t : GTable) (id : Int) : F97 K t id = some (DU t id) := by
 obtain ⟨_, _, h3, h4, _⟩ := Gq (GC t)
 rw [F97, Jy hK, bS, IU K _ id om om, bS, DU]
 cases h : ilt (BX (Ak t).Ids id) 0
 · have hn : ¬ Cv (fun x => ieq x id) (Ak t).Ids < 0 := by rw [Ac] at h; exact Int.not_lt.2 h
   obtain ⟨q, x, hq, hx, _⟩ := Ge hn
   have hlt : q < (Ak t).Incs.length := by rw [h4]; exact (List.getElem?_eq_some_iff.1 hx).1
   have hf : BX (Ak t).Ids id = (q : Int) := hq
   have e1 : inr (q : Int) (len (Ak t).Incs) = true := decide_eq_true ⟨by omega, by show (q : Int) < ((Ak t).Incs.length : Int); omega⟩
   have e2 : elAt (Ak t).Incs (q : Int) = some (Ak t).Incs[q] := by rw [BB]; exact List.getElem?_eq_getElem hlt
   rw [hf, cF, cF, e1, e2, cT, bS, Int.toNat_natCast, G4 hlt]
 · rfl
def toT (t : GTable) (p : Int) : Int × Int × Int :=
 bif ilt p 0 || ile ((Ak t).Owners.length : Int) p then (0, 0, 4) else ((Ak t).Owners.getD p.toNat 0, DU t ((Ak t).Owners.getD p.toNat 0), 0)
theorem PU (t : GTable) (id : Int) : DU (Ak t) id = DU t id := by rw [DU, DU, K8]
theorem Kc {K : Nat} (hK : 100 ≤ K) (t : GTable) (p : Int) : F60 K t p = some (toT t p) := by
 rw [F60, Jy hK, bS, toT, CG]
 cases h1 : ilt p 0
 · cases h2 : ile ((Ak t).Owners.length : Int) p
   · rw [Ac] at h1
     rw [EE] at h2
     have e1 : inr p (len (Ak t).Owners) = true := decide_eq_true ⟨h1, h2⟩
     have e2 : elAt (Ak t).Owners p = some ((Ak t).Owners.getD p.toNat 0) := by
      show (Ak t).Owners[p.toNat]? = _
      rw [G4 om]; exact List.getElem?_eq_getElem om
     simp only [cF, e1, e2, cT, bS, NG hK, PU, Bool.or_false]
   · rfl
 · rfl
theorem NN {t : GTable} {p : Int} (h : ieq (toT t p).2.2 0 = true) : 0 ≤ p ∧ p < ((Ak t).Owners.length : Int) ∧ (toT t p).1 = (Ak t).Owners.getD p.toNat 0 := by
 rw [toT] at h ⊢
 cases hq : ilt p 0 || ile ((Ak t).Owners.length : Int) p
 · rw [Bool.or_eq_false_iff, Ac, EE] at hq
   exact ⟨hq.1, hq.2, rfl⟩
 · rw [hq] at h; cases h
abbrev B6 := List GMsg × List GMsg × List GMsg × List GMsg × List GMsg × List GMsg
abbrev S8 := List Int × List Bool × B6
def AK (j : GJob) (c : List GMsg) : B6 := (toS j c 0, toS j c 1, toS j c 2, toS j c 3, toS j c 4, toS j c 5)
theorem Qj (j : GJob) (m : GMsg) (q : Int) : toS j [m] q = bif ieq (AO j m.To) q then [m] else [] := by
 rw [toS, List.filter_cons]
 cases ieq (AO j m.To) q <;> rfl
def stA (K : Nat) (j : GJob) (m : GMsg) (s : B6) (c : B6 → Option B6) : Option B6 :=
 (F94 K j m.To).bind fun r =>
 bif (ieq r 0) then (bif (apok (len s.1) 1 16) then c (appL s.1 [m], s.2.1, s.2.2.1, s.2.2.2.1, s.2.2.2.2.1, s.2.2.2.2.2) else none) else
 bif (ieq r 1) then (bif (apok (len s.2.1) 1 16) then c (s.1, appL s.2.1 [m], s.2.2.1, s.2.2.2.1, s.2.2.2.2.1, s.2.2.2.2.2) else none) else
 bif (ieq r 2) then (bif (apok (len s.2.2.1) 1 16) then c (s.1, s.2.1, appL s.2.2.1 [m], s.2.2.2.1, s.2.2.2.2.1, s.2.2.2.2.2) else none) else
 bif (ieq r 3) then (bif (apok (len s.2.2.2.1) 1 16) then c (s.1, s.2.1, s.2.2.1, appL s.2.2.2.1 [m], s.2.2.2.2.1, s.2.2.2.2.2) else none) else
 bif (ieq r 4) then (bif (apok (len s.2.2.2.2.1) 1 16) then c (s.1, s.2.1, s.2.2.1, s.2.2.2.1, appL s.2.2.2.2.1 [m], s.2.2.2.2.2) else none) else
 bif (ieq r 5) then bif (apok (len s.2.2.2.2.2) 1 16) then c (s.1, s.2.1, s.2.2.1, s.2.2.2.1, s.2.2.2.2.1, appL s.2.2.2.2.2 [m]) else none else none
theorem Pq {K : Nat} (j : GJob) (m : GMsg) (c : List GMsg) (hl : c.length ≤ 3000) (h0 : 0 ≤ AO j m.To) (h5 : AO j m.To ≤ 5) (k : B6 → Option B6) : stA K j m (AK j c) k = k (AK j (c ++ [m])) := by
 have ap : ∀ q : Int, apok (len (toS j c q)) 1 16 = true := fun q => by
  have := G7 j c q
  exact decide_eq_true ⟨by show (toS j c q).length + 1 ≤ _; omega, by show ((toS j c q).length + 1) * 16 ≤ _; omega⟩
 rw [stA, J2, bS, AK, AK]
 simp only [MT, Qj, ap, cT]
 generalize AO j m.To = q at *
 rcases (by omega : q = 0 ∨ q = 1 ∨ q = 2 ∨ q = 3 ∨ q = 4 ∨ q = 5) with rfl | rfl | rfl | rfl | rfl | rfl <;> simp [ieq, appL]
theorem Qm {K : Nat} (j : GJob) : ∀ (l : List GMsg) (c : List GMsg), c.length + l.length ≤ 3000 → (∀ m ∈ l, 0 ≤ AO j m.To ∧ AO j m.To ≤ 5) → goL (stA K j) (fun s => some s) l (AK j c) = some (AK j (c ++ l)) := by
 intro l
 induction l with
 | nil => intro c _ _; rw [goL, List.append_nil]
 | cons m l ih =>
  intro c hl hh
  simp only [List.length_cons] at hl
  obtain ⟨h0, h5⟩ := hh m List.mem_cons_self
  rw [goL, Pq j m c om h0 h5, ih (c ++ [m]) (by simp only [List.length_append, List.length_singleton]; omega) (fun y hy => hh y (List.mem_cons_of_mem _ hy)), List.append_assoc]; rfl
theorem OS {K : Nat} (g : GGraph) (j : GJob) (x : GPart) (a : List Int) (b : List Bool) (v : Int) (r : Bool) (l : List GMsg) (i : Int) (c : List GMsg) (hl : c.length + l.length ≤ 3000) (hK : l.length < K) (hh : ∀ m ∈ l, 0 ≤ AO j m.To ∧ AO j m.To ≤ 5) :
 BV K g.N g.Edges j.Prog j.Source j.Limit j.Parts x.P x.Step x.Vals x.Rest x.In a b v r l i K (toS j c 0) (toS j c 1) (toS j c 2) (toS j c 3) (toS j c 4) (toS j c 5) 0 = some (AK j (c ++ l)) := by
 have h := Ao (l := l) (L := fun k (s : B6) p => BV K g.N g.Edges j.Prog j.Source j.Limit j.Parts x.P x.Step x.Vals x.Rest x.In a b v r l i k s.1 s.2.1 s.2.2.1 s.2.2.2.1 s.2.2.2.2.1 s.2.2.2.2.2 p) (stA K j) (fun s => some s) (fun k s p _ => rfl) om (K := K) hK (AK j c)
 rw [Qm j l c hl hh] at h
 exact h
def GF (K : Nat) (g : GGraph) (j : GJob) (x : GPart) (i : Nat) (y : Int) (s : S8) (c : S8 → Option (Int ⊕ S8)) : Option (Int ⊕ S8) :=
 (F92 K x.In (wadd .i64 x.P (wmul .i64 (i : Int) j.Parts))).bind fun r6057 =>
 bif (inr (i : Int) (len x.Rest)) then
 (elAt x.Rest (i : Int)).bind fun x6060 =>
 bif x6060 then
  (bif r6057.2 then
   ((F93 K g j x.Step (wadd .i64 x.P (wmul .i64 (i : Int) j.Parts)) y r6057.1 r6057.2).bind fun r6064 =>
   bif (ieq r6064.2.2.2 0) then
    ((BV K g.N g.Edges j.Prog j.Source j.Limit j.Parts x.P x.Step x.Vals x.Rest x.In s.1 s.2.1 r6064.1 r6064.2.2.1 r6064.2.1 (i : Int) K s.2.2.1 s.2.2.2.1 s.2.2.2.2.1 s.2.2.2.2.2.1 s.2.2.2.2.2.2.1 s.2.2.2.2.2.2.2 0).bind fun w6149 =>
    bif (apok (len s.1) 1 8) then
    bif (apok (len s.2.1) 1 1) then
    c (appL s.1 [r6064.1], appL s.2.1 [r6064.2.2.1], w6149)
    else none
    else none)
   else
   some (.inl r6064.2.2.2))
  else
  bif (apok (len s.1) 1 8) then
  bif (apok (len s.2.1) 1 1) then
  c (appL s.1 [y], appL s.2.1 [true], s.2.2)
  else none
  else none)
 else
 (F93 K g j x.Step (wadd .i64 x.P (wmul .i64 (i : Int) j.Parts)) y r6057.1 r6057.2).bind fun r6160 =>
 bif (ieq r6160.2.2.2 0) then
  ((BV K g.N g.Edges j.Prog j.Source j.Limit j.Parts x.P x.Step x.Vals x.Rest x.In s.1 s.2.1 r6160.1 r6160.2.2.1 r6160.2.1 (i : Int) K s.2.2.1 s.2.2.2.1 s.2.2.2.2.1 s.2.2.2.2.2.1 s.2.2.2.2.2.2.1 s.2.2.2.2.2.2.2 0).bind fun w6193 =>
  bif (apok (len s.1) 1 8) then
  bif (apok (len s.2.1) 1 1) then
  c (appL s.1 [r6160.1], appL s.2.1 [r6160.2.2.1], w6193)
  else none
  else none)
 else
 some (.inl r6160.2.2.2)
 else none
theorem LS (n m : Nat) : ∀ (k v i : Nat) (h : i < (Cr k n m v).length), (Cr k n m v)[i] = v + i * m := by
 intro k
 induction k with
 | zero => intro v i h; exact absurd h (Nat.not_lt_zero _)
 | succ k ih =>
  intro v i h
  by_cases hv : v < n
  · have e : Cr (k + 1) n m v = v :: Cr k n m (v + m) := by rw [Cr, if_pos hv]
    simp only [e] at h ⊢
    cases i with
    | zero => simp
    | succ i =>
     have h' : i < (Cr k n m (v + m)).length := by simpa using h
     rw [List.getElem_cons_succ, ih (v + m) i h', Nat.succ_mul]; omega
  · have e : Cr (k + 1) n m v = [] := by rw [Cr, if_neg hv]
    simp only [e, List.length_nil] at h
    exact absurd h (Nat.not_lt_zero _)
theorem Qp {g : GGraph} {j : GJob} (h1 : 1 ≤ j.Parts) (h6 : j.Parts ≤ 6) (hn : g.N ≤ 24) {p : Int} (hp : 0 ≤ p ∧ p < j.Parts) (i : Nat) (h : i < (Au g j p).length) : (((Au g j p)[i] : Nat) : Int) = p + (i : Int) * j.Parts := by
 obtain ⟨q, rfl⟩ := Int.eq_ofNat_of_zero_le hp.1
 have e : Au g j (q : Int) = Cr 30 g.N.toNat j.Parts.toNat q := (MV om om om om).symm
 simp only [e] at h ⊢
 rw [LS]
 have : ((j.Parts.toNat : Nat) : Int) = j.Parts := by omega
 rw [Int.natCast_add, Int.natCast_mul, this]
def Gv (j : GJob) : Int ⊕ Tri → Int ⊕ S8
 | .inl e => .inl e
 | .inr w => .inr (w.1, w.2.1, AK j w.2.2)
theorem Ml {j : GJob} (h1 : 1 ≤ j.Parts) (h6 : j.Parts ≤ 6) {v : Int} (h0 : 0 ≤ v) : AO j v = v % j.Parts ∧ 0 ≤ AO j v ∧ AO j v ≤ 5 := by
 have hm0 : 0 ≤ v % j.Parts := Int.emod_nonneg _ om
 have hm1 : v % j.Parts < j.Parts := Int.emod_lt_of_pos _ om
 have e : AO j v = v % j.Parts := by rw [AO, Ac.2 h0, Ac.2 h1, Ac.2 h6]; rfl
 rw [e]; exact ⟨rfl, hm0, by omega⟩
theorem QW {K : Nat} (hK : 3000 ≤ K) (g : GGraph) (j : GJob) (x : GPart) (hR : Ay g j x = true) (hn : AJ x) (hin : x.In.length ≤ 300) : ∀ (n i : Nat) (a : List Int) (b : List Bool) (c : List GMsg), i + n = x.Vals.length → keepP g i a b c →
 goI (GF K g j x) (fun s => some (.inr s)) i (x.Vals.drop i) (a, b, AK j c) = some (Gv j (doA g j x ((Au g j x.P).drop i) i a b c)) := by
 obtain ⟨hc, p1, p2, p3, p4, p5, p6, _⟩ := Dl hR
 obtain ⟨hg, _, _, _, _, _, _, p7, p8⟩ := Co hc
 obtain ⟨g1, g2, g3, _⟩ := Cl hg
 have hvl := Gf g j g2 x.P
 rw [Bb] at p5 p6
 intro n
 induction n with
 | zero =>
  intro i a b c hi _
  have e1 : x.Vals.drop i = [] := List.drop_eq_nil_of_le om
  have e2 : (Au g j x.P).drop i = [] := List.drop_eq_nil_of_le om
  rw [e1, e2]; rfl
 | succ n ih =>
  intro i a b c hi h
  have hlc := h.lc
  obtain ⟨v, hv⟩ : ∃ v, (Au g j x.P)[i]'om = v := ⟨_, rfl⟩
  have hat0 := Qp p7 p8 g2 ⟨p1, p2⟩ i om
  rw [hv] at hat0
  have hd2 : (Au g j x.P).drop i = v :: (Au g j x.P).drop (i + 1) := by rw [List.drop_eq_getElem_cons (by omega : i < (Au g j x.P).length), hv]
  have hvm : v ∈ Au g j x.P := hv ▸ List.getElem_mem _
  have hvn := ((N9 p7).1 hvm).1
  have hd1 : x.Vals.drop i = x.Vals.getD i 0 :: x.Vals.drop (i + 1) := by
   rw [List.drop_eq_getElem_cons (by omega : i < x.Vals.length), List.getD_eq_getElem?_getD, List.getElem?_eq_getElem (by omega : i < x.Vals.length)]; rfl
  have hv0 : 0 ≤ (i : Int) * j.Parts := Int.mul_nonneg om om
  have e1 : wmul .i64 (i : Int) j.Parts = (i : Int) * j.Parts := Jl (by unfold i64; omega)
  have e2 : wadd .i64 x.P ((i : Int) * j.Parts) = (v : Int) := by rw [Eb (by unfold i64; omega)]; omega
  have hnx := IZ (j := j) hn v h
  obtain ⟨la, lb, _, _, _, _⟩ := h
  obtain ⟨o3, o4⟩ := JP (g := g) (j := j) (x := x) (i := i) (v := v)
  obtain ⟨r1, r2⟩ := Mm (l := x.Rest) (i := i) om false
  have a1 : apok (len a) 1 8 = true := decide_eq_true ⟨by show a.length + 1 ≤ _; omega, by show (a.length + 1) * 8 ≤ _; omega⟩
  have a2 : apok (len b) 1 1 = true := decide_eq_true ⟨by show b.length + 1 ≤ _; omega, by show (b.length + 1) * 1 ≤ _; omega⟩
  have hx : i64 (x.Vals.getD i 0) := by
   rw [List.getD_eq_getElem?_getD]
   cases hq : x.Vals[i]? with
   | none => show i64 0; unfold i64; omega
   | some y => exact hn.1 y (List.mem_of_getElem? hq)
  have hat := Ix (l := x.In) (v := (v : Int)) hn.2
  have nx := ih (i + 1) _ _ _ om hnx
  have f99 := LG (K := K) om g j x.Step (v : Int) (atS x.In (v : Int)).2 hx hat
  have hro := fun (aa : List Int) (bb : List Bool) (vv : Int) (rr : Bool) => OS (K := K) g j x aa bb vv rr (AG g j x i v).2.1 (i : Int) c om om (fun m hm => (Ml p7 p8 (o4 m hm).1).2)
  rw [hd1, hd2, goI, GF, doA, e1, e2, NZ x.In (v : Int) om om, r1, r2]
  simp only [cT, bS, f99, a1, a2]
  have eb : ∀ c, (AK j c).1 = toS j c 0 ∧ (AK j c).2.1 = toS j c 1 ∧ (AK j c).2.2.1 = toS j c 2 ∧ (AK j c).2.2.2.1 = toS j c 3 ∧ (AK j c).2.2.2.2.1 = toS j c 4 ∧ (AK j c).2.2.2.2.2 = toS j c 5 := fun c => ⟨rfl, rfl, rfl, rfl, rfl, rfl⟩
  obtain ⟨q0, q1, q2, q3, q4, q5⟩ := eb c
  rw [q0, q1, q2, q3, q4, q5]
  cases hs : (atS x.In (v : Int)).2
  · cases hy : x.Rest.getD i false
    · have hT : AG g j x i v = AC g j x.Step (v : Int) (x.Vals.getD i 0) (atS x.In (v : Int)).1 false := by rw [AG, hy, hs]; rfl
      rw [hT] at nx hro ⊢
      simp only [cF, cT, hro, bS]
      cases ieq (AC g j x.Step (v : Int) (x.Vals.getD i 0) (atS x.In (v : Int)).1 false).2.2.2 0
      · rfl
      · exact nx
    · have hT : AG g j x i v = (x.Vals.getD i 0, [], true, 0) := by rw [AG, hy, hs]; rfl
      rw [hT] at nx ⊢
      simp only [List.append_nil] at nx ⊢
      exact nx
  · have hT : AG g j x i v = AC g j x.Step (v : Int) (x.Vals.getD i 0) (atS x.In (v : Int)).1 true := by rw [AG, hs, Bool.not_true, Bool.and_false]; rfl
    rw [hT] at nx hro ⊢
    simp only [cF, cT, hro, bS]
    cases x.Rest.getD i false <;> cases ieq (AC g j x.Step (v : Int) (x.Vals.getD i 0) (atS x.In (v : Int)).1 true).2.2.2 0 <;> first | rfl | exact nx
def Ga (K : Nat) (j : GJob) (s : B6) (q : Nat) (d : List (List GMsg)) (c : List (List GMsg) → Option (Int ⊕ List (List GMsg))) : Option (Int ⊕ List (List GMsg)) :=
 bif (ieq (q : Int) 0) then ((F95 K j.Prog s.1).bind fun r => bif (ieq r.2 0) then (bif (apok (len d) 1 24) then c (appL d [r.1]) else none) else some (.inl r.2)) else
 bif (ieq (q : Int) 1) then ((F95 K j.Prog s.2.1).bind fun r => bif (ieq r.2 0) then (bif (apok (len d) 1 24) then c (appL d [r.1]) else none) else some (.inl r.2)) else
 bif (ieq (q : Int) 2) then ((F95 K j.Prog s.2.2.1).bind fun r => bif (ieq r.2 0) then (bif (apok (len d) 1 24) then c (appL d [r.1]) else none) else some (.inl r.2)) else
 bif (ieq (q : Int) 3) then ((F95 K j.Prog s.2.2.2.1).bind fun r => bif (ieq r.2 0) then (bif (apok (len d) 1 24) then c (appL d [r.1]) else none) else some (.inl r.2)) else
 bif (ieq (q : Int) 4) then ((F95 K j.Prog s.2.2.2.2.1).bind fun r => bif (ieq r.2 0) then (bif (apok (len d) 1 24) then c (appL d [r.1]) else none) else some (.inl r.2)) else
 bif (ieq (q : Int) 5) then (F95 K j.Prog s.2.2.2.2.2).bind fun r => bif (ieq r.2 0) then (bif (apok (len d) 1 24) then c (appL d [r.1]) else none) else some (.inl r.2) else none
theorem K6 {K : Nat} (hK : 3000 ≤ K) (j : GJob) (c : List GMsg) (hl : c.length ≤ 2000) (hv : ∀ m ∈ c, i64 m.V) (q : Nat) (hq : q < 6) (d : List (List GMsg)) (hd : d.length ≤ 6) (k : List (List GMsg) → Option (Int ⊕ List (List GMsg))) :
 Ga K j (AK j c) q d k = bif ieq (An j.Prog (toS j c (q : Int))).2 0 then k (d ++ [(An j.Prog (toS j c (q : Int))).1]) else some (.inl (An j.Prog (toS j c (q : Int))).2) := by
 have ap : apok (len d) 1 24 = true := decide_eq_true ⟨by show d.length + 1 ≤ _; omega, by show (d.length + 1) * 24 ≤ _; omega⟩
 have hlen := fun q => G7 j c q
 have f := fun (q : Int) => JG (K := K) j.Prog (toS j c q) (fun m hm => hv m (FG hm).1) (by have := hlen q; omega) (by have := hlen q; omega)
 rw [Ga, AK]
 simp only [f, bS, ap, cT]
 rcases (by omega : q = 0 ∨ q = 1 ∨ q = 2 ∨ q = 3 ∨ q = 4 ∨ q = 5) with rfl | rfl | rfl | rfl | rfl | rfl <;> rfl
theorem Qf {K : Nat} (hK : 3000 ≤ K) (j : GJob) (c : List GMsg) (hl : c.length ≤ 2000) (hv : ∀ m ∈ c, i64 m.V) : ∀ (l : List Nat) (d : List (List GMsg)), (∀ q ∈ l, q < 6) → d.length + l.length ≤ 6 →
 goL (Ga K j (AK j c)) (fun d => some (.inr d)) l d = some (CK j c l d) := by
 intro l
 induction l with
 | nil => intro d _ _; rfl
 | cons q l ih =>
  intro d hq hd
  simp only [List.length_cons] at hd
  rw [goL, K6 hK j c hl hv q (hq q List.mem_cons_self) d om, CK, ih _ (fun y hy => hq y (List.mem_cons_of_mem _ hy)) (by simp only [List.length_append, List.length_singleton]; omega)]
  cases ieq (An j.Prog (toS j c (q : Int))).2 0 <;> rfl
theorem Nu {K : Nat} (hK : 3000 ≤ K) (g : GGraph) (j : GJob) (x : GPart) (hn : AJ x) (hin : x.In.length ≤ 300) (hp : i64 x.P) : F58 K g j x = some (doS g j x) := by
 rw [F58, DR om, GX om g j x om om hp, bS, bS, doS]
 cases hc : ieq (Am g j) 0
 · rfl
 · cases hR : Ay g j x
   · rfl
   · cases h40 : ieq x.Step 40
     · obtain ⟨_, p1, p2, p3, p4, p5, p6, _⟩ := Dl hR
       obtain ⟨hg, _, _, _, _, _, _, p7, p8⟩ := Co hc
       obtain ⟨g1, g2, g3, _⟩ := Cl hg
       have hvl := Gf g j g2 x.P
       rw [Bb] at p5 p6
       have h := Bj (l := x.Vals) (L := fun k (s : S8) i => CS K g.N g.Edges j.Prog j.Source j.Limit j.Parts x.P x.Step x.Vals x.Rest x.In k s.1 s.2.1 s.2.2.1 s.2.2.2.1 s.2.2.2.2.1 s.2.2.2.2.2.1 s.2.2.2.2.2.2.1 s.2.2.2.2.2.2.2 i) (GF K g j x) (fun s => some (.inr s)) (fun k s i _ => rfl) om K ([], [], AK j []) 0 om om
       have h' : CS K g.N g.Edges j.Prog j.Source j.Limit j.Parts x.P x.Step x.Vals x.Rest x.In K [] [] [] [] [] [] [] [] 0 = some (Gv j (doA g j x (Au g j x.P) 0 [] [] [])) := by
        rw [show CS K g.N g.Edges j.Prog j.Source j.Limit j.Parts x.P x.Step x.Vals x.Rest x.In K [] [] [] [] [] [] [] [] 0 = _ from h]
        have := QW hK g j x hR hn hin x.Vals.length 0 [] [] [] om (G6 g)
        rwa [List.drop_zero] at this
       simp only [cT, cF, h', bS]
       cases hA : doA g j x (Au g j x.P) 0 [] [] [] with
       | inl e => rfl
       | inr w =>
        have kw := H8 hn _ 0 [] [] [] (G6 g) w hA
        have hwl := kw.lc
        have hw : wadd .i64 x.Step 1 = x.Step + 1 := Eb (by unfold i64; omega)
        have t := FO (N := j.Parts) (L := fun k d i => Cc K j.Prog j.Source j.Limit j.Parts x.P (x.Step + 1) w.1 w.2.1 (toS j w.2.2 0) (toS j w.2.2 1) (toS j w.2.2 2) (toS j w.2.2 3) (toS j w.2.2 4) (toS j w.2.2 5) k d i) (fun q d c => Ga K j (AK j w.2.2) q d c) (fun d => some (.inr d)) (fun k d i _ => rfl) om (K := K) om []
        have t' : Cc K j.Prog j.Source j.Limit j.Parts x.P (x.Step + 1) w.1 w.2.1 (toS j w.2.2 0) (toS j w.2.2 1) (toS j w.2.2 2) (toS j w.2.2 3) (toS j w.2.2 4) (toS j w.2.2 5) K [] 0 = some (CK j w.2.2 (List.range j.Parts.toNat) []) := by
         rw [show Cc K j.Prog j.Source j.Limit j.Parts x.P (x.Step + 1) w.1 w.2.1 (toS j w.2.2 0) (toS j w.2.2 1) (toS j w.2.2 2) (toS j w.2.2 3) (toS j w.2.2 4) (toS j w.2.2 5) K [] 0 = _ from t]
         exact Qf hK j w.2.2 om kw.vc _ [] (fun q hq => by have := List.mem_range.1 hq; omega) (by rw [List.length_range]; simp only [List.length_nil]; omega)
        simp only [Gv, Sum.elim_inr, AK, hw, t', bS, doB]
        cases CK j w.2.2 (List.range j.Parts.toNat) [] <;> rfl
     · rfl
def Ct (l : List GHeld) (p : Int) : Int := Cv (fun h => ieq h.X.P p) l
theorem I7 (K : Nat) (w : GWorker) (p : Int) (hl : w.Held.length < 1000000) (hK : w.Held.length < K) : EM K w p = some (Ct w.Held p, w) := by
 let step : Nat → GHeld → Unit → (Unit → Option (Int ⊕ Unit)) → Option (Int ⊕ Unit) := fun i x _ c => bif ieq x.X.P p then some (.inl (i : Int)) else c ()
 have h := Bj (l := w.Held) (L := fun k (_ : Unit) i => ED K w p k i) step (fun _ => some (.inr ())) (fun k s i _ => rfl) om K () 0 om om
 have g := F0 (step := step) (fun h => ieq h.X.P p) w.Held 0 (fun x _ i c => rfl)
 rw [List.drop_zero] at h
 have e : ED K w p K 0 = _ := h.trans g
 rw [EM, e]
 exact GJ _ _ fun q => some (q, w)
def BK (g : GGraph) (j : GJob) (w : GWorker) (x : GPart) : Bool := ieq (toT w.T x.P).2.2 0 && (ieq (toT w.T x.P).1 w.Id && (Ay g j x && ilt (Ct w.Held x.P) 0))
theorem GD {K : Nat} (hK : 1000 ≤ K) (w : GWorker) (g : GGraph) (j : GJob) (x : GPart) (hh : w.Held.length ≤ 100) (hx : x.In.length < 1000000 ∧ x.In.length < K) (hp : i64 x.P) : CL K w g j x = some (BK g j w x, w) := by
 rw [CL, Kc om, bS, BK, GX hK g j x hx.1 hx.2 hp, I7 K w x.P om om]
 cases ieq (toT w.T x.P).2.2 0
 · rfl
 · cases ieq (toT w.T x.P).1 w.Id
   · rfl
   · cases Ay g j x <;> rfl
def C3 (l : List GHeld) (x : GPart) : List GHeld := l.takeWhile (fun h => ilt h.X.P x.P) ++ [GHeld.mk x false false] ++ l.dropWhile (fun h => ilt h.X.P x.P)
theorem MF (K : Nat) (w : GWorker) (x : GPart) (hl : w.Held.length < 1000000) : ∀ (k i : Nat), w.Held.length - i < k → i ≤ w.Held.length → DF K w x k (i : Int) = some (((i + ((w.Held.drop i).takeWhile fun h => ilt h.X.P x.P).length : Nat)) : Int) := by
 intro k
 induction k with
 | zero => intro i h; omega
 | succ k ih =>
  intro i hk hi
  rw [DF]
  rcases G2 w.Held i with ⟨h, e1, e2, e3, e4⟩ | ⟨e1, e2⟩
  · have hlt := Dx e1
    rw [e2, e3, e4, e1, List.takeWhile_cons]
    simp only [cT, bS]
    cases hp : ilt h.X.P x.P
    · simp
    · rw [cT, FR om, ih (i + 1) om om]
      simp; omega
  · rw [e1, e2]; simp
theorem PL {α : Type} (p : α → Bool) (l : List α) : l.take (l.takeWhile p).length = l.takeWhile p := by
 conv => lhs; rw [← List.takeWhile_append_dropWhile (p := p) (l := l)]
 rw [List.takeWhile_append_dropWhile]
 induction l with
 | nil => rfl
 | cons x l ih =>
  rw [List.takeWhile_cons]
  cases p x
  · rfl
  · simp [ih]
theorem Jo {α : Type} (p : α → Bool) (l : List α) : l.drop (l.takeWhile p).length = l.dropWhile p := by
 induction l with
 | nil => rfl
 | cons x l ih =>
  rw [List.takeWhile_cons, List.dropWhile_cons]
  cases p x
  · rfl
  · simp [ih]
theorem OD {α : Type} (p : α → Bool) (l : List α) : (l.takeWhile p).length ≤ l.length := (List.takeWhile_sublist p).length_le
theorem GO (K : Nat) (w : GWorker) (x : GPart) (hl : w.Held.length ≤ 100) (hK : 1000 ≤ K) : CN K w x = some { w with Held := C3 w.Held x } := by
 have e : DF K w x K 0 = some (((w.Held.takeWhile fun h => ilt h.X.P x.P).length : Nat) : Int) := by
  have e := MF K w x om K 0 om om
  rw [List.drop_zero, Nat.zero_add] at e; exact e
 have hle := OD (fun h => ilt h.X.P x.P) w.Held
 have hdl : (w.Held.dropWhile fun h => ilt h.X.P x.P).length ≤ w.Held.length := (List.dropWhile_sublist _).length_le
 have s1 : subL w.Held ((w.Held.takeWhile fun h => ilt h.X.P x.P).length : Int) (nlen (len w.Held)) = w.Held.dropWhile fun h => ilt h.X.P x.P := by
  show (w.Held.drop (Int.toNat _)).take _ = _
  simp only [CG, Int.toNat_natCast]
  rw [Jo, List.take_of_length_le]
  rw [← Jo, List.length_drop]; exact Nat.le_refl _
 have s2 : subL w.Held 0 ((w.Held.takeWhile fun h => ilt h.X.P x.P).length : Int) = w.Held.takeWhile fun h => ilt h.X.P x.P := by
  show (w.Held.drop 0).take ((((w.Held.takeWhile fun h => ilt h.X.P x.P).length : Nat) : Int).toNat - 0) = _
  rw [Int.toNat_natCast, List.drop_zero, Nat.sub_zero]
  exact PL _ _
 have b1 : bnd ((w.Held.takeWhile fun h => ilt h.X.P x.P).length : Int) (nlen (len w.Held)) (len w.Held) = true := decide_eq_true ⟨by omega, by rw [CG]; omega, by show nlen (len w.Held) ≤ ((len w.Held : Nat) : Int); exact Int.le_refl _⟩
 have b2 : bnd 0 ((w.Held.takeWhile fun h => ilt h.X.P x.P).length : Int) (len w.Held) = true := decide_eq_true ⟨Int.le_refl _, by omega, by show _ ≤ ((w.Held.length : Nat) : Int); omega⟩
 have a1 : apok 0 (len (w.Held.dropWhile fun h => ilt h.X.P x.P)) 96 = true := Bu (by show 0 + (w.Held.dropWhile fun h => ilt h.X.P x.P).length ≤ _; omega) om
 have a2 : apok (len (w.Held.takeWhile fun h => ilt h.X.P x.P)) 1 96 = true := Bu (by show (w.Held.takeWhile fun h => ilt h.X.P x.P).length + 1 ≤ _; omega) om
 have a3 : apok (len (appL (w.Held.takeWhile fun h => ilt h.X.P x.P) [GHeld.mk x false false])) (len (w.Held.dropWhile fun h => ilt h.X.P x.P)) 96 = true := Bu (by show (appL (w.Held.takeWhile fun h => ilt h.X.P x.P) [GHeld.mk x false false]).length + (w.Held.dropWhile fun h => ilt h.X.P x.P).length ≤ _; rw [appL, List.length_append, List.length_singleton]; omega) om
 rw [CN, e, bS]
 simp only [s1, s2, b1, b2, Ai, Gz, a1, a2, a3, cT]
 rfl
def Ed (w : GWorker) (e : Int) : GWorker := { w with Buf := w.Buf.filter (fun d => ile e d.Epoch), Coming := w.Coming.filter (fun c => ile e c.Epoch) }
theorem H1 {K : Nat} (w : GWorker) (e : Int) (h1 : w.Buf.length ≤ 1000000) (h2 : w.Coming.length ≤ 1000000) (k1 : w.Buf.length < K) (k2 : w.Coming.length < K) : DC K w e = some (Ed w e) := by
 let st1 : GData → List GData → (List GData → Option (List GData)) → Option (List GData) := fun x a c => bif ile e x.Epoch then (bif apok (len a) 1 56 then c (appL a [x]) else none) else c a
 have e1 := Ao (l := w.Buf) (L := fun k a i => Dy K w e k a i) st1 (fun a => some a) (fun k s i _ => rfl) om k1 []
 have g1 := CC (step := st1) (fun d => ile e d.Epoch) (fun d => d) 56 om 1000000 om w.Buf [] (by simp; omega) (fun x _ a c => rfl)
 have f1 : Dy K w e K [] 0 = some (w.Buf.filter fun d => ile e d.Epoch) := (e1.trans g1).trans (by simp)
 rw [DC, f1, bS]
 let st2 : GComing → List GComing → (List GComing → Option (List GComing)) → Option (List GComing) := fun x a c => bif ile e x.Epoch then (bif apok (len a) 1 96 then c (appL a [x]) else none) else c a
 have e2 := Ao (l := w.Coming) (L := fun k a i => DH K w e (w.Buf.filter fun d => ile e d.Epoch) k a i) st2 (fun a => some a) (fun k s i _ => rfl) om k2 []
 have g2 := CC (step := st2) (fun d => ile e d.Epoch) (fun d => d) 96 om 1000000 om w.Coming [] (by simp; omega) (fun x _ a c => rfl)
 have f2 : DH K w e (w.Buf.filter fun d => ile e d.Epoch) K [] 0 = some (w.Coming.filter fun d => ile e d.Epoch) := (e2.trans g2).trans (by simp)
 rw [f2]; rfl
def EP (w : GWorker) (m : GMail) : GWorker := { w with Out := w.Out ++ [GPost.mk 0 0 m] }
theorem E5 (K : Nat) (w : GWorker) (m : GMail) (h : w.Out.length ≤ 900000) : CU K w m = some (EP w m) := by
 rw [CU, Bu (by show w.Out.length + 1 ≤ _; omega) om]; rfl
def BC : GPart := GPart.mk 0 0 [] [] []
def CT (w : GWorker) (p : Int) : GMail := GMail.mk 5 w.T.Epoch 0 w.Goal p 0 0 8 [] [] [] BC []
def GP (w : GWorker) (p : Int) : GWorker := EP w (CT w p)
theorem Jm (K : Nat) (w : GWorker) (p : Int) (h : w.Out.length ≤ 900000) : D5 K w p = some (GP w p) := by
 rw [D5, E5 K _ _ h]; rfl
def Fa (e s q p : Int) (d : GData) : Bool := ieq d.Epoch e && (ieq d.Step s && (ieq d.Q q && ieq d.P p))
def Bz (l : List GData) (e s q p : Int) : Int := Cv (Fa e s q p) l
theorem JT (K : Nat) (w : GWorker) (e s q p : Int) (hl : w.Buf.length < 1000000) (hK : w.Buf.length < K) : Di K w e s q p = some (Bz w.Buf e s q p, w) := by
 let step : Nat → GData → Unit → (Unit → Option (Int ⊕ Unit)) → Option (Int ⊕ Unit) := fun i x _ c =>
  bif ieq x.Epoch e then (bif ieq x.Step s then (bif ieq x.Q q then (bif ieq x.P p then some (.inl (i : Int)) else c ()) else c ()) else c ()) else c ()
 have h := Bj (l := w.Buf) (L := fun k (_ : Unit) i => CZ K w e s q p k i) step (fun _ => some (.inr ())) (fun k s i _ => rfl) om K () 0 om om
 have g := F0 (step := step) (Fa e s q p) w.Buf 0 (fun x _ i c => by
  show (bif ieq x.Epoch e then (bif ieq x.Step s then (bif ieq x.Q q then (bif ieq x.P p then _ else _) else _) else _) else _) = _
  rw [Fa]
  cases ieq x.Epoch e <;> cases ieq x.Step s <;> cases ieq x.Q q <;> cases ieq x.P p <;> rfl)
 rw [List.drop_zero] at h
 have e : CZ K w e s q p K 0 = _ := h.trans g
 rw [Di, e]
 exact GJ _ _ fun q => some (q, w)
def AP (j : GJob) (e : Int) (m : GMail) : GTable × Bool := (GTable.mk e m.Owners m.Ids m.Incs, BL (GTable.mk e m.Owners m.Ids m.Incs) && (ilt 0 e && ieq (m.Owners.length : Int) j.Parts))
theorem I6 {K : Nat} (hK : 100 ≤ K) (j : GJob) (e : Int) (m : GMail) : F68 K j e m = some (AP j e m) := by
 rw [F68, Hx hK, bS, AP, CG]
 cases BL (GTable.mk e m.Owners m.Ids m.Incs) <;> cases ilt 0 e <;> rfl
def Dr (m : GMail) : GMail := GMail.mk 2 m.Epoch 0 0 m.X.P 0 0 0 [] [] [] BC []
def Ec (g : GGraph) (j : GJob) (w : GWorker) (m : GMail) : GWorker := bif BK g j w m.X then EP { w with Held := C3 w.Held m.X } (Dr m) else w
def EY (g : GGraph) (j : GJob) (w : GWorker) (m : GMail) : GWorker :=
 bif (AP j m.Epoch m).2 then (bif ilt m.Epoch w.T.Epoch then w else bif ilt w.T.Epoch m.Epoch then Ec g j (Ed { w with Goal := -1, T := (AP j m.Epoch m).1, Held := [], Out := [] } m.Epoch) m else Ec g j w m) else w
structure Sml (w : GWorker) : Prop where
 h : w.Held.length ≤ 50
 b : w.Buf.length ≤ 500000
 c : w.Coming.length ≤ 500000
 o : w.Out.length ≤ 500000
theorem FA {α : Type} (p : α → Bool) (l : List α) : (l.filter p).length ≤ l.length := List.length_filter_le p l
theorem N3 {K : Nat} (hK : 1000000 ≤ K) (w : GWorker) (g : GGraph) (j : GJob) (m : GMail) (hw : Sml w) (hx : FitM 2000 m) (hp : i64 m.X.P) : Fg K w g j m = some (EY g j w m) := by
 have hin : m.X.In.length < 1000000 ∧ m.X.In.length < K := by have := hx.x; omega
 rw [Fg, I6 om, bS, EY]
 cases (AP j m.Epoch m).2
 · rfl
 · cases ilt m.Epoch w.T.Epoch
   · rw [cT, cT, cF, cF]
     cases ilt w.T.Epoch m.Epoch
     · rw [cF, cF, GD om w g j m.X (by have := hw.h; omega) hin hp, bS, Ec]
       cases BK g j w m.X
       · rfl
       · show (CN K w m.X).bind _ = _
         rw [GO K w m.X (by have := hw.h; omega) om, bS, E5 K _ _ (by have := hw.o; show w.Out.length ≤ _; omega)]; rfl
     · rw [cT, cT, H1 (w := GWorker.mk w.Id (-1) w.Until (AP j m.Epoch m).1 [] w.Buf w.Coming []) m.Epoch (by have := hw.b; show w.Buf.length ≤ _; omega) (by have := hw.c; show w.Coming.length ≤ _; omega) (by have := hw.b; show w.Buf.length < _; omega) (by have := hw.c; show w.Coming.length < _; omega), bS]
       show (CL K (Ed { w with Goal := -1, T := (AP j m.Epoch m).1, Held := [], Out := [] } m.Epoch) g j m.X).bind _ = _
       generalize hv : Ed { w with Goal := -1, T := (AP j m.Epoch m).1, Held := [], Out := [] } m.Epoch = v
       have vh : v.Held = [] := by rw [← hv]; rfl
       have vo : v.Out = [] := by rw [← hv]; rfl
       rw [GD om v g j m.X (by rw [vh]; simp) hin hp, bS, Ec]
       cases BK g j v m.X
       · rfl
       · show (CN K v m.X).bind _ = _
         rw [GO K v m.X (by rw [vh]; simp) om, bS, E5 K _ _ (by show v.Out.length ≤ _; rw [vo]; simp)]; rfl
   · rfl
def Fo (w : GWorker) (m : GMail) : GWorker := bif ieq m.Epoch w.T.Epoch then { w with Goal := m.Step } else w
theorem LF (K : Nat) (w : GWorker) (g : GGraph) (j : GJob) (m : GMail) : Ft K w g j m = some (Fo w m) := by
 rw [Ft, Fo]
 cases ieq m.Epoch w.T.Epoch <;> rfl
def Cy (w : GWorker) (m : GMail) : GWorker := bif ile w.T.Epoch m.Epoch && ilt (Bz w.Buf m.Epoch m.Step m.Q m.P) 0 then { w with Buf := w.Buf ++ [GData.mk m.Epoch m.Step m.Q m.P m.Msgs] } else w
theorem JR {K : Nat} (w : GWorker) (g : GGraph) (j : GJob) (m : GMail) (hl : w.Buf.length ≤ 900000) (hK : 1000000 ≤ K) : DI K w g j m = some (Cy w m) := by
 rw [DI, JT K w _ _ _ _ om om, bS, Cy]
 cases ile w.T.Epoch m.Epoch
 · rfl
 · cases ilt (Bz w.Buf m.Epoch m.Step m.Q m.P) 0
   · rfl
   · simp only [cT, Bool.and_true]
     rw [Bu (by show w.Buf.length + 1 ≤ _; omega) om]; rfl
def D4 (m : GMail) (x : GPart) : GMail := GMail.mk 7 m.Epoch 0 0 0 0 0 0 [] [] [] x []
def GE (w : GWorker) (m : GMail) (h : GHeld) : GWorker :=
 bif h.Wait || (h.Given || ilt (BX m.Ids m.To) 0) then w else { w with Held := w.Held.set (Ct w.Held m.P).toNat (GHeld.mk h.X h.Wait true), Out := w.Out ++ [GPost.mk m.To (m.Incs.getD (BX m.Ids m.To).toNat 0) (D4 m h.X)] }
def E0 (w : GWorker) (m : GMail) : GWorker :=
 bif ieq m.Epoch w.T.Epoch && !(ilt (Ct w.Held m.P) 0) then (match w.Held[(Ct w.Held m.P).toNat]? with | some h => GE w m h | none => w) else w
theorem QX {K : Nat} (hK : 1000 ≤ K) (w : GWorker) (g : GGraph) (j : GJob) (m : GMail) (hw : Sml w) (hm : FitM 2000 m) (hi : m.Incs.length = m.Ids.length) (hK2 : m.Ids.length < K) : FC K w g j m = some (E0 w m) := by
 rw [FC, I7 K w m.P (by have := hw.h; omega) (by have := hw.h; omega), bS, E0]
 cases ieq m.Epoch w.T.Epoch
 · rfl
 · cases hn : ilt (Ct w.Held m.P) 0
   · simp only [cT, cF, Bool.true_and, Bool.not_false]
     rw [Ac] at hn
     obtain ⟨q, h, e1, e2, e3⟩ := Ge (p := fun h : GHeld => ieq h.X.P m.P) (l := w.Held) (by show ¬ Ct w.Held m.P < 0; omega)
     have e1' : Ct w.Held m.P = (q : Int) := e1
     have hql : q < w.Held.length := (List.getElem?_eq_some_iff.1 e2).1
     rw [e1', Int.toNat_natCast, e2]
     have b1 : inr (q : Int) (len w.Held) = true := decide_eq_true ⟨by omega, by show (q : Int) < (w.Held.length : Int); omega⟩
     have b2 : elAt w.Held (q : Int) = some h := by rw [BB]; exact e2
     rw [b1, b2, cT, bS]
     dsimp only
     rw [GE, e1', Int.toNat_natCast]
     cases hW : h.Wait
     · cases h.Given
       · simp only [cF, Bool.false_or]
         let step : Nat → Int → Unit → (Unit → Option ((List GHeld × List GPost) ⊕ Unit)) → Option ((List GHeld × List GPost) ⊕ Unit) := fun i x _ c =>
          bif ieq x m.To then
           (bif inr (q : Int) (len w.Held) then (elAt w.Held (q : Int)).bind fun h => bif inr (i : Int) (len m.Incs) then (elAt m.Incs (i : Int)).bind fun n =>
            bif inr (q : Int) (len (putAt w.Held (q : Int) (GHeld.mk h.X h.Wait true))) then (elAt (putAt w.Held (q : Int) (GHeld.mk h.X h.Wait true)) (q : Int)).bind fun h' =>
            bif apok (len w.Out) 1 264 then some (.inl (putAt w.Held (q : Int) (GHeld.mk h.X h.Wait true), appL w.Out [GPost.mk m.To n (D4 m h'.X)])) else none else none else none else none)
          else c ()
         have hs := Bj (l := m.Ids) (L := fun k (_ : Unit) i => Es K m ((q : Int), w) k i) step (fun _ => some (.inr ())) (fun k s i _ => rfl) (by have := hm.i; omega) K () 0 om om
         rw [List.drop_zero] at hs
         have go : ∀ (l : List Int) (i : Nat), m.Ids.drop i = l → goI step (fun _ => some (.inr ())) i l () = some (match l.findIdx? (fun x => ieq x m.To) with
          | some z => .inl (w.Held.set q (GHeld.mk h.X h.Wait true), w.Out ++ [GPost.mk m.To (m.Incs.getD (i + z) 0) (D4 m h.X)]) | none => .inr ()) := by
          intro l
          induction l with
          | nil => intro i _; rfl
          | cons x l ih =>
           intro i hd
           have hlt := Dx hd
           have hd2 : m.Ids.drop (i + 1) = l := by
            have := List.drop_eq_getElem_cons hlt
            rw [hd] at this
            injection this with _ h2; exact h2.symm
           rw [goI, List.findIdx?_cons]
           show (bif ieq x m.To then _ else _) = _
           cases ieq x m.To
           · rw [cF, ih (i + 1) hd2]
             cases l.findIdx? (fun x => ieq x m.To) with
             | none => rfl
             | some z => simp [Nat.add_assoc, Nat.add_comm 1 z]
           · have c1 : inr (i : Int) (len m.Incs) = true := decide_eq_true ⟨by omega, by show (i : Int) < (m.Incs.length : Int); omega⟩
             have c2 : elAt m.Incs (i : Int) = some (m.Incs.getD i 0) := by rw [BB, G4 om]; exact List.getElem?_eq_getElem om
             have c3 : putAt w.Held (q : Int) (GHeld.mk h.X h.Wait true) = w.Held.set q (GHeld.mk h.X h.Wait true) := by show w.Held.set (Int.toNat q) _ = _; rw [Int.toNat_natCast]
             have c4 : inr (q : Int) (len (w.Held.set q (GHeld.mk h.X h.Wait true))) = true := decide_eq_true ⟨by omega, by show (q : Int) < ((w.Held.set q _).length : Int); rw [List.length_set]; omega⟩
             have c5 : elAt (w.Held.set q (GHeld.mk h.X h.Wait true)) (q : Int) = some (GHeld.mk h.X h.Wait true) := by rw [BB, List.getElem?_set_self hql]
             simp only [cT, b1, b2, bS, c1, c2, c3, c4, c5, Bu (show len w.Out + 1 ≤ 1000000 by have := hw.o; show w.Out.length + 1 ≤ _; omega) (show 264 ≤ 1000 by omega)]
             simp [appL]
         have e : Es K m ((q : Int), w) K 0 = _ := hs.trans (go m.Ids 0 rfl)
         rw [e]
         have hfe : BX m.Ids m.To = (match m.Ids.findIdx? (fun x => ieq x m.To) with | some z => (z : Int) | none => -1) := rfl
         cases hf : m.Ids.findIdx? (fun x => ieq x m.To) with
         | none =>
          rw [hfe, hf]; rfl
         | some z =>
          rw [hfe, hf]
          have hz : ilt ((z : Nat) : Int) 0 = false := Ac.2 om
          simp only [bS, Sum.elim_inl, hz, cF, Nat.zero_add, Int.toNat_natCast, hW]
       · rfl
     · rfl
   · rfl
theorem Ez {α : Type} (f : α → Int) (hi : Int) : ∀ (l : List α) (lo : Int), l.Pairwise (fun a b => f a < f b) → (∀ x ∈ l, lo ≤ f x ∧ f x < hi) → (l.length : Int) ≤ max 0 (hi - lo)
 | [], lo, _, _ => by simp; omega
 | x :: l, lo, h, g => by
  have hx := g x List.mem_cons_self
  have := Ez f hi l (f x + 1) (List.pairwise_cons.1 h).2 fun y hy => ⟨by have := (List.pairwise_cons.1 h).1 y hy; omega, (g y (List.mem_cons_of_mem _ hy)).2⟩
  rw [List.length_cons]
  omega
structure HOk (l : List GHeld) : Prop where
 s : l.Pairwise (fun a b => a.X.P < b.X.P)
 r : ∀ h ∈ l, 0 ≤ h.X.P ∧ h.X.P < 6
theorem HOk.len {l : List GHeld} (h : HOk l) : l.length ≤ 6 := by
 have := Ez (fun h : GHeld => h.X.P) 6 l 0 h.s h.r
 omega
theorem HOk.nil : HOk [] := ⟨List.Pairwise.nil, fun h hh => absurd hh List.not_mem_nil⟩
theorem J9 {l : List GHeld} {x : GPart} {h : GHeld} : h ∈ C3 l x ↔ h ∈ l ∨ h = GHeld.mk x false false := by
 have : h ∈ l ↔ h ∈ l.takeWhile (fun h => ilt h.X.P x.P) ∨ h ∈ l.dropWhile (fun h => ilt h.X.P x.P) := by
  conv => lhs; rw [← List.takeWhile_append_dropWhile (p := fun h => ilt h.X.P x.P) (l := l)]
  rw [List.mem_append]
 rw [C3, List.mem_append, List.mem_append, List.mem_singleton, this]
 constructor
 · rintro ((h | h) | h)
   · exact .inl (.inl h)
   · exact .inr h
   · exact .inl (.inr h)
 · rintro ((h | h) | h)
   · exact .inl (.inl h)
   · exact .inr h
   · exact .inl (.inr h)
theorem J8 {α : Type} {p : α → Bool} : ∀ {l : List α} {x : α}, x ∈ l.takeWhile p → p x = true
 | y :: l, x, h => by
  rw [List.takeWhile_cons] at h
  cases hp : p y
  · rw [hp] at h; exact absurd h List.not_mem_nil
  · rw [hp] at h
    rcases List.mem_cons.1 h with rfl | h
    · exact hp
    · exact J8 h
theorem PV {l : List GHeld} {x : GPart} (hs : l.Pairwise (fun a b => a.X.P < b.X.P)) (hn : ∀ h ∈ l, h.X.P ≠ x.P) : (C3 l x).Pairwise (fun a b => a.X.P < b.X.P) := by
 have e := List.takeWhile_append_dropWhile (p := fun h : GHeld => ilt h.X.P x.P) (l := l)
 have h1 : ∀ h ∈ l.takeWhile (fun h => ilt h.X.P x.P), h.X.P < x.P := fun h hh => by
  have := J8 hh
  exact Ae.1 this
 have h2 : ∀ h ∈ l.dropWhile (fun h => ilt h.X.P x.P), x.P < h.X.P := by
  have key : ∀ (l : List GHeld), l.Pairwise (fun a b => a.X.P < b.X.P) → (∀ h ∈ l, h.X.P ≠ x.P) → ∀ h ∈ l.dropWhile (fun h => ilt h.X.P x.P), x.P < h.X.P := by
   intro l
   induction l with
   | nil => intro _ _ h hh; cases hh
   | cons y l ih =>
    intro hs hn h hh
    rw [List.dropWhile_cons] at hh
    cases hp : ilt y.X.P x.P
    · rw [hp] at hh
      rw [Ac] at hp
      have := hn y List.mem_cons_self
      rcases List.mem_cons.1 hh with rfl | hh
      · omega
      · have := (List.pairwise_cons.1 hs).1 h hh; omega
    · rw [hp] at hh
      exact ih (List.pairwise_cons.1 hs).2 (fun h hh => hn h (List.mem_cons_of_mem _ hh)) h hh
  exact key l hs hn
 rw [← e, List.pairwise_append] at hs
 rw [C3, List.append_assoc, List.pairwise_append]
 refine ⟨hs.1, ?_, ?_⟩
 · rw [List.singleton_append, List.pairwise_cons]
   exact ⟨h2, hs.2.1⟩
 · intro a ha b hb
   rw [List.singleton_append, List.mem_cons] at hb
   rcases hb with rfl | hb
   · exact h1 a ha
   · exact hs.2.2 a ha b hb
theorem PT {l : List GHeld} {p : Int} : ilt (Ct l p) 0 = true ↔ ∀ h ∈ l, h.X.P ≠ p := by
 rw [Ae]
 refine (Li _ _).trans ?_
 simp only [Aq]
theorem Iz {g : GGraph} {j : GJob} {w : GWorker} {x : GPart} (h : BK g j w x = true) : 0 ≤ x.P ∧ x.P < ((Ak w.T).Owners.length : Int) ∧ (Ak w.T).Owners.getD x.P.toNat 0 = w.Id ∧ Ay g j x = true ∧ ∀ h ∈ w.Held, h.X.P ≠ x.P := by
 rw [BK, Bool.and_eq_true, Bool.and_eq_true, Bool.and_eq_true] at h
 obtain ⟨h1, h2, h3, h4⟩ := h
 obtain ⟨a, b, c⟩ := NN h1
 exact ⟨a, b, by rw [← c]; exact Ap.1 h2, h3, PT.1 h4⟩
theorem HOk.ins {g : GGraph} {j : GJob} {w : GWorker} {x : GPart} (h : HOk w.Held) (hm : BK g j w x = true) : HOk (C3 w.Held x) := by
 obtain ⟨a, b, _, _, d⟩ := Iz hm
 have := (Gq (GC w.T)).2.2.2.2.1
 refine ⟨PV h.s d, fun y hy => ?_⟩
 rcases J9.1 hy with hy | rfl
 · exact h.r y hy
 · exact ⟨a, by show x.P < 6; omega⟩
def Do (m : GMail) : GMail := GMail.mk 8 m.Epoch 0 0 m.X.P 0 0 0 [] [] [] BC []
def isC (e p : Int) (c : GComing) : Bool := ieq c.Epoch e && ieq c.X.P p
def Fy (w : GWorker) (m : GMail) : GWorker := bif ilt m.Epoch w.T.Epoch || w.Coming.any (isC m.Epoch m.X.P) then w else EP { w with Coming := w.Coming ++ [GComing.mk m.Epoch m.X] } (Do m)
theorem Nx {K : Nat} (w : GWorker) (g : GGraph) (j : GJob) (m : GMail) (hw : Sml w) (hK : 1000000 ≤ K) : FF K w g j m = some (Fy w m) := by
 let step : GComing → Unit → (Unit → Option (Unit ⊕ Unit)) → Option (Unit ⊕ Unit) := fun x _ c => bif ieq x.Epoch m.Epoch then (bif ieq x.X.P m.X.P then some (.inl ()) else c ()) else c ()
 have h := Ao (l := w.Coming) (L := fun k (_ : Unit) i => Dw K w m k i) step (fun _ => some (.inr ())) (fun k s i _ => rfl) (by have := hw.c; omega) (K := K) (by have := hw.c; omega) ()
 have e := E2 (step := step) (fun c => !(isC m.Epoch m.X.P c)) w.Coming (fun x _ c => by
  show (bif ieq x.Epoch m.Epoch then (bif ieq x.X.P m.X.P then _ else _) else _) = _
  rw [isC]
  cases ieq x.Epoch m.Epoch <;> cases ieq x.X.P m.X.P <;> rfl)
 have e1 : Dw K w m K 0 = _ := h.trans e
 have e2 : (w.Coming.all fun c => !(isC m.Epoch m.X.P c)) = !(w.Coming.any (isC m.Epoch m.X.P)) := by rw [List.not_any_eq_all_not]
 rw [FF, e1, e2, Fy]
 cases ilt m.Epoch w.T.Epoch
 · cases w.Coming.any (isC m.Epoch m.X.P)
   · simp only [cF, Bool.not_false, CA, cT, bS, Sum.elim_inr, Bool.or_false]
     rw [Bu (by have := hw.c; show w.Coming.length + 1 ≤ _; omega) om, cT, E5 K _ _ (by have := hw.o; show w.Out.length ≤ _; omega)]; rfl
   · rfl
 · rfl
def B3 (w : GWorker) (m : GMail) : List GPart := (w.Held.filter fun h => ieq m.Epoch w.T.Epoch && (!(h.Wait) && !(h.Given))).map (·.X)
def De (w : GWorker) (m : GMail) : List GPart := (w.Coming.filter fun c => ieq c.Epoch m.Epoch).map (·.X)
def BD (g : GGraph) (j : GJob) (w : GWorker) (x : GPart) : GWorker := bif BK g j w x then { w with Held := C3 w.Held x } else w
def EZ (g : GGraph) (j : GJob) (w : GWorker) (m : GMail) : GWorker :=
 bif (AP j m.Fresh m).2 then (bif ile m.Fresh w.T.Epoch then w else Ed ((B3 w m ++ De w m).foldl (BD g j) { w with T := (AP j m.Fresh m).1, Goal := -1, Held := [] }) m.Fresh) else w
theorem GW {α σ β : Type} {step : α → σ → (σ → Option β) → Option β} {fin : σ → Option β} (P : σ → Prop) (f : σ → α → σ) : ∀ (l : List α) (s : σ), P s → (∀ x ∈ l, ∀ s, P s → P (f s x) ∧ ∀ c, step x s c = c (f s x)) →
 goL step fin l s = fin (l.foldl f s) ∧ P (l.foldl f s)
 | [], s, hs, _ => ⟨rfl, hs⟩
 | x :: l, s, hs, h => by
  obtain ⟨h1, h2⟩ := h x List.mem_cons_self s hs
  rw [goL, h2, List.foldl_cons]
  exact GW P f l (f s x) h1 fun y hy => h y (List.mem_cons_of_mem _ hy)
abbrev WT : Type := Int × Int × Int × Int × List Int × List Int × List Int × List GHeld × List GData × List GComing × List GPost
abbrev wt (w : GWorker) : WT :=
 (w.Id, (w.Goal, (w.Until, (w.T.Epoch, (w.T.Owners, (w.T.Ids, (w.T.Incs, (w.Held, (w.Buf, (w.Coming, w.Out))))))))))
structure SmlP (x : GPart) : Prop where
 v : x.Vals.length ≤ 100
 r : x.Rest.length ≤ 100
 i : x.In.length ≤ 300
 p : i64 x.P
 n : AJ x
theorem Ln {K : Nat} (hK : 1000000 ≤ K) (g : GGraph) (j : GJob) (m : GMail) (l : List GPart) (hl : l.length ≤ 600000) (hp : ∀ x ∈ l, SmlP x) (w : GWorker) (hw : HOk w.Held) :
 Dv K g j m l K w.Id w.Goal w.Until w.T.Epoch w.T.Owners w.T.Ids w.T.Incs w.Held w.Buf w.Coming w.Out 0 = some (wt (l.foldl (BD g j) w)) := by
 let step : GPart → GWorker → (GWorker → Option WT) → Option WT := fun x w c => (CL K w g j x).bind fun r => bif r.1 then (CN K r.2 x).bind fun r => c r else c r.2
 have h := Ao (l := l) (L := fun k (w : GWorker) i => Dv K g j m l k w.Id w.Goal w.Until w.T.Epoch w.T.Owners w.T.Ids w.T.Incs w.Held w.Buf w.Coming w.Out i) step (fun w => some (wt w)) (fun k s i _ => rfl) om (K := K) om w
 have e := GW (step := step) (fin := fun w => some (wt w)) (fun w => HOk w.Held) (BD g j) l w hw (fun x hx w hw => by
  have hs := hp x hx
  have hlen := hw.len
  have e1 := GD (K := K) om w g j x om (by have := hs.i; omega) hs.p
  constructor
  · show HOk (BD g j w x).Held
    rw [BD]
    cases hm : BK g j w x
    · exact hw
    · exact hw.ins hm
  · intro c
    show (CL K w g j x).bind _ = _
    rw [e1, bS, BD]
    cases BK g j w x
    · rfl
    · rw [cT, cT, GO K w x om om, bS])
 exact h.trans e.1
theorem L1 {K : Nat} (hK : 1000000 ≤ K) (w : GWorker) (g : GGraph) (j : GJob) (m : GMail) (hw : Sml w) (h1 : ∀ h ∈ w.Held, SmlP h.X) (h2 : ∀ c ∈ w.Coming, SmlP c.X) : Fm K w g j m = some (EZ g j w m) := by
 have a1 := hw.h
 have a2 := hw.c
 have a3 := hw.b
 rw [Fm, I6 om, bS, EZ]
 cases (AP j m.Fresh m).2
 · rfl
 · cases ile m.Fresh w.T.Epoch
   · rw [cT, cT, cF, cF]
     generalize hr : AP j m.Fresh m = r
     let st1 : GHeld → List GPart → (List GPart → Option (List GPart)) → Option (List GPart) := fun x a c => bif ieq m.Epoch w.T.Epoch then (bif x.Wait then c a else bif x.Given then c a else bif apok (len a) 1 88 then c (appL a [x.X]) else none) else c a
     have e1 := Ao (l := w.Held) (L := fun k a i => C0 K w g j m r k a i) st1 (fun a => some a) (fun k s i _ => rfl) om (K := K) om []
     have g1 := CC (step := st1) (fun h : GHeld => ieq m.Epoch w.T.Epoch && (!(h.Wait) && !(h.Given))) (fun h => h.X) 88 om 1000000 om w.Held [] (by simp; omega) (fun x _ a c => by
      show (bif ieq m.Epoch w.T.Epoch then (bif x.Wait then c a else bif x.Given then c a else _) else c a) = _
      cases ieq m.Epoch w.T.Epoch <;> cases x.Wait <;> cases x.Given <;> rfl)
     have f1 : C0 K w g j m r K [] 0 = some (B3 w m) := (e1.trans g1).trans (by simp [B3])
     rw [f1, bS]
     have hrl : (B3 w m).length ≤ 50 := by rw [B3, List.length_map]; exact Nat.le_trans (FA _ _) a1
     let st2 : GComing → List GPart → (List GPart → Option (List GPart)) → Option (List GPart) := fun x a c => bif ieq x.Epoch m.Epoch then (bif apok (len a) 1 88 then c (appL a [x.X]) else none) else c a
     have e2 := Ao (l := w.Coming) (L := fun k a i => DD K w g j m r k a i) st2 (fun a => some a) (fun k s i _ => rfl) om (K := K) om (B3 w m)
     have g2 := CC (step := st2) (fun c : GComing => ieq c.Epoch m.Epoch) (fun c => c.X) 88 om 1000000 om w.Coming (B3 w m) om (fun x _ a c => rfl)
     have f2 : DD K w g j m r K (B3 w m) 0 = some (B3 w m ++ De w m) := e2.trans g2
     rw [f2, bS]
     have hcl : (De w m).length ≤ 500000 := by rw [De, List.length_map]; exact Nat.le_trans (FA _ _) a2
     have f3 := Ln hK g j m (B3 w m ++ De w m) (by rw [List.length_append]; omega) (fun x hx => by
      rcases List.mem_append.1 hx with hx | hx
      · obtain ⟨h, hh, rfl⟩ := List.mem_map.1 hx
        exact h1 h (List.mem_filter.1 hh).1
      · obtain ⟨c, hc, rfl⟩ := List.mem_map.1 hx
        exact h2 c (List.mem_filter.1 hc).1) { w with T := r.1, Goal := -1, Held := [] } HOk.nil
     have f3' : Dv K g j m (B3 w m ++ De w m) K w.Id (-1) w.Until r.1.Epoch r.1.Owners r.1.Ids r.1.Incs [] w.Buf w.Coming w.Out 0 = _ := f3
     rw [f3', bS]
     generalize hv : (B3 w m ++ De w m).foldl (BD g j) { w with T := r.1, Goal := -1, Held := [] } = v
     have hbc : v.Buf = w.Buf ∧ v.Coming = w.Coming := by
      have key : ∀ (l : List GPart) (u : GWorker), (l.foldl (BD g j) u).Buf = u.Buf ∧ (l.foldl (BD g j) u).Coming = u.Coming := by
       intro l
       induction l with
       | nil => intro u; exact ⟨rfl, rfl⟩
       | cons x l ih =>
        intro u
        rw [List.foldl_cons]
        have := ih (BD g j u x)
        have e : (BD g j u x).Buf = u.Buf ∧ (BD g j u x).Coming = u.Coming := by rw [BD]; cases BK g j u x <;> exact ⟨rfl, rfl⟩
        exact ⟨this.1.trans e.1, this.2.trans e.2⟩
      rw [← hv]; exact key _ _
     show (DC K v m.Fresh).bind _ = _
     rw [H1 v m.Fresh (by rw [hbc.1]; omega) (by rw [hbc.2]; omega) (by rw [hbc.1]; omega) (by rw [hbc.2]; omega)]; rfl
   · rfl
theorem GN (K : Nat) (w : GWorker) (h : Sml w) : F30 K w = some w := by
 obtain ⟨h1, h2, h3, h4⟩ := h
 rw [F30, Bu (by show 0 + w.Held.length ≤ _; omega) om, Bu (by show 0 + w.Buf.length ≤ _; omega) om, Bu (by show 0 + w.Coming.length ≤ _; omega) om, Bu (by show 0 + w.Out.length ≤ _; omega) om]
 simp only [cT, Gz]
def GR (g : GGraph) (j : GJob) (w : GWorker) (m : GMail) : GWorker :=
 bif ieq m.Kind 1 then EY g j w m else bif ieq m.Kind 3 then Fo w m else bif ieq m.Kind 4 then Cy w m else bif ieq m.Kind 6 then E0 w m else bif ieq m.Kind 7 then Fy w m else bif ieq m.Kind 9 then EZ g j w m else w
def Fb (g : GGraph) (j : GJob) (w : GWorker) (m : GMail) : GWorker := bif ieq (Am g j) 0 && Cz m then GR g j w m else w
theorem ON {K : Nat} (hK : 1000000 ≤ K) (g : GGraph) (j : GJob) (w : GWorker) (m : GMail) (hw : Sml w) (h1 : ∀ h ∈ w.Held, SmlP h.X) (h2 : ∀ c ∈ w.Coming, SmlP c.X) (hm : FitM 2000 m) (hp : i64 m.X.P) : F18 K g j w m = some (Fb g j w m) := by
 rw [F18, GN K w hw, bS, DR om, bS, Nw om m hm, Fb]
 cases ieq (Am g j) 0
 · rfl
 · cases hr : Cz m
   · rfl
   · have hi : m.Incs.length = m.Ids.length := by
      simp only [Cz, Bool.and_eq_true, Ap] at hr
      have := hr.2.2.2.2.2.2.1
      omega
     simp only [cT, bS, Bool.true_and, GR, N3 hK w g j m hw hm hp, LF, JR w g j m (by have := hw.b; omega) hK, QX (K := K) om w g j m hw hm hi (by have := hm.i; omega), Nx w g j m hw hK, L1 hK w g j m hw h1 h2]
     cases ieq m.Kind 1 <;> cases ieq m.Kind 3 <;> cases ieq m.Kind 4 <;> cases ieq m.Kind 6 <;> cases ieq m.Kind 7 <;> cases ieq m.Kind 9 <;> rfl
def E1 (w : GWorker) (n : Int) : GWorker := bif ilt w.Until n then { w with Until := n } else w
theorem K2 (K : Nat) (w : GWorker) (n : Int) (h : Sml w) : F22 K w n = some (E1 w n) := by
 rw [F22, GN K w h, bS, E1]
 cases ilt w.Until n <;> rfl
theorem GI (p : Int) : ∀ (r : List GMsg) (c : GMsg) (d w : List GMsg), CF p r c d = .inr w → i64 c.V → (∀ x ∈ r, i64 x.V) → (∀ x ∈ d, i64 x.V) → w.length ≤ d.length + r.length + 1 ∧ ∀ x ∈ w, i64 x.V
 | [], c, d, w, h, hc, _, hd => by
  injection h with h
  subst h
  refine ⟨by simp, fun x hx => ?_⟩
  rcases List.mem_append.1 hx with hx | hx
  · exact hd x hx
  · rw [List.mem_singleton.1 hx]; exact hc
 | x :: r, c, d, w, h, hc, hr, hd => by
  rw [CF] at h
  have hx := hr x List.mem_cons_self
  have hr' := fun y hy => hr y (List.mem_cons_of_mem _ hy)
  cases h1 : ieq c.To x.To
  · rw [h1, cF] at h
    have := GI p r x (d ++ [c]) w h hx hr' (fun y hy => by
     rcases List.mem_append.1 hy with hy | hy
     · exact hd y hy
     · rw [List.mem_singleton.1 hy]; exact hc)
    rw [List.length_append] at this
    simp only [List.length_singleton] at this
    exact ⟨by simp only [List.length_cons]; omega, this.2⟩
  · rw [h1, cT] at h
    cases h2 : ieq (Az p c.V x.V).2 0
    · rw [h2] at h; cases h
    · rw [h2, cT] at h
      have := GI p r _ d w h (Hq hc hx) hr' hd
      exact ⟨by simp only [List.length_cons]; omega, this.2⟩
theorem Gs {p : Int} {l : List GMsg} (hl : ∀ x ∈ l, i64 x.V) : (An p l).1.length ≤ l.length ∧ ∀ x ∈ (An p l).1, i64 x.V := by
 have hn : ∀ x ∈ ([] : List GMsg), i64 x.V := fun x hx => absurd hx List.not_mem_nil
 have hs : ∀ x ∈ As l, i64 x.V := fun x hx => hl x ((CB l).mem_iff.1 hx)
 have hsl := DS l
 rw [An]
 cases Ar p
 · rw [cF]
   generalize As l = m at *
   cases m with
   | nil => exact ⟨Nat.zero_le _, hn⟩
   | cons x r =>
    rw [Fq]
    cases hq : CF p r x [] with
    | inl e => exact ⟨Nat.zero_le _, hn⟩
    | inr w =>
     have := GI p r x [] w hq (hs x List.mem_cons_self) (fun y hy => hs y (List.mem_cons_of_mem _ hy)) hn
     simp only [List.length_cons, List.length_nil] at hsl this
     exact ⟨by show w.length ≤ _; omega, this.2⟩
 · exact ⟨Nat.zero_le _, hn⟩
theorem OB {g : GGraph} {j : GJob} {x : GPart} {l : List GMsg} (h : ieq (AQ g j x l).2 0 = true) : Ay g j (AQ g j x l).1 = true ∧ ieq (Am g j) 0 = true := by
 rw [AQ] at h ⊢
 cases hc : ieq (Am g j) 0
 · rw [hc, cF] at h
   have h' : ieq (Am g j) 0 = true := h
   rw [hc] at h'; cases h'
 · rw [hc] at h
   cases hR : Ay g j x
   · rw [hR] at h; cases h
   · rw [hR] at h
     cases hI : ieq (nlen (len x.In)) 0
     · rw [hI] at h; cases h
     · rw [hI] at h
       cases hO : Cg g.N j.Parts x.P l
       · rw [hO] at h; cases h
       · rw [hO] at h
         simp only [cT, Fr] at h ⊢
         cases hB : ieq (An j.Prog l).2 0
         · rw [hB, cF] at h
           have h' : ieq (An j.Prog l).2 0 = true := h
           rw [hB] at h'; cases h'
         · obtain ⟨_, p1, p2, p3, p4, p5, p6, _⟩ := Dl hR
           obtain ⟨r1, r2⟩ := JB (p := j.Prog) (l := l)
           have hin : CI g.N j.Parts x.P (-1) (An j.Prog l).1 = true := JQ r1 fun m hm => by
            obtain ⟨s, hs, e⟩ := r2 m hm
            have := List.all_eq_true.1 hO s hs
            simp only [Bool.and_eq_true, CJ, Ae, Ap] at this
            rw [← e]
            exact ⟨by omega, this.2.1, this.2.2⟩
           refine ⟨?_, trivial⟩
           rw [cT, Ay]
           simp only [hc, CJ.2 p1, Ae.2 p2, CJ.2 p3, CJ.2 p4, Ap.2 p5, Ap.2 p6, hin, Bool.and_true]
theorem QS {g : GGraph} {j : GJob} {x : GPart} : ∀ (l : List Nat) (i : Nat) (a : List Int) (b : List Bool) (c : List GMsg) (e : Int), doA g j x l i a b c = .inl e → ieq e 0 = false := by
 intro l
 induction l with
 | nil => intro i a b c e h; cases h
 | cons v l ih =>
  intro i a b c e h
  rw [doA] at h
  cases hq : ieq (AG g j x i v).2.2.2 0
  · rw [hq] at h
    injection h with h
    rw [← h]; exact hq
  · rw [hq] at h; exact ih _ _ _ _ _ h
theorem Oj {j : GJob} {c : List GMsg} : ∀ (l : List Nat) (d : List (List GMsg)), (∃ e, ieq e 0 = false ∧ CK j c l d = .inl e) ∨ (CK j c l d = .inr (d ++ l.map fun (q : Nat) => (An j.Prog (toS j c (q : Int))).1) ∧ ∀ q ∈ l, ieq (An j.Prog (toS j c (q : Int))).2 0 = true) := by
 intro l
 induction l with
 | nil => intro d; exact .inr ⟨by rw [CK, List.map_nil, List.append_nil], fun q hq => absurd hq List.not_mem_nil⟩
 | cons q l ih =>
  intro d
  rw [CK]
  cases hq : ieq (An j.Prog (toS j c (q : Int))).2 0
  · exact .inl ⟨_, hq, rfl⟩
  · rcases ih (d ++ [(An j.Prog (toS j c (q : Int))).1]) with h | ⟨h, h'⟩
    · exact .inl h
    · refine .inr ⟨by rw [cT, h]; simp, fun y hy => ?_⟩
      rcases List.mem_cons.1 hy with rfl | hy
      · exact hq
      · exact h' y hy
theorem JU (g : GGraph) (j : GJob) {x : GPart} (hn : AJ x) : (∃ e, ieq e 0 = false ∧ doS g j x = (BN, [], e)) ∨
 (ieq (Am g j) 0 = true ∧ Ay g j x = true ∧ ieq x.Step 40 = false ∧ ∃ w, doA g j x (Au g j x.P) 0 [] [] [] = .inr w ∧ keepP g (Au g j x.P).length w.1 w.2.1 w.2.2 ∧
  (∀ q < j.Parts.toNat, ieq (An j.Prog (toS j w.2.2 (q : Int))).2 0 = true) ∧
  doS g j x = (GPart.mk x.P (x.Step + 1) w.1 w.2.1 [], (List.range j.Parts.toNat).map (fun (q : Nat) => (An j.Prog (toS j w.2.2 (q : Int))).1), 0)) := by
 rw [doS]
 cases hc : ieq (Am g j) 0
 · exact .inl ⟨_, hc, rfl⟩
 · cases hR : Ay g j x
   · exact .inl ⟨_, rfl, rfl⟩
   · cases h40 : ieq x.Step 40
     · cases hA : doA g j x (Au g j x.P) 0 [] [] [] with
       | inl e => exact .inl ⟨e, QS _ _ _ _ _ _ hA, rfl⟩
       | inr w =>
        have kw := H8 hn _ 0 [] [] [] (G6 g) w hA
        rw [Nat.zero_add] at kw
        rcases Oj (j := j) (c := w.2.2) (List.range j.Parts.toNat) [] with ⟨e, h1, h2⟩ | ⟨h, h'⟩
        · refine .inl ⟨e, h1, ?_⟩
          simp only [cT, cF, doB, h2, doC]
        · refine .inr ⟨rfl, rfl, rfl, w, rfl, kw, fun q hq => h' q (List.mem_range.2 hq), ?_⟩
          simp only [cT, cF, doB, h, doC, List.nil_append]
     · exact .inl ⟨_, rfl, rfl⟩
theorem Of {K : Nat} (hK : 3000 ≤ K) (g : GGraph) (j : GJob) {x : GPart} (hn : AJ x) : FM K (doS g j x).1 ∧ (doS g j x).2.1.length ≤ 6 ∧ ∀ l ∈ (doS g j x).2.1, l.length ≤ 2000 := by
 have hz : FM K BN := by refine ⟨⟨?_, ?_⟩, ⟨?_, ?_⟩, ?_, ?_⟩ <;> simp [BN] <;> omega
 rcases JU g j hn with ⟨e, _, h⟩ | ⟨hc, hR, _, w, _, kw, _, h⟩
 · rw [h]; exact ⟨hz, Nat.zero_le _, fun l hl => absurd hl List.not_mem_nil⟩
 · obtain ⟨hg, _, _, _, _, _, _, p7, p8⟩ := Co hc
   obtain ⟨g1, g2, g3, _⟩ := Cl hg
   have hvl := Gf g j g2 x.P
   have h1 := kw.la
   have h2 := kw.lb
   have h3 := kw.lc
   rw [h]
   refine ⟨⟨⟨by show w.1.length < _; omega, by show w.1.length < _; omega⟩, ⟨by show w.2.1.length < _; omega, by show w.2.1.length < _; omega⟩, by show 0 < 1000000; omega, by show 0 < K; omega⟩, ?_, fun l hl => ?_⟩
   · show ((List.range j.Parts.toNat).map _).length ≤ 6
     rw [List.length_map, List.length_range]; omega
   · obtain ⟨q, hq, rfl⟩ := List.mem_map.1 hl
     have := (Gs (p := j.Prog) (l := toS j w.2.2 (q : Int)) fun m hm => kw.vc m (FG hm).1).1
     have := G7 j w.2.2 (q : Int)
     omega
def Bt (w : GWorker) (p : Int) (q : Nat) (l : List GMsg) : GMail := GMail.mk 4 w.T.Epoch 0 w.Goal (q : Int) p 0 0 [] [] [] BC l
def BH (p : Int) (w : GWorker) (q : Nat) (l : List GMsg) : GWorker :=
 bif ieq (toT w.T (q : Int)).1 w.Id then Cy w (Bt w p q l) else { w with Out := w.Out ++ [GPost.mk (toT w.T (q : Int)).1 (toT w.T (q : Int)).2.1 (Bt w p q l)] }
def BA (p : Int) : Nat → List (List GMsg) → GWorker → GWorker
 | _, [], w => w
 | q, l :: r, w => BA p (q + 1) r (BH p w q l)
theorem PI (w : GWorker) (m : GMail) : (Cy w m).Buf.length ≤ w.Buf.length + 1 ∧ (Cy w m).Out = w.Out := by
 rw [Cy]
 cases ile w.T.Epoch m.Epoch && ilt (Bz w.Buf m.Epoch m.Step m.Q m.P) 0
 · exact ⟨by show w.Buf.length ≤ _; omega, rfl⟩
 · exact ⟨by show (w.Buf ++ _).length ≤ _; simp, rfl⟩
theorem KJ (p : Int) (w : GWorker) (q : Nat) (l : List GMsg) : (BH p w q l).Buf.length ≤ w.Buf.length + 1 ∧ (BH p w q l).Out.length ≤ w.Out.length + 1 := by
 rw [BH]
 cases ieq (toT w.T (q : Int)).1 w.Id
 · exact ⟨by show w.Buf.length ≤ _; omega, by show (w.Out ++ _).length ≤ _; simp⟩
 · have := PI w (Bt w p q l)
   exact ⟨this.1, by show (Cy w (Bt w p q l)).Out.length ≤ _; rw [this.2]; omega⟩
theorem O5 {K : Nat} (hK : 1000000 ≤ K) (g : GGraph) (j : GJob) (h : GHeld) (r : GPart × List (List GMsg) × Int) (hr : r.2.1.length ≤ 100) (w : GWorker) (hb : w.Buf.length ≤ 800000) (ho : w.Out.length ≤ 800000) :
 Df K g j h r K w.Id w.Goal w.Until w.T.Epoch w.T.Owners w.T.Ids w.T.Incs w.Held w.Buf w.Coming w.Out 0 = some (wt (BA h.X.P 0 r.2.1 w)) := by
 let step : Nat → List GMsg → GWorker → (GWorker → Option WT) → Option WT := fun i l w c =>
  (F60 K w.T (i : Int)).bind fun t => bif ieq t.1 w.Id then (DI K w g j (Bt w h.X.P i l)).bind fun r => c r
   else bif apok (len w.Out) 1 264 then c { w with Out := appL w.Out [GPost.mk t.1 t.2.1 (Bt w h.X.P i l)] } else none
 have hs := Bj (l := r.2.1) (L := fun k (w : GWorker) i => Df K g j h r k w.Id w.Goal w.Until w.T.Epoch w.T.Owners w.T.Ids w.T.Incs w.Held w.Buf w.Coming w.Out i) step (fun w => some (wt w)) (fun k s i _ => rfl) om K w 0 om om
 have go : ∀ (l : List (List GMsg)) (i : Nat) (w : GWorker), w.Buf.length + l.length ≤ 900000 → w.Out.length + l.length ≤ 900000 → goI step (fun w => some (wt w)) i l w = some (wt (BA h.X.P i l w)) := by
  intro l
  induction l with
  | nil => intro i w _ _; rfl
  | cons x l ih =>
   intro i w h1 h2
   rw [List.length_cons] at h1 h2
   have hl := KJ h.X.P w i x
   rw [goI, BA, ← ih (i + 1) (BH h.X.P w i x) om om]
   show (F60 K w.T (i : Int)).bind _ = _
   rw [Kc om, bS, BH]
   cases ieq (toT w.T (i : Int)).1 w.Id
   · rw [cF, cF, Bu (by show w.Out.length + 1 ≤ _; omega) om]; rfl
   · rw [cT, cT, JR w g j _ om hK, bS]
 rw [List.drop_zero] at hs
 exact hs.trans (go r.2.1 0 w om om)
def B1 (g : GGraph) (j : GJob) (w : GWorker) (i : Nat) (h : GHeld) : List GDid × GWorker :=
 bif ieq (doS g j h.X).2.2 6 || ieq (doS g j h.X).2.2 1 then ([], w) else
 bif ieq (doS g j h.X).2.2 0 then
  ([GDid.mk (BA h.X.P 0 (doS g j h.X).2.1 { w with Held := w.Held.set i (GHeld.mk (doS g j h.X).1 true h.Given) }).T.Epoch (BA h.X.P 0 (doS g j h.X).2.1 { w with Held := w.Held.set i (GHeld.mk (doS g j h.X).1 true h.Given) }).Goal h.X.P],
   BA h.X.P 0 (doS g j h.X).2.1 { w with Held := w.Held.set i (GHeld.mk (doS g j h.X).1 true h.Given) })
 else ([], GP { w with Held := w.Held.set i (GHeld.mk h.X true h.Given) } h.X.P)
theorem KE {K : Nat} (hK : 1000000 ≤ K) (g : GGraph) (j : GJob) (w : GWorker) (i : Nat) (h : GHeld) (hi : w.Held[i]? = some h) (hx : SmlP h.X) (hb : w.Buf.length ≤ 800000) (ho : w.Out.length ≤ 800000) : DB K w g j (i : Int) = some (B1 g j w i h) := by
 have hlt : i < w.Held.length := (List.getElem?_eq_some_iff.1 hi).1
 have e1 : inr (i : Int) (len w.Held) = true := decide_eq_true ⟨by omega, by show (i : Int) < (w.Held.length : Int); omega⟩
 have e2 : elAt w.Held (i : Int) = some h := by rw [BB]; exact hi
 have p1 : ∀ (y : GHeld), putAt w.Held (i : Int) y = w.Held.set i y := fun y => by show w.Held.set (Int.toNat _) _ = _; rw [Int.toNat_natCast]
 have f1 := (Of (K := 3000) om g j hx.n).2.1
 rw [DB, e1, e2, cT, bS, Nu om g j h.X hx.n hx.i hx.p, bS, B1]
 cases ieq (doS g j h.X).2.2 6
 · cases ieq (doS g j h.X).2.2 1
   · cases ieq (doS g j h.X).2.2 0
     · simp only [cF, Bool.or_false, p1]
       rw [Jm K _ _ (by show w.Out.length ≤ _; omega)]; rfl
     · simp only [cF, cT, Bool.or_false, p1]
       have e3 : inr (i : Int) (len (w.Held.set i (GHeld.mk h.X true h.Given))) = true := decide_eq_true ⟨by omega, by show (i : Int) < ((w.Held.set i _).length : Int); rw [List.length_set]; omega⟩
       have e4 : elAt (w.Held.set i (GHeld.mk h.X true h.Given)) (i : Int) = some (GHeld.mk h.X true h.Given) := by rw [BB, List.getElem?_set_self hlt]
       have e5 : putAt (w.Held.set i (GHeld.mk h.X true h.Given)) (i : Int) (GHeld.mk (doS g j h.X).1 true h.Given) = w.Held.set i (GHeld.mk (doS g j h.X).1 true h.Given) := by
        show (w.Held.set i _).set (Int.toNat _) _ = _; rw [Int.toNat_natCast, List.set_set]
       rw [e3, e4, cT, bS, e5]
       have hl := O5 hK g j h (doS g j h.X) om { w with Held := w.Held.set i (GHeld.mk (doS g j h.X).1 true h.Given) } (by show w.Buf.length ≤ _; omega) (by show w.Out.length ≤ _; omega)
       have hl' : Df K g j h (doS g j h.X) K w.Id w.Goal w.Until w.T.Epoch w.T.Owners w.T.Ids w.T.Incs (w.Held.set i (GHeld.mk (doS g j h.X).1 true h.Given)) w.Buf w.Coming w.Out 0 = _ := hl
       rw [hl']; rfl
   · rfl
 · rfl
def GA : GData := GData.mk 0 0 0 0 []
def BI (b : List GData) (e s p : Int) : List Nat → Option (List (List GMsg))
 | [] => some []
 | q :: r => bif ilt (Bz b e s (q : Int) p) 0 then none else (BI b e s p r).map fun l => (b.getD (Bz b e s (q : Int) p).toNat GA).Msgs :: l
def EU (w : GWorker) (parts p : Int) (d : GData) : Bool := !(ieq d.Epoch w.T.Epoch && (ieq d.Step w.Goal && (ieq d.P p && (!(ilt d.Q 0) && !(ile parts d.Q)))))
def E9 (w : GWorker) (p : Int) (x : GPart) : GMail := GMail.mk 5 w.T.Epoch 0 w.Goal p 0 0 0 [] [] [] x []
def Gm (g : GGraph) (j : GJob) (w : GWorker) (i : Nat) (h : GHeld) (ins : List (List GMsg)) : GWorker :=
 bif ieq (AQ g j h.X ins.flatten).2 0 then EP { w with Held := w.Held.set i (GHeld.mk (AQ g j h.X ins.flatten).1 false false), Buf := w.Buf.filter (EU w j.Parts h.X.P) } (E9 w h.X.P (AQ g j h.X ins.flatten).1)
 else GP { w with Buf := w.Buf.filter (EU w j.Parts h.X.P) } h.X.P
def Da (g : GGraph) (j : GJob) (w : GWorker) (i : Nat) (h : GHeld) : GWorker :=
 match BI w.Buf w.T.Epoch w.Goal h.X.P (List.range j.Parts.toNat) with | none => w | some ins => Gm g j w i h ins
abbrev WT2 : Type := Int × Int × Int × Int × List Int × List Int × List Int × List GHeld × List GData × List GComing × List GPost × List (List GMsg)
abbrev wt2 (w : GWorker) (a : List (List GMsg)) : WT2 := (w.Id, (w.Goal, (w.Until, (w.T.Epoch, (w.T.Owners, (w.T.Ids, (w.T.Incs, (w.Held, (w.Buf, (w.Coming, (w.Out, a)))))))))))
theorem NO {K : Nat} (hK : 1000000 ≤ K) (g : GGraph) (j : GJob) (w : GWorker) (i p : Int) (hb : w.Buf.length ≤ 900000) (hp : j.Parts ≤ 6) : ∃ r, Eh K i g.N g.Edges j.Prog j.Source j.Limit j.Parts p K w.Id w.Goal w.Until w.T.Epoch w.T.Owners w.T.Ids w.T.Incs w.Held w.Buf w.Coming w.Out [] 0 = some r ∧
 (match BI w.Buf w.T.Epoch w.Goal p (List.range j.Parts.toNat) with | none => ∃ a, r = .inl (wt2 w a) | some ins => r = .inr (wt2 w ins)) := by
 let step : Nat → GWorker × List (List GMsg) → (GWorker × List (List GMsg) → Option (WT2 ⊕ WT2)) → Option (WT2 ⊕ WT2) := fun q s c =>
  (Di K s.1 s.1.T.Epoch s.1.Goal (q : Int) p).bind fun r => bif ilt r.1 0 then some (.inl (wt2 r.2 s.2)) else bif inr r.1 (len r.2.Buf) then (elAt r.2.Buf r.1).bind fun d => bif apok (len s.2) 1 24 then c (r.2, appL s.2 [d.Msgs]) else none else none
 have hs := FO (N := j.Parts) (L := fun k (s : GWorker × List (List GMsg)) i' => Eh K i g.N g.Edges j.Prog j.Source j.Limit j.Parts p k s.1.Id s.1.Goal s.1.Until s.1.T.Epoch s.1.T.Owners s.1.T.Ids s.1.T.Incs s.1.Held s.1.Buf s.1.Coming s.1.Out s.2 i') step (fun s => some (.inr (wt2 s.1 s.2))) (fun k s i' _ => rfl) om (K := K) om (w, [])
 have go : ∀ (l : List Nat) (a : List (List GMsg)), a.length + l.length ≤ 100 → ∃ r, goL step (fun s => some (.inr (wt2 s.1 s.2))) l (w, a) = some r ∧ (match BI w.Buf w.T.Epoch w.Goal p l with | none => ∃ a, r = .inl (wt2 w a) | some ins => r = .inr (wt2 w (a ++ ins))) := by
  intro l
  induction l with
  | nil => intro a _; exact ⟨_, rfl, by rw [BI]; simp⟩
  | cons q l ih =>
   intro a ha
   rw [List.length_cons] at ha
   rw [goL, BI]
   have e0 : step q (w, a) (goL step (fun s => some (.inr (wt2 s.1 s.2))) l) = bif ilt (Bz w.Buf w.T.Epoch w.Goal (q : Int) p) 0 then some (.inl (wt2 w a)) else bif inr (Bz w.Buf w.T.Epoch w.Goal (q : Int) p) (len w.Buf) then (elAt w.Buf (Bz w.Buf w.T.Epoch w.Goal (q : Int) p)).bind fun d => bif apok (len a) 1 24 then goL step (fun s => some (.inr (wt2 s.1 s.2))) l (w, appL a [d.Msgs]) else none else none := by
    show (Di K w w.T.Epoch w.Goal (q : Int) p).bind _ = _
    rw [JT K w _ _ _ _ om om]; rfl
   rw [e0]
   cases hn : ilt (Bz w.Buf w.T.Epoch w.Goal (q : Int) p) 0
   · rw [cF, cF]
     rw [Ac] at hn
     obtain ⟨z, d, z1, z2, _⟩ := Ge (p := Fa w.T.Epoch w.Goal (q : Int) p) (l := w.Buf) (by show ¬ Bz w.Buf w.T.Epoch w.Goal (q : Int) p < 0; omega)
     have z1' : Bz w.Buf w.T.Epoch w.Goal (q : Int) p = (z : Int) := z1
     have hz : z < w.Buf.length := (List.getElem?_eq_some_iff.1 z2).1
     have c1 : inr (z : Int) (len w.Buf) = true := decide_eq_true ⟨by omega, by show (z : Int) < (w.Buf.length : Int); omega⟩
     have c2 : elAt w.Buf (z : Int) = some d := by rw [BB]; exact z2
     have c3 : w.Buf.getD z GA = d := by rw [List.getD_eq_getElem?_getD, z2]; rfl
     rw [z1', c1, c2, cT, bS, Bu (by show a.length + 1 ≤ _; omega) om, cT, appL, Int.toNat_natCast, c3]
     obtain ⟨r, r1, r2⟩ := ih (a ++ [d.Msgs]) (by simp; omega)
     refine ⟨r, r1, ?_⟩
     cases hi : BI w.Buf w.T.Epoch w.Goal p l with
     | none => rw [hi] at r2; exact r2
     | some ins =>
      rw [hi] at r2
      show r = .inr (wt2 w (a ++ d.Msgs :: ins))
      rw [r2]; simp
   · exact ⟨_, rfl, a, rfl⟩
 obtain ⟨r, r1, r2⟩ := go (List.range j.Parts.toNat) [] (by simp; omega)
 exact ⟨r, hs.trans r1, by
  cases hi : BI w.Buf w.T.Epoch w.Goal p (List.range j.Parts.toNat) with
  | none => rw [hi] at r2; exact r2
  | some ins => rw [hi] at r2; exact r2⟩
theorem Hb {b : List GData} {e s p : Int} : ∀ {l : List Nat} {ins : List (List GMsg)}, BI b e s p l = some ins → ins.length = l.length ∧ ∀ x ∈ ins, ∃ d ∈ b, d.Msgs = x
 | [], ins, h => by rw [BI] at h; cases h; exact ⟨rfl, fun x hx => absurd hx List.not_mem_nil⟩
 | q :: l, ins, h => by
  rw [BI] at h
  cases hn : ilt (Bz b e s (q : Int) p) 0
  · rw [hn, cF] at h
    cases hi : BI b e s p l with
    | none => rw [hi] at h; cases h
    | some i2 =>
     rw [hi] at h
     cases h
     obtain ⟨a1, a2⟩ := Hb hi
     rw [Ac] at hn
     obtain ⟨z, d, z1, z2, _⟩ := Ge (p := Fa e s (q : Int) p) (l := b) (by show ¬ Bz b e s (q : Int) p < 0; omega)
     have z1' : Bz b e s (q : Int) p = (z : Int) := z1
     have c3 : b.getD z GA = d := by rw [List.getD_eq_getElem?_getD, z2]; rfl
     refine ⟨by simp [a1], fun x hx => ?_⟩
     rw [z1', Int.toNat_natCast, c3] at hx
     rcases List.mem_cons.1 hx with rfl | hx
     · exact ⟨d, List.mem_of_getElem? z2, rfl⟩
     · exact a2 x hx
  · rw [hn] at h; cases h
theorem Ip {α : Type} (c : Nat) : ∀ (l : List (List α)), (∀ x ∈ l, x.length ≤ c) → l.flatten.length ≤ c * l.length
 | [], _ => by simp
 | x :: l, h => by
  have h1 := h x List.mem_cons_self
  have h2 := Ip c l fun y hy => h y (List.mem_cons_of_mem _ hy)
  rw [List.flatten_cons, List.length_append, List.length_cons, Nat.mul_succ]; omega
structure SmlD (d : GData) : Prop where
 l : d.Msgs.length ≤ 100
 n : ∀ m ∈ d.Msgs, i64 m.V
theorem Mv {K : Nat} (hK : 1000000 ≤ K) (g : GGraph) (j : GJob) (w : GWorker) (i : Nat) (h : GHeld) (hi : w.Held[i]? = some h) (hx : SmlP h.X) (hb : w.Buf.length ≤ 800000) (hd : ∀ d ∈ w.Buf, SmlD d) (ho : w.Out.length ≤ 800000) (hp : j.Parts ≤ 6) : DY K w g j (i : Int) = some (Da g j w i h) := by
 have hlt : i < w.Held.length := (List.getElem?_eq_some_iff.1 hi).1
 have e1 : inr (i : Int) (len w.Held) = true := decide_eq_true ⟨by omega, by show (i : Int) < (w.Held.length : Int); omega⟩
 have e2 : elAt w.Held (i : Int) = some h := by rw [BB]; exact hi
 have p1 : ∀ (y : GHeld), putAt w.Held (i : Int) y = w.Held.set i y := fun y => by show w.Held.set (Int.toNat _) _ = _; rw [Int.toNat_natCast]
 obtain ⟨r, r1, r2⟩ := NO hK g j w (i : Int) h.X.P om hp
 rw [DY, e1, e2, cT, bS, r1, bS, Da]
 cases hn : BI w.Buf w.T.Epoch w.Goal h.X.P (List.range j.Parts.toNat) with
 | none => rw [hn] at r2; obtain ⟨a, rfl⟩ := r2; rfl
 | some ins =>
  rw [hn] at r2
  subst r2
  obtain ⟨n1, n2⟩ := Hb hn
  rw [List.length_range] at n1
  have nf : ins.flatten.length ≤ 100 * ins.length := Ip 100 ins fun x hx' => by obtain ⟨d, d1, rfl⟩ := n2 x hx'; exact (hd d d1).l
  let st : GData → List GData → (List GData → Option (List GData)) → Option (List GData) := fun x a c =>
   bif ieq x.Epoch w.T.Epoch then (bif ieq x.Step w.Goal then (bif ieq x.P h.X.P then (bif ilt x.Q 0 then (bif apok (len a) 1 56 then c (appL a [x]) else none) else bif ile j.Parts x.Q then (bif apok (len a) 1 56 then c (appL a [x]) else none) else c a)
    else bif apok (len a) 1 56 then c (appL a [x]) else none) else bif apok (len a) 1 56 then c (appL a [x]) else none) else bif apok (len a) 1 56 then c (appL a [x]) else none
  have s1 := Ao (l := w.Buf) (L := fun k a q => Cw K w.Id w.Goal w.Until w.T.Epoch w.T.Owners w.T.Ids w.T.Incs w.Held w.Buf w.Coming w.Out (i : Int) g.N g.Edges j.Prog j.Source j.Limit j.Parts h.X.P ins k a q) st (fun a => some a) (fun k s i _ => rfl) om (K := K) om []
  have s2 := CC (step := st) (EU w j.Parts h.X.P) (fun d => d) 56 om 1000000 om w.Buf [] (by simp; omega) (fun x _ a c => by
   show (bif ieq x.Epoch w.T.Epoch then (bif ieq x.Step w.Goal then (bif ieq x.P h.X.P then (bif ilt x.Q 0 then _ else _) else _) else _) else _) = _
   rw [EU]
   cases ieq x.Epoch w.T.Epoch <;> cases ieq x.Step w.Goal <;> cases ieq x.P h.X.P <;> cases ilt x.Q 0 <;> cases ile j.Parts x.Q <;> rfl)
  have s3 : Cw K w.Id w.Goal w.Until w.T.Epoch w.T.Owners w.T.Ids w.T.Incs w.Held w.Buf w.Coming w.Out (i : Int) g.N g.Edges j.Prog j.Source j.Limit j.Parts h.X.P ins K [] 0 = some (w.Buf.filter (EU w j.Parts h.X.P)) := (s1.trans s2).trans (by simp)
  dsimp only [Sum.elim_inr, wt2]
  rw [s3, bS, e1, e2, cT, bS, Ox om g j h.X ins hx.p hx.i hx.v hx.r om om om (fun m hm => by
   obtain ⟨x, x1, x2⟩ := List.mem_flatten.1 hm
   obtain ⟨d, d1, rfl⟩ := n2 x x1
   exact (hd d d1).n m x2), bS, Gm]
  cases ieq (AQ g j h.X ins.flatten).2 0
  · rw [cF, cF, Jm K _ _ (by show w.Out.length ≤ _; omega)]; rfl
  · rw [cT, cT, E5 K _ _ (by show w.Out.length ≤ _; omega), bS, p1]; rfl
theorem I4 {g : GGraph} {j : GJob} {x : GPart} (h : Ay g j x = true) (hn : AJ x) : SmlP x := by
 obtain ⟨hc, p0, pj, _, _, hv, hr, hin⟩ := Dl h
 obtain ⟨hg, _, _, _, _, _, _, _, j6⟩ := Co hc
 obtain ⟨g1, g2, _, _⟩ := Cl hg
 have hl := Gf g j g2 x.P
 obtain ⟨i1, i2⟩ := Gl hin
 have h3 := Ez (fun m : GMsg => m.To) g.N x.In (-1) i1 fun m hm => by have := i2 m hm; omega
 have hcv : Bb g j x.P = ((Au g j x.P).length : Int) := rfl
 exact ⟨by omega, by omega, by omega, by unfold i64; omega, hn⟩
structure WI (g : GGraph) (j : GJob) (id : Int) (n : Nat) (w : GWorker) : Prop where
 id : w.Id = id
 goal : -1 ≤ w.Goal ∧ w.Goal ≤ 1099511627776
 tab : BL w.T = true
 ok : HOk w.Held
 mine : ∀ h ∈ w.Held, h.X.P < (w.T.Owners.length : Int) ∧ w.T.Owners.getD h.X.P.toNat 0 = w.Id ∧ Ay g j h.X = true ∧ AJ h.X
 bl : w.Buf.length ≤ n
 bd : ∀ d ∈ w.Buf, SmlD d
 cl : w.Coming.length ≤ n
 cd : ∀ c ∈ w.Coming, SmlP c.X
 ol : w.Out.length ≤ n
 od : ∀ p ∈ w.Out, FitM 100 p.M
section
variable {g : GGraph} {j : GJob} {id : Int} {n : Nat} {w : GWorker}
theorem WI.sml (h : WI g j id n w) (hn : n ≤ 400000) : Sml w := ⟨by have := h.ok.len; omega, by have := h.bl; omega, by have := h.cl; omega, by have := h.ol; omega⟩
theorem WI.hx (h : WI g j id n w) : ∀ y ∈ w.Held, SmlP y.X := fun y hy => I4 (h.mine y hy).2.2.1 (h.mine y hy).2.2.2
theorem WI.up (h : WI g j id n w) {m : Nat} (hm : n ≤ m) : WI g j id m w := { h with bl := Nat.le_trans h.bl hm, cl := Nat.le_trans h.cl hm, ol := Nat.le_trans h.ol hm }
theorem WI.own (h : WI g j id n w) : Ak w.T = w.T := by rw [Ak, h.tab]; rfl
theorem K5 (g : GGraph) (j : GJob) (id : Int) : WI g j id 0 (GWorker.mk id (-1) 0 noT [] [] [] []) :=
 ⟨rfl, ⟨by show (-1 : Int) ≤ -1; omega, by show (-1 : Int) ≤ _; omega⟩, HW, HOk.nil, fun h hh => absurd hh List.not_mem_nil, Nat.le_refl _, fun h hh => absurd hh List.not_mem_nil, Nat.le_refl _, fun h hh => absurd hh List.not_mem_nil, Nat.le_refl _, fun h hh => absurd hh List.not_mem_nil⟩
theorem WI.post (h : WI g j id n w) {m : GMail} (hm : FitM 100 m) : WI g j id (n + 1) (EP w m) :=
 { id := h.id, goal := h.goal, tab := h.tab, ok := h.ok, mine := h.mine, bl := Nat.le_succ_of_le h.bl, bd := h.bd, cl := Nat.le_succ_of_le h.cl, cd := h.cd
   ol := by show (w.Out ++ _).length ≤ _; rw [List.length_append, List.length_singleton]; have := h.ol; omega
   od := fun p hp => by
    rcases List.mem_append.1 hp with hp | hp
    · exact h.od p hp
    · rw [List.mem_singleton.1 hp]; exact hm }
theorem WI.hold (h : WI g j id n w) {x : GPart} (hm : BK g j w x = true) (hn : AJ x) : WI g j id n { w with Held := C3 w.Held x } := by
 obtain ⟨m1, m2, m3, m4, m5⟩ := Iz hm
 rw [h.own] at m2 m3
 exact { h with
  ok := h.ok.ins hm
  mine := fun y hy => by
   rcases J9.1 hy with hy | rfl
   · exact h.mine y hy
   · exact ⟨m2, m3, m4, hn⟩ }
theorem WI.since (h : WI g j id n w) (e : Int) : WI g j id n (Ed w e) :=
 { id := h.id, goal := h.goal, tab := h.tab, ok := h.ok, mine := h.mine, bl := Nat.le_trans (FA _ _) h.bl, bd := fun d hd => h.bd d (List.mem_filter.1 hd).1
   cl := Nat.le_trans (FA _ _) h.cl, cd := fun d hd => h.cd d (List.mem_filter.1 hd).1, ol := h.ol, od := h.od }
theorem WI.turn (h : WI g j id n w) {t : GTable} (ht : BL t = true) (out : List GPost) (ho : out = [] ∨ out = w.Out) : WI g j id n { w with T := t, Goal := -1, Held := [], Out := out } :=
 { id := h.id, goal := ⟨by show (-1 : Int) ≤ -1; omega, by show (-1 : Int) ≤ _; omega⟩, tab := ht, ok := HOk.nil, mine := fun y hy => absurd hy List.not_mem_nil, bl := h.bl, bd := h.bd, cl := h.cl, cd := h.cd
   ol := by rcases ho with rfl | rfl; exact Nat.zero_le _; exact h.ol
   od := by rcases ho with rfl | rfl; exact fun p hp => absurd hp List.not_mem_nil; exact h.od }
theorem HOk.set {l : List GHeld} (h : HOk l) {i : Nat} {y y' : GHeld} (hi : l[i]? = some y) (hp : y'.X.P = y.X.P) : HOk (l.set i y') := by
 have hlt := (List.getElem?_eq_some_iff.1 hi).1
 have he : l[i] = y := (List.getElem?_eq_some_iff.1 hi).2
 constructor
 · rw [List.pairwise_iff_getElem]
   intro a b ha hb hab
   rw [List.length_set] at ha hb
   have := (List.pairwise_iff_getElem.1 h.s) a b ha hb hab
   rw [List.getElem_set, List.getElem_set]
   split
   · subst_vars
     rw [if_neg om, hp]; exact this
   · split
     · subst_vars
       rw [hp]; exact this
     · exact this
 · intro z hz
   rcases List.mem_or_eq_of_mem_set hz with hz | rfl
   · exact h.r z hz
   · rw [hp]; exact h.r y (List.mem_of_getElem? hi)
theorem WI.set (h : WI g j id n w) {i : Nat} {y y' : GHeld} (hi : w.Held[i]? = some y) (hp : y'.X.P = y.X.P) (hr : Ay g j y'.X = true) (hn : AJ y'.X) : WI g j id n { w with Held := w.Held.set i y' } := by
 have hy := h.mine y (List.mem_of_getElem? hi)
 exact { h with
  ok := h.ok.set hi hp
  mine := fun z hz => by
   rcases List.mem_or_eq_of_mem_set hz with hz | rfl
   · exact h.mine z hz
   · exact ⟨by rw [hp]; exact hy.1, by rw [hp]; exact hy.2.1, hr, hn⟩ }
theorem WI.data (h : WI g j id n w) {m : GMail} (hm : m.Msgs.length ≤ 100) (hv : ∀ y ∈ m.Msgs, i64 y.V) : WI g j id (n + 1) (Cy w m) := by
 rw [Cy]
 cases ile w.T.Epoch m.Epoch && ilt (Bz w.Buf m.Epoch m.Step m.Q m.P) 0
 · exact h.up (Nat.le_succ n)
 · exact { id := h.id, goal := h.goal, tab := h.tab, ok := h.ok, mine := h.mine
           bl := by show (w.Buf ++ _).length ≤ _; rw [List.length_append, List.length_singleton]; have := h.bl; omega
           bd := fun d hd => by
            rcases List.mem_append.1 hd with hd | hd
            · exact h.bd d hd
            · rw [List.mem_singleton.1 hd]; exact ⟨hm, hv⟩
           cl := Nat.le_succ_of_le h.cl, cd := h.cd, ol := Nat.le_succ_of_le h.ol, od := h.od }
structure MI (m : GMail) : Prop where
 f : FitM 100 m
 p : i64 m.X.P
 x : AJ m.X
 s : ∀ y ∈ m.Msgs, i64 y.V
theorem MI.sml {m : GMail} (h : MI m) (hr : Cz m = true) : SmlP m.X := by
 have := h.f
 exact ⟨this.v, this.r, by have := this.x; omega, h.p, h.x⟩
theorem FitM.up {c d : Nat} {m : GMail} (h : FitM c m) (hc : c ≤ d) : FitM d m := ⟨Nat.le_trans h.o hc, Nat.le_trans h.i hc, Nat.le_trans h.n hc, Nat.le_trans h.v hc, Nat.le_trans h.r hc, Nat.le_trans h.x hc, Nat.le_trans h.s hc⟩
theorem Jx {j : GJob} {e : Int} {m : GMail} (h : (AP j e m).2 = true) : BL (AP j e m).1 = true ∧ (AP j e m).1.Epoch = e := by
 rw [AP, Bool.and_eq_true] at h
 exact ⟨h.1, rfl⟩
theorem Iy (h : WI g j id n w) {m : GMail} (hm : MI m) : WI g j id (n + 1) (Ec g j w m) := by
 rw [Ec]
 cases hq : BK g j w m.X
 · exact h.up (Nat.le_succ n)
 · exact (h.hold hq hm.x).post ⟨by simp [Dr], by simp [Dr], by simp [Dr], by simp [Dr, BC], by simp [Dr, BC], by simp [Dr, BC], by simp [Dr]⟩
theorem Qh (h : WI g j id n w) {m : GMail} (hm : MI m) : WI g j id (n + 1) (EY g j w m) := by
 rw [EY]
 cases ht : (AP j m.Epoch m).2
 · exact h.up (Nat.le_succ n)
 · cases ilt m.Epoch w.T.Epoch
   · cases ilt w.T.Epoch m.Epoch
     · exact Iy h hm
     · exact Iy ((h.turn (Jx ht).1 [] (.inl rfl)).since m.Epoch) hm
   · exact h.up (Nat.le_succ n)
theorem PH {m : GMail} (hr : Cz m = true) : 0 ≤ m.Step ∧ m.Step ≤ 1099511627776 := by
 simp only [Cz, Bool.and_eq_true] at hr
 exact (Kw hr.2.2.1).1 m.Step (by simp)
theorem Ng (h : WI g j id n w) {m : GMail} (hr : Cz m = true) : WI g j id n (Fo w m) := by
 have := PH hr
 rw [Fo]
 cases ieq m.Epoch w.T.Epoch
 · exact h
 · exact { h with goal := ⟨by show -1 ≤ m.Step; omega, this.2⟩ }
theorem Kx (h : WI g j id n w) {m : GMail} (hm : MI m) : WI g j id (n + 1) (E0 w m) := by
 rw [E0]
 cases ieq m.Epoch w.T.Epoch && !(ilt (Ct w.Held m.P) 0)
 · exact h.up (Nat.le_succ n)
 · rw [cT]
   cases hq : w.Held[(Ct w.Held m.P).toNat]? with
   | none => exact h.up (Nat.le_succ n)
   | some y =>
    dsimp only
    rw [GE]
    cases y.Wait || (y.Given || ilt (BX m.Ids m.To) 0)
    · have hy := h.mine y (List.mem_of_getElem? hq)
      have hs := h.hx y (List.mem_of_getElem? hq)
      have h1 := h.set (y' := GHeld.mk y.X y.Wait true) hq rfl hy.2.2.1 hy.2.2.2
      have hin : y.X.In.length ≤ 100 := by
       obtain ⟨hc, _, _, _, _, _, _, hin⟩ := Dl hy.2.2.1
       obtain ⟨hg, _⟩ := Co hc
       obtain ⟨_, g2, _, _⟩ := Cl hg
       obtain ⟨i1, i2⟩ := Gl hin
       have h3 := Ez (fun m : GMsg => m.To) g.N y.X.In (-1) i1 fun m hm => by have := i2 m hm; omega
       omega
      exact { id := h1.id, goal := h1.goal, tab := h1.tab, ok := h1.ok, mine := h1.mine, bl := Nat.le_succ_of_le h1.bl, bd := h1.bd, cl := Nat.le_succ_of_le h1.cl, cd := h1.cd
              ol := by show (w.Out ++ _).length ≤ _; rw [List.length_append, List.length_singleton]; have := h.ol; omega
              od := fun p hp => by
               rcases List.mem_append.1 hp with hp | hp
               · exact h.od p hp
               · rw [List.mem_singleton.1 hp]; exact ⟨by simp [D4], by simp [D4], by simp [D4], hs.v, hs.r, hin, by simp [D4]⟩ }
    · exact h.up (Nat.le_succ n)
theorem K1 (h : WI g j id n w) {m : GMail} (hm : MI m) (hr : Cz m = true) : WI g j id (n + 1) (Fy w m) := by
 rw [Fy]
 cases ilt m.Epoch w.T.Epoch || w.Coming.any (isC m.Epoch m.X.P)
 · exact { id := h.id, goal := h.goal, tab := h.tab, ok := h.ok, mine := h.mine, bl := Nat.le_succ_of_le h.bl, bd := h.bd
           cl := by show (w.Coming ++ _).length ≤ _; rw [List.length_append, List.length_singleton]; have := h.cl; omega
           cd := fun c hc => by
            rcases List.mem_append.1 hc with hc | hc
            · exact h.cd c hc
            · rw [List.mem_singleton.1 hc]; exact hm.sml hr
           ol := by show (w.Out ++ _).length ≤ _; rw [List.length_append, List.length_singleton]; have := h.ol; omega
           od := fun p hp => by
            rcases List.mem_append.1 hp with hp | hp
            · exact h.od p hp
            · rw [List.mem_singleton.1 hp]; exact ⟨by simp [Do], by simp [Do], by simp [Do], by simp [Do, BC], by simp [Do, BC], by simp [Do, BC], by simp [Do]⟩ }
 · exact h.up (Nat.le_succ n)
theorem Nk (h : WI g j id n w) {x : GPart} (hx : AJ x) : WI g j id n (BD g j w x) := by
 rw [BD]
 cases hq : BK g j w x
 · exact h
 · exact h.hold hq hx
theorem HY : ∀ (l : List GPart) {w : GWorker}, WI g j id n w → (∀ x ∈ l, AJ x) → WI g j id n (l.foldl (BD g j) w)
 | [], w, h, _ => h
 | x :: l, w, h, hx => by
  rw [List.foldl_cons]
  exact HY l (Nk h (hx x List.mem_cons_self)) fun y hy => hx y (List.mem_cons_of_mem _ hy)
theorem Qq (h : WI g j id n w) (m : GMail) : ∀ x ∈ B3 w m ++ De w m, AJ x := fun x hx => by
 rcases List.mem_append.1 hx with hx | hx
 · obtain ⟨y, hy, rfl⟩ := List.mem_map.1 hx
   exact (h.mine y (List.mem_filter.1 hy).1).2.2.2
 · obtain ⟨c, hc, rfl⟩ := List.mem_map.1 hx
   exact (h.cd c (List.mem_filter.1 hc).1).n
theorem Ni (h : WI g j id n w) (m : GMail) : WI g j id n (EZ g j w m) := by
 rw [EZ]
 cases ht : (AP j m.Fresh m).2
 · exact h
 · cases ile m.Fresh w.T.Epoch
   · exact (HY _ (h.turn (Jx ht).1 w.Out (.inr rfl)) (Qq h m)).since m.Fresh
   · exact h
theorem MS (h : WI g j id n w) {m : GMail} (hm : MI m) : WI g j id (n + 1) (Fb g j w m) := by
 rw [Fb]
 cases ieq (Am g j) 0
 · exact h.up (Nat.le_succ n)
 · cases hr : Cz m
   · exact h.up (Nat.le_succ n)
   · simp only [Bool.and_true, cT]
     rw [GR]
     cases ieq m.Kind 1
     · cases ieq m.Kind 3
       · cases ieq m.Kind 4
         · cases ieq m.Kind 6
           · cases ieq m.Kind 7
             · cases ieq m.Kind 9
               · exact h.up (Nat.le_succ n)
               · exact (Ni h m).up (Nat.le_succ n)
             · exact K1 h hm hr
           · exact Kx h hm
         · exact h.data hm.f.s hm.s
       · exact (Ng h hr).up (Nat.le_succ n)
     · exact Qh h hm
theorem MJ (h : WI g j id n w) (k : Int) : WI g j id n (E1 w k) := by
 rw [E1]
 cases ilt w.Until k
 · exact h
 · exact { h with }
theorem Ny (g : GGraph) (j : GJob) {x : GPart} (hn : AJ x) (h : ieq (doS g j x).2.2 0 = true) : Ay g j (doS g j x).1 = true ∧ AJ (doS g j x).1 ∧ (doS g j x).1.P = x.P ∧ (doS g j x).2.1.length ≤ 6 ∧ ∀ l ∈ (doS g j x).2.1, l.length ≤ 100 ∧ ∀ m ∈ l, i64 m.V := by
 rcases JU g j hn with ⟨e, he, hq⟩ | ⟨hc, hR, h40, w, _, kw, _, hq⟩
 · rw [hq] at h; rw [h] at he; cases he
 · obtain ⟨_, p0, pj, s0, s40, hv, hr, _⟩ := Dl hR
   obtain ⟨hg, _, _, _, _, _, _, _, j6⟩ := Co hc
   obtain ⟨g1, g2, _, _⟩ := Cl hg
   have hcv : Bb g j x.P = ((Au g j x.P).length : Int) := rfl
   rw [Aq] at h40
   rw [hq]
   refine ⟨?_, ⟨kw.va, fun m hm => absurd hm List.not_mem_nil⟩, rfl, ?_, fun l hl => ?_⟩
   · simp only [Ay, Bool.and_eq_true, CJ, Ae, Ap]
     have := kw.la
     have := kw.lb
     exact ⟨Ap.1 hc, p0, pj, by omega, by omega, by omega, by omega, rfl⟩
   · show ((List.range j.Parts.toNat).map _).length ≤ 6
     rw [List.length_map, List.length_range]; omega
   · obtain ⟨q, hq, rfl⟩ := List.mem_map.1 hl
     obtain ⟨r1, r2⟩ := JB (p := j.Prog) (l := toS j w.2.2 (q : Int))
     have h3 := Ez (fun m : GMsg => m.To) g.N _ 0 r1 fun m hm => by
      obtain ⟨s, hs, he⟩ := r2 m hm
      have := kw.vt s (FG hs).1
      omega
     exact ⟨by omega, (Gs fun m hm => kw.vc m (FG hm).1).2⟩
theorem IK (p : Int) : ∀ (l : List (List GMsg)) (q n : Nat) {w : GWorker}, WI g j id n w → (∀ x ∈ l, x.length ≤ 100 ∧ ∀ m ∈ x, i64 m.V) → WI g j id (n + l.length) (BA p q l w)
 | [], q, n, w, h, _ => h
 | x :: l, q, n, w, h, hx => by
  rw [BA, List.length_cons, show n + (l.length + 1) = (n + 1) + l.length by omega]
  obtain ⟨x1, x2⟩ := hx x List.mem_cons_self
  refine IK p l (q + 1) (n + 1) ?_ fun y hy => hx y (List.mem_cons_of_mem _ hy)
  rw [BH]
  cases ieq (toT w.T (q : Int)).1 w.Id
  · exact { id := h.id, goal := h.goal, tab := h.tab, ok := h.ok, mine := h.mine, bl := Nat.le_succ_of_le h.bl, bd := h.bd, cl := Nat.le_succ_of_le h.cl, cd := h.cd
            ol := by show (w.Out ++ _).length ≤ _; rw [List.length_append, List.length_singleton]; have := h.ol; omega
            od := fun p hp => by
             rcases List.mem_append.1 hp with hp | hp
             · exact h.od p hp
             · rw [List.mem_singleton.1 hp]; exact ⟨by simp [Bt], by simp [Bt], by simp [Bt], by simp [Bt, BC], by simp [Bt, BC], by simp [Bt, BC], x1⟩ }
  · exact h.data x1 x2
theorem JD (w : GWorker) (p : Int) : FitM 100 (CT w p) := ⟨by simp [CT], by simp [CT], by simp [CT], by simp [CT, BC], by simp [CT, BC], by simp [CT, BC], by simp [CT]⟩
theorem Q0 (h : WI g j id n w) {i : Nat} {y : GHeld} (hi : w.Held[i]? = some y) : WI g j id (n + 6) (B1 g j w i y).2 := by
 have hy := h.mine y (List.mem_of_getElem? hi)
 rw [B1]
 cases ieq (doS g j y.X).2.2 6 || ieq (doS g j y.X).2.2 1
 · cases h0 : ieq (doS g j y.X).2.2 0
   · exact ((h.set (y' := GHeld.mk y.X true y.Given) hi rfl hy.2.2.1 hy.2.2.2).post (JD _ _)).up om
   · obtain ⟨d1, d2, d3, d4, d5⟩ := Ny g j hy.2.2.2 h0
     exact (IK y.X.P _ 0 n (h.set (y' := GHeld.mk (doS g j y.X).1 true y.Given) hi d3 d1 d2) d5).up om
 · exact h.up om
theorem PD {x : GPart} (hx : AJ x) {l : List GMsg} (hl : ∀ m ∈ l, i64 m.V) : AJ (AQ g j x l).1 := by
 have hz : AJ BN := ⟨fun v hv => absurd hv List.not_mem_nil, fun m hm => absurd hm List.not_mem_nil⟩
 rw [AQ]
 cases ieq (Am g j) 0
 · exact hz
 · cases Ay g j x
   · exact hz
   · cases ieq (nlen (len x.In)) 0
     · exact hz
     · cases Cg g.N j.Parts x.P l
       · exact hz
       · simp only [cT]
         rw [Fr]
         cases ieq (An j.Prog l).2 0
         · exact hz
         · exact ⟨hx.1, (Gs hl).2⟩
theorem Kp {x : GPart} {l : List GMsg} (h : ieq (AQ g j x l).2 0 = true) : (AQ g j x l).1.P = x.P := by
 have key : ∀ (a : GPart) (e : Int), ieq e 0 = true → ieq e 0 = true := fun _ _ h => h
 rw [AQ] at h ⊢
 cases hc : ieq (Am g j) 0
 · rw [hc] at h
   simp only [cF] at h
   rw [hc] at h; cases h
 · rw [hc] at h
   cases hp : Ay g j x
   · rw [hp] at h; cases h
   · rw [hp] at h
     cases hi : ieq (nlen (len x.In)) 0
     · rw [hi] at h; cases h
     · rw [hi] at h
       cases ht : Cg g.N j.Parts x.P l
       · rw [ht] at h; cases h
       · rw [ht] at h
         simp only [cT] at h ⊢
         rw [Fr] at h ⊢
         cases hb : ieq (An j.Prog l).2 0
         · rw [hb] at h
           simp only [cF] at h
           rw [hb] at h; cases h
         · rfl
theorem Ky (h : WI g j id n w) {i : Nat} {y : GHeld} (hi : w.Held[i]? = some y) : WI g j id (n + 1) (Da g j w i y) := by
 have hy := h.mine y (List.mem_of_getElem? hi)
 rw [Da]
 cases hq : BI w.Buf w.T.Epoch w.Goal y.X.P (List.range j.Parts.toNat) with
 | none => exact h.up (Nat.le_succ n)
 | some ins =>
  dsimp only
  have hins : ∀ m ∈ ins.flatten, i64 m.V := fun m hm => by
   obtain ⟨x, x1, x2⟩ := List.mem_flatten.1 hm
   obtain ⟨d, d1, rfl⟩ := (Hb hq).2 x x1
   exact (h.bd d d1).n m x2
  have hb : ∀ {w' : GWorker}, WI g j id n w' → w'.Buf = w.Buf → WI g j id n { w' with Buf := w.Buf.filter (EU w j.Parts y.X.P) } := fun h' e =>
   { h' with bl := Nat.le_trans (FA _ _) h.bl, bd := fun d hd => h.bd d (List.mem_filter.1 hd).1 }
  rw [Gm]
  cases h0 : ieq (AQ g j y.X ins.flatten).2 0
  · exact (hb h rfl).post (JD _ _)
  · have r1 := (OB h0).1
    have r2 := PD (g := g) (j := j) hy.2.2.2 hins
    have r3 := I4 r1 r2
    have hin : (AQ g j y.X ins.flatten).1.In.length ≤ 100 := by
     obtain ⟨hc, _, _, _, _, _, _, hin⟩ := Dl r1
     obtain ⟨hg, _⟩ := Co hc
     obtain ⟨_, g2, _, _⟩ := Cl hg
     obtain ⟨i1, i2⟩ := Gl hin
     have h3 := Ez (fun m : GMsg => m.To) g.N _ (-1) i1 fun m hm => by have := i2 m hm; omega
     omega
    exact (hb (h.set (y' := GHeld.mk (AQ g j y.X ins.flatten).1 false false) hi (Kp h0) r1 r2) rfl).post ⟨by simp [E9], by simp [E9], by simp [E9], r3.v, r3.r, hin, by simp [E9]⟩
end
theorem He {α σ β : Type} {step : α → σ → (σ → Option β) → Option β} {fin : σ → Option β} (P : Nat → σ → Prop) (f : σ → α → σ) : ∀ (l : List α) (s : σ), P l.length s → (∀ x ∈ l, ∀ n s, P (n + 1) s → P n (f s x) ∧ ∀ c, step x s c = c (f s x)) →
 goL step fin l s = fin (l.foldl f s) ∧ P 0 (l.foldl f s)
 | [], s, hs, _ => ⟨rfl, hs⟩
 | x :: l, s, hs, h => by
  obtain ⟨h1, h2⟩ := h x List.mem_cons_self l.length s hs
  rw [goL, h2, List.foldl_cons]
  exact He P f l (f s x) h1 fun y hy => h y (List.mem_cons_of_mem _ hy)
def Hj (g : GGraph) (j : GJob) (s : GWorker × List GDid) (i : Nat) : GWorker × List GDid := match s.1.Held[i]? with
 | some h => bif h.Wait || (h.Given || !(ieq h.X.Step s.1.Goal)) then s else ((B1 g j s.1 i h).2, s.2 ++ (B1 g j s.1 i h).1)
 | none => s
def Av (g : GGraph) (j : GJob) (w : GWorker) : GWorker × List GDid := (List.range w.Held.length).foldl (Hj g j) (w, [])
def Gx (g : GGraph) (j : GJob) (w : GWorker) (i : Nat) : GWorker := match w.Held[i]? with
 | some h => bif h.Wait && ieq h.X.Step (w.Goal + 1) then Da g j w i h else w
 | none => w
def Fs (g : GGraph) (j : GJob) (w : GWorker) : GWorker := (List.range w.Held.length).foldl (Gx g j) w
section
variable {g : GGraph} {j : GJob} {id : Int} {n : Nat} {w : GWorker}
theorem HH (p : Int) : ∀ (l : List (List GMsg)) (q : Nat) (w : GWorker), (BA p q l w).Held = w.Held ∧ (BA p q l w).T = w.T ∧ (BA p q l w).Goal = w.Goal ∧ (BA p q l w).Id = w.Id ∧ (BA p q l w).Until = w.Until ∧ (BA p q l w).Coming = w.Coming
 | [], _, _ => ⟨rfl, rfl, rfl, rfl, rfl, rfl⟩
 | x :: l, q, w => by
  obtain ⟨a, b, c, d, e, f⟩ := HH p l (q + 1) (BH p w q x)
  have h : (BH p w q x).Held = w.Held ∧ (BH p w q x).T = w.T ∧ (BH p w q x).Goal = w.Goal ∧ (BH p w q x).Id = w.Id ∧ (BH p w q x).Until = w.Until ∧ (BH p w q x).Coming = w.Coming := by
   rw [BH]
   cases ieq (toT w.T (q : Int)).1 w.Id
   · exact ⟨rfl, rfl, rfl, rfl, rfl, rfl⟩
   · rw [cT, Cy]
     cases ile w.T.Epoch (Bt w p q x).Epoch && ilt (Bz w.Buf (Bt w p q x).Epoch (Bt w p q x).Step (Bt w p q x).Q (Bt w p q x).P) 0 <;> exact ⟨rfl, rfl, rfl, rfl, rfl, rfl⟩
  rw [BA]
  exact ⟨a.trans h.1, b.trans h.2.1, c.trans h.2.2.1, d.trans h.2.2.2.1, e.trans h.2.2.2.2.1, f.trans h.2.2.2.2.2⟩
theorem Qv (g : GGraph) (j : GJob) (w : GWorker) (i : Nat) (h : GHeld) : (B1 g j w i h).2.Held.length = w.Held.length ∧ (B1 g j w i h).2.T = w.T ∧ (B1 g j w i h).2.Goal = w.Goal ∧ (B1 g j w i h).1.length ≤ 1 := by
 rw [B1]
 cases ieq (doS g j h.X).2.2 6 || ieq (doS g j h.X).2.2 1
 · cases ieq (doS g j h.X).2.2 0
   · exact ⟨List.length_set, rfl, rfl, Nat.zero_le _⟩
   · obtain ⟨a, b, c, _⟩ := HH h.X.P (doS g j h.X).2.1 0 { w with Held := w.Held.set i (GHeld.mk (doS g j h.X).1 true h.Given) }
     exact ⟨(congrArg List.length a).trans List.length_set, b, c, Nat.le_refl _⟩
 · exact ⟨rfl, rfl, rfl, Nat.zero_le _⟩
theorem Np (g : GGraph) (j : GJob) (w : GWorker) (i : Nat) (h : GHeld) : (Da g j w i h).Held.length = w.Held.length ∧ (Da g j w i h).T = w.T ∧ (Da g j w i h).Goal = w.Goal := by
 rw [Da]
 cases BI w.Buf w.T.Epoch w.Goal h.X.P (List.range j.Parts.toNat) with
 | none => exact ⟨rfl, rfl, rfl⟩
 | some ins =>
  dsimp only
  rw [Gm]
  cases ieq (AQ g j h.X ins.flatten).2 0
  · exact ⟨rfl, rfl, rfl⟩
  · exact ⟨List.length_set, rfl, rfl⟩
abbrev WT3 : Type := Int × Int × Int × Int × List Int × List Int × List Int × List GHeld × List GData × List GComing × List GPost × List GDid
abbrev wt3 (w : GWorker) (a : List GDid) : WT3 := (w.Id, (w.Goal, (w.Until, (w.T.Epoch, (w.T.Owners, (w.T.Ids, (w.T.Incs, (w.Held, (w.Buf, (w.Coming, (w.Out, a)))))))))))
theorem IP {K : Nat} (hK : 1000000 ≤ K) (h : WI g j id n w) (hn : n ≤ 300000) :
 C4 K g j w K w.Id w.Goal w.Until w.T.Epoch w.T.Owners w.T.Ids w.T.Incs w.Held w.Buf w.Coming w.Out [] 0 = some (wt3 (Av g j w).1 (Av g j w).2) ∧ WI g j id (n + 36) (Av g j w).1 ∧ (Av g j w).1.Held.length = w.Held.length ∧ (Av g j w).1.T = w.T ∧ (Av g j w).1.Goal = w.Goal := by
 have hl := h.ok.len
 let step : Nat → GWorker × List GDid → (GWorker × List GDid → Option WT3) → Option WT3 := fun i s c =>
  bif inr (i : Int) (len s.1.Held) then (elAt s.1.Held (i : Int)).bind fun x => bif x.Wait then c s else bif x.Given then c s else bif ieq x.X.Step s.1.Goal then (DB K s.1 g j (i : Int)).bind fun r => bif apok (len s.2) (len r.1) 24 then c (r.2, appL s.2 r.1) else none else c s else none
 have hs := FO (N := nlen (len w.Held)) (L := fun k (s : GWorker × List GDid) i => C4 K g j w k s.1.Id s.1.Goal s.1.Until s.1.T.Epoch s.1.T.Owners s.1.T.Ids s.1.T.Incs s.1.Held s.1.Buf s.1.Coming s.1.Out s.2 i) step (fun s => some (wt3 s.1 s.2)) (fun k s i _ => rfl) (by rw [CG]; omega) (K := K) (by rw [CG]; omega) (w, [])
 have hN : (nlen (len w.Held)).toNat = w.Held.length := by rw [CG]; exact Int.toNat_natCast _
 rw [hN] at hs
 have e := He (step := step) (fin := fun s => some (wt3 s.1 s.2)) (fun m s => m ≤ 6 ∧ WI g j id (n + 36 - 6 * m) s.1 ∧ s.2.length + m ≤ 6 ∧ s.1.Held.length = w.Held.length ∧ s.1.T = w.T ∧ s.1.Goal = w.Goal) (Hj g j) (List.range w.Held.length) (w, []) ⟨by simp; omega, h.up (by simp; omega), by simp; omega, rfl, rfl, rfl⟩ (fun i hi m s ⟨p1, p2, p3, p4, p5, p6⟩ => by
  have hi' : i < s.1.Held.length := by rw [p4]; exact List.mem_range.1 hi
  have hy : s.1.Held[i]? = some s.1.Held[i] := List.getElem?_eq_getElem hi'
  have c1 : inr (i : Int) (len s.1.Held) = true := decide_eq_true ⟨by omega, by show (i : Int) < (s.1.Held.length : Int); omega⟩
  have c2 : elAt s.1.Held (i : Int) = some s.1.Held[i] := by rw [BB]; exact hy
  have e0 : ∀ c, step i s c = bif s.1.Held[i].Wait then c s else bif s.1.Held[i].Given then c s else bif ieq s.1.Held[i].X.Step s.1.Goal then (DB K s.1 g j (i : Int)).bind fun r => bif apok (len s.2) (len r.1) 24 then c (r.2, appL s.2 r.1) else none else c s := fun c => by
   show (bif inr (i : Int) (len s.1.Held) then _ else _) = _
   rw [c1, c2, cT, bS]
  have stay : (m ≤ 6 ∧ WI g j id (n + 36 - 6 * m) s.1 ∧ s.2.length + m ≤ 6 ∧ s.1.Held.length = w.Held.length ∧ s.1.T = w.T ∧ s.1.Goal = w.Goal) := ⟨by omega, p2.up om, by omega, p4, p5, p6⟩
  rw [Hj, hy]
  dsimp only
  simp only [e0]
  cases s.1.Held[i].Wait
  · cases s.1.Held[i].Given
    · cases ieq s.1.Held[i].X.Step s.1.Goal
      · exact ⟨stay, fun c => rfl⟩
      · have hsml := p2.sml om
        have hf := KE hK g j s.1 i s.1.Held[i] hy (p2.hx _ (List.getElem_mem hi')) (by have := hsml.b; omega) (by have := hsml.o; omega)
        obtain ⟨k1, k2, k3, k4⟩ := Qv g j s.1 i s.1.Held[i]
        refine ⟨⟨by omega, (Q0 p2 hy).up om, ?_, k1.trans p4, k2.trans p5, k3.trans p6⟩, fun c => ?_⟩
        · show (s.2 ++ (B1 g j s.1 i s.1.Held[i]).1).length + m ≤ 6
          rw [List.length_append]; omega
        · simp only [cF, cT, Bool.or_false, Bool.not_true, hf, bS]
          rw [Bu (by show s.2.length + (B1 g j s.1 i s.1.Held[i]).1.length ≤ _; omega) om]; rfl
    · exact ⟨stay, fun c => rfl⟩
  · exact ⟨stay, fun c => rfl⟩)
 obtain ⟨e1, _, e2, _, e3, e4, e5⟩ := e
 exact ⟨hs.trans e1, e2, e3, e4, e5⟩
theorem H5 {K : Nat} (hK : 1000000 ≤ K) (hc : ieq (Am g j) 0 = true) (h : WI g j id n w) (hn : n ≤ 300000) (hg : i64 (w.Goal + 1)) (a : List GDid) (b : Nat) (hb : b = w.Held.length) {r : WT3} (hr : len r.2.2.2.2.2.2.2.1 = b) :
 CX K g j r K w.Id w.Goal w.Until w.T.Epoch w.T.Owners w.T.Ids w.T.Incs w.Held w.Buf w.Coming w.Out 0 = some (wt (Fs g j w)) ∧ WI g j id (n + 6) (Fs g j w) ∧ (Fs g j w).T = w.T := by
 have hl := h.ok.len
 obtain ⟨_, _, _, _, _, _, _, _, j6⟩ := Co hc
 let step : Nat → GWorker → (GWorker → Option WT) → Option WT := fun i s c =>
  bif inr (i : Int) (len s.Held) then (elAt s.Held (i : Int)).bind fun x => bif x.Wait then (bif ieq x.X.Step (wadd .i64 s.Goal 1) then (DY K s g j (i : Int)).bind fun r => c r else c s) else c s else none
 have hs := FO (N := nlen (len r.2.2.2.2.2.2.2.1)) (L := fun k (s : GWorker) i => CX K g j r k s.Id s.Goal s.Until s.T.Epoch s.T.Owners s.T.Ids s.T.Incs s.Held s.Buf s.Coming s.Out i) step (fun s => some (wt s)) (fun k s i _ => rfl) (by rw [hr]; show (b : Int) ≤ _; omega) (K := K) (by rw [hr]; show (b : Int).toNat < _; omega) w
 have hN : (nlen (len r.2.2.2.2.2.2.2.1)).toNat = w.Held.length := by rw [hr, hb]; exact Int.toNat_natCast _
 rw [hN] at hs
 have e := He (step := step) (fin := fun s => some (wt s)) (fun m s => m ≤ 6 ∧ WI g j id (n + 6 - m) s ∧ s.Held.length = w.Held.length ∧ s.T = w.T ∧ s.Goal = w.Goal) (Gx g j) (List.range w.Held.length) w ⟨by simp; omega, h.up (by simp; omega), rfl, rfl, rfl⟩ (fun i hi m s ⟨p1, p2, p4, p5, p6⟩ => by
  have hi' : i < s.Held.length := by rw [p4]; exact List.mem_range.1 hi
  have hy : s.Held[i]? = some s.Held[i] := List.getElem?_eq_getElem hi'
  have c1 : inr (i : Int) (len s.Held) = true := decide_eq_true ⟨by omega, by show (i : Int) < (s.Held.length : Int); omega⟩
  have c2 : elAt s.Held (i : Int) = some s.Held[i] := by rw [BB]; exact hy
  have c3 : wadd .i64 s.Goal 1 = s.Goal + 1 := by rw [p6]; exact IG (by have := hg.1; omega) (by have := hg.2; omega)
  have e0 : ∀ c, step i s c = bif s.Held[i].Wait then (bif ieq s.Held[i].X.Step (s.Goal + 1) then (DY K s g j (i : Int)).bind fun r => c r else c s) else c s := fun c => by
   show (bif inr (i : Int) (len s.Held) then _ else _) = _
   rw [c1, c2, cT, bS, c3]
  have stay : (m ≤ 6 ∧ WI g j id (n + 6 - m) s ∧ s.Held.length = w.Held.length ∧ s.T = w.T ∧ s.Goal = w.Goal) := ⟨by omega, p2.up om, p4, p5, p6⟩
  rw [Gx, hy]
  dsimp only
  simp only [e0]
  cases s.Held[i].Wait
  · exact ⟨stay, fun c => rfl⟩
  · cases ieq s.Held[i].X.Step (s.Goal + 1)
    · exact ⟨stay, fun c => rfl⟩
    · have hsml := p2.sml om
      have hf := Mv hK g j s i s.Held[i] hy (p2.hx _ (List.getElem_mem hi')) (by have := hsml.b; omega) p2.bd (by have := hsml.o; omega) j6
      obtain ⟨k1, k2, k3⟩ := Np g j s i s.Held[i]
      refine ⟨⟨by omega, (Ky p2 hy).up om, k1.trans p4, k2.trans p5, k3.trans p6⟩, fun c => ?_⟩
      simp only [cT, Bool.and_self, hf, bS])
 obtain ⟨e1, _, e2, e3, e4, e5⟩ := e
 exact ⟨hs.trans e1, e2, e4⟩
def Dt (g : GGraph) (j : GJob) (w : GWorker) (now : Int) : GWorker × List GPost × List GDid :=
 bif ieq (Am g j) 0 && ilt now w.Until then ({ Fs g j (Av g j w).1 with Out := [] }, (Fs g j (Av g j w).1).Out, (Av g j w).2) else (w, [], [])
theorem JM {K : Nat} (hK : 1000000 ≤ K) (h : WI g j id n w) (hn : n ≤ 200000) (now : Int) : F14 K g j w now = some (Dt g j w now) := by
 have hg : i64 (w.Goal + 1) := by have := h.goal; unfold i64; omega
 rw [F14, GN K w (h.sml om), bS, DR om, bS, Dt]
 cases hc : ieq (Am g j) 0
 · rfl
 · rw [cT, Bool.true_and]
   show (some (ilt now w.Until)).bind _ = _
   rw [bS]
   cases ilt now w.Until
   · rfl
   · obtain ⟨d1, d2, d3, d4, d5⟩ := IP hK h om
     rw [cT, cT, d1, bS]
     obtain ⟨c1, _, _⟩ := H5 hK hc d2 om (by rw [d5]; exact hg) [] _ rfl (r := wt3 (Av g j w).1 (Av g j w).2) rfl
     have c1' : CX K g j (wt3 (Av g j w).1 (Av g j w).2) K (Av g j w).1.Id (Av g j w).1.Goal (Av g j w).1.Until (Av g j w).1.T.Epoch (Av g j w).1.T.Owners (Av g j w).1.T.Ids (Av g j w).1.T.Incs (Av g j w).1.Held (Av g j w).1.Buf (Av g j w).1.Coming (Av g j w).1.Out 0 = _ := c1
     dsimp only [wt3] at c1' ⊢
     rw [c1']; rfl
theorem NJ (h : WI g j id n w) (hK : n ≤ 200000) (now : Int) : WI g j id (n + 42) (Dt g j w now).1 ∧ (Dt g j w now).1.T = w.T ∧ (∀ p ∈ (Dt g j w now).2.1, FitM 100 p.M) := by
 have hg : i64 (w.Goal + 1) := by have := h.goal; unfold i64; omega
 rw [Dt]
 cases hc : ieq (Am g j) 0
 · exact ⟨h.up om, rfl, fun p hp => absurd hp List.not_mem_nil⟩
 · rw [Bool.true_and]
   cases ilt now w.Until
   · exact ⟨h.up om, rfl, fun p hp => absurd hp List.not_mem_nil⟩
   · obtain ⟨_, d2, d3, d4, d5⟩ := IP (Nat.le_refl 1000000) h om
     obtain ⟨_, c2, c3⟩ := H5 (Nat.le_refl 1000000) hc d2 om (by rw [d5]; exact hg) [] _ rfl (r := wt3 (Av g j w).1 (Av g j w).2) rfl
     exact ⟨{ c2 with ol := Nat.zero_le _, od := fun p hp => absurd hp List.not_mem_nil }, c3.trans d4, c2.od⟩
end
def FW (g : GGraph) (j : GJob) (w : GWorker) (a : GAct) : GWorker × List GPost × List GDid :=
 bif ieq a.Kind 0 then (Fb g j w a.M, [], []) else bif ieq a.Kind 1 then Dt g j w a.N else (E1 w a.N, [], [])
section
variable {g : GGraph} {j : GJob} {id : Int} {n : Nat} {w : GWorker}
theorem Lk {K : Nat} (hK : 1000000 ≤ K) (h : WI g j id n w) (hn : n ≤ 200000) {a : GAct} (ha : MI a.M) : F13 K g j w a = some (FW g j w a) := by
 rw [F13, FW]
 cases ieq a.Kind 0
 · cases ieq a.Kind 1
   · rw [cF, cF, cF, cF, K2 K w _ (h.sml om)]; rfl
   · rw [cF, cF, cT, cT, JM hK h hn]; rfl
 · rw [cT, cT, ON hK g j w a.M (h.sml om) h.hx h.cd (ha.f.up om) ha.p]; rfl
theorem Qk (h : WI g j id n w) (hn : n ≤ 200000) {a : GAct} (ha : MI a.M) : WI g j id (n + 42) (FW g j w a).1 := by
 rw [FW]
 cases ieq a.Kind 0
 · cases ieq a.Kind 1
   · exact (MJ h a.N).up om
   · exact (NJ h hn a.N).1
 · exact (MS h ha).up om
def E7 (m : GMail) : Int := [(m.Ids.length : Int), (m.Incs.length : Int), (m.X.Vals.length : Int), (m.X.Rest.length : Int), (m.X.In.length : Int), (m.Msgs.length : Int)].foldl (fun s x => bif ilt s x then x else s) (m.Owners.length : Int)
theorem MH {K : Nat} (hK : 100 ≤ K) (m : GMail) : F12 K m = some (E7 m) := by
 let step : Int → Int → (Int → Option Int) → Option Int := fun x s c => bif ilt s x then c x else c s
 have hs := Ao (l := [(m.Ids.length : Int), (m.Incs.length : Int), (m.X.Vals.length : Int), (m.X.Rest.length : Int), (m.X.In.length : Int), (m.Msgs.length : Int)]) (L := fun k s i => D0 K k s [(m.Ids.length : Int), (m.Incs.length : Int), (m.X.Vals.length : Int), (m.X.Rest.length : Int), (m.X.In.length : Int), (m.Msgs.length : Int)] i) step (fun s => some s) (fun k s i _ => rfl) (by simp) (K := K) (by simp; omega) (m.Owners.length : Int)
 have e := GW (step := step) (fin := fun s => some s) (fun _ => True) (fun s x => bif ilt s x then x else s) [(m.Ids.length : Int), (m.Incs.length : Int), (m.X.Vals.length : Int), (m.X.Rest.length : Int), (m.X.In.length : Int), (m.Msgs.length : Int)] (m.Owners.length : Int) trivial (fun x _ s _ => ⟨trivial, fun c => by show (bif ilt s x then c x else c s) = _; cases ilt s x <;> rfl⟩)
 have e' : D0 K K (nlen (len m.Owners)) [(nlen (len m.Ids)), (nlen (len m.Incs)), (nlen (len m.X.Vals)), (nlen (len m.X.Rest)), (nlen (len m.X.In)), (nlen (len m.Msgs))] 0 = some (E7 m) := hs.trans e.1
 rw [F12, e']; rfl
theorem JH : ∀ (l : List Int) (s : Int), s ≤ l.foldl (fun s x => bif ilt s x then x else s) s ∧ ∀ x ∈ l, x ≤ l.foldl (fun s x => bif ilt s x then x else s) s
 | [], s => ⟨Int.le_refl _, fun x hx => absurd hx List.not_mem_nil⟩
 | y :: l, s => by
  obtain ⟨h1, h2⟩ := JH l (bif ilt s y then y else s)
  have h3 : s ≤ (bif ilt s y then y else s) ∧ y ≤ (bif ilt s y then y else s) := by
   cases hq : ilt s y
   · rw [Ac] at hq; exact ⟨Int.le_refl _, hq⟩
   · rw [Ae] at hq; exact ⟨by rw [cT]; omega, Int.le_refl _⟩
  rw [List.foldl_cons]
  refine ⟨Int.le_trans h3.1 h1, fun x hx => ?_⟩
  rcases List.mem_cons.1 hx with rfl | hx
  · exact Int.le_trans h3.2 h1
  · exact h2 x hx
theorem QO {m : GMail} (h : ilt 100 (E7 m) = false) : FitM 100 m := by
 rw [Ac] at h
 obtain ⟨h1, h2⟩ := JH [(m.Ids.length : Int), (m.Incs.length : Int), (m.X.Vals.length : Int), (m.X.Rest.length : Int), (m.X.In.length : Int), (m.Msgs.length : Int)] (m.Owners.length : Int)
 have k : ∀ x ∈ [(m.Ids.length : Int), (m.Incs.length : Int), (m.X.Vals.length : Int), (m.X.Rest.length : Int), (m.X.In.length : Int), (m.Msgs.length : Int)], x ≤ 100 := fun x hx => Int.le_trans (h2 x hx) h
 have h0 : (m.Owners.length : Int) ≤ 100 := Int.le_trans h1 h
 have a1 := k (m.Ids.length : Int) (by simp)
 have a2 := k (m.Incs.length : Int) (by simp)
 have a3 := k (m.X.Vals.length : Int) (by simp)
 have a4 := k (m.X.Rest.length : Int) (by simp)
 have a5 := k (m.X.In.length : Int) (by simp)
 have a6 := k (m.Msgs.length : Int) (by simp)
 exact ⟨by omega, by omega, by omega, by omega, by omega, by omega, by omega⟩
theorem QZ {m : GMail} (h : WGMail m) (hf : FitM 100 m) : MI m := by
 obtain ⟨_, _, _, _, _, _, _, _, _, _, _, hx, hm, _⟩ := h
 exact ⟨hf, F2 hx.1, MU hx, fun y hy => F2 (hm.2 y hy).2.1⟩
def asP (l : List GPost) : List GPost153 := l.map fun p => GPost153.mk p.To p.Inc p.M
end
end
end Go.Proofs.Ytbaihlhoedbpkaa.Tm

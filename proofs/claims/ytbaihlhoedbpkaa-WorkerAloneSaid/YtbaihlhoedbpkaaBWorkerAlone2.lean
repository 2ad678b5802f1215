/- What the row of WorkerAlone leans on: printed functions and plain laws. Conditions: none. -/
import Derived.Test.YtbaihlhoedbpkaaTy
import Derived.Test.YtbaihlhoedbpkaaTab
import Derived.Test.YtbaihlhoedbpkaaKn
import Derived.Test.YtbaihlhoedbpkaaWf
import Derived.IntWalk
import Derived.KernelRfl
import Derived.OpenShut
import Derived.Test.YtbaihlhoedbpkaaBWorkerAlone1
set_option linter.unusedVariables false
set_option linter.unusedSimpArgs false
namespace Go.Proofs.Ytbaihlhoedbpkaa.Tm
open Go
noncomputable section
def F47 (K : Nat) (a1 : GGraph) : Option (Int) :=
 bif (ilt a1.N 1) then
  (some 1)
 else
 bif (ilt 24 a1.N) then
  (some 1)
 else
 bif (ilt 80 (nlen (len a1.Edges))) then
  (some 3)
 else
 (Eu K a1 K 0).bind fun y2 =>
 Sum.elim (fun w3 =>
  some w3)
  (fun w4 =>
  some 0) y2
theorem HT (K : Nat) (a1 : GGraph) (r : Int) (F : F47 K a1 = some r) : Evt E H 47 [.agg (eGGraph a1)] (U3 r) := by
 rw [F47] at F
 apply jc F <;> intro h2 F
 apply jr F
 exact fpC BB <| Ah h2 <| zr1 <| z0
 have q9 {l} (z : HA BB l) := Ai h2 <| z
 apply jc F <;> intro h3 F
 apply jr F
 exact fpC BB <| q9 <| zT (igt_eq h3) <| z0
 apply jc F <;> intro h4 F
 apply jr F
 exact fpC BB <| q9 <| zF (igt_eq h3) <| zi (nl a1.Edges) <| zT (igt_eq h4) <| z0
 have q10 {l} (z : HA BB l) := zF (igt_eq h3) <| zi (nl a1.Edges) <| zF (igt_eq h4) <| z
 apply jb F; intro y6 h5 F
 refine js F (fun w7 hx F => ?_) fun w8 hx F => ?_
 subst hx
 apply jr F
 exact fpC BB <| q9 <| q10 <| zo (Nq K a1 K 0 _ h5) <| z0
 subst hx
 apply jr F
 exact fpC BB <| q9 <| q10 <| zo (Nq K a1 K 0 _ h5) <| z0
def BA : Hint := { H 19 with nt := 51, prot := 0, kp := 0 }
def VL (r1 : Int) : Res := ⟨[(.one (mI r1))], []⟩
def F19 (K : Nat) (a1 : GGraph) (a2 : GJob) : Option (Int) :=
 (F47 K a1).bind fun r3 =>
 bif (ieq r3 0) then
  (bif (ilt a2.Prog 1) then
   (some 1)
  else
  bif (ilt 5 a2.Prog) then
   (some 1)
  else
  bif (ilt a2.Source 0) then
   (some 1)
  else
  bif (ile a1.N a2.Source) then
   (some 1)
  else
  bif (ilt a2.Limit 0) then
   (some 1)
  else
  bif (ilt 40 a2.Limit) then
   (some 1)
  else
  bif (ilt a2.Parts 1) then
   (some 1)
  else
  bif (ilt 6 a2.Parts) then
   (some 1)
  else
  some 0)
 else
 some r3
theorem CY (K : Nat) (a1 : GGraph) (a2 : GJob) (r : Int) (F : F19 K a1 a2 = some r) : Evt E H 19 [.agg (eGGraph a1), .agg (eGJob a2)] (VL r) := by
 rw [F19] at F
 apply jb F; intro r3 h4 F
 apply jc F <;> intro h5 F
 have q14 {l} (z : HA BA l) := zl (HT K a1 _ h4) <| zF (ine_t h5) <| z
 apply jc F <;> intro h6 F
 apply jr F
 exact fpC BA <| q14 <| Ah h6 <| zt3 <| zr1 <| zt5 <| zr1 <| zt3 <| zr1 <| zt3 <| zr1 <| zt3 <| zr1 <| zt3 <| zr2 <| z0
 have q15 {l} (z : HA BA l) := Ai h6 <| z
 apply jc F <;> intro h7 F
 apply jr F
 exact fpC BA <| q14 <| q15 <| Ah (igt_eq h7) <| zt5 <| zr1 <| zt3 <| zr1 <| zt3 <| zr1 <| zt3 <| zr1 <| zt3 <| zr2 <| z0
 have q16 {l} (z : HA BA l) := Ai (igt_eq h7) <| z
 apply jc F <;> intro h8 F
 apply jr F
 exact fpC BA <| q14 <| q15 <| q16 <| Bv h8 <| zt3 <| zr1 <| zt3 <| zr1 <| zt3 <| zr1 <| zt3 <| zr2 <| z0
 have q17 {l} (z : HA BA l) := CU h8 <| z
 apply jc F <;> intro h9 F
 apply jr F
 exact fpC BA <| q14 <| q15 <| q16 <| q17 <| Ah (ige_eq h9) <| zt3 <| zr1 <| zt3 <| zr1 <| zt3 <| zr2 <| z0
 have q18 {l} (z : HA BA l) := Ai (ige_eq h9) <| z
 apply jc F <;> intro h10 F
 apply jr F
 exact fpC BA <| q14 <| q15 <| q16 <| q17 <| q18 <| Ah h10 <| zt3 <| zr1 <| zt3 <| zr2 <| z0
 have q19 {l} (z : HA BA l) := Ai h10 <| z
 apply jc F <;> intro h11 F
 apply jr F
 exact fpC BA <| q14 <| q15 <| q16 <| q17 <| q18 <| q19 <| Ah (igt_eq h11) <| zt3 <| zr2 <| z0
 have q20 {l} (z : HA BA l) := Ai (igt_eq h11) <| z
 apply jc F <;> intro h12 F
 apply jr F
 exact fpC BA <| q14 <| q15 <| q16 <| q17 <| q18 <| q19 <| q20 <| Ah h12 <| zr1 <| z0
 have q21 {l} (z : HA BA l) := Ai h12 <| z
 apply jc F <;> intro h13 F
 apply jr F
 exact fpC BA <| q14 <| q15 <| q16 <| q17 <| q18 <| q19 <| q20 <| q21 <| zT (igt_eq h13) <| z0
 apply jr F
 exact fpC BA <| q14 <| q15 <| q16 <| q17 <| q18 <| q19 <| q20 <| q21 <| zF (igt_eq h13) <| z0
 apply jr F
 exact fpC BA <| zl (HT K a1 _ h4) <| zT (ine_f h5) <| z0
def IP : Hint := { H 39 with nt := 26, prot := 0, kp := 0 }
def VR : Code := loopOf E 39 0
def Qt (r1 : List Int) : Res := ⟨[(.one (.own 3 (sE e6 r1)))], []⟩
def Fa (K : Nat) (a1 : GGraph) (a2 : GJob) (a3 : Int) : Nat → List Int → Int → Option (List Int)
 | 0, _, _ => none
 | k + 1, v4, v5 =>
  bif (ilt v5 a1.N) then
   (bif (izero a2.Parts) then none else
   bif (ieq (wrem v5 a2.Parts) a3) then
    (bif (apok (len v4) 1 8) then
    Fa K a1 a2 a3 k (appL v4 [v5]) (wadd .i64 v5 1)
    else none)
   else
   Fa K a1 a2 a3 k v4 (wadd .i64 v5 1))
  else
  some v4
def Sr (a1 : GGraph) (a2 : GJob) (a3 : Int) (v4 : List Int) (v5 : Int) : TS := .on (kq 128 2 <| kq 192 3 <| kq 256 5 <| kq 448 2 <| kq 512 2 <| []) <| sq 128 [u0, (uI a3)] <| b0 192 a1 <| b1 256 a2 <| sq 448 [u0, (uO 3 e6 v4)] <| sq 512 [u0, (uI v5)] []
def ST (a1 : GGraph) (a2 : GJob) (a3 : Int) (w4 : List Int) : TS := .on (kq 448 2 <| []) <| sq 448 [u0, (uO 3 e6 w4)] []
theorem Um (K : Nat) (a1 : GGraph) (a2 : GJob) (a3 : Int) : ∀ (k : Nat) (v4 : List Int) (v5 : Int) (r : List Int), Fa K a1 a2 a3 k v4 v5 = some r → LoopEv E H IP 0 VR (Sr a1 a2 a3 v4 v5) (.exit 0) (ST a1 a2 a3 r) := by
 intro k
 induction k with
 | zero => intro v4 v5 r F; cases F
 | succ k ih =>
  intro v4 v5 r F
  rw [Fa] at F
  apply jc F <;> intro h6 F
  refine cond_some F (fun _ F => nomatch F) (fun h7 F => ?_)
  have q10 {l} (z : HA IP l) := zT h6 <| zF h7 <| zi (wrem v5 a2.Parts) <| z
  apply jc F <;> intro h8 F
  apply jn F; intro h9 F
  exact lN1 (q10 <| zT h8 <| zX (tt (leqm [(i6 v5)] 1 1)) rfl <| zT h9 <| zV (app_ok (enc := e6) (v4 : List Int) [v5]) <| zi (wadd .i64 v5 1) <| z0) (ih _ _ _ F)
  exact lN1 (q10 <| zF h8 <| zi (wadd .i64 v5 1) <| z0) (ih _ _ _ F)
  apply jr F
  exact lE <| zF h6 <| z0
def F39 (K : Nat) (a1 : GGraph) (a2 : GJob) (a3 : Int) : Option (List Int) :=
 (Fa K a1 a2 a3 K [] 0).bind fun w4 =>
 some w4
theorem Lw (K : Nat) (a1 : GGraph) (a2 : GJob) (a3 : Int) (r : List Int) (F : F39 K a1 a2 a3 = some r) : Evt E H 39 [.agg (eGGraph a1), .agg (eGJob a2), .one (i6 a3)] (Qt r) := by
 rw [F39] at F
 apply jb F; intro w5 h4 F
 apply jr F
 exact fpC IP <| zo (Um K a1 a2 a3 K [] 0 _ h4) <| z0
def Bi : Hint := { H 17 with nt := 102, prot := 0, kp := 0 }
def Ju : Code := loopOf E 17 0
def O0 : Code := loopOf E 17 1
def U1 (r1 : Bool) : Res := ⟨[(.one (mB r1))], []⟩
def DK (K : Nat) (a1 : GPart) (r2 : List Int) (v3 : Int) (x4 : GMsg) : Nat → Bool → Int → Option (Bool)
 | 0, _, _ => none
 | k + 1, v5, v6 =>
  bif (ilt v6 (nlen (len r2))) then
   (bif v5 then
    (DK K a1 r2 v3 x4 k true (wadd .i64 v6 1))
   else
   bif (inr v6 (len r2)) then
   (elAt r2 v6).bind fun x7 =>
   DK K a1 r2 v3 x4 k (ieq x7 x4.To) (wadd .i64 v6 1)
   else none)
  else
  some v5
def U2 (a1 : GPart) (r2 : List Int) (v3 : Int) (x4 : GMsg) (v5 : Bool) (v6 : Int) : TS := .on (kq 320 6 <| kq 448 2 <| kq 512 2 <| kq 576 2 <| kq 640 2 <| kq 704 2 <| []) <| b8 320 a1 <| sq 448 [u0, (uO 3 e6 r2)] <| sq 512 [u0, (uI v3)] <| sq 576 [u0, (uI x4.To)] <| sq 640 [u0, (uB v5)] <| sq 704 [u0, (uI v6)] []
def VN (a1 : GPart) (r2 : List Int) (v3 : Int) (x4 : GMsg) (w5 : Bool) : TS := .on (kq 320 6 <| kq 448 2 <| kq 512 2 <| kq 576 2 <| kq 640 2 <| []) <| b8 320 a1 <| sq 448 [u0, (uO 3 e6 r2)] <| sq 512 [u0, (uI v3)] <| sq 576 [u0, (uI x4.To)] <| sq 640 [u0, (uB w5)] []
theorem Vd (K : Nat) (a1 : GPart) (r2 : List Int) (v3 : Int) (x4 : GMsg) : ∀ (k : Nat) (v5 : Bool) (v6 : Int) (r : Bool), DK K a1 r2 v3 x4 k v5 v6 = some r → LoopEv E H Bi 2 O0 (U2 a1 r2 v3 x4 v5 v6) (.exit 2) (VN a1 r2 v3 x4 r) := by
 intro k
 induction k with
 | zero => intro v5 v6 r F; cases F
 | succ k ih =>
  intro v5 v6 r F
  rw [DK] at F
  apply jc F <;> intro h7 F
  apply jc F <;> intro h8 F
  exact lN1 (zi (nl r2) <| zT h7 <| E7 h8 <| zi (wadd .i64 v6 1) <| z0) (ih _ _ _ F)
  apply jn F; intro h9 F
  apply jb F; intro x10 h11 F
  exact lN1 (zi (nl r2) <| zT h7 <| zB3 h8 <| zT h9 <| zB1 h8 <| zX (.sub (flat e6 r2) (nidx v6 1) 1 [(i6 x10)]) ⟨rfl, sub_flat0 (eInt_len _) h11 1 (by decide)⟩ <| Bs h8 <| zi (wadd .i64 v6 1) <| z0) (ih _ _ _ F)
  apply jr F
  exact lE <| zi (nl r2) <| zF h7 <| z0
def EV (K : Nat) (a1 : GPart) (r2 : List Int) : Nat → Int → Option ((Unit) ⊕ (Unit))
 | 0, _ => none
 | k + 1, v3 =>
  bif (ilt v3 (nlen (len a1.In))) then
   (bif (inr v3 (len a1.In)) then
   (elAt a1.In v3).bind fun x4 =>
   (DK K a1 r2 v3 x4 K false 0).bind fun w5 =>
   bif w5 then
    (bif (ilt 0 v3) then
     (bif (inr (wsub .i64 v3 1) (len a1.In)) then
     (elAt a1.In (wsub .i64 v3 1)).bind fun x6 =>
     bif (ile x4.To x6.To) then
      (some (.inl ()))
     else
     EV K a1 r2 k (wadd .i64 v3 1)
     else none)
    else
    EV K a1 r2 k (wadd .i64 v3 1))
   else
   some (.inl ())
   else none)
  else
  some (.inr ())
def MC (a1 : GPart) (r2 : List Int) (v3 : Int) : TS := .on (kq 320 6 <| kq 448 2 <| kq 512 2 <| []) <| b8 320 a1 <| sq 448 [u0, (uO 3 e6 r2)] <| sq 512 [u0, (uI v3)] []
def PH (a1 : GPart) (r2 : List Int) (w3 : Unit) : TS := .on (kq 384 2 <| []) <| sq 384 [u0, (uB false)] []
def Q6 (a1 : GPart) (r2 : List Int) (w3 : Unit) : TS := .on [] []
theorem KC (K : Nat) (a1 : GPart) (r2 : List Int) : ∀ (k : Nat) (v3 : Int) (r : (Unit) ⊕ (Unit)), EV K a1 r2 k v3 = some r → (Sum.elim (fun w => LoopEv E H Bi 0 Ju (MC a1 r2 v3) .ret (PH a1 r2 w)) (fun w => LoopEv E H Bi 0 Ju (MC a1 r2 v3) (.exit 0) (Q6 a1 r2 w))) r := by
 intro k
 induction k with
 | zero => intro v3 r F; cases F
 | succ k ih =>
  intro v3 r F
  rw [EV] at F
  apply jc F <;> intro h4 F
  apply jn F; intro h5 F
  apply jb F; intro x6 h7 F
  apply jb F; intro w9 h8 F
  have q16 {l} (z : HA Bi l) := zi (nl a1.In) <| zT h4 <| zT h5 <| zU eGMsg_len h7 0 1 <| zo (Vd K a1 r2 v3 x6 K false 0 _ h8) <| z
  apply jc F <;> intro h10 F
  have q17 {l} (z : HA Bi l) := zB3 (bnot_t h10) <| z
  apply jc F <;> intro h11 F
  apply jn F; intro h12 F
  apply jb F; intro x13 h14 F
  have q18 {l} (z : HA Bi l) := zC4 (igt_eq h11) <| zi (wsub .i64 v3 1) <| zC1 (igt_eq h11) <| zT h12 <| zC2 (igt_eq h11) <| zU eGMsg_len h14 0 1 <| zC2 (igt_eq h11) <| zB1 (bnot_t h10) <| zT (igt_eq h11) <| zF (bnot_t h10) <| z
  apply jc F <;> intro h15 F
  apply jr F
  exact lE <| q16 <| q17 <| q18 <| zT (ige_eq h15) <| z0
  exact lN2 (q16 <| q17 <| q18 <| zF (ige_eq h15) <| zi (wadd .i64 v3 1) <| z0) (ih _ _ F)
  exact lN2 (q16 <| q17 <| zD6 (igt_eq h11) <| zD3 (igt_eq h11) <| zB1 (bnot_t h10) <| zF (igt_eq h11) <| zF (bnot_t h10) <| zf1 <| zi (wadd .i64 v3 1) <| z0) (ih _ _ F)
  apply jr F
  exact lE <| q16 <| Bx (bnot_f h10) <| zr1 <| z0
  apply jr F
  exact lE <| zi (nl a1.In) <| zF h4 <| z0
def F17 (K : Nat) (a1 : GGraph) (a2 : GJob) (a3 : GPart) : Option (Bool) :=
 (F19 K a1 a2).bind fun r4 =>
 bif (ieq r4 0) then
  (bif (ilt a3.P 0) then
   (some false)
  else
  bif (ile a2.Parts a3.P) then
   (some false)
  else
  bif (ilt a3.Step 0) then
   (some false)
  else
  bif (ilt 40 a3.Step) then
   (some false)
  else
  (F39 K a1 a2 a3.P).bind fun r5 =>
  bif (ieq (nlen (len a3.Vals)) (nlen (len r5))) then
   (bif (ieq (nlen (len a3.Rest)) (nlen (len r5))) then
    ((EV K a3 r5 K 0).bind fun y6 =>
    Sum.elim (fun w7 =>
     some false)
     (fun w8 =>
     some true) y6)
   else
   some false)
  else
  some false)
 else
 some false
theorem Q4 (K : Nat) (a1 : GGraph) (a2 : GJob) (a3 : GPart) (r : Bool) (F : F17 K a1 a2 a3 = some r) : Evt E H 17 [.agg (eGGraph a1), .agg (eGJob a2), .agg (eGPart a3)] (U1 r) := by
 rw [F17] at F
 apply jb F; intro r4 h5 F
 apply jc F <;> intro h6 F
 have q19 {l} (z : HA Bi l) := zl (CY K a1 a2 _ h5) <| Ai (ine_t h6) <| z
 apply jc F <;> intro h7 F
 apply jr F
 exact fpC Bi <| q19 <| Bv h7 <| zt3 <| zr1 <| zt3 <| zr2 <| z0
 have q20 {l} (z : HA Bi l) := CU h7 <| z
 apply jc F <;> intro h8 F
 apply jr F
 exact fpC Bi <| q19 <| q20 <| Ah (ige_eq h8) <| zt3 <| zr2 <| z0
 have q21 {l} (z : HA Bi l) := Ai (ige_eq h8) <| z
 apply jc F <;> intro h9 F
 apply jr F
 exact fpC Bi <| q19 <| q20 <| q21 <| Ah h9 <| zr1 <| z0
 have q22 {l} (z : HA Bi l) := Ai h9 <| z
 apply jc F <;> intro h10 F
 apply jr F
 exact fpC Bi <| q19 <| q20 <| q21 <| q22 <| zT (igt_eq h10) <| z0
 apply jb F; intro r11 h12 F
 have q23 {l} (z : HA Bi l) := zF (igt_eq h10) <| zl (Lw K a1 a2 a3.P _ h12) <| zi (nl a3.Vals) <| zi (nl r11) <| z
 apply jc F <;> intro h13 F
 have q24 {l} (z : HA Bi l) := zB3 (ine_t h13) <| zi (nl a3.Rest) <| zB2 (ine_t h13) <| zi (nl r11) <| A0 (ine_t h13) <| z
 apply jc F <;> intro h14 F
 apply jb F; intro y16 h15 F
 refine js F (fun w17 hx F => ?_) fun w18 hx F => ?_
 subst hx
 apply jr F
 exact fpC Bi <| q19 <| q20 <| q21 <| q22 <| q23 <| q24 <| zF (ine_t h14) <| zo (KC K a3 r11 K 0 _ h15) <| z0
 subst hx
 apply jr F
 exact fpC Bi <| q19 <| q20 <| q21 <| q22 <| q23 <| q24 <| zF (ine_t h14) <| zo (KC K a3 r11 K 0 _ h15) <| z0
 apply jr F
 exact fpC Bi <| q19 <| q20 <| q21 <| q22 <| q23 <| q24 <| zT (ine_f h14) <| z0
 apply jr F
 exact fpC Bi <| q19 <| q20 <| q21 <| q22 <| q23 <| E7 (ine_f h13) <| zr1 <| z0
 apply jr F
 exact fpC Bi <| zl (CY K a1 a2 _ h5) <| Ah (ine_f h6) <| zt5 <| zr1 <| zt3 <| zr1 <| zt3 <| zr2 <| z0
def Cd : Hint := { H 20 with nt := 75, prot := 0, kp := 0 }
def Ke : Code := loopOf E 20 0
def Of (r1 : Bool) : Res := ⟨[(.one (mB r1))], []⟩
def EZ (K : Nat) (a1 : GGraph) (a2 : GState) : Nat → Int → Option ((Unit) ⊕ (Unit))
 | 0, _ => none
 | k + 1, v3 =>
  bif (ilt v3 (nlen (len a2.In))) then
   (bif (inr v3 (len a2.In)) then
   (elAt a2.In v3).bind fun x4 =>
   bif (ilt x4.To 0) then
    (some (.inl ()))
   else
   bif (ile a1.N x4.To) then
    (some (.inl ()))
   else
   bif (ilt 0 v3) then
    (bif (inr (wsub .i64 v3 1) (len a2.In)) then
    (elAt a2.In (wsub .i64 v3 1)).bind fun x5 =>
    bif (ile x4.To x5.To) then
     (some (.inl ()))
    else
    EZ K a1 a2 k (wadd .i64 v3 1)
    else none)
   else
   EZ K a1 a2 k (wadd .i64 v3 1)
   else none)
  else
  some (.inr ())
def J6 (a1 : GGraph) (a2 : GState) (v3 : Int) : TS := .on (kq 192 3 <| kq 320 5 <| kq 448 2 <| []) <| b0 192 a1 <| b5 320 a2 <| sq 448 [u0, (uI v3)] []
def Pa (a1 : GGraph) (a2 : GState) (w3 : Unit) : TS := .on (kq 384 2 <| []) <| sq 384 [u0, (uB false)] []
def Vb (a1 : GGraph) (a2 : GState) (w3 : Unit) : TS := .on [] []
theorem K5 (K : Nat) (a1 : GGraph) (a2 : GState) : ∀ (k : Nat) (v3 : Int) (r : (Unit) ⊕ (Unit)), EZ K a1 a2 k v3 = some r → (Sum.elim (fun w => LoopEv E H Cd 0 Ke (J6 a1 a2 v3) .ret (Pa a1 a2 w)) (fun w => LoopEv E H Cd 0 Ke (J6 a1 a2 v3) (.exit 0) (Vb a1 a2 w))) r := by
 intro k
 induction k with
 | zero => intro v3 r F; cases F
 | succ k ih =>
  intro v3 r F
  rw [EZ] at F
  apply jc F <;> intro h4 F
  apply jn F; intro h5 F
  apply jb F; intro x6 h7 F
  have q15 {l} (z : HA Cd l) := zi (nl a2.In) <| zT h4 <| zT h5 <| zU eGMsg_len h7 0 1 <| z
  apply jc F <;> intro h8 F
  apply jr F
  exact lE <| q15 <| Bx h8 <| zt4 <| zr2 <| z0
  have q16 {l} (z : HA Cd l) := Gw h8 <| z
  apply jc F <;> intro h9 F
  apply jr F
  exact lE <| q15 <| q16 <| Bx (ige_eq h9) <| zr1 <| z0
  have q17 {l} (z : HA Cd l) := zB3 (ige_eq h9) <| z
  apply jc F <;> intro h10 F
  apply jn F; intro h11 F
  apply jb F; intro x12 h13 F
  have q18 {l} (z : HA Cd l) := zC4 (igt_eq h10) <| zi (wsub .i64 v3 1) <| zC1 (igt_eq h10) <| zT h11 <| zC2 (igt_eq h10) <| zU eGMsg_len h13 0 1 <| zC2 (igt_eq h10) <| zB1 (ige_eq h9) <| zT (igt_eq h10) <| zF (ige_eq h9) <| z
  apply jc F <;> intro h14 F
  apply jr F
  exact lE <| q15 <| q16 <| q17 <| q18 <| zT (ige_eq h14) <| z0
  exact lN2 (q15 <| q16 <| q17 <| q18 <| zF (ige_eq h14) <| zi (wadd .i64 v3 1) <| z0) (ih _ _ F)
  exact lN2 (q15 <| q16 <| q17 <| zD6 (igt_eq h10) <| zD3 (igt_eq h10) <| zB1 (ige_eq h9) <| zF (igt_eq h10) <| zF (ige_eq h9) <| zf1 <| zi (wadd .i64 v3 1) <| z0) (ih _ _ F)
  apply jr F
  exact lE <| zi (nl a2.In) <| zF h4 <| z0
def F20 (K : Nat) (a1 : GGraph) (a2 : GJob) (a3 : GState) : Option (Bool) :=
 (F19 K a1 a2).bind fun r4 =>
 bif (ieq r4 0) then
  (bif (ilt a3.Step 0) then
   (some false)
  else
  bif (ilt 40 a3.Step) then
   (some false)
  else
  bif (ieq (nlen (len a3.Vals)) a1.N) then
   (bif (ieq (nlen (len a3.Rest)) a1.N) then
    ((EZ K a1 a3 K 0).bind fun y5 =>
    Sum.elim (fun w6 =>
     some false)
     (fun w7 =>
     some true) y5)
   else
   some false)
  else
  some false)
 else
 some false
theorem Jb (K : Nat) (a1 : GGraph) (a2 : GJob) (a3 : GState) (r : Bool) (F : F20 K a1 a2 a3 = some r) : Evt E H 20 [.agg (eGGraph a1), .agg (eGJob a2), .agg (eGState a3)] (Of r) := by
 rw [F20] at F
 apply jb F; intro r4 h5 F
 apply jc F <;> intro h6 F
 have q15 {l} (z : HA Cd l) := zl (CY K a1 a2 _ h5) <| Ai (ine_t h6) <| z
 apply jc F <;> intro h7 F
 apply jr F
 exact fpC Cd <| q15 <| Ah h7 <| zt6 <| zr1 <| zt6 <| zr2 <| z0
 have q16 {l} (z : HA Cd l) := Ai h7 <| z
 apply jc F <;> intro h8 F
 apply jr F
 exact fpC Cd <| q15 <| q16 <| E7 (igt_eq h8) <| zt6 <| zr2 <| z0
 have q17 {l} (z : HA Cd l) := zB3 (igt_eq h8) <| zi (nl a3.Vals) <| Ai (igt_eq h8) <| z
 apply jc F <;> intro h9 F
 have q18 {l} (z : HA Cd l) := zB3 (ine_t h9) <| zi (nl a3.Rest) <| Ai (ine_t h9) <| z
 apply jc F <;> intro h10 F
 apply jb F; intro y12 h11 F
 refine js F (fun w13 hx F => ?_) fun w14 hx F => ?_
 subst hx
 apply jr F
 exact fpC Cd <| q15 <| q16 <| q17 <| q18 <| zF (ine_t h10) <| zo (K5 K a1 a3 K 0 _ h11) <| z0
 subst hx
 apply jr F
 exact fpC Cd <| q15 <| q16 <| q17 <| q18 <| zF (ine_t h10) <| zo (K5 K a1 a3 K 0 _ h11) <| z0
 apply jr F
 exact fpC Cd <| q15 <| q16 <| q17 <| q18 <| zT (ine_f h10) <| z0
 apply jr F
 exact fpC Cd <| q15 <| q16 <| q17 <| E7 (ine_f h9) <| zr1 <| z0
 apply jr F
 exact fpC Cd <| zl (CY K a1 a2 _ h5) <| Ah (ine_f h6) <| zt3 <| zr1 <| zt6 <| zr1 <| zt6 <| zr2 <| z0
def HQ : Hint := { H 48 with nt := 82, prot := 0, kp := 0 }
def QP : Code := loopOf E 48 0
def RE : Code := loopOf E 48 1
def Uu (r1 : GPart) : Res := ⟨[(.agg [(mI r1.P), (mI r1.Step), (.own 2 (sE e6 r1.Vals)), (.own 4 (sE eBool r1.Rest)), (.own 78 (sE eGMsg r1.In))])], []⟩
def D6 (K : Nat) (a1 : GState) (a2 : Int) (r3 : List Int) (v4 : List Int) (v5 : List Bool) (v6 : Int) (x7 : Int) (x8 : Bool) : Nat → List GMsg → Int → Option (List GMsg)
 | 0, _, _ => none
 | k + 1, v9, v10 =>
  bif (ilt v10 (nlen (len a1.In))) then
   (bif (inr v10 (len a1.In)) then
   (elAt a1.In v10).bind fun x11 =>
   bif (inr v6 (len r3)) then
   (elAt r3 v6).bind fun x12 =>
   bif (ieq x11.To x12) then
    (bif (apok (len v9) 1 16) then
    D6 K a1 a2 r3 v4 v5 v6 x7 x8 k (appL v9 [x11]) (wadd .i64 v10 1)
    else none)
   else
   D6 K a1 a2 r3 v4 v5 v6 x7 x8 k v9 (wadd .i64 v10 1)
   else none
   else none)
  else
  some v9
def T8 (a1 : GState) (a2 : Int) (r3 : List Int) (v4 : List Int) (v5 : List Bool) (v6 : Int) (x7 : Int) (x8 : Bool) (v9 : List GMsg) (v10 : Int) : TS := .on (kq 384 5 <| kq 512 6 <| kq 576 6 <| kq 640 2 <| kq 704 2 <| kq 768 2 <| []) <| b5 384 a1 <| b4 512 <| sq 576 [(uX 45 5), (uI a2), (uI a1.Step), (uO 2 e6 (appL v4 [x7])), (uO 4 eBool (appL v5 [x8])), (uO 78 eGMsg v9)] <| sq 640 [u0, (uO 3 e6 r3)] <| sq 704 [u0, (uI v6)] <| sq 768 [u0, (uI v10)] []
def U0 (a1 : GState) (a2 : Int) (r3 : List Int) (v4 : List Int) (v5 : List Bool) (v6 : Int) (x7 : Int) (x8 : Bool) (w9 : List GMsg) : TS := .on (kq 384 5 <| kq 512 6 <| kq 576 6 <| kq 640 2 <| kq 704 2 <| []) <| b5 384 a1 <| b4 512 <| sq 576 [(uX 45 5), (uI a2), (uI a1.Step), (uO 2 e6 (appL v4 [x7])), (uO 4 eBool (appL v5 [x8])), (uO 78 eGMsg w9)] <| sq 640 [u0, (uO 3 e6 r3)] <| sq 704 [u0, (uI v6)] []
theorem PP (K : Nat) (a1 : GState) (a2 : Int) (r3 : List Int) (v4 : List Int) (v5 : List Bool) (v6 : Int) (x7 : Int) (x8 : Bool) : ∀ (k : Nat) (v9 : List GMsg) (v10 : Int) (r : List GMsg), D6 K a1 a2 r3 v4 v5 v6 x7 x8 k v9 v10 = some r → LoopEv E H HQ 2 RE (T8 a1 a2 r3 v4 v5 v6 x7 x8 v9 v10) (.exit 2) (U0 a1 a2 r3 v4 v5 v6 x7 x8 r) := by
 intro k
 induction k with
 | zero => intro v9 v10 r F; cases F
 | succ k ih =>
  intro v9 v10 r F
  rw [D6] at F
  apply jc F <;> intro h11 F
  apply jn F; intro h12 F
  apply jb F; intro x13 h14 F
  apply jn F; intro h15 F
  apply jb F; intro x16 h17 F
  have q20 {l} (z : HA HQ l) := zi (nl a1.In) <| zT h11 <| zT h12 <| zU eGMsg_len h14 0 1 <| zT h15 <| zX (.sub (flat e6 r3) (nidx v6 1) 1 [(i6 x16)]) ⟨rfl, sub_flat0 (eInt_len _) h17 1 (by decide)⟩ <| z
  apply jc F <;> intro h18 F
  apply jn F; intro h19 F
  exact lN1 (q20 <| zT h18 <| zT h12 <| zS eGMsg_len h14 2 <| zX (tt (leqm [(i6 x13.To), (i6 x13.V)] 1 2)) rfl <| zT h19 <| zV (app_ok (enc := eGMsg) (v9 : List GMsg) [x13]) <| zi (wadd .i64 v10 1) <| z0) (ih _ _ _ F)
  exact lN1 (q20 <| zF h18 <| zi (wadd .i64 v10 1) <| z0) (ih _ _ _ F)
  apply jr F
  exact lE <| zi (nl a1.In) <| zF h11 <| z0
def F5 (K : Nat) (a1 : GState) (a2 : Int) (r3 : List Int) : Nat → List Int → List Bool → List GMsg → Int → Option (List Int × List Bool × List GMsg)
 | 0, _, _, _, _ => none
 | k + 1, v4, v5, v6, v7 =>
  bif (ilt v7 (nlen (len r3))) then
   (bif (inr v7 (len r3)) then
   (elAt r3 v7).bind fun x8 =>
   bif (inr x8 (len a1.Vals)) then
   (elAt a1.Vals x8).bind fun x9 =>
   bif (apok (len v4) 1 8) then
   bif (inr x8 (len a1.Rest)) then
   (elAt a1.Rest x8).bind fun x10 =>
   bif (apok (len v5) 1 1) then
   (D6 K a1 a2 r3 v4 v5 v7 x9 x10 K v6 0).bind fun w11 =>
   F5 K a1 a2 r3 k (appL v4 [x9]) (appL v5 [x10]) w11 (wadd .i64 v7 1)
   else none
   else none
   else none
   else none
   else none)
  else
  some (v4, (v5, v6))
def Po (a1 : GState) (a2 : Int) (r3 : List Int) (v4 : List Int) (v5 : List Bool) (v6 : List GMsg) (v7 : Int) : TS := .on (kq 384 5 <| kq 512 6 <| kq 576 6 <| kq 640 2 <| kq 704 2 <| []) <| b5 384 a1 <| b4 512 <| sq 576 [(uX 45 5), (uI a2), (uI a1.Step), (uO 2 e6 v4), (uO 4 eBool v5), (uO 78 eGMsg v6)] <| sq 640 [u0, (uO 3 e6 r3)] <| sq 704 [u0, (uI v7)] []
def SW (a1 : GState) (a2 : Int) (r3 : List Int) (w4 : List Int × List Bool × List GMsg) : TS := .on (kq 512 6 <| kq 576 6 <| []) <| b4 512 <| sq 576 [(uX 45 5), (uI a2), (uI a1.Step), (uO 2 e6 w4.1), (uO 4 eBool w4.2.1), (uO 78 eGMsg w4.2.2)] []
theorem Ob (K : Nat) (a1 : GState) (a2 : Int) (r3 : List Int) : ∀ (k : Nat) (v4 : List Int) (v5 : List Bool) (v6 : List GMsg) (v7 : Int) (r : List Int × List Bool × List GMsg), F5 K a1 a2 r3 k v4 v5 v6 v7 = some r → LoopEv E H HQ 0 QP (Po a1 a2 r3 v4 v5 v6 v7) (.exit 0) (SW a1 a2 r3 r) := by
 intro k
 induction k with
 | zero => intro v4 v5 v6 v7 r F; cases F
 | succ k ih =>
  intro v4 v5 v6 v7 r F
  rw [F5] at F
  apply jc F <;> intro h8 F
  apply jn F; intro h9 F
  apply jb F; intro x10 h11 F
  apply jn F; intro h12 F
  apply jb F; intro x13 h14 F
  apply jn F; intro h15 F
  apply jn F; intro h16 F
  apply jb F; intro x17 h18 F
  apply jn F; intro h19 F
  apply jb F; intro w21 h20 F
  exact lN1 (zi (nl r3) <| zT h8 <| zT h9 <| zX (.sub (flat e6 r3) (nidx v7 1) 1 [(i6 x10)]) ⟨rfl, sub_flat0 (eInt_len _) h11 1 (by decide)⟩ <| zT h12 <| zX (.sub (flat e6 a1.Vals) (nidx x10 1) 1 [(i6 x13)]) ⟨rfl, sub_flat0 (eInt_len _) h14 1 (by decide)⟩ <| zX (tt (leqm [(i6 x13)] 1 1)) rfl <| zT h15 <| zV (app_ok (enc := e6) (v4 : List Int) [x13]) <| zT h9 <| zX (.sub (flat e6 r3) (nidx v7 1) 1 [(i6 x10)]) ⟨rfl, sub_flat0 (eInt_len _) h11 1 (by decide)⟩ <| zT h16 <| zS eBool_len h18 1 <| zX (tt (leqm [(.lit (.bool x17))] 1 1)) rfl <| zT h19 <| zV (app_ok (enc := eBool) (v5 : List Bool) [x17]) <| zo (PP K a1 a2 r3 v4 v5 v7 x13 x17 K v6 0 _ h20) <| zi (wadd .i64 v7 1) <| z0) (ih _ _ _ _ _ F)
  apply jr F
  exact lE <| zi (nl r3) <| zF h8 <| z0
def F48 (K : Nat) (a1 : GGraph) (a2 : GJob) (a3 : GState) (a4 : Int) : Option (GPart) :=
 (F39 K a1 a2 a4).bind fun r5 =>
 (F5 K a3 a4 r5 K [] [] [] 0).bind fun w6 =>
 some (GPart.mk a4 a3.Step w6.1 w6.2.1 w6.2.2)
theorem PN (K : Nat) (a1 : GGraph) (a2 : GJob) (a3 : GState) (a4 : Int) (r : GPart) (F : F48 K a1 a2 a3 a4 = some r) : Evt E H 48 [.agg (eGGraph a1), .agg (eGJob a2), .agg (eGState a3), .one (i6 a4)] (Uu r) := by
 rw [F48] at F
 apply jb F; intro r5 h6 F
 apply jb F; intro w8 h7 F
 apply jr F
 exact fpC HQ <| zl (Lw K a1 a2 a4 _ h6) <| zo (Ob K a3 a4 r5 K [] [] [] 0 _ h7) <| z0
def GP : Hint := { H 21 with nt := 37, prot := 0, kp := 0 }
def Rm : Code := loopOf E 21 0
def RA (r1 : List GPart × Int) : Res := ⟨[(.one (.own 45 (sE eGPart r1.1))), (.one (mI r1.2))], []⟩
def Gl (K : Nat) (a1 : GGraph) (a2 : GJob) (a3 : GState) : Nat → List GPart → Int → Option (List GPart)
 | 0, _, _ => none
 | k + 1, v4, v5 =>
  bif (ilt v5 a2.Parts) then
   ((F48 K a1 a2 a3 v5).bind fun r6 =>
   bif (apok (len v4) 1 88) then
   Gl K a1 a2 a3 k (appL v4 [r6]) (wadd .i64 v5 1)
   else none)
  else
  some v4
def OS (a1 : GGraph) (a2 : GJob) (a3 : GState) (v4 : List GPart) (v5 : Int) : TS := .on (kq 192 3 <| kq 256 5 <| kq 320 5 <| kq 576 2 <| kq 640 2 <| []) <| b0 192 a1 <| b1 256 a2 <| b5 320 a3 <| sq 576 [u0, (uO 45 eGPart v4)] <| sq 640 [u0, (uI v5)] []
def N7 (a1 : GGraph) (a2 : GJob) (a3 : GState) (w4 : List GPart) : TS := .on (kq 576 2 <| []) <| sq 576 [u0, (uO 45 eGPart w4)] []
theorem UP (K : Nat) (a1 : GGraph) (a2 : GJob) (a3 : GState) : ∀ (k : Nat) (v4 : List GPart) (v5 : Int) (r : List GPart), Gl K a1 a2 a3 k v4 v5 = some r → LoopEv E H GP 0 Rm (OS a1 a2 a3 v4 v5) (.exit 0) (N7 a1 a2 a3 r) := by
 intro k
 induction k with
 | zero => intro v4 v5 r F; cases F
 | succ k ih =>
  intro v4 v5 r F
  rw [Gl] at F
  apply jc F <;> intro h6 F
  apply jb F; intro r7 h8 F
  apply jn F; intro h9 F
  exact lN1 (zT h6 <| zl (PN K a1 a2 a3 v5 _ h8) <| zX (tt (leqm [(i6 r7.P), (i6 r7.Step), (sE e6 r7.Vals), (sE eBool r7.Rest), (sE eGMsg r7.In)] 1 5)) rfl <| zT h9 <| zV (app_ok (enc := eGPart) (v4 : List GPart) [r7]) <| zi (wadd .i64 v5 1) <| z0) (ih _ _ _ F)
  apply jr F
  exact lE <| zF h6 <| z0
def F21 (K : Nat) (a1 : GGraph) (a2 : GJob) (a3 : GState) : Option (List GPart × Int) :=
 (F19 K a1 a2).bind fun r4 =>
 bif (ieq r4 0) then
  ((F20 K a1 a2 a3).bind fun r5 =>
  bif r5 then
   ((Gl K a1 a2 a3 K [] 0).bind fun w6 =>
   some (w6, 0))
  else
  some ([], 1))
 else
 some ([], r4)
theorem Qb (K : Nat) (a1 : GGraph) (a2 : GJob) (a3 : GState) (r : List GPart × Int) (F : F21 K a1 a2 a3 = some r) : Evt E H 21 [.agg (eGGraph a1), .agg (eGJob a2), .agg (eGState a3)] (RA r) := by
 rw [F21] at F
 apply jb F; intro r4 h5 F
 apply jc F <;> intro h6 F
 apply jb F; intro r7 h8 F
 have q12 {l} (z : HA GP l) := zl (CY K a1 a2 _ h5) <| zF (ine_t h6) <| zl (Jb K a1 a2 a3 _ h8) <| z
 apply jc F <;> intro h9 F
 apply jb F; intro w11 h10 F
 apply jr F
 exact fpC GP <| q12 <| zF (bnot_t h9) <| zo (UP K a1 a2 a3 K [] 0 _ h10) <| z0
 apply jr F
 exact fpC GP <| q12 <| zT (bnot_f h9) <| z0
 apply jr F
 exact fpC GP <| zl (CY K a1 a2 _ h5) <| zT (ine_f h6) <| z0
def GC : Hint := { H 49 with nt := 25, prot := 0, kp := 0 }
def JP : Code := loopOf E 49 0
def Q7 (r1 : Int × Bool) : Res := ⟨[(.one (mI r1.1)), (.one (mB r1.2))], []⟩
def FG (K : Nat) (a1 : List GMsg) (a2 : Int) : Nat → Int → Option ((Int) ⊕ (Unit))
 | 0, _ => none
 | k + 1, v3 =>
  bif (ilt v3 (nlen (len a1))) then
   (bif (inr v3 (len a1)) then
   (elAt a1 v3).bind fun x4 =>
   bif (ieq x4.To a2) then
    (some (.inl x4.V))
   else
   FG K a1 a2 k (wadd .i64 v3 1)
   else none)
  else
  some (.inr ())
def K2 (a1 : List GMsg) (a2 : Int) (v3 : Int) : TS := .on (kq 0 2 <| kq 64 2 <| kq 384 2 <| []) <| sq 0 [u0, (uS eGMsg a1)] <| sq 64 [u0, (uI a2)] <| sq 384 [u0, (uI v3)] []
def QN (a1 : List GMsg) (a2 : Int) (w3 : Int) : TS := .on (kq 256 2 <| kq 320 2 <| []) <| sq 256 [u0, (uI w3)] <| sq 320 [u0, (uB true)] []
def Vj (a1 : List GMsg) (a2 : Int) (w3 : Unit) : TS := .on [] []
theorem MJ (K : Nat) (a1 : List GMsg) (a2 : Int) : ∀ (k : Nat) (v3 : Int) (r : (Int) ⊕ (Unit)), FG K a1 a2 k v3 = some r → (Sum.elim (fun w => LoopEv E H GC 0 JP (K2 a1 a2 v3) .ret (QN a1 a2 w)) (fun w => LoopEv E H GC 0 JP (K2 a1 a2 v3) (.exit 0) (Vj a1 a2 w))) r := by
 intro k
 induction k with
 | zero => intro v3 r F; cases F
 | succ k ih =>
  intro v3 r F
  rw [FG] at F
  apply jc F <;> intro h4 F
  apply jn F; intro h5 F
  apply jb F; intro x6 h7 F
  have q9 {l} (z : HA GC l) := zi (nl a1) <| zT h4 <| zT h5 <| zU eGMsg_len h7 0 1 <| z
  apply jc F <;> intro h8 F
  apply jr F
  exact lE <| q9 <| zT h8 <| zT h5 <| zU eGMsg_len h7 1 1 <| z0
  exact lN2 (q9 <| zF h8 <| zi (wadd .i64 v3 1) <| z0) (ih _ _ F)
  apply jr F
  exact lE <| zi (nl a1) <| zF h4 <| z0
def F49 (K : Nat) (a1 : List GMsg) (a2 : Int) : Option (Int × Bool) :=
 (FG K a1 a2 K 0).bind fun y3 =>
 Sum.elim (fun w4 =>
  some (w4, true))
  (fun w5 =>
  some (0, false)) y3
theorem O6 (K : Nat) (a1 : List GMsg) (a2 : Int) (r : Int × Bool) (F : F49 K a1 a2 = some r) : Evt E H 49 [.one (sE eGMsg a1), .one (i6 a2)] (Q7 r) := by
 rw [F49] at F
 apply jb F; intro y4 h3 F
 refine js F (fun w5 hx F => ?_) fun w6 hx F => ?_
 subst hx
 apply jr F
 exact fpC GC <| zo (MJ K a1 a2 K 0 _ h3) <| z0
 subst hx
 apply jr F
 exact fpC GC <| zo (MJ K a1 a2 K 0 _ h3) <| z0
def Ct : Hint := { H 109 with nt := 37, prot := 0, kp := 0 }
def Qa (r1 : Int × Bool) : Res := ⟨[(.one (mI r1.1)), (.one (mB r1.2))], []⟩
def GA (K : Nat) (a1 : Int) (a2 : Int) : Option (Int × Bool) :=
 bif (ieq a1 0) then
  (some (0, true))
 else
 bif (ieq a2 0) then
  (some (0, true))
 else
 bif (ieq a1 (-1)) then
  (bif (ieq a1 (-9223372036854775808)) then
   (some (0, false))
  else
  bif (ieq a2 (-9223372036854775808)) then
   (some (0, false))
  else
  some ((wmul .i64 a1 a2), true))
 else
 bif (ieq a2 (-1)) then
  (bif (ieq a1 (-9223372036854775808)) then
   (some (0, false))
  else
  bif (ieq a2 (-9223372036854775808)) then
   (some (0, false))
  else
  some ((wmul .i64 a1 a2), true))
 else
 bif (izero a2) then none else
 bif (ieq (wquo .i64 (wmul .i64 a1 a2) a2) a1) then
  (some ((wmul .i64 a1 a2), true))
 else
 some (0, false)
theorem P0 (K : Nat) (a1 : Int) (a2 : Int) (r : Int × Bool) (F : GA K a1 a2 = some r) : Evt E H 109 [.one (i6 a1), .one (i6 a2)] (Qa r) := by
 rw [GA] at F
 apply jc F <;> intro h3 F
 apply jr F
 exact fpC Ct <| Bm h3 <| zr1 <| z0
 have q13 {l} (z : HA Ct l) := Bs h3 <| z
 apply jc F <;> intro h4 F
 apply jr F
 exact fpC Ct <| q13 <| zT h4 <| z0
 apply jc F <;> intro h5 F
 have q14 {l} (z : HA Ct l) := zF h4 <| Bm h5 <| zr1 <| z
 apply jc F <;> intro h6 F
 apply jr F
 exact fpC Ct <| q13 <| q14 <| Bm h6 <| zr1 <| z0
 have q15 {l} (z : HA Ct l) := Bs h6 <| z
 apply jc F <;> intro h7 F
 apply jr F
 exact fpC Ct <| q13 <| q14 <| q15 <| zT h7 <| z0
 apply jr F
 exact fpC Ct <| q13 <| q14 <| q15 <| zF h7 <| zi (wmul .i64 a1 a2) <| z0
 have q16 {l} (z : HA Ct l) := zF h4 <| Bs h5 <| z
 apply jc F <;> intro h8 F
 apply jc F <;> intro h9 F
 apply jr F
 exact fpC Ct <| q13 <| q16 <| zT h8 <| Bm h9 <| zr1 <| z0
 have q17 {l} (z : HA Ct l) := zT h8 <| Bs h9 <| z
 apply jc F <;> intro h10 F
 apply jr F
 exact fpC Ct <| q13 <| q16 <| q17 <| zT h10 <| z0
 apply jr F
 exact fpC Ct <| q13 <| q16 <| q17 <| zF h10 <| zi (wmul .i64 a1 a2) <| z0
 refine cond_some F (fun _ F => nomatch F) (fun h11 F => ?_)
 have q18 {l} (z : HA Ct l) := zF h8 <| zi (wmul .i64 a1 a2) <| zF h11 <| zi (wquo .i64 (wmul .i64 a1 a2) a2) <| z
 apply jc F <;> intro h12 F
 apply jr F
 exact fpC Ct <| q13 <| q16 <| q18 <| zF (ine_t h12) <| z0
 apply jr F
 exact fpC Ct <| q13 <| q16 <| q18 <| zT (ine_f h12) <| z0
def HX : Hint := { H 101 with nt := 23, prot := 0, kp := 0 }
def Nz (r1 : Int × Bool) : Res := ⟨[(.one (mI r1.1)), (.one (mB r1.2))], []⟩
def FV (K : Nat) (a1 : Int) (a2 : Int) (a3 : Int) : Option (Int × Bool) :=
 bif (ilt a3 1) then
  (some (0, false))
 else
 (GA K a1 a2).bind fun r4 =>
 bif r4.2 then
  (bif (izero a3) then none else
  some ((wquo .i64 r4.1 a3), true))
 else
 some (0, false)
theorem IL (K : Nat) (a1 : Int) (a2 : Int) (a3 : Int) (r : Int × Bool) (F : FV K a1 a2 a3 = some r) : Evt E H 101 [.one (i6 a1), .one (i6 a2), .one (i6 a3)] (Nz r) := by
 rw [FV] at F
 apply jc F <;> intro h4 F
 apply jr F
 exact fpC HX <| zT h4 <| z0
 apply jb F; intro r5 h6 F
 have q9 {l} (z : HA HX l) := zF h4 <| zl (P0 K a1 a2 _ h6) <| z
 apply jc F <;> intro h7 F
 refine cond_some F (fun _ F => nomatch F) (fun h8 F => ?_)
 apply jr F
 exact fpC HX <| q9 <| zF (bnot_t h7) <| zF h8 <| zi (wquo .i64 r5.1 a3) <| z0
 apply jr F
 exact fpC HX <| q9 <| zT (bnot_f h7) <| z0
def Dt : Hint := { H 102 with nt := 27, prot := 0, kp := 0 }
def NC (r1 : Int × Bool) : Res := ⟨[(.one (mI r1.1)), (.one (mB r1.2))], []⟩
def EC (K : Nat) (a1 : Int) (a2 : Int) : Option (Int × Bool) :=
 bif (ilt 0 a2) then
  (bif (ilt (wsub .i64 9223372036854775807 a2) a1) then
   (some (0, false))
  else
  bif (ilt a2 0) then
   (bif (ilt a1 (wsub .i64 (-9223372036854775808) a2)) then
    (some (0, false))
   else
   some ((wadd .i64 a1 a2), true))
  else
  some ((wadd .i64 a1 a2), true))
 else
 bif (ilt a2 0) then
  (bif (ilt a1 (wsub .i64 (-9223372036854775808) a2)) then
   (some (0, false))
  else
  some ((wadd .i64 a1 a2), true))
 else
 some ((wadd .i64 a1 a2), true)
theorem HD (K : Nat) (a1 : Int) (a2 : Int) (r : Int × Bool) (F : EC K a1 a2 = some r) : Evt E H 102 [.one (i6 a1), .one (i6 a2)] (NC r) := by
 rw [EC] at F
 apply jc F <;> intro h3 F
 have q9 {l} (z : HA Dt l) := zC3 (igt_eq h3) <| zi (wsub .i64 9223372036854775807 a2) <| Cy (igt_eq h3) <| z
 apply jc F <;> intro h4 F
 apply jr F
 exact fpC Dt <| q9 <| Bx (igt_eq h4) <| zr1 <| z0
 have q10 {l} (z : HA Dt l) := zB3 (igt_eq h4) <| z
 apply jc F <;> intro h5 F
 have q11 {l} (z : HA Dt l) := zC3 h5 <| zi (wsub .i64 (-9223372036854775808) a2) <| zC1 h5 <| zB1 (igt_eq h4) <| zT h5 <| zF (igt_eq h4) <| z
 apply jc F <;> intro h6 F
 apply jr F
 exact fpC Dt <| q9 <| q10 <| q11 <| zT h6 <| z0
 apply jr F
 exact fpC Dt <| q9 <| q10 <| q11 <| zF h6 <| zi (wadd .i64 a1 a2) <| z0
 apply jr F
 exact fpC Dt <| q9 <| q10 <| zD4 h5 <| zB1 (igt_eq h4) <| zF h5 <| zF (igt_eq h4) <| zf1 <| zi (wadd .i64 a1 a2) <| z0
 have q12 {l} (z : HA Dt l) := Ef (igt_eq h3) <| zX (bg false) (bB rfl) <| zX (bg false) (bB rfl) <| zX (bg false) (bB rfl) <| z
 apply jc F <;> intro h7 F
 have q13 {l} (z : HA Dt l) := zC3 h7 <| zi (wsub .i64 (-9223372036854775808) a2) <| zC1 h7 <| zX (bg false) (bB rfl) <| zT h7 <| zf1 <| z
 apply jc F <;> intro h8 F
 apply jr F
 exact fpC Dt <| q12 <| q13 <| zT h8 <| z0
 apply jr F
 exact fpC Dt <| q12 <| q13 <| zF h8 <| zi (wadd .i64 a1 a2) <| z0
 apply jr F
 exact fpC Dt <| q12 <| zD4 h7 <| zX (bg false) (bB rfl) <| zF h7 <| zf2 <| zi (wadd .i64 a1 a2) <| z0
def LE : Hint := { H 73 with nt := 17, prot := 0, kp := 0 }
def RG (r1 : Int × Bool) : Res := ⟨[(.one (mI r1.1)), (.one (mB r1.2))], []⟩
def F73 (K : Nat) (a1 : Int) : Option (Int × Bool) :=
 (FV K a1 85 100).bind fun r2 =>
 bif r2.2 then
  ((EC K 150000 r2.1).bind fun r3 =>
  some (r3.1, r3.2))
 else
 some (0, false)
theorem Jz (K : Nat) (a1 : Int) (r : Int × Bool) (F : F73 K a1 = some r) : Evt E H 73 [.one (i6 a1)] (RG r) := by
 rw [F73] at F
 apply jb F; intro r2 h3 F
 apply jc F <;> intro h4 F
 apply jb F; intro r5 h6 F
 apply jr F
 exact fpC LE <| zl (IL K a1 85 100 _ h3) <| zF (bnot_t h4) <| zl (HD K 150000 r2.1 _ h6) <| z0
 apply jr F
 exact fpC LE <| zl (IL K a1 85 100 _ h3) <| zT (bnot_f h4) <| z0
def H2 : Hint := { H 75 with nt := 35, prot := 0, kp := 0 }
def R4 : Code := loopOf E 75 0
def Sw (r1 : List GEdge) : Res := ⟨[(.one (.own 132 (sE eGEdge r1)))], []⟩
def EY (K : Nat) (a1 : GGraph) (a2 : Int) : Nat → List GEdge → Int → Option (List GEdge)
 | 0, _, _ => none
 | k + 1, v3, v4 =>
  bif (ilt v4 (nlen (len a1.Edges))) then
   (bif (inr v4 (len a1.Edges)) then
   (elAt a1.Edges v4).bind fun x5 =>
   bif (ieq x5.From a2) then
    (bif (apok (len v3) 1 24) then
    EY K a1 a2 k (appL v3 [x5]) (wadd .i64 v4 1)
    else none)
   else
   EY K a1 a2 k v3 (wadd .i64 v4 1)
   else none)
  else
  some v3
def Rw (a1 : GGraph) (a2 : Int) (v3 : List GEdge) (v4 : Int) : TS := .on (kq 64 2 <| kq 128 3 <| kq 320 2 <| kq 384 2 <| []) <| sq 64 [u0, (uI a2)] <| b0 128 a1 <| sq 320 [u0, (uO 132 eGEdge v3)] <| sq 384 [u0, (uI v4)] []
def Qh (a1 : GGraph) (a2 : Int) (w3 : List GEdge) : TS := .on (kq 320 2 <| []) <| sq 320 [u0, (uO 132 eGEdge w3)] []
theorem Wj (K : Nat) (a1 : GGraph) (a2 : Int) : ∀ (k : Nat) (v3 : List GEdge) (v4 : Int) (r : List GEdge), EY K a1 a2 k v3 v4 = some r → LoopEv E H H2 0 R4 (Rw a1 a2 v3 v4) (.exit 0) (Qh a1 a2 r) := by
 intro k
 induction k with
 | zero => intro v3 v4 r F; cases F
 | succ k ih =>
  intro v3 v4 r F
  rw [EY] at F
  apply jc F <;> intro h5 F
  apply jn F; intro h6 F
  apply jb F; intro x7 h8 F
  have q11 {l} (z : HA H2 l) := zi (nl a1.Edges) <| zT h5 <| zT h6 <| zU eGEdge_len h8 0 1 <| z
  apply jc F <;> intro h9 F
  apply jn F; intro h10 F
  exact lN1 (q11 <| zT h9 <| zT h6 <| zS eGEdge_len h8 3 <| zX (tt (leqm [(i6 x7.From), (i6 x7.To), (i6 x7.W)] 1 3)) rfl <| zT h10 <| zV (app_ok (enc := eGEdge) (v3 : List GEdge) [x7]) <| zi (wadd .i64 v4 1) <| z0) (ih _ _ _ F)
  exact lN1 (q11 <| zF h9 <| zi (wadd .i64 v4 1) <| z0) (ih _ _ _ F)
  apply jr F
  exact lE <| zi (nl a1.Edges) <| zF h5 <| z0
def F75 (K : Nat) (a1 : GGraph) (a2 : Int) : Option (List GEdge) :=
 (F47 K a1).bind fun r3 =>
 bif (ieq r3 0) then
  ((EY K a1 a2 K [] 0).bind fun w4 =>
  some w4)
 else
 some []
theorem Bl (K : Nat) (a1 : GGraph) (a2 : Int) (r : List GEdge) (F : F75 K a1 a2 = some r) : Evt E H 75 [.agg (eGGraph a1), .one (i6 a2)] (Sw r) := by
 rw [F75] at F
 apply jb F; intro r3 h4 F
 apply jc F <;> intro h5 F
 apply jb F; intro w7 h6 F
 apply jr F
 exact fpC H2 <| zl (HT K a1 _ h4) <| zF (ine_t h5) <| zo (Wj K a1 a2 K [] 0 _ h6) <| z0
 apply jr F
 exact fpC H2 <| zl (HT K a1 _ h4) <| zT (ine_f h5) <| z0
def HJ : Hint := { H 76 with nt := 33, prot := 0, kp := 0 }
def Un (r1 : Int × Bool) : Res := ⟨[(.one (mI r1.1)), (.one (mB r1.2))], []⟩
def F76 (K : Nat) (a1 : Int) (a2 : Int) (a3 : GEdge) (a4 : Int) : Option (Int × Bool) :=
 bif (ieq a1 1) then
  ((EC K a2 a3.W).bind fun r5 =>
  some (r5.1, r5.2))
 else
 bif (ieq a1 3) then
  ((EC K a2 1).bind fun r6 =>
  some (r6.1, r6.2))
 else
 bif (ieq a1 5) then
  ((FV K a2 1 a4).bind fun r7 =>
  some (r7.1, r7.2))
 else
 some (a2, true)
theorem HH (K : Nat) (a1 : Int) (a2 : Int) (a3 : GEdge) (a4 : Int) (r : Int × Bool) (F : F76 K a1 a2 a3 a4 = some r) : Evt E H 76 [.one (i6 a1), .one (i6 a2), .agg (eGEdge a3), .one (i6 a4)] (Un r) := by
 rw [F76] at F
 apply jc F <;> intro h5 F
 apply jb F; intro r6 h7 F
 apply jr F
 exact fpC HJ <| zT h5 <| zl (HD K a2 a3.W _ h7) <| z0
 apply jc F <;> intro h8 F
 apply jb F; intro r9 h10 F
 apply jr F
 exact fpC HJ <| zF h5 <| zT h8 <| zl (HD K a2 1 _ h10) <| z0
 apply jc F <;> intro h11 F
 apply jb F; intro r12 h13 F
 apply jr F
 exact fpC HJ <| zF h5 <| zF h8 <| zT h11 <| zl (IL K a2 1 a4 _ h13) <| z0
 apply jr F
 exact fpC HJ <| zF h5 <| zF h8 <| zF h11 <| z0
def C9 : Hint := { H 74 with nt := 39, prot := 0, kp := 0 }
def Rx (r1 : Int × Int) : Res := ⟨[(.one (mI r1.1)), (.one (mI r1.2))], []⟩
def F74 (K : Nat) (a1 : Int) (a2 : Int) (a3 : Int) : Option (Int × Int) :=
 bif (ilt a1 1) then
  (some (0, 1))
 else
 bif (ilt 5 a1) then
  (some (0, 1))
 else
 bif (ieq a1 5) then
  ((EC K a2 a3).bind fun r4 =>
  bif r4.2 then
   (some (r4.1, 0))
  else
  some (0, 8))
 else
 bif (ieq a1 4) then
  (bif (ilt a3 a2) then
   (some (a2, 0))
  else
  some (a3, 0))
 else
 bif (ilt a2 a3) then
  (some (a2, 0))
 else
 some (a3, 0)
theorem FS (K : Nat) (a1 : Int) (a2 : Int) (a3 : Int) (r : Int × Int) (F : F74 K a1 a2 a3 = some r) : Evt E H 74 [.one (i6 a1), .one (i6 a2), .one (i6 a3)] (Rx r) := by
 rw [F74] at F
 apply jc F <;> intro h4 F
 apply jr F
 exact fpC C9 <| Bm h4 <| zr1 <| z0
 have q13 {l} (z : HA C9 l) := Bs h4 <| z
 apply jc F <;> intro h5 F
 apply jr F
 exact fpC C9 <| q13 <| zT (igt_eq h5) <| z0
 apply jc F <;> intro h6 F
 apply jb F; intro r7 h8 F
 have q14 {l} (z : HA C9 l) := zF (igt_eq h5) <| zT h6 <| zl (HD K a2 a3 _ h8) <| z
 apply jc F <;> intro h9 F
 apply jr F
 exact fpC C9 <| q13 <| q14 <| zF (bnot_t h9) <| z0
 apply jr F
 exact fpC C9 <| q13 <| q14 <| zT (bnot_f h9) <| z0
 apply jc F <;> intro h10 F
 have q15 {l} (z : HA C9 l) := zF (igt_eq h5) <| zF h6 <| zT h10 <| z
 apply jc F <;> intro h11 F
 apply jr F
 exact fpC C9 <| q13 <| q15 <| zT (igt_eq h11) <| z0
 apply jr F
 exact fpC C9 <| q13 <| q15 <| zF (igt_eq h11) <| z0
 have q16 {l} (z : HA C9 l) := zF (igt_eq h5) <| zF h6 <| zF h10 <| z
 apply jc F <;> intro h12 F
 apply jr F
 exact fpC C9 <| q13 <| q16 <| zT h12 <| z0
 apply jr F
 exact fpC C9 <| q13 <| q16 <| zF h12 <| z0
def Ac : Hint := { H 50 with nt := 145, prot := 0, kp := 0 }
def Ey : Code := loopOf E 50 0
def TJ (r1 : GTurned) : Res := ⟨[(.agg [(mI r1.Val), (.own 78 (sE eGMsg r1.Out)), (mB r1.Rest), (mI r1.E)])], []⟩
def DV (K : Nat) (v1 : Int) (v2 : Int) (v3 : Int) (v4 : Int) (v5 : Int) (v6 : Bool) (v7 : List GEdge) : Nat → List GMsg → Int → Option ((Unit) ⊕ (List GMsg))
 | 0, _, _ => none
 | k + 1, v8, v9 =>
  bif (ilt v9 (nlen (len v7))) then
   (bif v6 then
    (bif (inr v9 (len v7)) then
    (elAt v7 v9).bind fun x10 =>
    (F76 K v2 v1 x10 (nlen (len v7))).bind fun r11 =>
    bif r11.2 then
     (bif (apok (len v8) 1 16) then
     DV K v1 v2 v3 v4 v5 v6 v7 k (appL v8 [(GMsg.mk x10.To r11.1)]) (wadd .i64 v9 1)
     else none)
    else
    some (.inl ())
    else none)
   else
   some (.inr v8))
  else
  some (.inr v8)
def KO (v1 : Int) (v2 : Int) (v3 : Int) (v4 : Int) (v5 : Int) (v6 : Bool) (v7 : List GEdge) (v8 : List GMsg) (v9 : Int) : TS := .on (kq 256 2 <| kq 512 5 <| kq 896 5 <| kq 1088 2 <| kq 1344 5 <| kq 1408 2 <| kq 1472 2 <| []) <| sq 256 [u0, (uI v1)] <| sq 512 [(uX 26 4), (uI v2), (uI v3), (uI v4), (uI v5)] <| b10 896 <| sq 1088 [u0, (uB v6)] <| sq 1344 [(uX 123 4), (uI v1), (uO 78 eGMsg v8), (uB (bnot v6)), (uI 0)] <| sq 1408 [u0, (uO 132 eGEdge v7)] <| sq 1472 [u0, (uI v9)] []
def VA (v1 : Int) (v2 : Int) (v3 : Int) (v4 : Int) (v5 : Int) (v6 : Bool) (v7 : List GEdge) (w8 : Unit) : TS := .on (kq 896 5 <| []) <| b16 896 []
def QU (v1 : Int) (v2 : Int) (v3 : Int) (v4 : Int) (v5 : Int) (v6 : Bool) (v7 : List GEdge) (w8 : List GMsg) : TS := .on (kq 896 5 <| kq 1344 5 <| []) <| b10 896 <| sq 1344 [(uX 123 4), (uI v1), (uO 78 eGMsg w8), (uB (bnot v6)), (uI 0)] []
theorem EB (K : Nat) (v1 : Int) (v2 : Int) (v3 : Int) (v4 : Int) (v5 : Int) (v6 : Bool) (v7 : List GEdge) : ∀ (k : Nat) (v8 : List GMsg) (v9 : Int) (r : (Unit) ⊕ (List GMsg)), DV K v1 v2 v3 v4 v5 v6 v7 k v8 v9 = some r → (Sum.elim (fun w => LoopEv E H Ac 0 Ey (KO v1 v2 v3 v4 v5 v6 v7 v8 v9) .ret (VA v1 v2 v3 v4 v5 v6 v7 w)) (fun w => LoopEv E H Ac 0 Ey (KO v1 v2 v3 v4 v5 v6 v7 v8 v9) (.exit 0) (QU v1 v2 v3 v4 v5 v6 v7 w))) r := by
 intro k
 induction k with
 | zero => intro v8 v9 r F; cases F
 | succ k ih =>
  intro v8 v9 r F
  rw [DV] at F
  apply jc F <;> intro h10 F
  have q19 {l} (z : HA Ac l) := zi (nl v7) <| Cy h10 <| z
  apply jc F <;> intro h11 F
  apply jn F; intro h12 F
  apply jb F; intro x13 h14 F
  apply jb F; intro r15 h16 F
  have q20 {l} (z : HA Ac l) := zT h11 <| zT h12 <| zS eGEdge_len h14 3 <| zi (nl v7) <| zl (HH K v2 v1 x13 (nl v7) _ h16) <| z
  apply jc F <;> intro h17 F
  apply jn F; intro h18 F
  exact lN2 (q19 <| q20 <| zF (bnot_t h17) <| zT h12 <| zU eGEdge_len h14 1 1 <| zX (tt (leqm [(i6 x13.To), (i6 r15.1)] 1 2)) rfl <| zT h18 <| zV (app_ok (enc := eGMsg) (v8 : List GMsg) [(GMsg.mk x13.To r15.1)]) <| zi (wadd .i64 v9 1) <| z0) (ih _ _ _ F)
  apply jr F
  exact lE <| q19 <| q20 <| zT (bnot_f h17) <| z0
  apply jr F
  exact lE <| q19 <| zF h11 <| z0
  apply jr F
  exact lE <| zi (nl v7) <| D0 h10 <| zf1 <| z0
def Dz (K : Nat) (v1 : Int) (v2 : Int) (v3 : Int) (v4 : Int) (v5 : Int) (v6 : List GEdge) : Nat → List GMsg → Int → Option ((Unit) ⊕ (List GMsg))
 | 0, _, _ => none
 | k + 1, v7, v8 =>
  bif (ilt v8 (nlen (len v6))) then
   (bif (inr v8 (len v6)) then
   (elAt v6 v8).bind fun x9 =>
   (F76 K v2 v1 x9 (nlen (len v6))).bind fun r10 =>
   bif r10.2 then
    (bif (apok (len v7) 1 16) then
    Dz K v1 v2 v3 v4 v5 v6 k (appL v7 [(GMsg.mk x9.To r10.1)]) (wadd .i64 v8 1)
    else none)
   else
   some (.inl ())
   else none)
  else
  some (.inr v7)
def KG (v1 : Int) (v2 : Int) (v3 : Int) (v4 : Int) (v5 : Int) (v6 : List GEdge) (v7 : List GMsg) (v8 : Int) : TS := .on (kq 256 2 <| kq 512 5 <| kq 896 5 <| kq 1088 2 <| kq 1344 5 <| kq 1408 2 <| kq 1472 2 <| []) <| sq 256 [u0, (uI v1)] <| sq 512 [(uX 26 4), (uI v2), (uI v3), (uI v4), (uI v5)] <| b10 896 <| sq 1088 [u0, (uB true)] <| sq 1344 [(uX 123 4), (uI v1), (uO 78 eGMsg v7), (uB true), (uI 0)] <| sq 1408 [u0, (uO 132 eGEdge v6)] <| sq 1472 [u0, (uI v8)] []
def SD (v1 : Int) (v2 : Int) (v3 : Int) (v4 : Int) (v5 : Int) (v6 : List GEdge) (w7 : Unit) : TS := .on (kq 896 5 <| []) <| b16 896 []
def Tv (v1 : Int) (v2 : Int) (v3 : Int) (v4 : Int) (v5 : Int) (v6 : List GEdge) (w7 : List GMsg) : TS := .on (kq 896 5 <| kq 1344 5 <| []) <| b10 896 <| sq 1344 [(uX 123 4), (uI v1), (uO 78 eGMsg w7), (uB true), (uI 0)] []
theorem Dg (K : Nat) (v1 : Int) (v2 : Int) (v3 : Int) (v4 : Int) (v5 : Int) (v6 : List GEdge) : ∀ (k : Nat) (v7 : List GMsg) (v8 : Int) (r : (Unit) ⊕ (List GMsg)), Dz K v1 v2 v3 v4 v5 v6 k v7 v8 = some r → (Sum.elim (fun w => LoopEv E H Ac 0 Ey (KG v1 v2 v3 v4 v5 v6 v7 v8) .ret (SD v1 v2 v3 v4 v5 v6 w)) (fun w => LoopEv E H Ac 0 Ey (KG v1 v2 v3 v4 v5 v6 v7 v8) (.exit 0) (Tv v1 v2 v3 v4 v5 v6 w))) r := by
 intro k
 induction k with
 | zero => intro v7 v8 r F; cases F
 | succ k ih =>
  intro v7 v8 r F
  rw [Dz] at F
  apply jc F <;> intro h9 F
  apply jn F; intro h10 F
  apply jb F; intro x11 h12 F
  apply jb F; intro r13 h14 F
  have q17 {l} (z : HA Ac l) := zi (nl v6) <| Cy h9 <| zr1 <| zT h10 <| zS eGEdge_len h12 3 <| zi (nl v6) <| zl (HH K v2 v1 x11 (nl v6) _ h14) <| z
  apply jc F <;> intro h15 F
  apply jn F; intro h16 F
  exact lN2 (q17 <| zF (bnot_t h15) <| zT h10 <| zU eGEdge_len h12 1 1 <| zX (tt (leqm [(i6 x11.To), (i6 r13.1)] 1 2)) rfl <| zT h16 <| zV (app_ok (enc := eGMsg) (v7 : List GMsg) [(GMsg.mk x11.To r13.1)]) <| zi (wadd .i64 v8 1) <| z0) (ih _ _ _ F)
  apply jr F
  exact lE <| q17 <| zT (bnot_f h15) <| z0
  apply jr F
  exact lE <| zi (nl v6) <| D0 h9 <| zf1 <| z0
def Dy (K : Nat) (v1 : Int) (v2 : Int) (v3 : Int) (v4 : Int) (v5 : Int) (v6 : Bool) (v7 : List GEdge) : Nat → List GMsg → Int → Option ((Unit) ⊕ (List GMsg))
 | 0, _, _ => none
 | k + 1, v8, v9 =>
  bif (ilt v9 (nlen (len v7))) then
   (bif v6 then
    (bif (inr v9 (len v7)) then
    (elAt v7 v9).bind fun x10 =>
    (F76 K v2 v1 x10 (nlen (len v7))).bind fun r11 =>
    bif r11.2 then
     (bif (apok (len v8) 1 16) then
     Dy K v1 v2 v3 v4 v5 v6 v7 k (appL v8 [(GMsg.mk x10.To r11.1)]) (wadd .i64 v9 1)
     else none)
    else
    some (.inl ())
    else none)
   else
   some (.inr v8))
  else
  some (.inr v8)
def MM (v1 : Int) (v2 : Int) (v3 : Int) (v4 : Int) (v5 : Int) (v6 : Bool) (v7 : List GEdge) (v8 : List GMsg) (v9 : Int) : TS := .on (kq 256 2 <| kq 512 5 <| kq 896 5 <| kq 1088 2 <| kq 1344 5 <| kq 1408 2 <| kq 1472 2 <| []) <| sq 256 [u0, (uI v1)] <| sq 512 [(uX 26 4), (uI v2), (uI v3), (uI v4), (uI v5)] <| b10 896 <| sq 1088 [u0, (uB v6)] <| sq 1344 [(uX 123 4), (uI v1), (uO 78 eGMsg v8), (uB true), (uI 0)] <| sq 1408 [u0, (uO 132 eGEdge v7)] <| sq 1472 [u0, (uI v9)] []
def Vh (v1 : Int) (v2 : Int) (v3 : Int) (v4 : Int) (v5 : Int) (v6 : Bool) (v7 : List GEdge) (w8 : Unit) : TS := .on (kq 896 5 <| []) <| b16 896 []
def Vl (v1 : Int) (v2 : Int) (v3 : Int) (v4 : Int) (v5 : Int) (v6 : Bool) (v7 : List GEdge) (w8 : List GMsg) : TS := .on (kq 896 5 <| kq 1344 5 <| []) <| b10 896 <| sq 1344 [(uX 123 4), (uI v1), (uO 78 eGMsg w8), (uB true), (uI 0)] []
theorem DS (K : Nat) (v1 : Int) (v2 : Int) (v3 : Int) (v4 : Int) (v5 : Int) (v6 : Bool) (v7 : List GEdge) : ∀ (k : Nat) (v8 : List GMsg) (v9 : Int) (r : (Unit) ⊕ (List GMsg)), Dy K v1 v2 v3 v4 v5 v6 v7 k v8 v9 = some r → (Sum.elim (fun w => LoopEv E H Ac 0 Ey (MM v1 v2 v3 v4 v5 v6 v7 v8 v9) .ret (Vh v1 v2 v3 v4 v5 v6 v7 w)) (fun w => LoopEv E H Ac 0 Ey (MM v1 v2 v3 v4 v5 v6 v7 v8 v9) (.exit 0) (Vl v1 v2 v3 v4 v5 v6 v7 w))) r := by
 intro k
 induction k with
 | zero => intro v8 v9 r F; cases F
 | succ k ih =>
  intro v8 v9 r F
  rw [Dy] at F
  apply jc F <;> intro h10 F
  have q19 {l} (z : HA Ac l) := zi (nl v7) <| Cy h10 <| z
  apply jc F <;> intro h11 F
  apply jn F; intro h12 F
  apply jb F; intro x13 h14 F
  apply jb F; intro r15 h16 F
  have q20 {l} (z : HA Ac l) := zT h11 <| zT h12 <| zS eGEdge_len h14 3 <| zi (nl v7) <| zl (HH K v2 v1 x13 (nl v7) _ h16) <| z
  apply jc F <;> intro h17 F
  apply jn F; intro h18 F
  exact lN2 (q19 <| q20 <| zF (bnot_t h17) <| zT h12 <| zU eGEdge_len h14 1 1 <| zX (tt (leqm [(i6 x13.To), (i6 r15.1)] 1 2)) rfl <| zT h18 <| zV (app_ok (enc := eGMsg) (v8 : List GMsg) [(GMsg.mk x13.To r15.1)]) <| zi (wadd .i64 v9 1) <| z0) (ih _ _ _ F)
  apply jr F
  exact lE <| q19 <| q20 <| zT (bnot_f h17) <| z0
  apply jr F
  exact lE <| q19 <| zF h11 <| z0
  apply jr F
  exact lE <| zi (nl v7) <| D0 h10 <| zf1 <| z0
def DR (K : Nat) (v1 : Int) (v2 : Int) (v3 : Int) (v4 : Int) (v5 : Int) (v6 : List GEdge) : Nat → List GMsg → Int → Option (((List GMsg)) ⊕ (Unit))
 | 0, _, _ => none
 | k + 1, v7, v8 =>
  bif (ilt v8 (nlen (len v6))) then
   (bif (ieq v1 v1) then
    (some (.inl v7))
   else
   bif (inr v8 (len v6)) then
   (elAt v6 v8).bind fun x9 =>
   (F76 K v2 v1 x9 (nlen (len v6))).bind fun r10 =>
   bif r10.2 then
    (bif (apok (len v7) 1 16) then
    DR K v1 v2 v3 v4 v5 v6 k (appL v7 [(GMsg.mk x9.To r10.1)]) (wadd .i64 v8 1)
    else none)
   else
   some (.inr ())
   else none)
  else
  some (.inl v7)
def JT (v1 : Int) (v2 : Int) (v3 : Int) (v4 : Int) (v5 : Int) (v6 : List GEdge) (v7 : List GMsg) (v8 : Int) : TS := .on (kq 256 2 <| kq 512 5 <| kq 896 5 <| kq 1088 2 <| kq 1344 5 <| kq 1408 2 <| kq 1472 2 <| []) <| sq 256 [u0, (uI v1)] <| sq 512 [(uX 26 4), (uI v2), (uI v3), (uI v4), (uI v5)] <| b10 896 <| sq 1088 [u0, (uB (ine v1 v1))] <| sq 1344 [(uX 123 4), (uI v1), (uO 78 eGMsg v7), (uB true), (uI 0)] <| sq 1408 [u0, (uO 132 eGEdge v6)] <| sq 1472 [u0, (uI v8)] []
def SQ (v1 : Int) (v2 : Int) (v3 : Int) (v4 : Int) (v5 : Int) (v6 : List GEdge) (w7 : List GMsg) : TS := .on (kq 896 5 <| kq 1344 5 <| []) <| b10 896 <| sq 1344 [(uX 123 4), (uI v1), (uO 78 eGMsg w7), (uB true), (uI 0)] []
def Qw (v1 : Int) (v2 : Int) (v3 : Int) (v4 : Int) (v5 : Int) (v6 : List GEdge) (w7 : Unit) : TS := .on (kq 896 5 <| []) <| b16 896 []
theorem DO (K : Nat) (v1 : Int) (v2 : Int) (v3 : Int) (v4 : Int) (v5 : Int) (v6 : List GEdge) : ∀ (k : Nat) (v7 : List GMsg) (v8 : Int) (r : ((List GMsg)) ⊕ (Unit)), DR K v1 v2 v3 v4 v5 v6 k v7 v8 = some r → (Sum.elim (fun w => LoopEv E H Ac 0 Ey (JT v1 v2 v3 v4 v5 v6 v7 v8) (.exit 0) (SQ v1 v2 v3 v4 v5 v6 w)) (fun w => LoopEv E H Ac 0 Ey (JT v1 v2 v3 v4 v5 v6 v7 v8) .ret (Qw v1 v2 v3 v4 v5 v6 w))) r := by
 intro k
 induction k with
 | zero => intro v7 v8 r F; cases F
 | succ k ih =>
  intro v7 v8 r F
  rw [DR] at F
  apply jc F <;> intro h9 F
  have q18 {l} (z : HA Ac l) := zi (nl v6) <| Cy h9 <| z
  apply jc F <;> intro h10 F
  apply jr F
  exact lE <| q18 <| zF (ine_t h10) <| z0
  apply jn F; intro h11 F
  apply jb F; intro x12 h13 F
  apply jb F; intro r14 h15 F
  have q19 {l} (z : HA Ac l) := zT (ine_f h10) <| zT h11 <| zS eGEdge_len h13 3 <| zi (nl v6) <| zl (HH K v2 v1 x12 (nl v6) _ h15) <| z
  apply jc F <;> intro h16 F
  apply jn F; intro h17 F
  exact lN2 (q18 <| q19 <| zF (bnot_t h16) <| zT h11 <| zU eGEdge_len h13 1 1 <| zX (tt (leqm [(i6 x12.To), (i6 r14.1)] 1 2)) rfl <| zT h17 <| zV (app_ok (enc := eGMsg) (v7 : List GMsg) [(GMsg.mk x12.To r14.1)]) <| zi (wadd .i64 v8 1) <| z0) (ih _ _ _ F)
  apply jr F
  exact lE <| q18 <| q19 <| zT (bnot_f h16) <| z0
  apply jr F
  exact lE <| zi (nl v6) <| D0 h9 <| zf1 <| z0
def F50 (K : Nat) (a1 : GGraph) (a2 : GJob) (a3 : Int) (a4 : Int) (a5 : Int) (a6 : Int) (a7 : Bool) : Option (GTurned) :=
 (F19 K a1 a2).bind fun r8 =>
 bif (ieq r8 0) then
  (bif (ilt a4 0) then
   (some (GTurned.mk 0 [] false 4))
  else
  bif (ile a1.N a4) then
   (some (GTurned.mk 0 [] false 4))
  else
  bif (ilt a3 0) then
   (some (GTurned.mk 0 [] false 1))
  else
  bif (ilt 40 a3) then
   (some (GTurned.mk 0 [] false 1))
  else
  bif (ieq a2.Prog 5) then
   (bif a7 then
    (bif (ilt 0 a3) then
     ((F73 K a6).bind fun r9 =>
     bif r9.2 then
      ((F75 K a1 a4).bind fun r10 =>
      (DV K r9.1 a2.Prog a2.Source a2.Limit a2.Parts (ilt a3 10) r10 K [] 0).bind fun y11 =>
      Sum.elim (fun w12 =>
       some (GTurned.mk 0 [] false 8))
       (fun w13 =>
       some (GTurned.mk r9.1 w13 (bnot (ilt a3 10)) 0)) y11)
     else
     some (GTurned.mk 0 [] false 8))
    else
    (F75 K a1 a4).bind fun r14 =>
    (DV K a5 a2.Prog a2.Source a2.Limit a2.Parts (ilt a3 10) r14 K [] 0).bind fun y15 =>
    Sum.elim (fun w16 =>
     some (GTurned.mk 0 [] false 8))
     (fun w17 =>
     some (GTurned.mk a5 w17 (bnot (ilt a3 10)) 0)) y15)
   else
   bif (ilt 0 a3) then
    ((F73 K 0).bind fun r18 =>
    bif r18.2 then
     ((F75 K a1 a4).bind fun r19 =>
     (DV K r18.1 a2.Prog a2.Source a2.Limit a2.Parts (ilt a3 10) r19 K [] 0).bind fun y20 =>
     Sum.elim (fun w21 =>
      some (GTurned.mk 0 [] false 8))
      (fun w22 =>
      some (GTurned.mk r18.1 w22 (bnot (ilt a3 10)) 0)) y20)
    else
    some (GTurned.mk 0 [] false 8))
   else
   (F75 K a1 a4).bind fun r23 =>
   (DV K a5 a2.Prog a2.Source a2.Limit a2.Parts (ilt a3 10) r23 K [] 0).bind fun y24 =>
   Sum.elim (fun w25 =>
    some (GTurned.mk 0 [] false 8))
    (fun w26 =>
    some (GTurned.mk a5 w26 (bnot (ilt a3 10)) 0)) y24)
  else
  bif (ieq a2.Prog 1) then
   (bif (ieq a4 a2.Source) then
    (bif a7 then
     ((F74 K a2.Prog a5 a6).bind fun r27 =>
     bif (ieq a3 0) then
      ((F75 K a1 a4).bind fun r28 =>
      (Dz K r27.1 a2.Prog a2.Source a2.Limit a2.Parts r28 K [] 0).bind fun y29 =>
      Sum.elim (fun w30 =>
       some (GTurned.mk 0 [] false 8))
       (fun w31 =>
       some (GTurned.mk r27.1 w31 true 0)) y29)
     else
     (F75 K a1 a4).bind fun r32 =>
     (Dy K r27.1 a2.Prog a2.Source a2.Limit a2.Parts (ine r27.1 a5) r32 K [] 0).bind fun y33 =>
     Sum.elim (fun w34 =>
      some (GTurned.mk 0 [] false 8))
      (fun w35 =>
      some (GTurned.mk r27.1 w35 true 0)) y33)
    else
    bif (ieq a3 0) then
     ((F75 K a1 a4).bind fun r36 =>
     (Dz K a5 a2.Prog a2.Source a2.Limit a2.Parts r36 K [] 0).bind fun y37 =>
     Sum.elim (fun w38 =>
      some (GTurned.mk 0 [] false 8))
      (fun w39 =>
      some (GTurned.mk a5 w39 true 0)) y37)
    else
    (F75 K a1 a4).bind fun r40 =>
    (DR K a5 a2.Prog a2.Source a2.Limit a2.Parts r40 K [] 0).bind fun y41 =>
    Sum.elim (fun w42 =>
     some (GTurned.mk a5 w42 true 0))
     (fun w43 =>
     some (GTurned.mk 0 [] false 8)) y41)
   else
   bif a7 then
    ((F74 K a2.Prog a5 a6).bind fun r44 =>
    (F75 K a1 a4).bind fun r45 =>
    (Dy K r44.1 a2.Prog a2.Source a2.Limit a2.Parts (ine r44.1 a5) r45 K [] 0).bind fun y46 =>
    Sum.elim (fun w47 =>
     some (GTurned.mk 0 [] false 8))
     (fun w48 =>
     some (GTurned.mk r44.1 w48 true 0)) y46)
   else
   (F75 K a1 a4).bind fun r49 =>
   (DR K a5 a2.Prog a2.Source a2.Limit a2.Parts r49 K [] 0).bind fun y50 =>
   Sum.elim (fun w51 =>
    some (GTurned.mk a5 w51 true 0))
    (fun w52 =>
    some (GTurned.mk 0 [] false 8)) y50)
  else
  bif (ieq a2.Prog 3) then
   (bif (ieq a4 a2.Source) then
    (bif a7 then
     ((F74 K a2.Prog a5 a6).bind fun r53 =>
     bif (ieq a3 0) then
      ((F75 K a1 a4).bind fun r54 =>
      (Dz K r53.1 a2.Prog a2.Source a2.Limit a2.Parts r54 K [] 0).bind fun y55 =>
      Sum.elim (fun w56 =>
       some (GTurned.mk 0 [] false 8))
       (fun w57 =>
       some (GTurned.mk r53.1 w57 true 0)) y55)
     else
     (F75 K a1 a4).bind fun r58 =>
     (Dy K r53.1 a2.Prog a2.Source a2.Limit a2.Parts (ine r53.1 a5) r58 K [] 0).bind fun y59 =>
     Sum.elim (fun w60 =>
      some (GTurned.mk 0 [] false 8))
      (fun w61 =>
      some (GTurned.mk r53.1 w61 true 0)) y59)
    else
    bif (ieq a3 0) then
     ((F75 K a1 a4).bind fun r62 =>
     (Dz K a5 a2.Prog a2.Source a2.Limit a2.Parts r62 K [] 0).bind fun y63 =>
     Sum.elim (fun w64 =>
      some (GTurned.mk 0 [] false 8))
      (fun w65 =>
      some (GTurned.mk a5 w65 true 0)) y63)
    else
    (F75 K a1 a4).bind fun r66 =>
    (DR K a5 a2.Prog a2.Source a2.Limit a2.Parts r66 K [] 0).bind fun y67 =>
    Sum.elim (fun w68 =>
     some (GTurned.mk a5 w68 true 0))
     (fun w69 =>
     some (GTurned.mk 0 [] false 8)) y67)
   else
   bif a7 then
    ((F74 K a2.Prog a5 a6).bind fun r70 =>
    (F75 K a1 a4).bind fun r71 =>
    (Dy K r70.1 a2.Prog a2.Source a2.Limit a2.Parts (ine r70.1 a5) r71 K [] 0).bind fun y72 =>
    Sum.elim (fun w73 =>
     some (GTurned.mk 0 [] false 8))
     (fun w74 =>
     some (GTurned.mk r70.1 w74 true 0)) y72)
   else
   (F75 K a1 a4).bind fun r75 =>
   (DR K a5 a2.Prog a2.Source a2.Limit a2.Parts r75 K [] 0).bind fun y76 =>
   Sum.elim (fun w77 =>
    some (GTurned.mk a5 w77 true 0))
    (fun w78 =>
    some (GTurned.mk 0 [] false 8)) y76)
  else
  bif a7 then
   ((F74 K a2.Prog a5 a6).bind fun r79 =>
   bif (ieq a3 0) then
    ((F75 K a1 a4).bind fun r80 =>
    (Dz K r79.1 a2.Prog a2.Source a2.Limit a2.Parts r80 K [] 0).bind fun y81 =>
    Sum.elim (fun w82 =>
     some (GTurned.mk 0 [] false 8))
     (fun w83 =>
     some (GTurned.mk r79.1 w83 true 0)) y81)
   else
   (F75 K a1 a4).bind fun r84 =>
   (Dy K r79.1 a2.Prog a2.Source a2.Limit a2.Parts (ine r79.1 a5) r84 K [] 0).bind fun y85 =>
   Sum.elim (fun w86 =>
    some (GTurned.mk 0 [] false 8))
    (fun w87 =>
    some (GTurned.mk r79.1 w87 true 0)) y85)
  else
  bif (ieq a3 0) then
   ((F75 K a1 a4).bind fun r88 =>
   (Dz K a5 a2.Prog a2.Source a2.Limit a2.Parts r88 K [] 0).bind fun y89 =>
   Sum.elim (fun w90 =>
    some (GTurned.mk 0 [] false 8))
    (fun w91 =>
    some (GTurned.mk a5 w91 true 0)) y89)
  else
  (F75 K a1 a4).bind fun r92 =>
  (DR K a5 a2.Prog a2.Source a2.Limit a2.Parts r92 K [] 0).bind fun y93 =>
  Sum.elim (fun w94 =>
   some (GTurned.mk a5 w94 true 0))
   (fun w95 =>
   some (GTurned.mk 0 [] false 8)) y93)
 else
 some (GTurned.mk 0 [] false r8)
theorem LQ (K : Nat) (a1 : GGraph) (a2 : GJob) (a3 : Int) (a4 : Int) (a5 : Int) (a6 : Int) (a7 : Bool) (r : GTurned) (F : F50 K a1 a2 a3 a4 a5 a6 a7 = some r) : Evt E H 50 [.agg (eGGraph a1), .agg (eGJob a2), .one (i6 a3), .one (i6 a4), .one (i6 a5), .one (i6 a6), .one (.lit (.bool a7))] (TJ r) := by
 rw [F50] at F
 apply jb F; intro r8 h9 F
 apply jc F <;> intro h10 F
 have q170 {l} (z : HA Ac l) := zl (CY K a1 a2 _ h9) <| zF (ine_t h10) <| z
 apply jc F <;> intro h11 F
 apply jr F
 exact fpC Ac <| q170 <| Bx h11 <| zr1 <| z0
 have q171 {l} (z : HA Ac l) := Gw h11 <| z
 apply jc F <;> intro h12 F
 apply jr F
 exact fpC Ac <| q170 <| q171 <| zT (ige_eq h12) <| z0
 apply jc F <;> intro h13 F
 apply jr F
 exact fpC Ac <| q170 <| q171 <| zF (ige_eq h12) <| Bm h13 <| zr1 <| z0
 have q172 {l} (z : HA Ac l) := zF (ige_eq h12) <| Bs h13 <| z
 apply jc F <;> intro h14 F
 apply jr F
 exact fpC Ac <| q170 <| q171 <| q172 <| zT (igt_eq h14) <| z0
 apply jc F <;> intro h15 F
 apply jc F <;> intro h16 F
 have q173 {l} (z : HA Ac l) := zF (igt_eq h14) <| zT h15 <| zF (bnot_t h16) <| z
 apply jc F <;> intro h17 F
 apply jb F; intro r18 h19 F
 have q174 {l} (z : HA Ac l) := zT (igt_eq h17) <| zl (Jz K a6 _ h19) <| z
 apply jc F <;> intro h20 F
 apply jb F; intro r21 h22 F
 have q175 {l} (z : HA Ac l) := zF (bnot_t h20) <| zl (Bl K a1 a4 _ h22) <| z
 apply jb F; intro y24 h23 F
 refine js F (fun w25 hx F => ?_) fun w26 hx F => ?_
 subst hx
 apply jr F
 exact fpC Ac <| q170 <| q171 <| q172 <| q173 <| q174 <| q175 <| zo (EB K r18.1 a2.Prog a2.Source a2.Limit a2.Parts (ilt a3 10) r21 K [] 0 _ h23) <| z0
 subst hx
 apply jr F
 exact fpC Ac <| q170 <| q171 <| q172 <| q173 <| q174 <| q175 <| zo (EB K r18.1 a2.Prog a2.Source a2.Limit a2.Parts (ilt a3 10) r21 K [] 0 _ h23) <| z0
 apply jr F
 exact fpC Ac <| q170 <| q171 <| q172 <| q173 <| q174 <| zT (bnot_f h20) <| z0
 apply jb F; intro r27 h28 F
 have q176 {l} (z : HA Ac l) := zF (igt_eq h17) <| zl (Bl K a1 a4 _ h28) <| z
 apply jb F; intro y30 h29 F
 refine js F (fun w31 hx F => ?_) fun w32 hx F => ?_
 subst hx
 apply jr F
 exact fpC Ac <| q170 <| q171 <| q172 <| q173 <| q176 <| zo (EB K a5 a2.Prog a2.Source a2.Limit a2.Parts (ilt a3 10) r27 K [] 0 _ h29) <| z0
 subst hx
 apply jr F
 exact fpC Ac <| q170 <| q171 <| q172 <| q173 <| q176 <| zo (EB K a5 a2.Prog a2.Source a2.Limit a2.Parts (ilt a3 10) r27 K [] 0 _ h29) <| z0
 have q177 {l} (z : HA Ac l) := zF (igt_eq h14) <| zT h15 <| zT (bnot_f h16) <| z
 apply jc F <;> intro h33 F
 apply jb F; intro r34 h35 F
 have q178 {l} (z : HA Ac l) := zT (igt_eq h33) <| zl (Jz K 0 _ h35) <| z
 apply jc F <;> intro h36 F
 apply jb F; intro r37 h38 F
 have q179 {l} (z : HA Ac l) := zF (bnot_t h36) <| zl (Bl K a1 a4 _ h38) <| z
 apply jb F; intro y40 h39 F
 refine js F (fun w41 hx F => ?_) fun w42 hx F => ?_
 subst hx
 apply jr F
 exact fpC Ac <| q170 <| q171 <| q172 <| q177 <| q178 <| q179 <| zo (EB K r34.1 a2.Prog a2.Source a2.Limit a2.Parts (ilt a3 10) r37 K [] 0 _ h39) <| z0
 subst hx
 apply jr F
 exact fpC Ac <| q170 <| q171 <| q172 <| q177 <| q178 <| q179 <| zo (EB K r34.1 a2.Prog a2.Source a2.Limit a2.Parts (ilt a3 10) r37 K [] 0 _ h39) <| z0
 apply jr F
 exact fpC Ac <| q170 <| q171 <| q172 <| q177 <| q178 <| zT (bnot_f h36) <| z0
 apply jb F; intro r43 h44 F
 have q180 {l} (z : HA Ac l) := zF (igt_eq h33) <| zl (Bl K a1 a4 _ h44) <| z
 apply jb F; intro y46 h45 F
 refine js F (fun w47 hx F => ?_) fun w48 hx F => ?_
 subst hx
 apply jr F
 exact fpC Ac <| q170 <| q171 <| q172 <| q177 <| q180 <| zo (EB K a5 a2.Prog a2.Source a2.Limit a2.Parts (ilt a3 10) r43 K [] 0 _ h45) <| z0
 subst hx
 apply jr F
 exact fpC Ac <| q170 <| q171 <| q172 <| q177 <| q180 <| zo (EB K a5 a2.Prog a2.Source a2.Limit a2.Parts (ilt a3 10) r43 K [] 0 _ h45) <| z0
 apply jc F <;> intro h49 F
 have q181 {l} (z : HA Ac l) := zF (igt_eq h14) <| zF h15 <| Ah h49 <| zX (bh true) (bC rfl) <| zX (bh true) (bC rfl) <| zX (bh true) (bC rfl) <| zX (bh true) (bC rfl) <| zr1 <| z
 apply jc F <;> intro h50 F
 apply jc F <;> intro h51 F
 apply jb F; intro r52 h53 F
 have q182 {l} (z : HA Ac l) := zF (ine_t h50) <| zT h51 <| zl (FS K a2.Prog a5 a6 _ h53) <| z
 apply jc F <;> intro h54 F
 apply jb F; intro r55 h56 F
 have q183 {l} (z : HA Ac l) := Ah h54 <| zl (Bl K a1 a4 _ h56) <| z
 apply jb F; intro y58 h57 F
 refine js F (fun w59 hx F => ?_) fun w60 hx F => ?_
 subst hx
 apply jr F
 exact fpC Ac <| q170 <| q171 <| q172 <| q181 <| q182 <| q183 <| zo (Dg K r52.1 a2.Prog a2.Source a2.Limit a2.Parts r55 K [] 0 _ h57) <| z0
 subst hx
 apply jr F
 exact fpC Ac <| q170 <| q171 <| q172 <| q181 <| q182 <| q183 <| zo (Dg K r52.1 a2.Prog a2.Source a2.Limit a2.Parts r55 K [] 0 _ h57) <| z0
 apply jb F; intro r61 h62 F
 have q184 {l} (z : HA Ac l) := Ai h54 <| zl (Bl K a1 a4 _ h62) <| z
 apply jb F; intro y64 h63 F
 refine js F (fun w65 hx F => ?_) fun w66 hx F => ?_
 subst hx
 apply jr F
 exact fpC Ac <| q170 <| q171 <| q172 <| q181 <| q182 <| q184 <| zo (DS K r52.1 a2.Prog a2.Source a2.Limit a2.Parts (ine r52.1 a5) r61 K [] 0 _ h63) <| z0
 subst hx
 apply jr F
 exact fpC Ac <| q170 <| q171 <| q172 <| q181 <| q182 <| q184 <| zo (DS K r52.1 a2.Prog a2.Source a2.Limit a2.Parts (ine r52.1 a5) r61 K [] 0 _ h63) <| z0
 apply jc F <;> intro h67 F
 apply jb F; intro r68 h69 F
 have q185 {l} (z : HA Ac l) := zF (ine_t h50) <| zF h51 <| Ah h67 <| zl (Bl K a1 a4 _ h69) <| z
 apply jb F; intro y71 h70 F
 refine js F (fun w72 hx F => ?_) fun w73 hx F => ?_
 subst hx
 apply jr F
 exact fpC Ac <| q170 <| q171 <| q172 <| q181 <| q185 <| zo (Dg K a5 a2.Prog a2.Source a2.Limit a2.Parts r68 K [] 0 _ h70) <| z0
 subst hx
 apply jr F
 exact fpC Ac <| q170 <| q171 <| q172 <| q181 <| q185 <| zo (Dg K a5 a2.Prog a2.Source a2.Limit a2.Parts r68 K [] 0 _ h70) <| z0
 apply jb F; intro r74 h75 F
 have q186 {l} (z : HA Ac l) := zF (ine_t h50) <| zF h51 <| Ai h67 <| zl (Bl K a1 a4 _ h75) <| z
 apply jb F; intro y77 h76 F
 refine js F (fun w78 hx F => ?_) fun w79 hx F => ?_
 subst hx
 apply jr F
 exact fpC Ac <| q170 <| q171 <| q172 <| q181 <| q186 <| zo (DO K a5 a2.Prog a2.Source a2.Limit a2.Parts r74 K [] 0 _ h76) <| z0
 subst hx
 apply jr F
 exact fpC Ac <| q170 <| q171 <| q172 <| q181 <| q186 <| zo (DO K a5 a2.Prog a2.Source a2.Limit a2.Parts r74 K [] 0 _ h76) <| z0
 apply jc F <;> intro h80 F
 apply jb F; intro r81 h82 F
 apply jb F; intro r83 h84 F
 have q187 {l} (z : HA Ac l) := zT (ine_f h50) <| zT h80 <| zl (FS K a2.Prog a5 a6 _ h82) <| zX (bg false) (bB rfl) <| zX (bg false) (bB rfl) <| zX (bg false) (bB rfl) <| zf1 <| zl (Bl K a1 a4 _ h84) <| z
 apply jb F; intro y86 h85 F
 refine js F (fun w87 hx F => ?_) fun w88 hx F => ?_
 subst hx
 apply jr F
 exact fpC Ac <| q170 <| q171 <| q172 <| q181 <| q187 <| zo (DS K r81.1 a2.Prog a2.Source a2.Limit a2.Parts (ine r81.1 a5) r83 K [] 0 _ h85) <| z0
 subst hx
 apply jr F
 exact fpC Ac <| q170 <| q171 <| q172 <| q181 <| q187 <| zo (DS K r81.1 a2.Prog a2.Source a2.Limit a2.Parts (ine r81.1 a5) r83 K [] 0 _ h85) <| z0
 apply jb F; intro r89 h90 F
 have q188 {l} (z : HA Ac l) := zT (ine_f h50) <| zF h80 <| zX (bg false) (bB rfl) <| zX (bg false) (bB rfl) <| zX (bg false) (bB rfl) <| zf1 <| zl (Bl K a1 a4 _ h90) <| z
 apply jb F; intro y92 h91 F
 refine js F (fun w93 hx F => ?_) fun w94 hx F => ?_
 subst hx
 apply jr F
 exact fpC Ac <| q170 <| q171 <| q172 <| q181 <| q188 <| zo (DO K a5 a2.Prog a2.Source a2.Limit a2.Parts r89 K [] 0 _ h91) <| z0
 subst hx
 apply jr F
 exact fpC Ac <| q170 <| q171 <| q172 <| q181 <| q188 <| zo (DO K a5 a2.Prog a2.Source a2.Limit a2.Parts r89 K [] 0 _ h91) <| z0
 have q189 {l} (z : HA Ac l) := zF (igt_eq h14) <| zF h15 <| Ai h49 <| z
 apply jc F <;> intro h95 F
 have q190 {l} (z : HA Ac l) := Hl h95 <| z
 apply jc F <;> intro h96 F
 apply jc F <;> intro h97 F
 apply jb F; intro r98 h99 F
 have q191 {l} (z : HA Ac l) := zF (ine_t h96) <| zT h97 <| zl (FS K a2.Prog a5 a6 _ h99) <| z
 apply jc F <;> intro h100 F
 apply jb F; intro r101 h102 F
 have q192 {l} (z : HA Ac l) := Ah h100 <| zl (Bl K a1 a4 _ h102) <| z
 apply jb F; intro y104 h103 F
 refine js F (fun w105 hx F => ?_) fun w106 hx F => ?_
 subst hx
 apply jr F
 exact fpC Ac <| q170 <| q171 <| q172 <| q189 <| q190 <| q191 <| q192 <| zo (Dg K r98.1 a2.Prog a2.Source a2.Limit a2.Parts r101 K [] 0 _ h103) <| z0
 subst hx
 apply jr F
 exact fpC Ac <| q170 <| q171 <| q172 <| q189 <| q190 <| q191 <| q192 <| zo (Dg K r98.1 a2.Prog a2.Source a2.Limit a2.Parts r101 K [] 0 _ h103) <| z0
 apply jb F; intro r107 h108 F
 have q193 {l} (z : HA Ac l) := Ai h100 <| zl (Bl K a1 a4 _ h108) <| z
 apply jb F; intro y110 h109 F
 refine js F (fun w111 hx F => ?_) fun w112 hx F => ?_
 subst hx
 apply jr F
 exact fpC Ac <| q170 <| q171 <| q172 <| q189 <| q190 <| q191 <| q193 <| zo (DS K r98.1 a2.Prog a2.Source a2.Limit a2.Parts (ine r98.1 a5) r107 K [] 0 _ h109) <| z0
 subst hx
 apply jr F
 exact fpC Ac <| q170 <| q171 <| q172 <| q189 <| q190 <| q191 <| q193 <| zo (DS K r98.1 a2.Prog a2.Source a2.Limit a2.Parts (ine r98.1 a5) r107 K [] 0 _ h109) <| z0
 apply jc F <;> intro h113 F
 apply jb F; intro r114 h115 F
 have q194 {l} (z : HA Ac l) := zF (ine_t h96) <| zF h97 <| Ah h113 <| zl (Bl K a1 a4 _ h115) <| z
 apply jb F; intro y117 h116 F
 refine js F (fun w118 hx F => ?_) fun w119 hx F => ?_
 subst hx
 apply jr F
 exact fpC Ac <| q170 <| q171 <| q172 <| q189 <| q190 <| q194 <| zo (Dg K a5 a2.Prog a2.Source a2.Limit a2.Parts r114 K [] 0 _ h116) <| z0
 subst hx
 apply jr F
 exact fpC Ac <| q170 <| q171 <| q172 <| q189 <| q190 <| q194 <| zo (Dg K a5 a2.Prog a2.Source a2.Limit a2.Parts r114 K [] 0 _ h116) <| z0
 apply jb F; intro r120 h121 F
 have q195 {l} (z : HA Ac l) := zF (ine_t h96) <| zF h97 <| Ai h113 <| zl (Bl K a1 a4 _ h121) <| z
 apply jb F; intro y123 h122 F
 refine js F (fun w124 hx F => ?_) fun w125 hx F => ?_
 subst hx
 apply jr F
 exact fpC Ac <| q170 <| q171 <| q172 <| q189 <| q190 <| q195 <| zo (DO K a5 a2.Prog a2.Source a2.Limit a2.Parts r120 K [] 0 _ h122) <| z0
 subst hx
 apply jr F
 exact fpC Ac <| q170 <| q171 <| q172 <| q189 <| q190 <| q195 <| zo (DO K a5 a2.Prog a2.Source a2.Limit a2.Parts r120 K [] 0 _ h122) <| z0
 apply jc F <;> intro h126 F
 apply jb F; intro r127 h128 F
 apply jb F; intro r129 h130 F
 have q196 {l} (z : HA Ac l) := zT (ine_f h96) <| zT h126 <| zl (FS K a2.Prog a5 a6 _ h128) <| zX (bg false) (bB rfl) <| zX (bg false) (bB rfl) <| zX (bg false) (bB rfl) <| zf1 <| zl (Bl K a1 a4 _ h130) <| z
 apply jb F; intro y132 h131 F
 refine js F (fun w133 hx F => ?_) fun w134 hx F => ?_
 subst hx
 apply jr F
 exact fpC Ac <| q170 <| q171 <| q172 <| q189 <| q190 <| q196 <| zo (DS K r127.1 a2.Prog a2.Source a2.Limit a2.Parts (ine r127.1 a5) r129 K [] 0 _ h131) <| z0
 subst hx
 apply jr F
 exact fpC Ac <| q170 <| q171 <| q172 <| q189 <| q190 <| q196 <| zo (DS K r127.1 a2.Prog a2.Source a2.Limit a2.Parts (ine r127.1 a5) r129 K [] 0 _ h131) <| z0
 apply jb F; intro r135 h136 F
 have q197 {l} (z : HA Ac l) := zT (ine_f h96) <| zF h126 <| zX (bg false) (bB rfl) <| zX (bg false) (bB rfl) <| zX (bg false) (bB rfl) <| zf1 <| zl (Bl K a1 a4 _ h136) <| z
 apply jb F; intro y138 h137 F
 refine js F (fun w139 hx F => ?_) fun w140 hx F => ?_
 subst hx
 apply jr F
 exact fpC Ac <| q170 <| q171 <| q172 <| q189 <| q190 <| q197 <| zo (DO K a5 a2.Prog a2.Source a2.Limit a2.Parts r135 K [] 0 _ h137) <| z0
 subst hx
 apply jr F
 exact fpC Ac <| q170 <| q171 <| q172 <| q189 <| q190 <| q197 <| zo (DO K a5 a2.Prog a2.Source a2.Limit a2.Parts r135 K [] 0 _ h137) <| z0
 have q198 {l} (z : HA Ac l) := Ef h95 <| zf1 <| z
 apply jc F <;> intro h141 F
 apply jb F; intro r142 h143 F
 have q199 {l} (z : HA Ac l) := zT h141 <| zl (FS K a2.Prog a5 a6 _ h143) <| z
 apply jc F <;> intro h144 F
 apply jb F; intro r145 h146 F
 have q200 {l} (z : HA Ac l) := Ah h144 <| zl (Bl K a1 a4 _ h146) <| z
 apply jb F; intro y148 h147 F
 refine js F (fun w149 hx F => ?_) fun w150 hx F => ?_
 subst hx
 apply jr F
 exact fpC Ac <| q170 <| q171 <| q172 <| q189 <| q198 <| q199 <| q200 <| zo (Dg K r142.1 a2.Prog a2.Source a2.Limit a2.Parts r145 K [] 0 _ h147) <| z0
 subst hx
 apply jr F
 exact fpC Ac <| q170 <| q171 <| q172 <| q189 <| q198 <| q199 <| q200 <| zo (Dg K r142.1 a2.Prog a2.Source a2.Limit a2.Parts r145 K [] 0 _ h147) <| z0
 apply jb F; intro r151 h152 F
 have q201 {l} (z : HA Ac l) := Ai h144 <| zl (Bl K a1 a4 _ h152) <| z
 apply jb F; intro y154 h153 F
 refine js F (fun w155 hx F => ?_) fun w156 hx F => ?_
 subst hx
 apply jr F
 exact fpC Ac <| q170 <| q171 <| q172 <| q189 <| q198 <| q199 <| q201 <| zo (DS K r142.1 a2.Prog a2.Source a2.Limit a2.Parts (ine r142.1 a5) r151 K [] 0 _ h153) <| z0
 subst hx
 apply jr F
 exact fpC Ac <| q170 <| q171 <| q172 <| q189 <| q198 <| q199 <| q201 <| zo (DS K r142.1 a2.Prog a2.Source a2.Limit a2.Parts (ine r142.1 a5) r151 K [] 0 _ h153) <| z0
 apply jc F <;> intro h157 F
 apply jb F; intro r158 h159 F
 have q202 {l} (z : HA Ac l) := zF h141 <| Ah h157 <| zl (Bl K a1 a4 _ h159) <| z
 apply jb F; intro y161 h160 F
 refine js F (fun w162 hx F => ?_) fun w163 hx F => ?_
 subst hx
 apply jr F
 exact fpC Ac <| q170 <| q171 <| q172 <| q189 <| q198 <| q202 <| zo (Dg K a5 a2.Prog a2.Source a2.Limit a2.Parts r158 K [] 0 _ h160) <| z0
 subst hx
 apply jr F
 exact fpC Ac <| q170 <| q171 <| q172 <| q189 <| q198 <| q202 <| zo (Dg K a5 a2.Prog a2.Source a2.Limit a2.Parts r158 K [] 0 _ h160) <| z0
 apply jb F; intro r164 h165 F
 have q203 {l} (z : HA Ac l) := zF h141 <| Ai h157 <| zl (Bl K a1 a4 _ h165) <| z
 apply jb F; intro y167 h166 F
 refine js F (fun w168 hx F => ?_) fun w169 hx F => ?_
 subst hx
 apply jr F
 exact fpC Ac <| q170 <| q171 <| q172 <| q189 <| q198 <| q203 <| zo (DO K a5 a2.Prog a2.Source a2.Limit a2.Parts r164 K [] 0 _ h166) <| z0
 subst hx
 apply jr F
 exact fpC Ac <| q170 <| q171 <| q172 <| q189 <| q198 <| q203 <| zo (DO K a5 a2.Prog a2.Source a2.Limit a2.Parts r164 K [] 0 _ h166) <| z0
 apply jr F
 exact fpC Ac <| zl (CY K a1 a2 _ h9) <| zT (ine_f h10) <| z0
def FN : Hint := { H 77 with nt := 66, prot := 0, kp := 0 }
def Sm : Code := loopOf E 77 0
def PA : Code := loopOf E 77 1
def Uw (r1 : List GMsg) : Res := ⟨[(.one (.own 78 (sE eGMsg r1)))], []⟩
def DM (K : Nat) (a1 : List GMsg) (v2 : Int) : Nat → List GMsg → Int → Option (List GMsg)
 | 0, _, _ => none
 | k + 1, v3, v4 =>
  bif (ilt 0 v4) then
   (bif (inr (wsub .i64 v4 1) (len v3)) then
   (elAt v3 (wsub .i64 v4 1)).bind fun x5 =>
   bif (inr v4 (len v3)) then
   (elAt v3 v4).bind fun x6 =>
   bif (ilt x5.To x6.To) then
    (some v3)
   else
   bif (ieq x5.To x6.To) then
    (bif (ile x5.V x6.V) then
     (some v3)
    else
    bif (inr v4 (len (α := GMsg) (putAt v3 (wsub .i64 v4 1) x6))) then
    (elAt (putAt v3 (wsub .i64 v4 1) x6) v4).bind fun x7 =>
    DM K a1 v2 k (putAt (putAt v3 (wsub .i64 v4 1) x6) v4 x5) (wsub .i64 v4 1)
    else none)
   else
   bif (inr v4 (len (α := GMsg) (putAt v3 (wsub .i64 v4 1) x6))) then
   (elAt (putAt v3 (wsub .i64 v4 1) x6) v4).bind fun x8 =>
   DM K a1 v2 k (putAt (putAt v3 (wsub .i64 v4 1) x6) v4 x5) (wsub .i64 v4 1)
   else none
   else none
   else none)
  else
  some v3
def Uy (a1 : List GMsg) (v2 : Int) (v3 : List GMsg) (v4 : Int) : TS := .on (kq 0 2 <| kq 192 2 <| kq 256 2 <| kq 320 2 <| []) <| sq 0 [u0, (uS eGMsg a1)] <| sq 192 [u0, (uO 78 eGMsg v3)] <| sq 256 [u0, (uI v2)] <| sq 320 [u0, (uI v4)] []
def RW (a1 : List GMsg) (v2 : Int) (w3 : List GMsg) : TS := .on (kq 0 2 <| kq 192 2 <| kq 256 2 <| []) <| sq 0 [u0, (uS eGMsg a1)] <| sq 192 [u0, (uO 78 eGMsg w3)] <| sq 256 [u0, (uI v2)] []
theorem TH (K : Nat) (a1 : List GMsg) (v2 : Int) : ∀ (k : Nat) (v3 : List GMsg) (v4 : Int) (r : List GMsg), DM K a1 v2 k v3 v4 = some r → LoopEv E H FN 2 PA (Uy a1 v2 v3 v4) (.exit 2) (RW a1 v2 r) := by
 intro k
 induction k with
 | zero => intro v3 v4 r F; cases F
 | succ k ih =>
  intro v3 v4 r F
  rw [DM] at F
  apply jc F <;> intro h5 F
  apply jn F; intro h6 F
  apply jb F; intro x7 h8 F
  apply jn F; intro h9 F
  apply jb F; intro x10 h11 F
  have q21 {l} (z : HA FN l) := zT (igt_eq h5) <| zi (wsub .i64 v4 1) <| zT h6 <| zS eGMsg_len h8 2 <| zT h9 <| zS eGMsg_len h11 2 <| z
  apply jc F <;> intro h12 F
  apply jr F
  exact lE <| q21 <| zA6 h12 <| D4 h12 <| zr1 <| z0
  have q22 {l} (z : HA FN l) := zB6 h12 <| z
  apply jc F <;> intro h13 F
  have q23 {l} (z : HA FN l) := zC5 h13 <| zB1 h12 <| zT h13 <| zF h12 <| z
  apply jc F <;> intro h14 F
  apply jr F
  exact lE <| q21 <| q22 <| q23 <| zT h14 <| z0
  apply jn F; intro h15 F
  apply jb F; intro x16 h17 F
  exact lN1 (q21 <| q22 <| q23 <| zF h14 <| zi (wsub .i64 v4 1) <| zT h6 <| zX (tt (lfits (nidx (wsub .i64 v4 1) 2) 2 (flat eGMsg v3))) (lfits_flat0 eGMsg_len h8 _ (by decide)) <| zX (.sl (len v3) (lset (flat eGMsg v3) (nidx (wsub .i64 v4 1) 2) [(i6 x10.To), (i6 x10.V)]) (len (α := GMsg) (putAt v3 (wsub .i64 v4 1) x10)) (flat eGMsg (putAt v3 (wsub .i64 v4 1) x10))) (set_ok0 eGMsg_len h8 _ (by simp) rfl) <| zT h15 <| zX (tt (lfits (nidx v4 2) 2 (flat eGMsg (putAt v3 (wsub .i64 v4 1) x10)))) (lfits_flat0 eGMsg_len h17 _ (by decide)) <| zX (.sl (len (α := GMsg) (putAt v3 (wsub .i64 v4 1) x10)) (lset (flat eGMsg (putAt v3 (wsub .i64 v4 1) x10)) (nidx v4 2) [(i6 x7.To), (i6 x7.V)]) (len (α := GMsg) (putAt (putAt v3 (wsub .i64 v4 1) x10) v4 x7)) (flat eGMsg (putAt (putAt v3 (wsub .i64 v4 1) x10) v4 x7))) (set_ok0 eGMsg_len h17 _ (by simp) rfl) <| zi (wsub .i64 v4 1) <| z0) (ih _ _ _ F)
  apply jn F; intro h18 F
  apply jb F; intro x19 h20 F
  exact lN1 (q21 <| q22 <| zD5 h13 <| zB1 h12 <| zF h13 <| zF h12 <| zf1 <| zi (wsub .i64 v4 1) <| zT h6 <| zX (tt (lfits (nidx (wsub .i64 v4 1) 2) 2 (flat eGMsg v3))) (lfits_flat0 eGMsg_len h8 _ (by decide)) <| zX (.sl (len v3) (lset (flat eGMsg v3) (nidx (wsub .i64 v4 1) 2) [(i6 x10.To), (i6 x10.V)]) (len (α := GMsg) (putAt v3 (wsub .i64 v4 1) x10)) (flat eGMsg (putAt v3 (wsub .i64 v4 1) x10))) (set_ok0 eGMsg_len h8 _ (by simp) rfl) <| zT h18 <| zX (tt (lfits (nidx v4 2) 2 (flat eGMsg (putAt v3 (wsub .i64 v4 1) x10)))) (lfits_flat0 eGMsg_len h20 _ (by decide)) <| zX (.sl (len (α := GMsg) (putAt v3 (wsub .i64 v4 1) x10)) (lset (flat eGMsg (putAt v3 (wsub .i64 v4 1) x10)) (nidx v4 2) [(i6 x7.To), (i6 x7.V)]) (len (α := GMsg) (putAt (putAt v3 (wsub .i64 v4 1) x10) v4 x7)) (flat eGMsg (putAt (putAt v3 (wsub .i64 v4 1) x10) v4 x7))) (set_ok0 eGMsg_len h20 _ (by simp) rfl) <| zi (wsub .i64 v4 1) <| z0) (ih _ _ _ F)
  apply jr F
  exact lE <| zF (igt_eq h5) <| z0
def Gm (K : Nat) (a1 : List GMsg) : Nat → List GMsg → Int → Option (List GMsg)
 | 0, _, _ => none
 | k + 1, v2, v3 =>
  bif (ilt v3 (nlen (len a1))) then
   (bif (inr v3 (len a1)) then
   (elAt a1 v3).bind fun x4 =>
   bif (apok (len v2) 1 16) then
   (DM K a1 v3 K (appL v2 [x4]) (wsub .i64 (nlen (len (α := GMsg) (appL v2 [x4]))) 1)).bind fun w5 =>
   Gm K a1 k w5 (wadd .i64 v3 1)
   else none
   else none)
  else
  some v2
def Uz (a1 : List GMsg) (v2 : List GMsg) (v3 : Int) : TS := .on (kq 0 2 <| kq 192 2 <| kq 256 2 <| []) <| sq 0 [u0, (uS eGMsg a1)] <| sq 192 [u0, (uO 78 eGMsg v2)] <| sq 256 [u0, (uI v3)] []
def QV (a1 : List GMsg) (w2 : List GMsg) : TS := .on (kq 192 2 <| []) <| sq 192 [u0, (uO 78 eGMsg w2)] []
theorem Vz (K : Nat) (a1 : List GMsg) : ∀ (k : Nat) (v2 : List GMsg) (v3 : Int) (r : List GMsg), Gm K a1 k v2 v3 = some r → LoopEv E H FN 0 Sm (Uz a1 v2 v3) (.exit 0) (QV a1 r) := by
 intro k
 induction k with
 | zero => intro v2 v3 r F; cases F
 | succ k ih =>
  intro v2 v3 r F
  rw [Gm] at F
  apply jc F <;> intro h4 F
  apply jn F; intro h5 F
  apply jb F; intro x6 h7 F
  apply jn F; intro h8 F
  apply jb F; intro w10 h9 F
  exact lN1 (zi (nl a1) <| zT h4 <| zT h5 <| zS eGMsg_len h7 2 <| zX (tt (leqm [(i6 x6.To), (i6 x6.V)] 1 2)) rfl <| zT h8 <| zV (app_ok (enc := eGMsg) (v2 : List GMsg) [x6]) <| zi (nlen (len (α := GMsg) (appL v2 [x6]))) <| zi (wsub .i64 (nlen (len (α := GMsg) (appL v2 [x6]))) 1) <| zo (TH K a1 v3 K (appL v2 [x6]) (wsub .i64 (nlen (len (α := GMsg) (appL v2 [x6]))) 1) _ h9) <| zi (wadd .i64 v3 1) <| z0) (ih _ _ _ F)
  apply jr F
  exact lE <| zi (nl a1) <| zF h4 <| z0
def F77 (K : Nat) (a1 : List GMsg) : Option (List GMsg) :=
 (Gm K a1 K [] 0).bind fun w2 =>
 some w2
theorem QQ (K : Nat) (a1 : List GMsg) (r : List GMsg) (F : F77 K a1 = some r) : Evt E H 77 [.one (sE eGMsg a1)] (Uw r) := by
 rw [F77] at F
 apply jb F; intro w3 h2 F
 apply jr F
 exact fpC FN <| zo (Vz K a1 K [] 0 _ h2) <| z0
def C5 : Hint := { H 51 with nt := 68, prot := 0, kp := 0 }
def M7 : Code := loopOf E 51 0
def JH : Code := loopOf E 51 1
def VM (r1 : List GMsg × Int) : Res := ⟨[(.one (.own 78 (sE eGMsg r1.1))), (.one (mI r1.2))], []⟩
def EJ (K : Nat) (a1 : Int) (r2 : List GMsg) (v3 : List GMsg) (x4 : GMsg) : Nat → Int → Int → Option ((Int) ⊕ (Int × Int))
 | 0, _, _ => none
 | k + 1, v5, v6 =>
  bif (ilt v5 (nlen (len r2))) then
   (bif (inr v5 (len r2)) then
   (elAt r2 v5).bind fun x7 =>
   bif (ieq x7.To x4.To) then
    ((F74 K a1 v6 x7.V).bind fun r8 =>
    bif (ieq r8.2 0) then
     (EJ K a1 r2 v3 x4 k (wadd .i64 v5 1) r8.1)
    else
    some (.inl r8.2))
   else
   some (.inr (v5, v6))
   else none)
  else
  some (.inr (v5, v6))
def Mb (a1 : Int) (r2 : List GMsg) (v3 : List GMsg) (x4 : GMsg) (v5 : Int) (v6 : Int) : TS := .on (kq 0 2 <| kq 384 2 <| kq 448 2 <| kq 512 2 <| kq 576 3 <| []) <| sq 0 [u0, (uI a1)] <| sq 384 [u0, (uO 78 eGMsg r2)] <| sq 448 [u0, (uO 78 eGMsg v3)] <| sq 512 [u0, (uI v5)] <| sq 576 [(uX 78 2), (uI x4.To), (uI v6)] []
def OR (a1 : Int) (r2 : List GMsg) (v3 : List GMsg) (x4 : GMsg) (w5 : Int) : TS := .on (kq 256 2 <| kq 320 2 <| []) <| sq 256 [u0, (uN 78)] <| sq 320 [u0, (uI w5)] []
def RD (a1 : Int) (r2 : List GMsg) (v3 : List GMsg) (x4 : GMsg) (w5 : Int × Int) : TS := .on (kq 0 2 <| kq 384 2 <| kq 448 2 <| kq 512 2 <| kq 576 3 <| []) <| sq 0 [u0, (uI a1)] <| sq 384 [u0, (uO 78 eGMsg r2)] <| sq 448 [u0, (uO 78 eGMsg v3)] <| sq 512 [u0, (uI w5.1)] <| sq 576 [(uX 78 2), (uI x4.To), (uI w5.2)] []
theorem JQ (K : Nat) (a1 : Int) (r2 : List GMsg) (v3 : List GMsg) (x4 : GMsg) : ∀ (k : Nat) (v5 : Int) (v6 : Int) (r : (Int) ⊕ (Int × Int)), EJ K a1 r2 v3 x4 k v5 v6 = some r → (Sum.elim (fun w => LoopEv E H C5 2 JH (Mb a1 r2 v3 x4 v5 v6) .ret (OR a1 r2 v3 x4 w)) (fun w => LoopEv E H C5 2 JH (Mb a1 r2 v3 x4 v5 v6) (.exit 2) (RD a1 r2 v3 x4 w))) r := by
 intro k
 induction k with
 | zero => intro v5 v6 r F; cases F
 | succ k ih =>
  intro v5 v6 r F
  rw [EJ] at F
  apply jc F <;> intro h7 F
  apply jn F; intro h8 F
  apply jb F; intro x9 h10 F
  have q15 {l} (z : HA C5 l) := zi (nl r2) <| zC3 h7 <| zT h8 <| zC2 h7 <| zU eGMsg_len h10 0 1 <| DB h7 <| z
  apply jc F <;> intro h11 F
  apply jb F; intro r12 h13 F
  have q16 {l} (z : HA C5 l) := zT h11 <| zT h8 <| zU eGMsg_len h10 1 1 <| zl (FS K a1 v6 x9.V _ h13) <| z
  apply jc F <;> intro h14 F
  exact lN2 (q15 <| q16 <| zF (ine_t h14) <| zi (wadd .i64 v5 1) <| z0) (ih _ _ _ F)
  apply jr F
  exact lE <| q15 <| q16 <| zT (ine_f h14) <| z0
  apply jr F
  exact lE <| q15 <| zF h11 <| z0
  apply jr F
  exact lE <| zi (nl r2) <| zD6 h7 <| GZ h7 <| zf1 <| z0
def E8 (K : Nat) (a1 : Int) (r2 : List GMsg) : Nat → List GMsg → Int → Option ((Int) ⊕ (List GMsg))
 | 0, _, _ => none
 | k + 1, v3, v4 =>
  bif (ilt v4 (nlen (len r2))) then
   (bif (inr v4 (len r2)) then
   (elAt r2 v4).bind fun x5 =>
   (EJ K a1 r2 v3 x5 K (wadd .i64 v4 1) x5.V).bind fun y6 =>
   Sum.elim (fun w7 =>
    some (.inl w7))
    (fun w8 =>
    bif (apok (len v3) 1 16) then
    E8 K a1 r2 k (appL v3 [(GMsg.mk x5.To w8.2)]) w8.1
    else none) y6
   else none)
  else
  some (.inr v3)
def LY (a1 : Int) (r2 : List GMsg) (v3 : List GMsg) (v4 : Int) : TS := .on (kq 0 2 <| kq 384 2 <| kq 448 2 <| kq 512 2 <| []) <| sq 0 [u0, (uI a1)] <| sq 384 [u0, (uO 78 eGMsg r2)] <| sq 448 [u0, (uO 78 eGMsg v3)] <| sq 512 [u0, (uI v4)] []
def U6 (a1 : Int) (r2 : List GMsg) (w3 : Int) : TS := .on (kq 256 2 <| kq 320 2 <| []) <| sq 256 [u0, (uN 78)] <| sq 320 [u0, (uI w3)] []
def Nv (a1 : Int) (r2 : List GMsg) (w3 : List GMsg) : TS := .on (kq 448 2 <| []) <| sq 448 [u0, (uO 78 eGMsg w3)] []
theorem JW (K : Nat) (a1 : Int) (r2 : List GMsg) : ∀ (k : Nat) (v3 : List GMsg) (v4 : Int) (r : (Int) ⊕ (List GMsg)), E8 K a1 r2 k v3 v4 = some r → (Sum.elim (fun w => LoopEv E H C5 0 M7 (LY a1 r2 v3 v4) .ret (U6 a1 r2 w)) (fun w => LoopEv E H C5 0 M7 (LY a1 r2 v3 v4) (.exit 0) (Nv a1 r2 w))) r := by
 intro k
 induction k with
 | zero => intro v3 v4 r F; cases F
 | succ k ih =>
  intro v3 v4 r F
  rw [E8] at F
  apply jc F <;> intro h5 F
  apply jn F; intro h6 F
  apply jb F; intro x7 h8 F
  have q14 {l} (z : HA C5 l) := zi (nl r2) <| zT h5 <| zT h6 <| zS eGMsg_len h8 2 <| zi (wadd .i64 v4 1) <| z
  apply jb F; intro y10 h9 F
  refine js F (fun w11 hx F => ?_) fun w12 hx F => ?_
  subst hx
  apply jr F
  exact lE <| q14 <| zo (JQ K a1 r2 v3 x7 K (wadd .i64 v4 1) x7.V _ h9) <| z0
  subst hx
  apply jn F; intro h13 F
  exact lN2 (q14 <| zo (JQ K a1 r2 v3 x7 K (wadd .i64 v4 1) x7.V _ h9) <| zX (tt (leqm [(i6 x7.To), (i6 w12.2)] 1 2)) rfl <| zT h13 <| zV (app_ok (enc := eGMsg) (v3 : List GMsg) [(GMsg.mk x7.To w12.2)]) <| z0) (ih _ _ _ F)
  apply jr F
  exact lE <| zi (nl r2) <| zF h5 <| z0
def F51 (K : Nat) (a1 : Int) (a2 : List GMsg) : Option (List GMsg × Int) :=
 bif (ilt a1 1) then
  (some ([], 1))
 else
 bif (ilt 5 a1) then
  (some ([], 1))
 else
 (F77 K a2).bind fun r3 =>
 (E8 K a1 r3 K [] 0).bind fun y4 =>
 Sum.elim (fun w5 =>
  some ([], w5))
  (fun w6 =>
  some (w6, 0)) y4
theorem V0 (K : Nat) (a1 : Int) (a2 : List GMsg) (r : List GMsg × Int) (F : F51 K a1 a2 = some r) : Evt E H 51 [.one (i6 a1), .one (sE eGMsg a2)] (VM r) := by
 rw [F51] at F
 apply jc F <;> intro h3 F
 apply jr F
 exact fpC C5 <| Bm h3 <| zr1 <| z0
 have q11 {l} (z : HA C5 l) := Bs h3 <| z
 apply jc F <;> intro h4 F
 apply jr F
 exact fpC C5 <| q11 <| zT (igt_eq h4) <| z0
 apply jb F; intro r5 h6 F
 have q12 {l} (z : HA C5 l) := zF (igt_eq h4) <| zl (QQ K a2 _ h6) <| z
 apply jb F; intro y8 h7 F
 refine js F (fun w9 hx F => ?_) fun w10 hx F => ?_
 subst hx
 apply jr F
 exact fpC C5 <| q11 <| q12 <| zo (JW K a1 r5 K [] 0 _ h7) <| z0
 subst hx
 apply jr F
 exact fpC C5 <| q11 <| q12 <| zo (JW K a1 r5 K [] 0 _ h7) <| z0
def CB : Hint := { H 23 with nt := 117, prot := 0, kp := 0 }
def K4 : Code := loopOf E 23 0
def Vu (r1 : GState × Int) : Res := ⟨[(.agg [(mI r1.1.Step), (.own 2 (sE e6 r1.1.Vals)), (.own 4 (sE eBool r1.1.Rest)), (.own 78 (sE eGMsg r1.1.In))]), (.one (mI r1.2))], []⟩
def D2 (K : Nat) (a1 : GGraph) (a2 : GJob) (a3 : GState) : Nat → List Int → List Bool → List GMsg → Int → Option ((Int) ⊕ (List Int × List Bool × List GMsg))
 | 0, _, _, _, _ => none
 | k + 1, v4, v5, v6, v7 =>
  bif (ilt v7 a1.N) then
   ((F49 K a3.In v7).bind fun r8 =>
   bif (inr v7 (len a3.Vals)) then
   (elAt a3.Vals v7).bind fun x9 =>
   bif r8.2 then
    ((F50 K a1 a2 a3.Step v7 x9 r8.1 r8.2).bind fun r10 =>
    bif (ieq r10.E 0) then
     (bif (apok (len v4) 1 8) then
     bif (apok (len v5) 1 1) then
     bif (apok (len v6) (len r10.Out) 16) then
     D2 K a1 a2 a3 k (appL v4 [r10.Val]) (appL v5 [r10.Rest]) (appL v6 r10.Out) (wadd .i64 v7 1)
     else none
     else none
     else none)
    else
    some (.inl r10.E))
   else
   bif (inr v7 (len a3.Rest)) then
   (elAt a3.Rest v7).bind fun x11 =>
   bif x11 then
    (bif (apok (len v4) 1 8) then
    bif (apok (len v5) 1 1) then
    bif (apok (len v6) 0 16) then
    D2 K a1 a2 a3 k (appL v4 [x9]) (appL v5 [true]) (appL v6 []) (wadd .i64 v7 1)
    else none
    else none
    else none)
   else
   (F50 K a1 a2 a3.Step v7 x9 r8.1 r8.2).bind fun r12 =>
   bif (ieq r12.E 0) then
    (bif (apok (len v4) 1 8) then
    bif (apok (len v5) 1 1) then
    bif (apok (len v6) (len r12.Out) 16) then
    D2 K a1 a2 a3 k (appL v4 [r12.Val]) (appL v5 [r12.Rest]) (appL v6 r12.Out) (wadd .i64 v7 1)
    else none
    else none
    else none)
   else
   some (.inl r12.E)
   else none
   else none)
  else
  some (.inr (v4, (v5, v6)))
def Kd (a1 : GGraph) (a2 : GJob) (a3 : GState) (v4 : List Int) (v5 : List Bool) (v6 : List GMsg) (v7 : Int) : TS := .on (kq 192 3 <| kq 256 5 <| kq 320 5 <| kq 384 5 <| kq 576 5 <| kq 640 2 <| kq 704 2 <| []) <| b0 192 a1 <| b1 256 a2 <| b5 320 a3 <| b7 384 <| sq 576 [(uX 74 4), (uI (wadd .i64 a3.Step 1)), (uO 2 e6 v4), (uO 4 eBool v5), (uN 78)] <| sq 640 [u0, (uO 78 eGMsg v6)] <| sq 704 [u0, (uI v7)] []
def VJ (a1 : GGraph) (a2 : GJob) (a3 : GState) (w4 : Int) : TS := .on (kq 384 5 <| kq 448 2 <| []) <| b7 384 <| sq 448 [u0, (uI w4)] []
def VD (a1 : GGraph) (a2 : GJob) (a3 : GState) (w4 : List Int × List Bool × List GMsg) : TS := .on (kq 256 5 <| kq 384 5 <| kq 576 5 <| kq 640 2 <| []) <| b1 256 a2 <| b7 384 <| sq 576 [(uX 74 4), (uI (wadd .i64 a3.Step 1)), (uO 2 e6 w4.1), (uO 4 eBool w4.2.1), (uN 78)] <| sq 640 [u0, (uO 78 eGMsg w4.2.2)] []
theorem M3 (K : Nat) (a1 : GGraph) (a2 : GJob) (a3 : GState) : ∀ (k : Nat) (v4 : List Int) (v5 : List Bool) (v6 : List GMsg) (v7 : Int) (r : (Int) ⊕ (List Int × List Bool × List GMsg)), D2 K a1 a2 a3 k v4 v5 v6 v7 = some r → (Sum.elim (fun w => LoopEv E H CB 0 K4 (Kd a1 a2 a3 v4 v5 v6 v7) .ret (VJ a1 a2 a3 w)) (fun w => LoopEv E H CB 0 K4 (Kd a1 a2 a3 v4 v5 v6 v7) (.exit 0) (VD a1 a2 a3 w))) r := by
 intro k
 induction k with
 | zero => intro v4 v5 v6 v7 r F; cases F
 | succ k ih =>
  intro v4 v5 v6 v7 r F
  rw [D2] at F
  apply jc F <;> intro h8 F
  apply jb F; intro r9 h10 F
  apply jn F; intro h11 F
  apply jb F; intro x12 h13 F
  have q34 {l} (z : HA CB l) := zT h8 <| zl (O6 K a3.In v7 _ h10) <| zT h11 <| zX (.sub (flat e6 a3.Vals) (nidx v7 1) 1 [(i6 x12)]) ⟨rfl, sub_flat0 (eInt_len _) h13 1 (by decide)⟩ <| z
  apply jc F <;> intro h14 F
  apply jb F; intro r15 h16 F
  have q35 {l} (z : HA CB l) := E7 h14 <| zr1 <| zT h11 <| zX (.sub (flat e6 a3.Vals) (nidx v7 1) 1 [(i6 x12)]) ⟨rfl, sub_flat0 (eInt_len _) h13 1 (by decide)⟩ <| zl (LQ K a1 a2 a3.Step v7 x12 r9.1 r9.2 _ h16) <| z
  apply jc F <;> intro h17 F
  apply jn F; intro h18 F
  apply jn F; intro h19 F
  apply jn F; intro h20 F
  exact lN2 (q34 <| q35 <| zF (ine_t h17) <| zX (tt (leqm [(i6 r15.Val)] 1 1)) rfl <| zT h18 <| zV (app_ok (enc := e6) (v4 : List Int) [r15.Val]) <| zX (tt (leqm [(.lit (.bool r15.Rest))] 1 1)) rfl <| zT h19 <| zV (app_ok (enc := eBool) (v5 : List Bool) [r15.Rest]) <| zX (tt (leqm (flat eGMsg r15.Out) (len r15.Out) 2)) (leqm_flat eGMsg_len _) <| zT h20 <| zV (app_ok (enc := eGMsg) (v6 : List GMsg) r15.Out) <| zi (wadd .i64 v7 1) <| z0) (ih _ _ _ _ _ F)
  apply jr F
  exact lE <| q34 <| q35 <| zT (ine_f h17) <| z0
  apply jn F; intro h21 F
  apply jb F; intro x22 h23 F
  have q36 {l} (z : HA CB l) := zB4 h14 <| zT h21 <| zB1 h14 <| zS eBool_len h23 1 <| A0 h14 <| z
  apply jc F <;> intro h24 F
  apply jn F; intro h25 F
  apply jn F; intro h26 F
  apply jn F; intro h27 F
  exact lN2 (q34 <| q36 <| zF (bnot_t h24) <| zY (ff (ine 0 0)) <| zX (tt (leqm [(i6 x12)] 1 1)) rfl <| zT h25 <| zV (app_ok (enc := e6) (v4 : List Int) [x12]) <| zX (tt (leqm [(.lit (.bool true))] 1 1)) rfl <| zT h26 <| zV (app_ok (enc := eBool) (v5 : List Bool) [true]) <| zX (tt (leqm [] 0 2)) rfl <| zT h27 <| zV (app_ok (enc := eGMsg) (v6 : List GMsg) []) <| zi (wadd .i64 v7 1) <| z0) (ih _ _ _ _ _ F)
  apply jb F; intro r28 h29 F
  have q37 {l} (z : HA CB l) := zT (bnot_f h24) <| zT h11 <| zX (.sub (flat e6 a3.Vals) (nidx v7 1) 1 [(i6 x12)]) ⟨rfl, sub_flat0 (eInt_len _) h13 1 (by decide)⟩ <| zl (LQ K a1 a2 a3.Step v7 x12 r9.1 r9.2 _ h29) <| z
  apply jc F <;> intro h30 F
  apply jn F; intro h31 F
  apply jn F; intro h32 F
  apply jn F; intro h33 F
  exact lN2 (q34 <| q36 <| q37 <| zF (ine_t h30) <| zX (tt (leqm [(i6 r28.Val)] 1 1)) rfl <| zT h31 <| zV (app_ok (enc := e6) (v4 : List Int) [r28.Val]) <| zX (tt (leqm [(.lit (.bool r28.Rest))] 1 1)) rfl <| zT h32 <| zV (app_ok (enc := eBool) (v5 : List Bool) [r28.Rest]) <| zX (tt (leqm (flat eGMsg r28.Out) (len r28.Out) 2)) (leqm_flat eGMsg_len _) <| zT h33 <| zV (app_ok (enc := eGMsg) (v6 : List GMsg) r28.Out) <| zi (wadd .i64 v7 1) <| z0) (ih _ _ _ _ _ F)
  apply jr F
  exact lE <| q34 <| q36 <| q37 <| zT (ine_f h30) <| z0
  apply jr F
  exact lE <| zF h8 <| z0
def F23 (K : Nat) (a1 : GGraph) (a2 : GJob) (a3 : GState) : Option (GState × Int) :=
 (F19 K a1 a2).bind fun r4 =>
 bif (ieq r4 0) then
  ((F20 K a1 a2 a3).bind fun r5 =>
  bif r5 then
   (bif (ieq a3.Step 40) then
    (some ((GState.mk 0 [] [] []), 6))
   else
   (D2 K a1 a2 a3 K [] [] [] 0).bind fun y6 =>
   Sum.elim (fun w7 =>
    some ((GState.mk 0 [] [] []), w7))
    (fun w8 =>
    (F51 K a2.Prog w8.2.2).bind fun r9 =>
    bif (ieq r9.2 0) then
     (some ((GState.mk (wadd .i64 a3.Step 1) w8.1 w8.2.1 r9.1), 0))
    else
    some ((GState.mk 0 [] [] []), r9.2)) y6)
  else
  some ((GState.mk 0 [] [] []), 1))
 else
 some ((GState.mk 0 [] [] []), r4)
theorem N9 (K : Nat) (a1 : GGraph) (a2 : GJob) (a3 : GState) (r : GState × Int) (F : F23 K a1 a2 a3 = some r) : Evt E H 23 [.agg (eGGraph a1), .agg (eGJob a2), .agg (eGState a3)] (Vu r) := by
 rw [F23] at F
 apply jb F; intro r4 h5 F
 apply jc F <;> intro h6 F
 apply jb F; intro r7 h8 F
 have q18 {l} (z : HA CB l) := zl (CY K a1 a2 _ h5) <| zF (ine_t h6) <| zl (Jb K a1 a2 a3 _ h8) <| z
 apply jc F <;> intro h9 F
 apply jc F <;> intro h10 F
 apply jr F
 exact fpC CB <| q18 <| zF (bnot_t h9) <| zT h10 <| z0
 have q19 {l} (z : HA CB l) := zF (bnot_t h9) <| zF h10 <| zi (wadd .i64 a3.Step 1) <| z
 apply jb F; intro y12 h11 F
 refine js F (fun w13 hx F => ?_) fun w14 hx F => ?_
 subst hx
 apply jr F
 exact fpC CB <| q18 <| q19 <| zo (M3 K a1 a2 a3 K [] [] [] 0 _ h11) <| z0
 subst hx
 apply jb F; intro r15 h16 F
 have q20 {l} (z : HA CB l) := zo (M3 K a1 a2 a3 K [] [] [] 0 _ h11) <| zl (V0 K a2.Prog w14.2.2 _ h16) <| z
 apply jc F <;> intro h17 F
 apply jr F
 exact fpC CB <| q18 <| q19 <| q20 <| zF (ine_t h17) <| z0
 apply jr F
 exact fpC CB <| q18 <| q19 <| q20 <| zT (ine_f h17) <| z0
 apply jr F
 exact fpC CB <| q18 <| zT (bnot_f h9) <| z0
 apply jr F
 exact fpC CB <| zl (CY K a1 a2 _ h5) <| zT (ine_f h6) <| z0
def CR : Hint := { H 24 with nt := 133, prot := 0, kp := 0 }
def Nj : Code := loopOf E 24 0
def SR : Code := loopOf E 24 1
def SP : Code := loopOf E 24 2
def Pr (r1 : GState × Int) : Res := ⟨[(.agg [(mI r1.1.Step), (.own 2 (sE e6 r1.1.Vals)), (.own 4 (sE eBool r1.1.Rest)), (.own 78 (sE eGMsg r1.1.In))]), (.one (mI r1.2))], []⟩
def Gq (K : Nat) (a1 : GGraph) (a2 : GJob) (a3 : List GPart) : Nat → Int → Option ((Unit) ⊕ (Unit))
 | 0, _ => none
 | k + 1, v4 =>
  bif (ilt v4 (nlen (len a3))) then
   (bif (inr v4 (len a3)) then
   (elAt a3 v4).bind fun x5 =>
   bif (ieq x5.P v4) then
    (bif (inr 0 (len a3)) then
    (elAt a3 0).bind fun x6 =>
    bif (ieq x5.Step x6.Step) then
     ((F17 K a1 a2 x5).bind fun r7 =>
     bif r7 then
      (Gq K a1 a2 a3 k (wadd .i64 v4 1))
     else
     some (.inl ()))
    else
    some (.inl ())
    else none)
   else
   some (.inl ())
   else none)
  else
  some (.inr ())
def Mk (a1 : GGraph) (a2 : GJob) (a3 : List GPart) (v4 : Int) : TS := .on (kq 128 2 <| kq 192 3 <| kq 256 5 <| kq 384 5 <| kq 576 2 <| []) <| sq 128 [u0, (uS eGPart a3)] <| b0 192 a1 <| b1 256 a2 <| b7 384 <| sq 576 [u0, (uI v4)] []
def Q8 (a1 : GGraph) (a2 : GJob) (a3 : List GPart) (w4 : Unit) : TS := .on (kq 384 5 <| kq 448 2 <| []) <| b7 384 <| sq 448 [u0, (uI 1)] []
def NP (a1 : GGraph) (a2 : GJob) (a3 : List GPart) (w4 : Unit) : TS := .on (kq 128 2 <| kq 192 3 <| kq 256 5 <| kq 384 5 <| []) <| sq 128 [u0, (uS eGPart a3)] <| b0 192 a1 <| b1 256 a2 <| b7 384 []
theorem LH (K : Nat) (a1 : GGraph) (a2 : GJob) (a3 : List GPart) : ∀ (k : Nat) (v4 : Int) (r : (Unit) ⊕ (Unit)), Gq K a1 a2 a3 k v4 = some r → (Sum.elim (fun w => LoopEv E H CR 0 Nj (Mk a1 a2 a3 v4) .ret (Q8 a1 a2 a3 w)) (fun w => LoopEv E H CR 0 Nj (Mk a1 a2 a3 v4) (.exit 0) (NP a1 a2 a3 w))) r := by
 intro k
 induction k with
 | zero => intro v4 r F; cases F
 | succ k ih =>
  intro v4 r F
  rw [Gq] at F
  apply jc F <;> intro h5 F
  apply jn F; intro h6 F
  apply jb F; intro x7 h8 F
  have q17 {l} (z : HA CR l) := zi (nl a3) <| zT h5 <| zT h6 <| zU eGPart_len h8 0 1 <| z
  apply jc F <;> intro h9 F
  apply jn F; intro h10 F
  apply jb F; intro x11 h12 F
  have q18 {l} (z : HA CR l) := zB3 (ine_t h9) <| zT h6 <| zB2 (ine_t h9) <| zU eGPart_len h8 1 1 <| zB2 (ine_t h9) <| zT h10 <| zB2 (ine_t h9) <| zU eGPart_len h12 1 1 <| A0 (ine_t h9) <| z
  apply jc F <;> intro h13 F
  apply jb F; intro r14 h15 F
  have q19 {l} (z : HA CR l) := zB5 (ine_t h13) <| zT h6 <| zB1 (ine_t h13) <| zS eGPart_len h8 5 <| zB1 (ine_t h13) <| zl (Q4 K a1 a2 x7 _ h15) <| A0 (ine_t h13) <| z
  apply jc F <;> intro h16 F
  exact lN2 (q17 <| q18 <| q19 <| zF (bnot_t h16) <| zi (wadd .i64 v4 1) <| z0) (ih _ _ F)
  apply jr F
  exact lE <| q17 <| q18 <| q19 <| zT (bnot_f h16) <| z0
  apply jr F
  exact lE <| q17 <| q18 <| zA6 (ine_f h13) <| Bm (ine_f h13) <| zr1 <| z0
  apply jr F
  exact lE <| q17 <| zA6 (ine_f h9) <| Bx (ine_f h9) <| zt6 <| zt2 <| zr2 <| z0
  apply jr F
  exact lE <| zi (nl a3) <| zF h5 <| z0
def D8 (K : Nat) (a1 : GGraph) (a2 : GJob) (a3 : List GPart) (x4 : GPart) (v5 : List Int) (v6 : List Bool) (v7 : Int) (x8 : GPart) (x9 : Int) (x10 : Bool) : Nat → List GMsg → Int → Option (List GMsg)
 | 0, _, _ => none
 | k + 1, v11, v12 =>
  bif (ilt v12 (nlen (len x8.In))) then
   (bif (inr v12 (len x8.In)) then
   (elAt x8.In v12).bind fun x13 =>
   bif (ieq x13.To v7) then
    (bif (apok (len v11) 1 16) then
    D8 K a1 a2 a3 x4 v5 v6 v7 x8 x9 x10 k (appL v11 [x13]) (wadd .i64 v12 1)
    else none)
   else
   D8 K a1 a2 a3 x4 v5 v6 v7 x8 x9 x10 k v11 (wadd .i64 v12 1)
   else none)
  else
  some v11
def T0 (a1 : GGraph) (a2 : GJob) (a3 : List GPart) (x4 : GPart) (v5 : List Int) (v6 : List Bool) (v7 : Int) (x8 : GPart) (x9 : Int) (x10 : Bool) (v11 : List GMsg) (v12 : Int) : TS := .on (kq 128 2 <| kq 192 3 <| kq 256 5 <| kq 384 5 <| kq 640 5 <| kq 704 2 <| kq 768 6 <| kq 832 2 <| []) <| sq 128 [u0, (uS eGPart a3)] <| b0 192 a1 <| b1 256 a2 <| b7 384 <| sq 640 [(uX 74 4), (uI x4.Step), (uO 2 e6 (appL v5 [x9])), (uO 4 eBool (appL v6 [x10])), (uO 78 eGMsg v11)] <| sq 704 [u0, (uI v7)] <| b8 768 x8 <| sq 832 [u0, (uI v12)] []
def Rz (a1 : GGraph) (a2 : GJob) (a3 : List GPart) (x4 : GPart) (v5 : List Int) (v6 : List Bool) (v7 : Int) (x8 : GPart) (x9 : Int) (x10 : Bool) (w11 : List GMsg) : TS := .on (kq 128 2 <| kq 192 3 <| kq 256 5 <| kq 384 5 <| kq 640 5 <| kq 704 2 <| []) <| sq 128 [u0, (uS eGPart a3)] <| b0 192 a1 <| b1 256 a2 <| b7 384 <| sq 640 [(uX 74 4), (uI x4.Step), (uO 2 e6 (appL v5 [x9])), (uO 4 eBool (appL v6 [x10])), (uO 78 eGMsg w11)] <| sq 704 [u0, (uI v7)] []
theorem RZ (K : Nat) (a1 : GGraph) (a2 : GJob) (a3 : List GPart) (x4 : GPart) (v5 : List Int) (v6 : List Bool) (v7 : Int) (x8 : GPart) (x9 : Int) (x10 : Bool) : ∀ (k : Nat) (v11 : List GMsg) (v12 : Int) (r : List GMsg), D8 K a1 a2 a3 x4 v5 v6 v7 x8 x9 x10 k v11 v12 = some r → LoopEv E H CR 4 SP (T0 a1 a2 a3 x4 v5 v6 v7 x8 x9 x10 v11 v12) (.exit 4) (Rz a1 a2 a3 x4 v5 v6 v7 x8 x9 x10 r) := by
 intro k
 induction k with
 | zero => intro v11 v12 r F; cases F
 | succ k ih =>
  intro v11 v12 r F
  rw [D8] at F
  apply jc F <;> intro h13 F
  apply jn F; intro h14 F
  apply jb F; intro x15 h16 F
  have q19 {l} (z : HA CR l) := zi (nl x8.In) <| zT h13 <| zT h14 <| zU eGMsg_len h16 0 1 <| z
  apply jc F <;> intro h17 F
  apply jn F; intro h18 F
  exact lN1 (q19 <| zT h17 <| zT h14 <| zS eGMsg_len h16 2 <| zX (tt (leqm [(i6 x15.To), (i6 x15.V)] 1 2)) rfl <| zT h18 <| zV (app_ok (enc := eGMsg) (v11 : List GMsg) [x15]) <| zi (wadd .i64 v12 1) <| z0) (ih _ _ _ F)
  exact lN1 (q19 <| zF h17 <| zi (wadd .i64 v12 1) <| z0) (ih _ _ _ F)
  apply jr F
  exact lE <| zi (nl x8.In) <| zF h13 <| z0
def FJ (K : Nat) (a1 : GGraph) (a2 : GJob) (a3 : List GPart) (x4 : GPart) : Nat → List Int → List Bool → List GMsg → Int → Option (List Int × List Bool × List GMsg)
 | 0, _, _, _, _ => none
 | k + 1, v5, v6, v7, v8 =>
  bif (ilt v8 a1.N) then
   (bif (izero a2.Parts) then none else
   bif (inr (wrem v8 a2.Parts) (len a3)) then
   (elAt a3 (wrem v8 a2.Parts)).bind fun x9 =>
   bif (inr (wquo .i64 v8 a2.Parts) (len x9.Vals)) then
   (elAt x9.Vals (wquo .i64 v8 a2.Parts)).bind fun x10 =>
   bif (apok (len v5) 1 8) then
   bif (inr (wquo .i64 v8 a2.Parts) (len x9.Rest)) then
   (elAt x9.Rest (wquo .i64 v8 a2.Parts)).bind fun x11 =>
   bif (apok (len v6) 1 1) then
   (D8 K a1 a2 a3 x4 v5 v6 v8 x9 x10 x11 K v7 0).bind fun w12 =>
   FJ K a1 a2 a3 x4 k (appL v5 [x10]) (appL v6 [x11]) w12 (wadd .i64 v8 1)
   else none
   else none
   else none
   else none
   else none)
  else
  some (v5, (v6, v7))
def Ra (a1 : GGraph) (a2 : GJob) (a3 : List GPart) (x4 : GPart) (v5 : List Int) (v6 : List Bool) (v7 : List GMsg) (v8 : Int) : TS := .on (kq 128 2 <| kq 192 3 <| kq 256 5 <| kq 384 5 <| kq 640 5 <| kq 704 2 <| []) <| sq 128 [u0, (uS eGPart a3)] <| b0 192 a1 <| b1 256 a2 <| b7 384 <| sq 640 [(uX 74 4), (uI x4.Step), (uO 2 e6 v5), (uO 4 eBool v6), (uO 78 eGMsg v7)] <| sq 704 [u0, (uI v8)] []
def TN (a1 : GGraph) (a2 : GJob) (a3 : List GPart) (x4 : GPart) (w5 : List Int × List Bool × List GMsg) : TS := .on (kq 384 5 <| kq 640 5 <| []) <| b7 384 <| sq 640 [(uX 74 4), (uI x4.Step), (uO 2 e6 w5.1), (uO 4 eBool w5.2.1), (uO 78 eGMsg w5.2.2)] []
theorem OD (K : Nat) (a1 : GGraph) (a2 : GJob) (a3 : List GPart) (x4 : GPart) : ∀ (k : Nat) (v5 : List Int) (v6 : List Bool) (v7 : List GMsg) (v8 : Int) (r : List Int × List Bool × List GMsg), FJ K a1 a2 a3 x4 k v5 v6 v7 v8 = some r → LoopEv E H CR 2 SR (Ra a1 a2 a3 x4 v5 v6 v7 v8) (.exit 2) (TN a1 a2 a3 x4 r) := by
 intro k
 induction k with
 | zero => intro v5 v6 v7 v8 r F; cases F
 | succ k ih =>
  intro v5 v6 v7 v8 r F
  rw [FJ] at F
  apply jc F <;> intro h9 F
  refine cond_some F (fun _ F => nomatch F) (fun h10 F => ?_)
  apply jn F; intro h11 F
  apply jb F; intro x12 h13 F
  apply jn F; intro h14 F
  apply jb F; intro x15 h16 F
  apply jn F; intro h17 F
  apply jn F; intro h18 F
  apply jb F; intro x19 h20 F
  apply jn F; intro h21 F
  apply jb F; intro w23 h22 F
  exact lN1 (zT h9 <| zF h10 <| zi (wrem v8 a2.Parts) <| zT h11 <| zS eGPart_len h13 5 <| zF h10 <| zi (wquo .i64 v8 a2.Parts) <| zT h14 <| zX (.sub (flat e6 x12.Vals) (nidx (wquo .i64 v8 a2.Parts) 1) 1 [(i6 x15)]) ⟨rfl, sub_flat0 (eInt_len _) h16 1 (by decide)⟩ <| zX (tt (leqm [(i6 x15)] 1 1)) rfl <| zT h17 <| zV (app_ok (enc := e6) (v5 : List Int) [x15]) <| zF h10 <| zi (wquo .i64 v8 a2.Parts) <| zT h18 <| zS eBool_len h20 1 <| zX (tt (leqm [(.lit (.bool x19))] 1 1)) rfl <| zT h21 <| zV (app_ok (enc := eBool) (v6 : List Bool) [x19]) <| zo (RZ K a1 a2 a3 x4 v5 v6 v8 x12 x15 x19 K v7 0 _ h22) <| zi (wadd .i64 v8 1) <| z0) (ih _ _ _ _ _ F)
  apply jr F
  exact lE <| zF h9 <| z0
def F24 (K : Nat) (a1 : GGraph) (a2 : GJob) (a3 : List GPart) : Option (GState × Int) :=
 (F19 K a1 a2).bind fun r4 =>
 bif (ieq r4 0) then
  (bif (ieq (nlen (len a3)) a2.Parts) then
   ((Gq K a1 a2 a3 K 0).bind fun y5 =>
   Sum.elim (fun w6 =>
    some ((GState.mk 0 [] [] []), 1))
    (fun w7 =>
    bif (inr 0 (len a3)) then
    (elAt a3 0).bind fun x8 =>
    (FJ K a1 a2 a3 x8 K [] [] [] 0).bind fun w9 =>
    some ((GState.mk x8.Step w9.1 w9.2.1 w9.2.2), 0)
    else none) y5)
  else
  some ((GState.mk 0 [] [] []), 1))
 else
 some ((GState.mk 0 [] [] []), r4)
theorem Ru (K : Nat) (a1 : GGraph) (a2 : GJob) (a3 : List GPart) (r : GState × Int) (F : F24 K a1 a2 a3 = some r) : Evt E H 24 [.agg (eGGraph a1), .agg (eGJob a2), .one (sE eGPart a3)] (Pr r) := by
 rw [F24] at F
 apply jb F; intro r4 h5 F
 apply jc F <;> intro h6 F
 have q17 {l} (z : HA CR l) := zl (CY K a1 a2 _ h5) <| zF (ine_t h6) <| zi (nl a3) <| z
 apply jc F <;> intro h7 F
 apply jb F; intro y9 h8 F
 refine js F (fun w10 hx F => ?_) fun w11 hx F => ?_
 subst hx
 apply jr F
 exact fpC CR <| q17 <| zF (ine_t h7) <| zo (LH K a1 a2 a3 K 0 _ h8) <| z0
 subst hx
 apply jn F; intro h12 F
 apply jb F; intro x13 h14 F
 apply jb F; intro w16 h15 F
 apply jr F
 exact fpC CR <| q17 <| zF (ine_t h7) <| zo (LH K a1 a2 a3 K 0 _ h8) <| zT h12 <| zU eGPart_len h14 1 1 <| zo (OD K a1 a2 a3 x13 K [] [] [] 0 _ h15) <| z0
 apply jr F
 exact fpC CR <| q17 <| zT (ine_f h7) <| z0
 apply jr F
 exact fpC CR <| zl (CY K a1 a2 _ h5) <| zT (ine_f h6) <| z0
def FM : Hint := { H 25 with nt := 31, prot := 0, kp := 0 }
def Sx (r1 : Bool) : Res := ⟨[(.one (mB r1))], []⟩
def F25 (K : Nat) (a1 : GState) (a2 : GState) : Option (Bool) :=
 bif (ieq a1.Step a2.Step) then
  ((F52 K a1.Vals a2.Vals).bind fun r3 =>
  bif r3 then
   ((F53 K a1.Rest a2.Rest).bind fun r4 =>
   bif r4 then
    ((F37 K a1.In a2.In).bind fun r5 =>
    some r5)
   else
   some false)
  else
  some false)
 else
 some false
theorem Tt (K : Nat) (a1 : GState) (a2 : GState) (r : Bool) (F : F25 K a1 a2 = some r) : Evt E H 25 [.agg (eGState a1), .agg (eGState a2)] (Sx r) := by
 rw [F25] at F
 apply jc F <;> intro h3 F
 apply jb F; intro r4 h5 F
 have q12 {l} (z : HA FM l) := zC5 h3 <| zl (Rk K a1.Vals a2.Vals _ h5) <| zT h3 <| z
 apply jc F <;> intro h6 F
 apply jb F; intro r7 h8 F
 have q13 {l} (z : HA FM l) := zC5 h6 <| zl (S4 K a1.Rest a2.Rest _ h8) <| zT h6 <| z
 apply jc F <;> intro h9 F
 apply jb F; intro r10 h11 F
 apply jr F
 exact fpC FM <| q12 <| q13 <| zC5 h9 <| zl (Qf K a1.In a2.In _ h11) <| zT h9 <| z0
 apply jr F
 exact fpC FM <| q12 <| q13 <| AJ h9 <| z0
 apply jr F
 exact fpC FM <| q12 <| AJ h6 <| zk5 <| zf1 <| z0
 apply jr F
 exact fpC FM <| AJ h3 <| zk5 <| zf1 <| zk5 <| zf1 <| z0
def Lp : Hint := { H 78 with nt := 9, prot := 0, kp := 0 }
def Vr (r1 : Bool) : Res := ⟨[(.one (mB r1))], []⟩
def F78 (K : Nat) (a1 : Int) : Option (Bool) :=
 bif (ile 0 a1) then
  (some (ile a1 1099511627776))
 else
 some false
theorem Jv (K : Nat) (a1 : Int) (r : Bool) (F : F78 K a1 = some r) : Evt E H 78 [.one (i6 a1)] (Vr r) := by
 rw [F78] at F
 apply jc F <;> intro h2 F
 apply jr F
 exact fpC Lp <| Hm (ige_eq h2) <| z0
 apply jr F
 exact fpC Lp <| GZ (ige_eq h2) <| z0
def GE : Hint := { H 54 with nt := 22, prot := 0, kp := 0 }
def LX : Code := loopOf E 54 0
def Ps (r1 : Bool) : Res := ⟨[(.one (mB r1))], []⟩
def HR (K : Nat) (a1 : List Int) (a2 : Int) : Nat → Int → Option ((Unit) ⊕ (Unit))
 | 0, _ => none
 | k + 1, v3 =>
  bif (ilt v3 (nlen (len a1))) then
   (bif (inr v3 (len a1)) then
   (elAt a1 v3).bind fun x4 =>
   (F78 K x4).bind fun r5 =>
   bif r5 then
    (HR K a1 a2 k (wadd .i64 v3 1))
   else
   some (.inl ())
   else none)
  else
  some (.inr ())
def K6 (a1 : List Int) (a2 : Int) (v3 : Int) : TS := .on (kq 0 2 <| kq 64 2 <| kq 320 2 <| []) <| sq 0 [u0, (uS e6 a1)] <| sq 64 [u0, (uI a2)] <| sq 320 [u0, (uI v3)] []
def V5 (a1 : List Int) (a2 : Int) (w3 : Unit) : TS := .on (kq 256 2 <| []) <| sq 256 [u0, (uB false)] []
def OT (a1 : List Int) (a2 : Int) (w3 : Unit) : TS := .on (kq 0 2 <| kq 64 2 <| []) <| sq 0 [u0, (uS e6 a1)] <| sq 64 [u0, (uI a2)] []
theorem MK (K : Nat) (a1 : List Int) (a2 : Int) : ∀ (k : Nat) (v3 : Int) (r : (Unit) ⊕ (Unit)), HR K a1 a2 k v3 = some r → (Sum.elim (fun w => LoopEv E H GE 0 LX (K6 a1 a2 v3) .ret (V5 a1 a2 w)) (fun w => LoopEv E H GE 0 LX (K6 a1 a2 v3) (.exit 0) (OT a1 a2 w))) r := by
 intro k
 induction k with
 | zero => intro v3 r F; cases F
 | succ k ih =>
  intro v3 r F
  rw [HR] at F
  apply jc F <;> intro h4 F
  apply jn F; intro h5 F
  apply jb F; intro x6 h7 F
  apply jb F; intro r8 h9 F
  have q11 {l} (z : HA GE l) := zi (nl a1) <| zT h4 <| zT h5 <| zX (.sub (flat e6 a1) (nidx v3 1) 1 [(i6 x6)]) ⟨rfl, sub_flat0 (eInt_len _) h7 1 (by decide)⟩ <| zl (Jv K x6 _ h9) <| z
  apply jc F <;> intro h10 F
  exact lN2 (q11 <| zF (bnot_t h10) <| zi (wadd .i64 v3 1) <| z0) (ih _ _ F)
  apply jr F
  exact lE <| q11 <| zT (bnot_f h10) <| z0
  apply jr F
  exact lE <| zi (nl a1) <| zF h4 <| z0
def F54 (K : Nat) (a1 : List Int) (a2 : Int) : Option (Bool) :=
 (HR K a1 a2 K 0).bind fun y3 =>
 Sum.elim (fun w4 =>
  some false)
  (fun w5 =>
  some (ile (nlen (len a1)) a2)) y3
theorem Hs (K : Nat) (a1 : List Int) (a2 : Int) (r : Bool) (F : F54 K a1 a2 = some r) : Evt E H 54 [.one (sE e6 a1), .one (i6 a2)] (Ps r) := by
 rw [F54] at F
 apply jb F; intro y4 h3 F
 refine js F (fun w5 hx F => ?_) fun w6 hx F => ?_
 subst hx
 apply jr F
 exact fpC GE <| zo (MK K a1 a2 K 0 _ h3) <| z0
 subst hx
 apply jr F
 exact fpC GE <| zo (MK K a1 a2 K 0 _ h3) <| zi (nl a1) <| z0
def GH : Hint := { H 55 with nt := 20, prot := 0, kp := 0 }
def KU : Code := loopOf E 55 0
def O9 (r1 : Bool) : Res := ⟨[(.one (mB r1))], []⟩
def H7 (K : Nat) (a1 : List GMsg) : Nat → Int → Option ((Unit) ⊕ (Unit))
 | 0, _ => none
 | k + 1, v2 =>
  bif (ilt v2 (nlen (len a1))) then
   (bif (inr v2 (len a1)) then
   (elAt a1 v2).bind fun x3 =>
   (F78 K x3.To).bind fun r4 =>
   bif r4 then
    (H7 K a1 k (wadd .i64 v2 1))
   else
   some (.inl ())
   else none)
  else
  some (.inr ())
def Mf (a1 : List GMsg) (v2 : Int) : TS := .on (kq 0 2 <| kq 192 2 <| []) <| sq 0 [u0, (uS eGMsg a1)] <| sq 192 [u0, (uI v2)] []
def VZ (a1 : List GMsg) (w2 : Unit) : TS := .on (kq 128 2 <| []) <| sq 128 [u0, (uB false)] []
def RX (a1 : List GMsg) (w2 : Unit) : TS := .on (kq 0 2 <| []) <| sq 0 [u0, (uS eGMsg a1)] []
theorem KF (K : Nat) (a1 : List GMsg) : ∀ (k : Nat) (v2 : Int) (r : (Unit) ⊕ (Unit)), H7 K a1 k v2 = some r → (Sum.elim (fun w => LoopEv E H GH 0 KU (Mf a1 v2) .ret (VZ a1 w)) (fun w => LoopEv E H GH 0 KU (Mf a1 v2) (.exit 0) (RX a1 w))) r := by
 intro k
 induction k with
 | zero => intro v2 r F; cases F
 | succ k ih =>
  intro v2 r F
  rw [H7] at F
  apply jc F <;> intro h3 F
  apply jn F; intro h4 F
  apply jb F; intro x5 h6 F
  apply jb F; intro r7 h8 F
  have q10 {l} (z : HA GH l) := zi (nl a1) <| zT h3 <| zT h4 <| zU eGMsg_len h6 0 1 <| zl (Jv K x5.To _ h8) <| z
  apply jc F <;> intro h9 F
  exact lN2 (q10 <| zF (bnot_t h9) <| zi (wadd .i64 v2 1) <| z0) (ih _ _ F)
  apply jr F
  exact lE <| q10 <| zT (bnot_f h9) <| z0
  apply jr F
  exact lE <| zi (nl a1) <| zF h3 <| z0
def F55 (K : Nat) (a1 : List GMsg) : Option (Bool) :=
 (H7 K a1 K 0).bind fun y2 =>
 Sum.elim (fun w3 =>
  some false)
  (fun w4 =>
  some (ile (nlen (len a1)) 24)) y2
theorem Np (K : Nat) (a1 : List GMsg) (r : Bool) (F : F55 K a1 = some r) : Evt E H 55 [.one (sE eGMsg a1)] (O9 r) := by
 rw [F55] at F
 apply jb F; intro y3 h2 F
 refine js F (fun w4 hx F => ?_) fun w5 hx F => ?_
 subst hx
 apply jr F
 exact fpC GH <| zo (KF K a1 K 0 _ h2) <| z0
 subst hx
 apply jr F
 exact fpC GH <| zo (KF K a1 K 0 _ h2) <| zi (nl a1) <| z0
def Bq : Hint := { H 26 with nt := 88, prot := 0, kp := 0 }
def RF (r1 : Bool) : Res := ⟨[(.one (mB r1))], []⟩
def F26 (K : Nat) (a1 : GMail) : Option (Bool) :=
 bif (ilt a1.Kind 1) then
  (some false)
 else
 bif (ilt 11 a1.Kind) then
  (some false)
 else
 (F54 K [a1.Epoch, a1.Fresh, a1.Step, a1.P, a1.Q, a1.To, a1.E, a1.X.P, a1.X.Step] 9).bind fun r2 =>
 bif r2 then
  ((F54 K a1.Owners 6).bind fun r3 =>
  bif r3 then
   ((F54 K a1.Ids 5).bind fun r4 =>
   bif r4 then
    ((F54 K a1.Incs 5).bind fun r5 =>
    bif r5 then
     (bif (ieq (nlen (len a1.Ids)) (nlen (len a1.Incs))) then
      (bif (ile (nlen (len a1.X.Vals)) 24) then
       (bif (ieq (nlen (len a1.X.Rest)) (nlen (len a1.X.Vals))) then
        ((F55 K a1.X.In).bind fun r6 =>
        bif r6 then
         ((F55 K a1.Msgs).bind fun r7 =>
         some r7)
        else
        some false)
       else
       some false)
      else
      some false)
     else
     some false)
    else
    some false)
   else
   some false)
  else
  some false)
 else
 some false
theorem Wg (K : Nat) (a1 : GMail) (r : Bool) (F : F26 K a1 = some r) : Evt E H 26 [.agg (eGMail a1)] (RF r) := by
 rw [F26] at F
 apply jc F <;> intro h2 F
 apply jr F
 exact fpC Bq <| Ah h2 <| zt6 <| zt6 <| zt6 <| zt5 <| zr2 <| z0
 have q24 {l} (z : HA Bq l) := Ai h2 <| z
 apply jc F <;> intro h3 F
 apply jr F
 exact fpC Bq <| q24 <| zA6 (igt_eq h3) <| zA6 (igt_eq h3) <| zA6 (igt_eq h3) <| Bv (igt_eq h3) <| zr1 <| z0
 apply jb F; intro r4 h5 F
 have q25 {l} (z : HA Bq l) := zB6 (igt_eq h3) <| zB6 (igt_eq h3) <| zB6 (igt_eq h3) <| zB4 (igt_eq h3) <| zl (Hs K [a1.Epoch, a1.Fresh, a1.Step, a1.P, a1.Q, a1.To, a1.E, a1.X.P, a1.X.Step] 9 _ h5) <| A0 (igt_eq h3) <| z
 apply jc F <;> intro h6 F
 apply jb F; intro r7 h8 F
 have q26 {l} (z : HA Bq l) := zF (bnot_t h6) <| zl (Hs K a1.Owners 6 _ h8) <| z
 apply jc F <;> intro h9 F
 apply jb F; intro r10 h11 F
 have q27 {l} (z : HA Bq l) := zB3 (bnot_t h9) <| zl (Hs K a1.Ids 5 _ h11) <| A0 (bnot_t h9) <| z
 apply jc F <;> intro h12 F
 apply jb F; intro r13 h14 F
 have q28 {l} (z : HA Bq l) := zB3 (bnot_t h12) <| zl (Hs K a1.Incs 5 _ h14) <| A0 (bnot_t h12) <| z
 apply jc F <;> intro h15 F
 have q29 {l} (z : HA Bq l) := zB3 (bnot_t h15) <| zi (nl a1.Ids) <| zB3 (bnot_t h15) <| zi (nl a1.Incs) <| A0 (bnot_t h15) <| z
 apply jc F <;> intro h16 F
 apply jc F <;> intro h17 F
 have q30 {l} (z : HA Bq l) := zF (ine_t h16) <| zi (nl a1.X.Vals) <| zC4 h17 <| zi (nl a1.X.Rest) <| zC4 h17 <| zi (nl a1.X.Vals) <| Cy h17 <| z
 apply jc F <;> intro h18 F
 apply jb F; intro r19 h20 F
 have q31 {l} (z : HA Bq l) := zC4 h18 <| zl (Np K a1.X.In _ h20) <| zT h18 <| z
 apply jc F <;> intro h21 F
 apply jb F; intro r22 h23 F
 apply jr F
 exact fpC Bq <| q24 <| q25 <| q26 <| q27 <| q28 <| q29 <| q30 <| q31 <| zC3 h21 <| zl (Np K a1.Msgs _ h23) <| zT h21 <| z0
 apply jr F
 exact fpC Bq <| q24 <| q25 <| q26 <| q27 <| q28 <| q29 <| q30 <| q31 <| Cw h21 <| z0
 apply jr F
 exact fpC Bq <| q24 <| q25 <| q26 <| q27 <| q28 <| q29 <| q30 <| Ef h18 <| zk3 <| zf1 <| z0
 apply jr F
 exact fpC Bq <| q24 <| q25 <| q26 <| q27 <| q28 <| q29 <| zF (ine_t h16) <| zi (nl a1.X.Vals) <| zD6 h17 <| Cw h17 <| zk4 <| zf1 <| zk3 <| zf1 <| z0
 apply jr F
 exact fpC Bq <| q24 <| q25 <| q26 <| q27 <| q28 <| q29 <| zT (ine_f h16) <| z0
 apply jr F
 exact fpC Bq <| q24 <| q25 <| q26 <| q27 <| q28 <| zA6 (bnot_f h15) <| D4 (bnot_f h15) <| zr1 <| z0
 apply jr F
 exact fpC Bq <| q24 <| q25 <| q26 <| q27 <| Bx (bnot_f h12) <| zt6 <| zt1 <| zr2 <| z0
 apply jr F
 exact fpC Bq <| q24 <| q25 <| q26 <| Bx (bnot_f h9) <| zt4 <| zr1 <| zt6 <| zt1 <| zr2 <| z0
 apply jr F
 exact fpC Bq <| q24 <| q25 <| zT (bnot_f h6) <| z0
def goI {α σ β : Type} (step : Nat → α → σ → (σ → Option β) → Option β) (fin : σ → Option β) : Nat → List α → σ → Option β
 | _, [], s => fin s
 | i, x :: r, s => step i x s (goI step fin (i + 1) r)
def goL {α σ β : Type} (step : α → σ → (σ → Option β) → Option β) (fin : σ → Option β) : List α → σ → Option β
 | [], s => fin s
 | x :: r, s => step x s (goL step fin r)
theorem EG {α : Type} {l : List α} {i : Nat} {x : α} {r : List α} (h : l.drop i = x :: r) : i < l.length := by
 rcases Nat.lt_or_ge i l.length with g | g
 · exact g
 · rw [List.drop_eq_nil_of_le g] at h; cases h
theorem Bw {α σ β : Type} {l : List α} {L : Nat → σ → Int → Option β} (step : Nat → α → σ → (σ → Option β) → Option β) (fin : σ → Option β)
 (h : ∀ k s (i : Nat), i ≤ l.length → L (k + 1) s i = bif ilt i (nlen (len l)) then (bif inr i (len l) then (elAt l i).bind fun x => step i x s (fun s' => L k s' (wadd .i64 i 1)) else none) else fin s)
 (hl : l.length < 4611686018427387904) : ∀ (k : Nat) (s : σ) (i : Nat), l.length - i < k → i ≤ l.length → L k s i = goI step fin i (l.drop i) s := by
 intro k
 induction k with
 | zero => intro s i h; omega
 | succ k ih =>
  intro s i hk hi
  rw [h k s i hi]
  rcases FW l i with ⟨x, e1, e2, e3, e4⟩ | ⟨e1, e2⟩
  · have hlt := EG e1
    rw [e1, e2, e3, e4]
    simp only [cT, bS, goI]
    congr 1
    funext s'
    rw [Ge om]
    exact ih s' (i + 1) om om
  · rw [e1, e2]; rfl
theorem AE {α σ β : Type} {l : List α} {L : Nat → σ → Int → Option β} (step : α → σ → (σ → Option β) → Option β) (fin : σ → Option β)
 (h : ∀ k s (i : Nat), i ≤ l.length → L (k + 1) s i = bif ilt i (nlen (len l)) then (bif inr i (len l) then (elAt l i).bind fun x => step x s (fun s' => L k s' (wadd .i64 i 1)) else none) else fin s)
 (hl : l.length < 4611686018427387904) {K : Nat} (hK : l.length < K) (s : σ) : L K s 0 = goL step fin l s := by
 have e : ∀ (i : Nat) (r : List α) (s : σ), goI (fun _ => step) fin i r s = goL step fin r s := by
  intro i r
  induction r generalizing i with
  | nil => intro s; rfl
  | cons x r ih =>
   intro s
   simp only [goI, goL]
   congr 1
   funext s'
   exact ih (i + 1) s'
 have := Bw (fun _ => step) fin h hl K s 0 om om
 rw [e, List.drop_zero] at this
 exact this
theorem Ea (a b : Int) : ilt a b = !(ile b a) := by
 unfold ilt ile
 by_cases h : a < b <;> simp [h] <;> omega
theorem A6 (a : Int) : ieq a a = true := by simp [ieq]
theorem S9 (a : Bool) : beqb a a = true := by cases a <;> rfl
theorem AK {a b : Int} : ile a b = true ↔ a ≤ b := decide_eq_true_iff
theorem Ad {a b : Int} : ilt a b = true ↔ a < b := decide_eq_true_iff
theorem Af {a b : Int} : ieq a b = true ↔ a = b := by simp [ieq]
theorem Di {a b : Int} : ile a b = false ↔ b < a := by simp [ile]
theorem Ab {a b : Int} : ilt a b = false ↔ b ≤ a := by simp [ilt]
theorem As {a b : Int} : ieq a b = false ↔ a ≠ b := by simp [ieq]
def BC (n : Int) (e : GEdge) : Int :=
 bif ilt e.From 0 || ile n e.From || ilt e.To 0 || ile n e.To then 4 else bif ilt e.W 0 || ilt 4611686018427387904 e.W then 1 else 0
def CD (d e : GEdge) : Int := bif ieq d.From e.From && ieq d.To e.To then 5 else bif ilt e.From d.From || (ieq d.From e.From && ilt e.To d.To) then 6 else 0
def A5 (n : Int) : Option GEdge → List GEdge → Int
 | _, [] => 0
 | prev, e :: r => bif ieq (BC n e) 0 then (match prev with
  | none => A5 n (some e) r
  | some d => bif ieq (CD d e) 0 then A5 n (some e) r else CD d e) else BC n e
def Br (g : GGraph) : Int := bif ilt g.N 1 || ilt 24 g.N then 1 else bif ilt 80 (nlen (len g.Edges)) then 3 else A5 g.N none g.Edges
def Bu {α : Type} (l : List α) : Nat → Option α
 | 0 => none
 | i + 1 => l[i]?
theorem TI {i : Nat} (h0 : 0 < i) (h : i < 4611686018427387904) : wsub .i64 (i : Int) 1 = ((i - 1 : Nat) : Int) := by
 show IntKind.i64.wrap ((i : Int) - 1) = _
 rw [IntKind.wrap_i64]; omega
theorem H4 {α : Type} {l : List α} {i : Nat} (h0 : 0 < i) (hi : i < l.length) (hl : l.length < 4611686018427387904) :
 ∃ d, Bu l i = some d ∧ wsub .i64 (i : Int) 1 = ((i - 1 : Nat) : Int) ∧ inr ((i - 1 : Nat) : Int) (len l) = true ∧ elAt l ((i - 1 : Nat) : Int) = some d := by
 obtain ⟨j, rfl⟩ : ∃ j, i = j + 1 := ⟨i - 1, by omega⟩
 refine ⟨l[j], by simp [Bu], TI h0 om, decide_eq_true ⟨by omega, by show ((j + 1 - 1 : Nat) : Int) < (l.length : Int); omega⟩, ?_⟩
 rw [Bg]
 simp
theorem Ga {α : Type} {l : List α} {i : Nat} {x : α} {r : List α} (h : l.drop i = x :: r) : Bu l (i + 1) = some x ∧ l.drop (i + 1) = r ∧ i < l.length := by
 have hi := EG h
 have := List.drop_eq_getElem_cons hi
 rw [h] at this
 injection this with a b
 exact ⟨by simp [Bu, hi, a], b.symm, hi⟩
def CC (v : Int) : Int ⊕ Unit := bif ieq v 0 then .inr () else .inl v
theorem Rb (K : Nat) (e : GEdge) (n : Int) : F79 K e n = some (BC n e) := by
 rw [F79, BC]
 cases ilt e.From 0 <;> cases ile n e.From <;> cases ilt e.To 0 <;> cases ile n e.To <;> cases ilt e.W 0 <;> cases ilt 4611686018427387904 e.W <;> rfl
theorem FU {n : Int} {e : GEdge} (h : ieq (BC n e) 0 = true) : 0 ≤ e.From ∧ e.From < n ∧ 0 ≤ e.To ∧ e.To < n ∧ 0 ≤ e.W ∧ e.W ≤ 4611686018427387904 := by
 rw [BC] at h
 cases h1 : ilt e.From 0 || ile n e.From || ilt e.To 0 || ile n e.To
 · cases h2 : ilt e.W 0 || ilt 4611686018427387904 e.W
   · simp only [Bool.or_eq_false_iff, Ab, Di] at h1 h2
     omega
   · rw [h1, h2] at h; cases h
 · rw [h1] at h; cases h
theorem Pm (K : Nat) {n : Int} {d e : GEdge} (hn : n ≤ 24) (hd : ieq (BC n d) 0 = true) (he : ieq (BC n e) 0 = true) :
 F80 K d e = some (bif ieq d.From e.From then d.To - e.To else d.From - e.From) := by
 have h1 := FU hd
 have h2 := FU he
 rw [F80]
 have e1 : wsub .i64 d.To e.To = d.To - e.To := by show IntKind.i64.wrap _ = _; rw [IntKind.wrap_i64]; omega
 have e2 : wsub .i64 d.From e.From = d.From - e.From := by show IntKind.i64.wrap _ = _; rw [IntKind.wrap_i64]; omega
 rw [e1, e2]
 cases ieq d.From e.From <;> rfl
theorem T1 {K : Nat} (hK : 100 ≤ K) (g : GGraph) (hl : g.Edges.length ≤ 80) (hn : g.N ≤ 24) : Fj K g K 0 = some (CC (A5 g.N none g.Edges)) := by
 let step : Nat → GEdge → Unit → (Unit → Option (Int ⊕ Unit)) → Option (Int ⊕ Unit) := fun i x _ c =>
  (F79 K x g.N).bind fun r => bif (ieq r 0) then (bif (ieq (i : Int) 0) then c () else bif (inr (wsub .i64 (i : Int) 1) (len g.Edges)) then
   (elAt g.Edges (wsub .i64 (i : Int) 1)).bind fun d => (F80 K d x).bind fun r => bif (ieq r 0) then (some (.inl 5)) else bif (ilt 0 r) then (some (.inl 6)) else c ()
   else none) else some (.inl r)
 let fin : Unit → Option (Int ⊕ Unit) := fun _ => some (.inr ())
 have h := Bw (l := g.Edges) (L := fun k (_ : Unit) i => Fj K g k i) step fin (fun k st i hi => rfl) om K () 0 om om
 have hw : ∀ (r : List GEdge) (i : Nat), g.Edges.drop i = r → (∀ d, Bu g.Edges i = some d → ieq (BC g.N d) 0 = true) → (i = 0 ∨ i ≤ g.Edges.length) → goI step fin i r () = some (CC (A5 g.N (Bu g.Edges i) r)) := by
  intro r
  induction r with
  | nil => intro i _ _ _; rfl
  | cons x r ih =>
   intro i hr hp _
   obtain ⟨n1, n2, hi⟩ := Ga hr
   rw [goI]
   show ((F79 K x g.N).bind fun r' => bif (ieq r' 0) then (bif (ieq (i : Int) 0) then goI step fin (i + 1) r () else bif (inr (wsub .i64 (i : Int) 1) (len g.Edges)) then
    (elAt g.Edges (wsub .i64 (i : Int) 1)).bind fun d => (F80 K d x).bind fun r' => bif (ieq r' 0) then (some (.inl 5)) else bif (ilt 0 r') then (some (.inl 6)) else goI step fin (i + 1) r ()
    else none) else some (.inl r')) = _
   rw [Rb, bS]
   cases hb : ieq (BC g.N x) 0
   · have hne : BC g.N x ≠ 0 := As.1 hb
     cases Bu g.Edges i <;> simp only [A5, hb, cF, CC]
   · have nx : goI step fin (i + 1) r () = some (CC (A5 g.N (some x) r)) := by
      have := ih (i + 1) n2 (fun d hd => by rw [n1] at hd; cases hd; exact hb) (.inr om)
      rw [n1] at this; exact this
     rw [cT, nx]
     cases i with
     | zero =>
      have : ieq ((0 : Nat) : Int) 0 = true := rfl
      rw [this, cT]
      show _ = some (CC (A5 g.N none (x :: r)))
      rw [A5, hb]; rfl
     | succ j =>
      obtain ⟨d, p1, p2, p3, p4⟩ := H4 (l := g.Edges) (i := j + 1) om hi om
      have hd := hp d p1
      have : ieq ((j + 1 : Nat) : Int) 0 = false := As.2 om
      rw [this, cF, p2, p3, cT, p4, bS, Pm K hn hd hb, bS, p1, A5, hb, cT]
      have b1 := FU hd
      have b2 := FU hb
      by_cases q1 : d.From = x.From
      · have i1 : ieq d.From x.From = true := Af.2 q1
        rw [i1, cT]
        by_cases q2 : d.To = x.To
        · have o5 : CD d x = 5 := by simp [CD, Af.2 q1, Af.2 q2]
          have : ieq (d.To - x.To) 0 = true := Af.2 om
          rw [this, cT, o5]; rfl
        · have : ieq (d.To - x.To) 0 = false := As.2 om
          rw [this, cF]
          have j2 : ieq d.To x.To = false := As.2 q2
          by_cases q3 : x.To < d.To
          · have o6 : CD d x = 6 := by simp [CD, i1, j2, Ad.2 q3]
            have : ilt 0 (d.To - x.To) = true := Ad.2 om
            rw [this, cT, o6]; rfl
          · have o0 : CD d x = 0 := by simp [CD, i1, j2, Ab.2 (show d.To ≤ x.To by omega), Ab.2 (show d.From ≤ x.From by omega)]
            have : ilt 0 (d.To - x.To) = false := Ab.2 om
            rw [this, cF, o0]; rfl
      · have i1 : ieq d.From x.From = false := As.2 q1
        rw [i1, cF]
        have : ieq (d.From - x.From) 0 = false := As.2 om
        rw [this, cF]
        by_cases q3 : x.From < d.From
        · have o6 : CD d x = 6 := by simp [CD, i1, Ad.2 q3]
          have : ilt 0 (d.From - x.From) = true := Ad.2 om
          rw [this, cT, o6]; rfl
        · have o0 : CD d x = 0 := by simp [CD, i1, Ab.2 (show d.From ≤ x.From by omega)]
          have : ilt 0 (d.From - x.From) = false := Ab.2 om
          rw [this, cF, o0]; rfl
 have := hw g.Edges 0 rfl (fun d hd => by cases hd) (.inl rfl)
 rw [List.drop_zero, this] at h
 exact h
theorem Ks (v : Int) : (some (CC v)).bind (fun y => Sum.elim (fun w => some w) (fun w => some 0) y) = some v := by
 unfold CC
 cases h : ieq v 0
 · rfl
 · have : v = 0 := Af.1 h
   subst this; rfl
theorem KX {K : Nat} (hK : 100 ≤ K) (g : GGraph) : F56 K g = some (Br g) := by
 rw [F56, Br]
 cases ilt g.N 1
 · cases h2 : ilt 24 g.N
   · cases h3 : ilt 80 (nlen (len g.Edges))
     · have hl : g.Edges.length ≤ 80 := by have := Ab.1 h3; simp only [nlen, len] at this; omega
       have hn := Ab.1 h2
       rw [T1 hK g hl hn]
       exact Ks _
     · rfl
   · rfl
 · rfl
theorem QG {K : Nat} (hK : 100 ≤ K) (g : GGraph) (hl : g.Edges.length ≤ 80) : Eu K g K 0 = some (CC (A5 g.N none g.Edges)) := by
 let chk : Nat → GEdge → Option (Int ⊕ Unit) → Option (Int ⊕ Unit) := fun i x c =>
  bif (ilt 0 (i : Int)) then
   (bif (inr (wsub .i64 (i : Int) 1) (len g.Edges)) then
   (elAt g.Edges (wsub .i64 (i : Int) 1)).bind fun d =>
   bif (ieq d.From x.From) then
    (bif (ieq d.To x.To) then (some (.inl 5)) else bif (ilt x.From d.From) then (some (.inl 6)) else bif (ilt x.To d.To) then (some (.inl 6)) else c)
   else bif (ilt x.From d.From) then (some (.inl 6)) else c
   else none)
  else c
 let step : Nat → GEdge → Unit → (Unit → Option (Int ⊕ Unit)) → Option (Int ⊕ Unit) := fun i x _ c =>
  bif (ilt x.From 0) then (some (.inl 4)) else bif (ilt x.To 0) then (some (.inl 4)) else bif (ile g.N x.From) then (some (.inl 4)) else bif (ile g.N x.To) then (some (.inl 4)) else
  bif (ilt x.W 0) then (some (.inl 1)) else bif (ilt 4611686018427387904 x.W) then (some (.inl 1)) else chk i x (c ())
 let fin : Unit → Option (Int ⊕ Unit) := fun _ => some (.inr ())
 have h := Bw (l := g.Edges) (L := fun k (_ : Unit) i => Eu K g k i) step fin (fun k st i hi => rfl) om K () 0 om om
 have hstep : ∀ i x c, step i x () c = bif ieq (BC g.N x) 0 then chk i x (c ()) else some (.inl (BC g.N x)) := by
  intro i x c
  show (bif (ilt x.From 0) then (some (.inl 4)) else bif (ilt x.To 0) then (some (.inl 4)) else bif (ile g.N x.From) then (some (.inl 4)) else bif (ile g.N x.To) then (some (.inl 4)) else
   bif (ilt x.W 0) then (some (.inl 1)) else bif (ilt 4611686018427387904 x.W) then (some (.inl 1)) else chk i x (c ())) = _
  rw [BC]
  cases ilt x.From 0 <;> cases ile g.N x.From <;> cases ilt x.To 0 <;> cases ile g.N x.To <;> cases ilt x.W 0 <;> cases ilt 4611686018427387904 x.W <;> rfl
 have hw : ∀ (r : List GEdge) (i : Nat), g.Edges.drop i = r → goI step fin i r () = some (CC (A5 g.N (Bu g.Edges i) r)) := by
  intro r
  induction r with
  | nil => intro i _; rfl
  | cons x r ih =>
   intro i hr
   obtain ⟨n1, n2, hi⟩ := Ga hr
   rw [goI, hstep]
   cases hb : ieq (BC g.N x) 0
   · have hne : BC g.N x ≠ 0 := As.1 hb
     cases Bu g.Edges i <;> simp only [A5, hb, cF, CC]
   · have nx := ih (i + 1) n2
     rw [n1] at nx
     rw [cT, nx]
     cases i with
     | zero =>
      show some (CC (A5 g.N (some x) r)) = some (CC (A5 g.N none (x :: r)))
      rw [A5, hb]; rfl
     | succ j =>
      obtain ⟨d, p1, p2, p3, p4⟩ := H4 (l := g.Edges) (i := j + 1) om hi om
      have : ilt 0 ((j + 1 : Nat) : Int) = true := Ad.2 om
      show (bif (ilt 0 ((j + 1 : Nat) : Int)) then
       (bif (inr (wsub .i64 ((j + 1 : Nat) : Int) 1) (len g.Edges)) then
       (elAt g.Edges (wsub .i64 ((j + 1 : Nat) : Int) 1)).bind fun d =>
       bif (ieq d.From x.From) then
        (bif (ieq d.To x.To) then (some (.inl 5)) else bif (ilt x.From d.From) then (some (.inl 6)) else bif (ilt x.To d.To) then (some (.inl 6)) else some (CC (A5 g.N (some x) r)))
       else bif (ilt x.From d.From) then (some (.inl 6)) else some (CC (A5 g.N (some x) r))
       else none)
      else some (CC (A5 g.N (some x) r))) = _
      rw [this, cT, p2, p3, cT, p4, bS, p1, A5, hb, cT, CD]
      cases hf : ieq d.From x.From
      · cases ilt x.From d.From <;> rfl
      · have : ilt x.From d.From = false := Ab.2 (by have := Af.1 hf; omega)
        rw [this]
        cases ieq d.To x.To <;> cases ilt x.To d.To <;> rfl
 have := hw g.Edges 0 rfl
 rw [List.drop_zero, this] at h
 exact h
theorem KN {K : Nat} (hK : 100 ≤ K) (g : GGraph) : F47 K g = some (Br g) := by
 rw [F47, Br]
 cases ilt g.N 1
 · cases h2 : ilt 24 g.N
   · cases h3 : ilt 80 (nlen (len g.Edges))
     · have hl : g.Edges.length ≤ 80 := by have := Ab.1 h3; simp only [nlen, len] at this; omega
       rw [QG hK g hl]
       exact Ks _
     · rfl
   · rfl
 · rfl
theorem AQ {g : GGraph} (h : ieq (Br g) 0 = true) : 1 ≤ g.N ∧ g.N ≤ 24 ∧ g.Edges.length ≤ 80 ∧ A5 g.N none g.Edges = 0 := by
 rw [Br] at h
 cases h1 : ilt g.N 1 || ilt 24 g.N
 · rw [h1, cF] at h
   cases h2 : ilt 80 (nlen (len g.Edges))
   · rw [h2, cF] at h
     simp only [Bool.or_eq_false_iff, Ab] at h1
     have := Ab.1 h2
     simp only [nlen, len] at this
     exact ⟨by omega, by omega, by omega, Af.1 h⟩
   · rw [h2] at h; cases h
 · rw [h1] at h; cases h
theorem Hy {n : Int} : ∀ {l : List GEdge} {p : Option GEdge}, A5 n p l = 0 → ∀ e ∈ l, ieq (BC n e) 0 = true
 | [], _, _, e, h => by cases h
 | x :: l, p, h, e, he => by
  unfold A5 at h
  cases hb : ieq (BC n x) 0
  · rw [hb, cF] at h; rw [h] at hb; cases hb
  · rw [hb, cT] at h
    rcases List.mem_cons.1 he with q | q
    · subst q; exact hb
    · cases p with
      | none => exact Hy h e q
      | some d =>
       dsimp only at h
       cases ho : ieq (CD d x) 0
       · rw [ho, cF] at h; rw [h] at ho; cases ho
       · rw [ho, cT] at h; exact Hy h e q
theorem BI : areFns [(fnV 81), (fnV 82), (fnV 83)] [81, 82, 83] = true := rfl
theorem BK : areFns [(fnV 81), (fnV 82), (fnV 83)] [81, 82, 85] = false := rfl
theorem BG : areFns [(fnV 81), (fnV 82), (fnV 83)] [86, 82, 87] = false := rfl
theorem Ch : areFns [(fnV 81), (fnV 82), (fnV 83)] [88, 89, 87] = false := rfl
theorem BL : areFns [(fnV 81), (fnV 82), (fnV 83)] [90, 0, 87] = false := rfl
theorem BX : areFns [(fnV 81), (fnV 82), (fnV 83)] [0, 0, 0] = false := rfl
theorem BT : areFns [(fnV 81), (fnV 82), (fnV 85)] [81, 82, 83] = false := rfl
theorem BU : areFns [(fnV 81), (fnV 82), (fnV 85)] [81, 82, 85] = true := rfl
theorem B8 : areFns [(fnV 81), (fnV 82), (fnV 85)] [86, 82, 87] = false := rfl
theorem B4 : areFns [(fnV 81), (fnV 82), (fnV 85)] [88, 89, 87] = false := rfl
theorem Cc : areFns [(fnV 81), (fnV 82), (fnV 85)] [90, 0, 87] = false := rfl
theorem BN : areFns [(fnV 81), (fnV 82), (fnV 85)] [0, 0, 0] = false := rfl
theorem Cg : areFns [(fnV 86), (fnV 82), (fnV 87)] [81, 82, 83] = false := rfl
theorem BV : areFns [(fnV 86), (fnV 82), (fnV 87)] [81, 82, 85] = false := rfl
theorem B3 : areFns [(fnV 86), (fnV 82), (fnV 87)] [86, 82, 87] = true := rfl
theorem B0 : areFns [(fnV 86), (fnV 82), (fnV 87)] [88, 89, 87] = false := rfl
theorem Cl : areFns [(fnV 86), (fnV 82), (fnV 87)] [90, 0, 87] = false := rfl
theorem BE : areFns [(fnV 86), (fnV 82), (fnV 87)] [0, 0, 0] = false := rfl
theorem BJ : areFns [(fnV 88), (fnV 89), (fnV 87)] [81, 82, 83] = false := rfl
theorem BF : areFns [(fnV 88), (fnV 89), (fnV 87)] [81, 82, 85] = false := rfl
theorem B2 : areFns [(fnV 88), (fnV 89), (fnV 87)] [86, 82, 87] = false := rfl
theorem B1 : areFns [(fnV 88), (fnV 89), (fnV 87)] [88, 89, 87] = true := rfl
theorem B5 : areFns [(fnV 88), (fnV 89), (fnV 87)] [90, 0, 87] = false := rfl
theorem BW : areFns [(fnV 88), (fnV 89), (fnV 87)] [0, 0, 0] = false := rfl
theorem BR : areFns [(fnV 90), .nilFunc, (fnV 87)] [81, 82, 83] = false := rfl
theorem BS : areFns [(fnV 90), .nilFunc, (fnV 87)] [81, 82, 85] = false := rfl
theorem BZ : areFns [(fnV 90), .nilFunc, (fnV 87)] [86, 82, 87] = false := rfl
theorem BP : areFns [(fnV 90), .nilFunc, (fnV 87)] [88, 89, 87] = false := rfl
theorem B7 : areFns [(fnV 90), .nilFunc, (fnV 87)] [90, 0, 87] = true := rfl
theorem B9 : areFns [(fnV 90), .nilFunc, (fnV 87)] [0, 0, 0] = false := rfl
theorem BM : areFns [.nilFunc, .nilFunc, .nilFunc] [81, 82, 83] = false := rfl
theorem Ce : areFns [.nilFunc, .nilFunc, .nilFunc] [81, 82, 85] = false := rfl
theorem BO : areFns [.nilFunc, .nilFunc, .nilFunc] [86, 82, 87] = false := rfl
theorem Cf : areFns [.nilFunc, .nilFunc, .nilFunc] [88, 89, 87] = false := rfl
theorem BQ : areFns [.nilFunc, .nilFunc, .nilFunc] [90, 0, 87] = false := rfl
theorem Cj : areFns [.nilFunc, .nilFunc, .nilFunc] [0, 0, 0] = true := rfl
theorem I0 (K : Nat) : F57 K 1 = some (Grule.mk (fnV 81) (fnV 82) true (fnV 83), true) := rfl
theorem I3 (K : Nat) : F57 K 2 = some (Grule.mk (fnV 86) (fnV 82) false (fnV 87), true) := rfl
theorem Ie (K : Nat) : F57 K 3 = some (Grule.mk (fnV 81) (fnV 82) true (fnV 85), true) := rfl
theorem Jm (K : Nat) : F57 K 4 = some (Grule.mk (fnV 88) (fnV 89) false (fnV 87), true) := rfl
theorem Ja (K : Nat) : F57 K 5 = some (Grule.mk (fnV 90) .nilFunc false (fnV 87), true) := rfl
theorem Ln (K : Nat) {p : Int} (h : p < 1 ∨ 5 < p) : F57 K p = some (Grule.mk .nilFunc .nilFunc false .nilFunc, false) := by
 rw [F57, As.2 (by omega : p ≠ 1), As.2 (by omega : p ≠ 3), As.2 (by omega : p ≠ 2), As.2 (by omega : p ≠ 4), As.2 (by omega : p ≠ 5)]; rfl
theorem Ij (p : Int) : p = 1 ∨ p = 2 ∨ p = 3 ∨ p = 4 ∨ p = 5 ∨ (p < 1 ∨ 5 < p) := by omega
def G8 (n : Int) (j : GJob) : Bool := ilt j.Source 0 || (ile n j.Source || (ilt j.Limit 0 || (ilt 40 j.Limit || (ilt j.Parts 1 || ilt 6 j.Parts))))
def Ao (p : Int) : Bool := ilt p 1 || ilt 5 p
def An (g : GGraph) (j : GJob) : Int := bif ieq (Br g) 0 then (bif Ao j.Prog || G8 g.N j then 1 else 0) else Br g
theorem FD (n : Int) (j : GJob) : (bif (ilt j.Source 0) then (some 1) else bif (ile n j.Source) then (some 1) else bif (ilt j.Limit 0) then (some 1) else bif (ilt 40 j.Limit) then (some 1) else bif (ilt j.Parts 1) then (some 1) else bif (ilt 6 j.Parts) then (some 1) else some 0) = some (bif G8 n j then 1 else 0 : Int) := by
 unfold G8
 cases ilt j.Source 0 <;> cases ile n j.Source <;> cases ilt j.Limit 0 <;> cases ilt 40 j.Limit <;> cases ilt j.Parts 1 <;> cases ilt 6 j.Parts <;> rfl
theorem E6 {K : Nat} (hK : 100 ≤ K) (g : GGraph) (j : GJob) : F19 K g j = some (An g j) := by
 rw [F19, KN hK, bS, An]
 cases ieq (Br g) 0
 · rfl
 · rw [cT, cT, FD, Ao]
   cases ilt j.Prog 1 <;> cases ilt 5 j.Prog <;> rfl
theorem E1 {K : Nat} (hK : 100 ≤ K) (g : GGraph) (j : GJob) : F31 K g j = some (An g j) := by
 rw [F31, KX hK, bS, An]
 cases ieq (Br g) 0
 · rfl
 · rw [cT, cT]
   rcases Ij j.Prog with h | h | h | h | h | h
   · have hb : Ao j.Prog = false := by rw [h]; rfl
     rw [hb, Bool.false_or, h, I0]
     simp only [bS, cT, cF, BI, BK, BG, Ch, BL, BX, BT, BU, B8, B4, Cc, BN, Cg, BV, B3, B0, Cl, BE, BJ, BF, B2, B1, B5, BW, BR, BS, BZ, BP, B7, B9, BM, Ce, BO, Cf, BQ, Cj, FD]
   · have hb : Ao j.Prog = false := by rw [h]; rfl
     rw [hb, Bool.false_or, h, I3]
     simp only [bS, cT, cF, BI, BK, BG, Ch, BL, BX, BT, BU, B8, B4, Cc, BN, Cg, BV, B3, B0, Cl, BE, BJ, BF, B2, B1, B5, BW, BR, BS, BZ, BP, B7, B9, BM, Ce, BO, Cf, BQ, Cj, FD]
   · have hb : Ao j.Prog = false := by rw [h]; rfl
     rw [hb, Bool.false_or, h, Ie]
     simp only [bS, cT, cF, BI, BK, BG, Ch, BL, BX, BT, BU, B8, B4, Cc, BN, Cg, BV, B3, B0, Cl, BE, BJ, BF, B2, B1, B5, BW, BR, BS, BZ, BP, B7, B9, BM, Ce, BO, Cf, BQ, Cj, FD]
   · have hb : Ao j.Prog = false := by rw [h]; rfl
     rw [hb, Bool.false_or, h, Jm]
     simp only [bS, cT, cF, BI, BK, BG, Ch, BL, BX, BT, BU, B8, B4, Cc, BN, Cg, BV, B3, B0, Cl, BE, BJ, BF, B2, B1, B5, BW, BR, BS, BZ, BP, B7, B9, BM, Ce, BO, Cf, BQ, Cj, FD]
   · have hb : Ao j.Prog = false := by rw [h]; rfl
     rw [hb, Bool.false_or, h, Ja]
     simp only [bS, cT, cF, BI, BK, BG, Ch, BL, BX, BT, BU, B8, B4, Cc, BN, Cg, BV, B3, B0, Cl, BE, BJ, BF, B2, B1, B5, BW, BR, BS, BZ, BP, B7, B9, BM, Ce, BO, Cf, BQ, Cj, FD]
   · have hb : Ao j.Prog = true := by
      unfold Ao
      rcases h with h | h
      · rw [Ad.2 h]; rfl
      · rw [Ad.2 h, Bool.or_true]
     rw [hb, Bool.true_or, Ln K h]
     simp only [bS, cT, cF, BI, BK, BG, Ch, BL, BX, BT, BU, B8, B4, Cc, BN, Cg, BV, B3, B0, Cl, BE, BJ, BF, B2, B1, B5, BW, BR, BS, BZ, BP, B7, B9, BM, Ce, BO, Cf, BQ, Cj]
theorem Au {g : GGraph} {j : GJob} (h : ieq (An g j) 0 = true) : ieq (Br g) 0 = true ∧ 1 ≤ j.Prog ∧ j.Prog ≤ 5 ∧ 0 ≤ j.Source ∧ j.Source < g.N ∧ 0 ≤ j.Limit ∧ j.Limit ≤ 40 ∧ 1 ≤ j.Parts ∧ j.Parts ≤ 6 := by
 rw [An] at h
 cases hg : ieq (Br g) 0
 · rw [hg, cF] at h; rw [h] at hg; cases hg
 · rw [hg, cT] at h
   cases hb : Ao j.Prog || G8 g.N j
   · simp only [Ao, G8, Bool.or_eq_false_iff, Ab, Di] at hb
     obtain ⟨⟨h1, h2⟩, h3, h4, h5, h6, h7, h8⟩ := hb
     exact ⟨rfl, h1, h2, h3, h4, h5, h6, h7, h8⟩
   · rw [hb] at h; cases h
theorem EM {σ β : Type} {N : Int} {L : Nat → σ → Int → Option β} (step : Nat → σ → (σ → Option β) → Option β) (fin : σ → Option β)
 (h : ∀ k s (i : Nat), i ≤ N.toNat → L (k + 1) s i = bif ilt i N then step i s (fun s' => L k s' (wadd .i64 i 1)) else fin s) (hN : N ≤ 1000000) {K : Nat} (hK : N.toNat < K) (s : σ) :
 L K s 0 = goL step fin (List.range N.toNat) s := by
 have hw : ∀ (k : Nat) (s : σ) (i : Nat), N.toNat - i < k → i ≤ N.toNat → L k s i = goL step fin ((List.range N.toNat).drop i) s := by
  intro k
  induction k with
  | zero => intro s i h; omega
  | succ k ih =>
   intro s i hk hi
   rw [h k s i hi]
   by_cases hlt : i < N.toNat
   · have e : (List.range N.toNat).drop i = i :: (List.range N.toNat).drop (i + 1) := by
      rw [List.drop_eq_getElem_cons (by simpa using hlt)]; simp
     rw [Ad.2 (by omega : (i : Int) < N), cT, e, goL]
     congr 1
     funext s'
     rw [Ge om]
     exact ih s' (i + 1) om om
   · have e : (List.range N.toNat).drop i = [] := List.drop_eq_nil_of_le (by simp; omega)
     rw [Ab.2 (by omega : N ≤ (i : Int)), cF, e]; rfl
 have := hw K s 0 om om
 rw [List.drop_zero] at this
 exact this
def AU (j : GJob) (v : Int) : Int := bif ilt v 0 || (ilt j.Parts 1 || ilt 6 j.Parts) then -1 else v % j.Parts
theorem He {a b : Int} (h : 0 ≤ a) : wrem a b = a % b := by
 show Int.tmod _ _ = _
 exact Int.tmod_eq_emod_of_nonneg h
theorem LC (K : Nat) (j : GJob) (v : Int) : F94 K j v = some (AU j v) := by
 rw [F94, AU]
 cases h0 : ilt v 0
 · cases h1 : ilt j.Parts 1
   · cases h2 : ilt 6 j.Parts
     · have v0 := Ab.1 h0
       have p1 := Ab.1 h1
       have hz : izero j.Parts = false := decide_eq_false om
       rw [hz, He v0]; rfl
     · rfl
   · rfl
 · rfl
def Cr (n parts : Nat) (p : Int) : List Nat := (List.range n).filter fun v => ieq ((v % parts : Nat) : Int) p
def Ak (g : GGraph) (j : GJob) (p : Int) : List Nat := Cr g.N.toNat j.Parts.toNat p
theorem J3 {K : Nat} (hK : 100 ≤ K) {g : GGraph} {j : GJob} (h1 : 1 ≤ j.Parts) (h2 : j.Parts ≤ 6) (hn : g.N ≤ 24) (p : Int) : F39 K g j p = some ((Ak g j p).map Int.ofNat) := by
 let step : Nat → List Int → (List Int → Option (List Int)) → Option (List Int) := fun i s c =>
  bif (izero j.Parts) then none else bif (ieq (wrem (i : Int) j.Parts) p) then (bif (apok (len s) 1 8) then c (appL s [(i : Int)]) else none) else c s
 have h := EM (N := g.N) (L := fun k s i => Fa K g j p k s i) step (fun s => some s) (fun k s i _ => rfl) om (K := K) om []
 have hz : izero j.Parts = false := decide_eq_false om
 obtain ⟨q, hq⟩ := Int.eq_ofNat_of_zero_le (show 0 ≤ j.Parts by omega)
 have hw : ∀ (l : List Nat) (s : List Int), s.length + l.length ≤ 1000 → goL step (fun s => some s) l s = some (s ++ (l.filter fun v => ieq ((v % j.Parts.toNat : Nat) : Int) p).map Int.ofNat) := by
  intro l
  induction l with
  | nil => intro s _; simp [goL]
  | cons v l ih =>
   intro s hs
   simp only [List.length_cons] at hs
   rw [goL]
   show (bif (izero j.Parts) then none else bif (ieq (wrem (v : Int) j.Parts) p) then (bif (apok (len s) 1 8) then goL step (fun s => some s) l (appL s [(v : Int)]) else none) else goL step (fun s => some s) l s) = _
   have e : wrem (v : Int) j.Parts = ((v % j.Parts.toNat : Nat) : Int) := by rw [He om, hq]; simp
   rw [hz, cF, e, List.filter_cons]
   cases ieq ((v % j.Parts.toNat : Nat) : Int) p
   · rw [cF, ih s om]; rfl
   · have ha : apok (len s) 1 8 = true := decide_eq_true ⟨by show s.length + 1 ≤ _; omega, by show (s.length + 1) * 8 ≤ _; omega⟩
     rw [cT, ha, cT, ih _ (by simp [appL]; omega)]
     simp [appL]
 rw [hw _ _ (by simp; omega), List.nil_append] at h
 have h' : Fa K g j p K [] 0 = _ := h
 rw [F39, h']; rfl
theorem Ub : ∀ parts < 7, 0 < parts → ∀ n < 25, ∀ p < parts, ((List.range n).filter fun v => v % parts == p).length = (n + parts - 1 - p) / parts := by decide +kernel
def AL (g : GGraph) (j : GJob) (p : Int) : Int := ((Ak g j p).length : Int)
theorem Mg {n parts : Nat} (h1 : 0 < parts) (h2 : parts < 7) (hn : n < 25) {p : Nat} (hp : p < parts) : (Cr n parts (p : Int)).length = (n + parts - 1 - p) / parts := by
 rw [← Ub parts h2 h1 n hn p hp, Cr]
 congr 1
 refine List.filter_congr fun v _ => ?_
 rw [Bool.eq_iff_iff, Af, beq_iff_eq]; omega
theorem KA {n parts : Nat} (h1 : 0 < parts) {p : Int} (hp : p < 0 ∨ (parts : Int) ≤ p) : Cr n parts p = [] := by
 rw [Cr, List.filter_eq_nil_iff]
 intro v _ hc
 have := Af.1 hc
 have := Nat.mod_lt v h1
 omega
theorem Py {K : Nat} (hK : 100 ≤ K) (g : GGraph) (j : GJob) (p : Int) (hp : -9223372036854775808 ≤ p ∧ p ≤ 9223372036854775807) : GK K g j p = some (bif ieq (An g j) 0 then AL g j p else 0) := by
 rw [GK, E1 hK, bS]
 cases hc : ieq (An g j) 0
 · rfl
 · obtain ⟨hg, p1, p2, p3, p4, p5, p6, p7, p8⟩ := Au hc
   obtain ⟨g1, g2, _, _⟩ := AQ hg
   rw [cT, cT, Hi]
   cases h0 : ilt p 0
   · cases h1 : ile j.Parts p
     · have q0 := Ab.1 h0
       have q1 := Di.1 h1
       obtain ⟨q, rfl⟩ := Int.eq_ofNat_of_zero_le q0
       have hz : izero j.Parts = false := decide_eq_false om
       have e1 : wsub .i64 g.N (q : Int) = g.N - q := by show IntKind.i64.wrap _ = _; rw [IntKind.wrap_i64]; omega
       have e2 : wadd .i64 (g.N - q) j.Parts = g.N - q + j.Parts := by show IntKind.i64.wrap _ = _; rw [IntKind.wrap_i64]; omega
       have e3 : wsub .i64 (g.N - q + j.Parts) 1 = g.N - q + j.Parts - 1 := by show IntKind.i64.wrap _ = _; rw [IntKind.wrap_i64]; omega
       obtain ⟨n, hn⟩ := Int.eq_ofNat_of_zero_le (show 0 ≤ g.N by omega)
       obtain ⟨m, hm⟩ := Int.eq_ofNat_of_zero_le (show 0 ≤ j.Parts by omega)
       have hnum : g.N - (q : Int) + j.Parts - 1 = ((n + m - 1 - q : Nat) : Int) := by omega
       obtain ⟨d, hd⟩ : ∃ d, (n + m - 1 - q) / m = d := ⟨_, rfl⟩
       have e4 : wquo .i64 (g.N - q + j.Parts - 1) j.Parts = (d : Int) := by
        show IntKind.i64.wrap ((g.N - q + j.Parts - 1).tdiv j.Parts) = _
        rw [hnum, hm, Int.tdiv_eq_ediv_of_nonneg om]
        have hle : d ≤ n + m - 1 - q := hd ▸ Nat.div_le_self _ _
        have : (((n + m - 1 - q : Nat) : Int) / ((m : Nat) : Int)) = (d : Int) := by rw [← hd]; rfl
        rw [this, IntKind.wrap_i64]; omega
       have ecs : AL g j (q : Int) = (d : Int) := by
        unfold AL Ak
        have a1 : g.N.toNat = n := by omega
        have a2 : j.Parts.toNat = m := by omega
        rw [a1, a2, Mg om om om om, hd]
       rw [cF, cF, hz, cF, e1, e2, e3, e4, bS, ecs]
       cases hpos : ilt 0 (d : Int)
       · have := Ab.1 hpos
         have : d = 0 := by omega
         rw [this]; rfl
       · rfl
     · have q1 := AK.1 h1
       have : AL g j p = 0 := by
        unfold AL Ak
        rw [KA om (.inr om)]; rfl
       rw [this]; rfl
   · have q0 := Ad.1 h0
     have : AL g j p = 0 := by
      unfold AL Ak
      rw [KA om (.inl q0)]; rfl
     rw [this]; rfl
theorem DH {g : GGraph} {j : GJob} (h1 : 1 ≤ j.Parts) {p : Int} {v : Nat} : v ∈ Ak g j p ↔ (v : Int) < g.N ∧ (v : Int) % j.Parts = p := by
 obtain ⟨m, hm⟩ := Int.eq_ofNat_of_zero_le (show 0 ≤ j.Parts by omega)
 simp only [Ak, Cr, List.mem_filter, List.mem_range, Af]
 have : j.Parts.toNat = m := by omega
 rw [this, hm]
 constructor
 · rintro ⟨a, b⟩; exact ⟨by omega, by rw [← b]; simp⟩
 · rintro ⟨a, b⟩; exact ⟨by omega, by rw [← b]; simp⟩
def Bj (n parts p : Int) : Int → List GMsg → Bool
 | _, [] => true
 | prev, m :: r => ilt prev m.To && (ilt m.To n && (ieq (m.To % parts) p && Bj n parts p m.To r))
def Cn (n : Int) : Int → List GMsg → Bool
 | _, [] => true
 | prev, m :: r => ilt prev m.To && (ilt m.To n && Cn n m.To r)
def Bf (b : Bool) : Unit ⊕ Unit := bif b then .inr () else .inl ()
theorem I4 (b : Bool) : (some (Bf b)).bind (fun y => Sum.elim (fun w => some false) (fun w => some true) y) = some b := by cases b <;> rfl
theorem EO {a b : Int} : ile a b = !(ilt b a) := by
 unfold ile ilt; by_cases h : b < a <;> simp [h] <;> omega
def Av (g : GGraph) (j : GJob) (x : GPart) : Bool :=
 ieq (An g j) 0 && (ile 0 x.P && (ilt x.P j.Parts && (ile 0 x.Step && (ile x.Step 40 && (ieq (x.Vals.length : Int) (AL g j x.P) && (ieq (x.Rest.length : Int) (AL g j x.P) && Bj g.N j.Parts x.P (-1) x.In))))))
theorem Sj {K : Nat} (g : GGraph) (j : GJob) (x : GPart) (hp : 1 ≤ j.Parts) (hl : x.In.length < 1000000) (hK : x.In.length < K) : FX K g j x K (-1) 0 = some (Bf (Bj g.N j.Parts x.P (-1) x.In)) := by
 let step : GMsg → Int → (Int → Option (Unit ⊕ Unit)) → Option (Unit ⊕ Unit) := fun m s c =>
  bif (ile m.To s) then (some (.inl ())) else bif (ile g.N m.To) then (some (.inl ())) else bif (izero j.Parts) then none else bif (ieq (wrem m.To j.Parts) x.P) then c m.To else some (.inl ())
 have h := AE (l := x.In) (L := fun k s i => FX K g j x k s i) step (fun _ => some (.inr ())) (fun k s i _ => rfl) om (K := K) hK (-1)
 have hz : izero j.Parts = false := decide_eq_false om
 have hw : ∀ (l : List GMsg) (s : Int), -1 ≤ s → goL step (fun _ => some (.inr ())) l s = some (Bf (Bj g.N j.Parts x.P s l)) := by
  intro l
  induction l with
  | nil => intro s _; rfl
  | cons m l ih =>
   intro s hs
   rw [goL]
   show (bif (ile m.To s) then (some (.inl ())) else bif (ile g.N m.To) then (some (.inl ())) else bif (izero j.Parts) then none else bif (ieq (wrem m.To j.Parts) x.P) then goL step (fun _ => some (.inr ())) l m.To else some (.inl ())) = _
   rw [Bj, hz, EO, EO]
   cases h1 : ilt s m.To
   · rfl
   · have h1' := Ad.1 h1
     rw [He om, ih m.To om]
     cases ilt m.To g.N <;> cases ieq (m.To % j.Parts) x.P <;> rfl
 rw [hw _ _ om] at h
 exact h
theorem II {K : Nat} (hK : 1000 ≤ K) (g : GGraph) (j : GJob) (x : GPart) (hl : x.In.length < 1000000) (hk : x.In.length < K) (hp : -9223372036854775808 ≤ x.P ∧ x.P ≤ 9223372036854775807) : F91 K g j x = some (Av g j x) := by
 rw [F91, E1 om, bS, Av]
 cases hc : ieq (An g j) 0
 · rfl
 · obtain ⟨hg, p1, p2, p3, p4, p5, p6, p7, p8⟩ := Au hc
   rw [cT, Py om g j x.P hp, hc, Sj g j x p7 hl hk]
   have n1 : nlen (len x.Vals) = (x.Vals.length : Int) := rfl
   have n2 : nlen (len x.Rest) = (x.Rest.length : Int) := rfl
   rw [Ea x.P 0, EO (a := j.Parts), Ea x.Step 0, Ea 40 x.Step, n1, n2, cT, bS, I4]
   cases ile 0 x.P <;> cases ilt x.P j.Parts <;> cases ile 0 x.Step <;> cases ile x.Step 40 <;> cases ieq (x.Vals.length : Int) (AL g j x.P) <;> cases ieq (x.Rest.length : Int) (AL g j x.P) <;> rfl
theorem Tq {g : GGraph} {j : GJob} (hp : 1 ≤ j.Parts) (p to : Int) : (((Ak g j p).map Int.ofNat).any fun v => ieq v to) = (ile 0 to && (ilt to g.N && ieq (to % j.Parts) p)) := by
 rw [Bool.eq_iff_iff]
 simp only [List.any_map, List.any_eq_true, Function.comp, Bool.and_eq_true, AK, Ad, Af]
 constructor
 · rintro ⟨v, hv, e⟩
   have := (DH hp).1 hv
   have e' : (v : Int) = to := e
   rw [← e']; exact ⟨by omega, this⟩
 · rintro ⟨h0, h1, h2⟩
   obtain ⟨v, rfl⟩ := Int.eq_ofNat_of_zero_le h0
   exact ⟨v, (DH hp).2 ⟨h1, h2⟩, rfl⟩
theorem T7 {K : Nat} (x : GPart) (l : List Int) (v : Int) (m : GMsg) (hl : l.length < 1000000) (hk : l.length < K) : DK K x l v m K false 0 = some (l.any fun v => ieq v m.To) := by
 have h := AE (l := l) (L := fun k s i => DK K x l v m k s i) (fun y s c => bif s then c true else c (ieq y m.To)) (fun s => some s) (fun k s i _ => by
  show DK K x l v m (k + 1) s i = _
  rw [DK]
  rcases FW l i with ⟨z, e1, e2, e3, e4⟩ | ⟨e1, e2⟩
  · rw [e2, e3, e4]; cases s <;> rfl
  · rw [e2]; rfl) om (K := K) hk false
 have hw : ∀ (l : List Int) (s : Bool), goL (fun y s c => bif s then c true else c (ieq y m.To)) (fun s => some s) l s = some (s || l.any fun v => ieq v m.To) := by
  intro l
  induction l with
  | nil => intro s; simp [goL]
  | cons y l ih =>
   intro s
   rw [goL]
   cases s
   · rw [cF, ih, List.any_cons, Bool.false_or]
   · rw [cT, ih]; rfl
 rw [hw, Bool.false_or] at h
 exact h
theorem Ft (g : GGraph) (j : GJob) (hn : g.N ≤ 24) (p : Int) : (Ak g j p).length ≤ 24 := by
 unfold Ak Cr
 refine Nat.le_trans (List.length_filter_le _ _) ?_
 simp; omega
theorem Ut {K : Nat} (hK : 1000 ≤ K) (g : GGraph) (j : GJob) (x : GPart) (hp : 1 ≤ j.Parts) (hn : g.N ≤ 24) (hl : x.In.length < 1000000) (hk : x.In.length < K) : EV K x ((Ak g j x.P).map Int.ofNat) K 0 = some (Bf (Bj g.N j.Parts x.P (-1) x.In)) := by
 have hv := Ft g j hn x.P
 let step : Nat → GMsg → Unit → (Unit → Option (Unit ⊕ Unit)) → Option (Unit ⊕ Unit) := fun i m _ c =>
  (DK K x ((Ak g j x.P).map Int.ofNat) (i : Int) m K false 0).bind fun w3384 =>
  bif w3384 then
   (bif (ilt 0 (i : Int)) then
    (bif (inr (wsub .i64 (i : Int) 1) (len x.In)) then
    (elAt x.In (wsub .i64 (i : Int) 1)).bind fun x3389 =>
    bif (ile m.To x3389.To) then (some (.inl ())) else c ()
    else none)
   else c ())
  else some (.inl ())
 have h := Bw (l := x.In) (L := fun k (_ : Unit) i => EV K x ((Ak g j x.P).map Int.ofNat) k i) step (fun _ => some (.inr ())) (fun k st i hi => rfl) om K () 0 om om
 have hw : ∀ (r : List GMsg) (i : Nat), x.In.drop i = r → goI step (fun _ => some (.inr ())) i r () = some (Bf (Bj g.N j.Parts x.P (match Bu x.In i with | none => -1 | some d => if 0 ≤ d.To then d.To else -1) r)) ∨ (∃ d, Bu x.In i = some d ∧ d.To < 0) := by
  intro r
  induction r with
  | nil => intro i _; exact .inl rfl
  | cons m r ih =>
   intro i hr
   obtain ⟨n1, n2, hi⟩ := Ga hr
   by_cases hneg : ∃ d, Bu x.In i = some d ∧ d.To < 0
   · exact .inr hneg
   left
   rw [goI]
   show ((DK K x ((Ak g j x.P).map Int.ofNat) (i : Int) m K false 0).bind fun w3384 =>
   bif w3384 then
    (bif (ilt 0 (i : Int)) then
     (bif (inr (wsub .i64 (i : Int) 1) (len x.In)) then
     (elAt x.In (wsub .i64 (i : Int) 1)).bind fun x3389 =>
     bif (ile m.To x3389.To) then (some (.inl ())) else goI step (fun _ => some (.inr ())) (i + 1) r ()
     else none)
    else goI step (fun _ => some (.inr ())) (i + 1) r ())
   else some (.inl ())) = _
   rw [T7 x _ _ m (by simp; omega) (by simp; omega), Tq hp, bS]
   cases h0 : ile 0 m.To
   · have := Di.1 h0
     have hno : ∀ a : Int, -1 ≤ a → ilt a m.To = false := fun a ha => Ab.2 om
     have hprev : (-1 : Int) ≤ (match Bu x.In i with | none => -1 | some d => if 0 ≤ d.To then d.To else -1) := by
      split
      · omega
      · split <;> omega
     rw [Bj, hno _ hprev]; rfl
   · have hm0 := AK.1 h0
     have nx : goI step (fun _ => some (.inr ())) (i + 1) r () = some (Bf (Bj g.N j.Parts x.P m.To r)) := by
      rcases ih (i + 1) n2 with q | ⟨d, q1, q2⟩
      · rw [n1] at q
        dsimp only at q
        rw [if_pos hm0] at q; exact q
      · rw [n1] at q1; cases q1; omega
     rw [nx, Bj]
     cases i with
     | zero =>
      have e1 : ilt 0 ((0 : Nat) : Int) = false := rfl
      have e2 : (match Bu x.In 0 with | none => (-1 : Int) | some d => if 0 ≤ d.To then d.To else -1) = -1 := rfl
      rw [e1, e2, Ad.2 (by omega : (-1 : Int) < m.To)]
      cases ilt m.To g.N <;> cases ieq (m.To % j.Parts) x.P <;> rfl
     | succ q =>
      obtain ⟨d, p1, p2, p3, p4⟩ := H4 (l := x.In) (i := q + 1) om hi om
      have hd : ¬ d.To < 0 := fun hh => hneg ⟨d, p1, hh⟩
      have e1 : ilt 0 ((q + 1 : Nat) : Int) = true := Ad.2 om
      rw [e1, p2, p3, p4, p1]
      simp only [bS, cT, Bool.true_and, EO (a := m.To), if_pos (show 0 ≤ d.To by omega)]
      cases ilt d.To m.To <;> cases ilt m.To g.N <;> cases ieq (m.To % j.Parts) x.P <;> rfl
 rcases hw x.In 0 rfl with q | ⟨d, q1, _⟩
 · rw [List.drop_zero, q] at h; exact h
 · cases q1
theorem NK {K : Nat} (hK : 1000 ≤ K) (g : GGraph) (j : GJob) (x : GPart) (hl : x.In.length < 1000000) (hk : x.In.length < K) : F17 K g j x = some (Av g j x) := by
 rw [F17, E6 om, bS, Av]
 cases hc : ieq (An g j) 0
 · rfl
 · obtain ⟨hg, p1, p2, p3, p4, p5, p6, p7, p8⟩ := Au hc
   obtain ⟨g1, g2, _, _⟩ := AQ hg
   have n3 : nlen (len ((Ak g j x.P).map Int.ofNat)) = AL g j x.P := by simp [nlen, len, AL]
   rw [cT, J3 om p7 p8 g2, bS, Ut hK g j x p7 g2 hl hk, n3]
   have n1 : nlen (len x.Vals) = (x.Vals.length : Int) := rfl
   have n2 : nlen (len x.Rest) = (x.Rest.length : Int) := rfl
   rw [Ea x.P 0, EO (a := j.Parts), Ea x.Step 0, Ea 40 x.Step, n1, n2, I4]
   cases ile 0 x.P <;> cases ilt x.P j.Parts <;> cases ile 0 x.Step <;> cases ile x.Step 40 <;> cases ieq (x.Vals.length : Int) (AL g j x.P) <;> cases ieq (x.Rest.length : Int) (AL g j x.P) <;> rfl
def Aq (g : GGraph) (j : GJob) (s : GState) : Bool :=
 ieq (An g j) 0 && (ile 0 s.Step && (ile s.Step 40 && (ieq (s.Vals.length : Int) g.N && (ieq (s.Rest.length : Int) g.N && Cn g.N (-1) s.In))))
theorem NQ {K : Nat} (g : GGraph) (s : GState) (hl : s.In.length < 1000000) (hK : s.In.length < K) : EZ K g s K 0 = some (Bf (Cn g.N (-1) s.In)) := by
 let step : Nat → GMsg → Unit → (Unit → Option (Unit ⊕ Unit)) → Option (Unit ⊕ Unit) := fun i m _ c =>
  bif (ilt m.To 0) then (some (.inl ())) else bif (ile g.N m.To) then (some (.inl ())) else
  bif (ilt 0 (i : Int)) then
   (bif (inr (wsub .i64 (i : Int) 1) (len s.In)) then
   (elAt s.In (wsub .i64 (i : Int) 1)).bind fun d => bif (ile m.To d.To) then (some (.inl ())) else c ()
   else none)
  else c ()
 have h := Bw (l := s.In) (L := fun k (_ : Unit) i => EZ K g s k i) step (fun _ => some (.inr ())) (fun k st i hi => rfl) om K () 0 om om
 have hw : ∀ (r : List GMsg) (i : Nat), s.In.drop i = r → (∀ d, Bu s.In i = some d → 0 ≤ d.To) → goI step (fun _ => some (.inr ())) i r () = some (Bf (Cn g.N (match Bu s.In i with | none => -1 | some d => d.To) r)) := by
  intro r
  induction r with
  | nil => intro i _ _; rfl
  | cons m r ih =>
   intro i hr hp
   obtain ⟨n1, n2, hi⟩ := Ga hr
   rw [goI]
   show (bif (ilt m.To 0) then (some (.inl ())) else bif (ile g.N m.To) then (some (.inl ())) else
   bif (ilt 0 (i : Int)) then
    (bif (inr (wsub .i64 (i : Int) 1) (len s.In)) then
    (elAt s.In (wsub .i64 (i : Int) 1)).bind fun d => bif (ile m.To d.To) then (some (.inl ())) else goI step (fun _ => some (.inr ())) (i + 1) r ()
    else none)
   else goI step (fun _ => some (.inr ())) (i + 1) r ()) = _
   cases h0 : ilt m.To 0
   · have hm0 := Ab.1 h0
     have nx := ih (i + 1) n2 (fun d hd => by rw [n1] at hd; cases hd; exact hm0)
     rw [n1] at nx
     dsimp only at nx
     rw [nx, Cn, EO]
     cases i with
     | zero =>
      have e1 : ilt 0 ((0 : Nat) : Int) = false := rfl
      have e2 : (match Bu s.In 0 with | none => (-1 : Int) | some d => d.To) = -1 := rfl
      rw [e1, e2, Ad.2 (by omega : (-1 : Int) < m.To)]
      cases ilt m.To g.N <;> rfl
     | succ q =>
      obtain ⟨d, p1, p2, p3, p4⟩ := H4 (l := s.In) (i := q + 1) om hi om
      have e1 : ilt 0 ((q + 1 : Nat) : Int) = true := Ad.2 om
      rw [e1, p2, p3, p4, p1]
      simp only [bS, cT, cF, EO (a := m.To)]
      cases ilt d.To m.To <;> cases ilt m.To g.N <;> rfl
   · have hm0 := Ad.1 h0
     have hno : ∀ a : Int, -1 ≤ a → ilt a m.To = false := fun a ha => Ab.2 om
     have hprev : (-1 : Int) ≤ (match Bu s.In i with | none => -1 | some d => d.To) := by
      split
      · omega
      · rename_i d hd; have := hp d hd; omega
     rw [Cn, hno _ hprev]; rfl
 have := hw s.In 0 rfl (fun d hd => by cases hd)
 rw [List.drop_zero, this] at h
 exact h
theorem Ih {K : Nat} (hK : 1000 ≤ K) (g : GGraph) (j : GJob) (s : GState) (hl : s.In.length < 1000000) (hk : s.In.length < K) : F20 K g j s = some (Aq g j s) := by
 rw [F20, E6 om, bS, Aq]
 cases hc : ieq (An g j) 0
 · rfl
 · rw [cT, NQ g s hl hk]
   have n1 : nlen (len s.Vals) = (s.Vals.length : Int) := rfl
   have n2 : nlen (len s.Rest) = (s.Rest.length : Int) := rfl
   rw [Ea s.Step 0, Ea 40 s.Step, n1, n2, I4]
   cases ile 0 s.Step <;> cases ile s.Step 40 <;> cases ieq (s.Vals.length : Int) g.N <;> cases ieq (s.Rest.length : Int) g.N <;> rfl
theorem Ic {α : Type} {l : List α} (eq : α → α → Option (Unit ⊕ Unit) → Option (Unit ⊕ Unit)) (he : ∀ x ∈ l, ∀ c, eq x x c = c) : ∀ (r : List α) (i : Nat), l.drop i = r →
 goI (fun i x (_ : Unit) c => bif inr (i : Int) (len l) then (elAt l (i : Int)).bind fun y => eq x y (c ()) else none) (fun _ => some (.inr ())) i r () = some (.inr ()) := by
 intro r
 induction r with
 | nil => intro i _; rfl
 | cons x r ih =>
  intro i hr
  have hi := EG hr
  have hd := List.drop_eq_getElem_cons hi
  rw [hr] at hd
  injection hd with a b
  have e1 : inr (i : Int) (len l) = true := decide_eq_true ⟨by omega, by show (i : Int) < (l.length : Int); omega⟩
  have e2 : elAt l (i : Int) = some x := by rw [Bg, a]; simp [hi]
  rw [goI, e1, e2, cT, bS, he x (by rw [a]; exact List.getElem_mem hi)]
  exact ih (i + 1) b.symm
theorem S2 {K : Nat} (l : List Int) (hl : l.length < 1000000) (hK : l.length < K) : F52 K l l = some true := by
 have h := Bw (l := l) (L := fun k (_ : Unit) i => Gd K l l k i) (fun i x (_ : Unit) c => bif inr (i : Int) (len l) then (elAt l (i : Int)).bind fun y => bif ieq x y then c () else some (.inl ()) else none) (fun _ => some (.inr ())) (fun k st i hi => rfl) om K () 0 om om
 have g := Ic (l := l) (fun x y c => bif ieq x y then c else some (.inl ())) (fun x _ c => by rw [A6]; rfl) l 0 rfl
 have h' : Gd K l l K 0 = some (.inr ()) := h.trans g
 rw [F52, A6, h']; rfl
theorem Qm {K : Nat} (l : List Bool) (hl : l.length < 1000000) (hK : l.length < K) : F53 K l l = some true := by
 have h := Bw (l := l) (L := fun k (_ : Unit) i => Gn K l l k i) (fun i x (_ : Unit) c => bif inr (i : Int) (len l) then (elAt l (i : Int)).bind fun y => bif beqb x y then c () else some (.inl ()) else none) (fun _ => some (.inr ())) (fun k st i hi => rfl) om K () 0 om om
 have g := Ic (l := l) (fun x y c => bif beqb x y then c else some (.inl ())) (fun x _ c => by rw [S9]; rfl) l 0 rfl
 have h' : Gn K l l K 0 = some (.inr ()) := h.trans g
 rw [F53, A6, h']; rfl
theorem PG {K : Nat} (l : List GMsg) (hl : l.length < 1000000) (hK : l.length < K) : F37 K l l = some true := by
 have h := Bw (l := l) (L := fun k (_ : Unit) i => F6 K l l k i) (fun i x (_ : Unit) c => bif inr (i : Int) (len l) then (elAt l (i : Int)).bind fun y => bif ieq x.To y.To then (bif ieq x.V y.V then c () else some (.inl ())) else some (.inl ()) else none) (fun _ => some (.inr ())) (fun k st i hi => rfl) om K () 0 om om
 have g := Ic (l := l) (fun x y c => bif ieq x.To y.To then (bif ieq x.V y.V then c else some (.inl ())) else some (.inl ())) (fun x _ c => by rw [A6, A6]; rfl) l 0 rfl
 have h' : F6 K l l K 0 = some (.inr ()) := h.trans g
 rw [F37, A6, h']; rfl
def Kk (K : Nat) (x : GPart) : Prop := (x.Vals.length < 1000000 ∧ x.Vals.length < K) ∧ (x.Rest.length < 1000000 ∧ x.Rest.length < K) ∧ x.In.length < 1000000 ∧ x.In.length < K
theorem HZ {α : Type} {lt : α → α → Prop} (asym : ∀ a b, lt a b → ¬ lt b a) : ∀ {l l' : List α}, l.Pairwise lt → l'.Pairwise lt → (∀ x, x ∈ l ↔ x ∈ l') → l = l'
 | [], [], _, _, _ => rfl
 | [], b :: l', _, _, h => absurd ((h b).2 List.mem_cons_self) (by simp)
 | a :: l, [], _, _, h => absurd ((h a).1 List.mem_cons_self) (by simp)
 | a :: l, b :: l', h1, h2, h => by
  obtain ⟨p1, p2⟩ := List.pairwise_cons.1 h1
  obtain ⟨q1, q2⟩ := List.pairwise_cons.1 h2
  have hab : a = b := by
   rcases List.mem_cons.1 ((h a).1 List.mem_cons_self) with e | e
   · exact e
   · rcases List.mem_cons.1 ((h b).2 List.mem_cons_self) with e' | e'
     · exact e'.symm
     · exact absurd (p1 b e') (asym _ _ (q1 a e))
  subst hab
  congr 1
  refine HZ asym p2 q2 fun x => ⟨fun hx => ?_, fun hx => ?_⟩
  · rcases List.mem_cons.1 ((h x).1 (List.mem_cons_of_mem _ hx)) with e | e
    · subst e; exact absurd (p1 x hx) (fun q => asym _ _ q q)
    · exact e
  · rcases List.mem_cons.1 ((h x).2 (List.mem_cons_of_mem _ hx)) with e | e
    · subst e; exact absurd (q1 x hx) (fun q => asym _ _ q q)
    · exact e
def leM (a b : GMsg) : Bool := ilt a.To b.To || (ieq a.To b.To && ile a.V b.V)
theorem Gr {a b : GMsg} : leM a b = true ↔ a.To < b.To ∨ a.To = b.To ∧ a.V ≤ b.V := by simp [leM, ilt, ieq, ile]
theorem TK {a b : GMsg} : leM a b = false ↔ ¬ (a.To < b.To ∨ a.To = b.To ∧ a.V ≤ b.V) := by rw [← Gr]; simp
theorem I1 {a b c : GMsg} (h : leM a b = true) (g : leM b c = true) : leM a c = true := by rw [Gr] at *; omega
theorem Oi {a b : GMsg} (h : leM a b = true) (g : leM b a = true) : a = b := by
 rw [Gr] at h g
 cases a; cases b
 simp only [GMsg.mk.injEq]
 dsimp only at h g
 omega
theorem Ml {a b : GMsg} (h : leM a b = false) : leM b a = true := by rw [TK] at h; rw [Gr]; omega
def Dr (l : List GMsg) : Prop := l.Pairwise fun a b => leM a b = true
theorem Qq {l l' : List GMsg} (h : Dr l) (h' : Dr l') (hp : l.Perm l') : l = l' :=
 List.Perm.eq_of_pairwise (fun a b _ _ h1 h2 => Oi h1 h2) h h' hp
def CT : List GMsg → GMsg → List GMsg → List GMsg
 | [], x, Q => x :: Q
 | y :: R, x, Q => bif leM y x then (y :: R).reverse ++ x :: Q else CT R x (y :: Q)
def Ay (l : List GMsg) : List GMsg := l.foldl (fun acc x => CT acc.reverse x []) []
theorem I2 (x : GMsg) : ∀ (R Q : List GMsg), (CT R x Q).Perm (R.reverse ++ x :: Q)
 | [], Q => List.Perm.refl _
 | y :: R, Q => by
  rw [CT]
  cases leM y x
  · refine (I2 x R (y :: Q)).trans ?_
    rw [List.reverse_cons, List.append_assoc]
    exact List.Perm.append_left _ (List.Perm.swap y x Q)
  · exact List.Perm.refl _
theorem JA (x : GMsg) : ∀ (R Q : List GMsg), Dr (R.reverse ++ Q) → (∀ q ∈ Q, leM x q = true) → Dr (CT R x Q)
 | [], Q, h, hx => List.pairwise_cons.2 ⟨hx, h⟩
 | y :: R, Q, h, hx => by
  rw [CT]
  cases hy : leM y x
  · refine JA x R (y :: Q) ?_ fun q hq => ?_
    · rw [List.reverse_cons, List.append_assoc] at h; exact h
    · rcases List.mem_cons.1 hq with e | e
      · subst e; exact Ml hy
      · exact hx q e
  · obtain ⟨h1, h2, h3⟩ := List.pairwise_append.1 h
    refine List.pairwise_append.2 ⟨h1, List.pairwise_cons.2 ⟨hx, h2⟩, fun a ha b hb => ?_⟩
    have hay : a = y ∨ leM a y = true := by
     rw [List.reverse_cons] at ha h1
     obtain ⟨_, _, h6⟩ := List.pairwise_append.1 h1
     rcases List.mem_append.1 ha with e | e
     · exact .inr (h6 a e y (by simp))
     · exact .inl (List.mem_singleton.1 e)
    rcases List.mem_cons.1 hb with e | e
    · subst e
      rcases hay with e | e
      · subst e; exact hy
      · exact I1 e hy
    · exact h3 a ha b e
theorem It : ∀ (l acc : List GMsg), Dr acc → Dr (l.foldl (fun acc x => CT acc.reverse x []) acc) ∧ (l.foldl (fun acc x => CT acc.reverse x []) acc).Perm (acc ++ l)
 | [], acc, h => ⟨h, by simp⟩
 | x :: l, acc, h => by
  have h1 : Dr (CT acc.reverse x []) := JA x acc.reverse [] (by simpa using h) (fun q hq => (nomatch hq))
  have h2 : (CT acc.reverse x []).Perm (acc ++ [x]) := by simpa using I2 x acc.reverse []
  obtain ⟨a, b⟩ := It l _ h1
  refine ⟨a, b.trans ?_⟩
  have := h2.append_right l
  simpa using this
theorem FF (l : List GMsg) : Dr (Ay l) := (It l [] List.Pairwise.nil).1
theorem C4 (l : List GMsg) : (Ay l).Perm l := by
 have := (It l [] List.Pairwise.nil).2
 rwa [List.nil_append] at this
theorem Et (l : List GMsg) : (Ay l).length = l.length := (C4 l).length_eq
theorem Jg {l r : List GMsg} (h : Dr r) (hp : r.Perm l) : Ay l = r := Qq (FF l) h ((C4 l).trans hp.symm)
theorem SJ {l l' : List GMsg} (hp : l.Perm l') : Ay l = Ay l' := Jg (FF l') ((C4 l').trans hp.symm)
theorem NV {α : Type} (A : List α) (y x : α) (Q : List α) : (A ++ y :: x :: Q)[A.length]? = some y ∧ (A ++ y :: x :: Q)[A.length + 1]? = some x ∧ (A ++ y :: x :: Q).set A.length x = A ++ x :: x :: Q ∧ (A ++ x :: x :: Q)[A.length + 1]? = some x ∧ (A ++ x :: x :: Q).set (A.length + 1) y = A ++ x :: y :: Q := by
 refine ⟨by simp, ?_, ?_, ?_, ?_⟩
 · rw [List.getElem?_append_right om]; simp
 · rw [List.set_append_right (h := by omega)]; simp
 · rw [List.getElem?_append_right om]; simp
 · rw [List.set_append_right (h := by omega)]; simp
theorem Qu (K : Nat) (a : List GMsg) (v : Int) (x : GMsg) : ∀ (R Q : List GMsg) (k : Nat), R.length < k → R.length < 1000000 → DM K a v k (R.reverse ++ x :: Q) (R.length : Int) = some (CT R x Q) := by
 intro R
 induction R with
 | nil =>
  intro Q k hk _
  obtain ⟨k, rfl⟩ : ∃ q, k = q + 1 := ⟨k - 1, by omega⟩
  rw [DM]; rfl
 | cons y R ih =>
  intro Q k hk hl
  obtain ⟨k, rfl⟩ : ∃ q, k = q + 1 := ⟨k - 1, by omega⟩
  simp only [List.length_cons] at hk hl
  have e0 : (y :: R).reverse ++ x :: Q = R.reverse ++ y :: x :: Q := by simp
  obtain ⟨s1, s2, s3, s4, s5⟩ := NV R.reverse y x Q
  rw [List.length_reverse] at s1 s2 s3 s4 s5
  have hlen : (R.reverse ++ y :: x :: Q).length = R.length + (Q.length + 2) := by simp
  have w : wsub .i64 ((R.length + 1 : Nat) : Int) 1 = ((R.length : Nat) : Int) := by
   show IntKind.i64.wrap _ = _
   rw [IntKind.wrap_i64]; omega
  have i1 : inr ((R.length : Nat) : Int) (len (R.reverse ++ y :: x :: Q)) = true := decide_eq_true ⟨by omega, by show ((R.length : Nat) : Int) < (((R.reverse ++ y :: x :: Q).length : Nat) : Int); omega⟩
  have i2 : inr ((R.length + 1 : Nat) : Int) (len (R.reverse ++ y :: x :: Q)) = true := decide_eq_true ⟨by omega, by show ((R.length + 1 : Nat) : Int) < (((R.reverse ++ y :: x :: Q).length : Nat) : Int); omega⟩
  have p1 : putAt (R.reverse ++ y :: x :: Q) ((R.length : Nat) : Int) x = R.reverse ++ x :: x :: Q := by unfold putAt; rw [Int.toNat_natCast]; exact s3
  have i3 : inr ((R.length + 1 : Nat) : Int) (len (R.reverse ++ x :: x :: Q)) = true := decide_eq_true ⟨by omega, by show ((R.length + 1 : Nat) : Int) < (((R.reverse ++ x :: x :: Q).length : Nat) : Int); simp; omega⟩
  have p2 : putAt (R.reverse ++ x :: x :: Q) ((R.length + 1 : Nat) : Int) y = R.reverse ++ x :: y :: Q := by unfold putAt; rw [Int.toNat_natCast]; exact s5
  have g1 : elAt (R.reverse ++ y :: x :: Q) ((R.length : Nat) : Int) = some y := by rw [Bg]; exact s1
  have g2 : elAt (R.reverse ++ y :: x :: Q) ((R.length + 1 : Nat) : Int) = some x := by rw [Bg]; exact s2
  have g3 : elAt (R.reverse ++ x :: x :: Q) ((R.length + 1 : Nat) : Int) = some x := by rw [Bg]; exact s4
  rw [e0, List.length_cons, DM, Ad.2 (by omega : (0 : Int) < ((R.length + 1 : Nat) : Int)), cT, w, i1, cT, g1, bS, i2, cT, g2, bS, p1, i3, g3, CT, leM]
  have sw := ih (y :: Q) k om om
  cases ilt y.To x.To
  · cases ieq y.To x.To
    · simp only [cF, cT, bS, p2, Bool.false_or, Bool.false_and]; exact sw
    · cases ile y.V x.V
      · simp only [cF, cT, bS, p2, Bool.false_or, Bool.true_and]; exact sw
      · simp
  · simp
theorem VF {K : Nat} (l : List GMsg) (hl : l.length < 100000) (hK : l.length < K) : F77 K l = some (Ay l) := by
 let step : Nat → GMsg → List GMsg → (List GMsg → Option (List GMsg)) → Option (List GMsg) := fun i x a c =>
  bif (apok (len a) 1 16) then (DM K l (i : Int) K (appL a [x]) (wsub .i64 (nlen (len (α := GMsg) (appL a [x]))) 1)).bind fun w => c w else none
 have h := Bw (l := l) (L := fun k s i => Gm K l k s i) step (fun s => some s) (fun k s i _ => rfl) om K [] 0 om om
 have hw : ∀ (r : List GMsg) (i : Nat) (a : List GMsg), a.length + r.length ≤ l.length → goI step (fun s => some s) i r a = some (r.foldl (fun acc x => CT acc.reverse x []) a) := by
  intro r
  induction r with
  | nil => intro i a _; rfl
  | cons x r ih =>
   intro i a ha
   simp only [List.length_cons] at ha
   rw [goI]
   show (bif (apok (len a) 1 16) then (DM K l (i : Int) K (appL a [x]) (wsub .i64 (nlen (len (α := GMsg) (appL a [x]))) 1)).bind fun w => goI step (fun s => some s) (i + 1) r w else none) = _
   have ap : apok (len a) 1 16 = true := decide_eq_true ⟨by show a.length + 1 ≤ _; omega, by show (a.length + 1) * 16 ≤ _; omega⟩
   have w : wsub .i64 (nlen (len (α := GMsg) (appL a [x]))) 1 = ((a.reverse.length : Nat) : Int) := by
    have : nlen (len (α := GMsg) (appL a [x])) = ((a.length + 1 : Nat) : Int) := by simp [nlen, len, appL]
    rw [this, List.length_reverse]
    show IntKind.i64.wrap _ = _
    rw [IntKind.wrap_i64]; omega
   have e : appL a [x] = a.reverse.reverse ++ x :: [] := by simp [appL]
   have hb := (I2 x a.reverse []).length_eq
   rw [ap, cT, w, e, Qu K l (i : Int) x a.reverse [] K (by simp; omega) (by simp; omega), bS, ih (i + 1) _ (by rw [hb]; simp; omega)]; rfl
 rw [List.drop_zero, hw l 0 [] (by simp)] at h
 have h' : Gm K l K [] 0 = some (Ay l) := h
 rw [F77, h']; rfl
def i64 (n : Int) : Prop := -9223372036854775808 ≤ n ∧ n ≤ 9223372036854775807
theorem Mp {n : Int} (h : (Lit.int .i64 n).wf = true) : i64 n := bounds_i64 h
theorem Lj {a b : Int} (h : i64 (a * b)) : wmul .i64 a b = a * b := by
 show IntKind.i64.wrap (a * b) = _
 rw [IntKind.wrap_i64]; unfold i64 at h; omega
theorem Fs {a b : Int} (h : i64 (a + b)) : wadd .i64 a b = a + b := by
 show IntKind.i64.wrap (a + b) = _
 rw [IntKind.wrap_i64]; unfold i64 at h; omega
def AF (n : Int) : Bool := decide (-9223372036854775808 ≤ n) && decide (n ≤ 9223372036854775807)
theorem Cm {n : Int} : AF n = true ↔ i64 n := by simp [AF, i64]
theorem DG {n : Int} : AF n = false ↔ n < -9223372036854775808 ∨ 9223372036854775807 < n := by
 cases h : AF n
 · have : ¬ i64 n := fun q => by rw [Cm.2 q] at h; cases h
   unfold i64 at this
   simp only [true_iff]; omega
 · have := Cm.1 h
   unfold i64 at this
   simp only [Bool.true_eq_false, false_iff]; omega
def Be (a b : Int) : Int × Bool := bif AF (a + b) then (a + b, true) else (0, false)
theorem HC (K : Nat) {a b : Int} (ha : i64 a) (hb : i64 b) : EC K a b = some (Be a b) := by
 unfold i64 at ha hb
 rw [EC, Be]
 cases h1 : ilt 0 b
 · have b1 := Ab.1 h1
   cases h2 : ilt b 0
   · have b2 := Ab.1 h2
     have : b = 0 := by omega
     rw [Cm.2 (by unfold i64; omega), Fs (by unfold i64; omega)]; rfl
   · have b2 := Ad.1 h2
     have ew : wsub .i64 (-9223372036854775808) b = -9223372036854775808 - b := by
      show IntKind.i64.wrap _ = _
      rw [IntKind.wrap_i64]; omega
     rw [cF, cT, ew]
     cases h3 : ilt a (-9223372036854775808 - b)
     · have := Ab.1 h3
       rw [Cm.2 (by unfold i64; omega), Fs (by unfold i64; omega)]; rfl
     · have := Ad.1 h3
       rw [DG.2 om]; rfl
 · have b1 := Ad.1 h1
   have ew : wsub .i64 9223372036854775807 b = 9223372036854775807 - b := by
    show IntKind.i64.wrap _ = _
    rw [IntKind.wrap_i64]; omega
   rw [cT, ew, Ab.2 (by omega : (0 : Int) ≤ b), cF]
   cases h3 : ilt (9223372036854775807 - b) a
   · have := Ab.1 h3
     rw [Cm.2 (by unfold i64; omega), Fs (by unfold i64; omega)]; rfl
   · have := Ad.1 h3
     rw [DG.2 om]; rfl
theorem H5 (K : Nat) {a b : Int} (ha : i64 a) (hb : i64 b) : F84 K a b = some (Be a b) := by
 unfold i64 at ha hb
 have ew : wadd .i64 a b = bif AF (a + b) then a + b else bif ilt (a + b) 0 then a + b + 18446744073709551616 else a + b - 18446744073709551616 := by
  show IntKind.i64.wrap (a + b) = _
  rw [IntKind.wrap_i64]
  cases h : AF (a + b)
  · have := DG.1 h
    cases h2 : ilt (a + b) 0
    · have := Ab.1 h2; simp only [cF]; omega
    · have := Ad.1 h2; simp only [cF, cT]; omega
  · have := Cm.1 h; unfold i64 at this; simp only [cT]; omega
 have eg : ∀ x : Int, ige x 0 = !(ilt x 0) := fun x => by
  unfold ige ilt
  by_cases h : x < 0 <;> simp [h] <;> omega
 rw [F84, Be, eg, eg, eg, ew]
 cases h : AF (a + b)
 · have h' := DG.1 h
   rcases h' with h' | h'
   · rw [Ad.2 (by omega : a < 0), Ad.2 (by omega : b < 0), Ad.2 (by omega : a + b < 0)]
     simp only [cF, cT]
     rw [Ab.2 (by omega : 0 ≤ a + b + 18446744073709551616)]; rfl
   · rw [Ab.2 (by omega : 0 ≤ a), Ab.2 (by omega : 0 ≤ b), Ab.2 (by omega : 0 ≤ a + b)]
     simp only [cF, cT]
     rw [Ad.2 (by omega : a + b - 18446744073709551616 < 0)]; rfl
 · simp only [cT]
   cases h1 : ilt a 0 <;> cases h2 : ilt b 0
   · rw [Ab.2 (by have := Ab.1 h1; have := Ab.1 h2; omega : 0 ≤ a + b)]; rfl
   · rfl
   · rfl
   · rw [Ad.2 (by have := Ad.1 h1; have := Ad.1 h2; omega : a + b < 0)]; rfl
def Al (p a b : Int) : Int × Int := bif Ao p then (0, 1) else bif ieq p 5 then (bif (Be a b).2 then ((Be a b).1, 0) else (0, 8)) else bif ieq p 4 then (bif ilt a b then (b, 0) else (a, 0)) else bif ilt b a then (b, 0) else (a, 0)
theorem Lz (K : Nat) (p : Int) {a b : Int} (ha : i64 a) (hb : i64 b) : F74 K p a b = some (Al p a b) := by
 rw [F74, HC K ha hb, Al, Ao]
 cases ilt p 1
 · cases ilt 5 p
   · cases ieq p 5
     · cases ieq p 4
       · simp only [Bool.or_false, cF]
         cases h1 : ilt a b <;> cases h2 : ilt b a
         · have := Ab.1 h1; have := Ab.1 h2
           have : a = b := by omega
           subst this; rfl
         · rfl
         · rfl
         · have := Ad.1 h1; have := Ad.1 h2; omega
       · simp only [Bool.or_false, cF, cT]
         cases h1 : ilt a b <;> cases h2 : ilt b a
         · have := Ab.1 h1; have := Ab.1 h2
           have : a = b := by omega
           subst this; rfl
         · rfl
         · rfl
         · have := Ad.1 h1; have := Ad.1 h2; omega
     · simp only [Bool.or_false, cF, cT, bS]
       cases (Be a b).2 <;> rfl
   · rfl
 · rfl
theorem Mi (K : Nat) (p : Int) {a b : Int} (ha : i64 a) (hb : i64 b) : EA K p a b = some (Al p a b) := by
 rw [EA]
 rcases Ij p with q | q | q | q | q | q
 · subst q
   have e5 : ieq 1 5 = false := rfl
   have e4 : ieq 1 4 = false := rfl
   have eb : Ao 1 = false := rfl
   rw [I0, Al, e5, e4, eb]
   simp only [bS, cT, cF, BI, BK, BG, Ch, BL, BX, BT, BU, B8, B4, Cc, BN, Cg, BV, B3, B0, Cl, BE, BJ, BF, B2, B1, B5, BW, BR, BS, BZ, BP, B7, B9, BM, Ce, BO, Cf, BQ, Cj, F82]
   cases ilt b a <;> rfl
 · subst q
   have e5 : ieq 2 5 = false := rfl
   have e4 : ieq 2 4 = false := rfl
   have eb : Ao 2 = false := rfl
   rw [I3, Al, e5, e4, eb]
   simp only [bS, cT, cF, BI, BK, BG, Ch, BL, BX, BT, BU, B8, B4, Cc, BN, Cg, BV, B3, B0, Cl, BE, BJ, BF, B2, B1, B5, BW, BR, BS, BZ, BP, B7, B9, BM, Ce, BO, Cf, BQ, Cj, F82]
   cases ilt b a <;> rfl
 · subst q
   have e5 : ieq 3 5 = false := rfl
   have e4 : ieq 3 4 = false := rfl
   have eb : Ao 3 = false := rfl
   rw [Ie, Al, e5, e4, eb]
   simp only [bS, cT, cF, BI, BK, BG, Ch, BL, BX, BT, BU, B8, B4, Cc, BN, Cg, BV, B3, B0, Cl, BE, BJ, BF, B2, B1, B5, BW, BR, BS, BZ, BP, B7, B9, BM, Ce, BO, Cf, BQ, Cj, F82]
   cases ilt b a <;> rfl
 · subst q
   have e5 : ieq 4 5 = false := rfl
   have e4 : ieq 4 4 = true := rfl
   have eb : Ao 4 = false := rfl
   rw [Jm, Al, e5, e4, eb]
   simp only [bS, cT, cF, BI, BK, BG, Ch, BL, BX, BT, BU, B8, B4, Cc, BN, Cg, BV, B3, B0, Cl, BE, BJ, BF, B2, B1, B5, BW, BR, BS, BZ, BP, B7, B9, BM, Ce, BO, Cf, BQ, Cj, F89, igt]
   have : decide (b > a) = ilt a b := rfl
   rw [this]
   cases ilt a b <;> rfl
 · subst q
   have e5 : ieq 5 5 = true := rfl
   have e4 : ieq 5 4 = false := rfl
   have eb : Ao 5 = false := rfl
   rw [Ja, Al, e5, e4, eb]
   simp only [bS, cT, cF, BI, BK, BG, Ch, BL, BX, BT, BU, B8, B4, Cc, BN, Cg, BV, B3, B0, Cl, BE, BJ, BF, B2, B1, B5, BW, BR, BS, BZ, BP, B7, B9, BM, Ce, BO, Cf, BQ, Cj, H5 K ha hb]
   cases (Be a b).2 <;> rfl
 · have eb : Ao p = true := by
    unfold Ao
    rcases q with q | q
    · rw [Ad.2 q]; rfl
    · rw [Ad.2 q, Bool.or_true]
   rw [Ln K q, Al, eb]
   simp only [bS, cT, cF, BI, BK, BG, Ch, BL, BX, BT, BU, B8, B4, Cc, BN, Cg, BV, B3, B0, Cl, BE, BJ, BF, B2, B1, B5, BW, BR, BS, BZ, BP, B7, B9, BM, Ce, BO, Cf, BQ, Cj]
theorem G1 {p a b : Int} (ha : i64 a) (hb : i64 b) : i64 (Al p a b).1 := by
 have h0 : i64 0 := by unfold i64; omega
 rw [Al]
 cases Ao p
 · cases ieq p 5
   · cases ieq p 4
     · simp only [cF]
       cases ilt b a
       · exact ha
       · exact hb
     · simp only [cF, cT]
       cases ilt a b
       · exact ha
       · exact hb
   · simp only [cF, cT]
     unfold Be
     cases h : AF (a + b)
     · exact h0
     · exact Cm.1 h
 · exact h0
theorem Ny (p a b : Int) : Al p a b = Al p b a := by
 rw [Al, Al, Be, Be, Int.add_comm b a]
 cases Ao p
 · cases ieq p 5
   · simp only [cF]
     cases h1 : ilt a b <;> cases h2 : ilt b a
     · have := Ab.1 h1; have := Ab.1 h2
       have : a = b := by omega
       subst this; rfl
     · cases ieq p 4 <;> rfl
     · cases ieq p 4 <;> rfl
     · have := Ad.1 h1; have := Ad.1 h2; omega
   · rfl
 · rfl
theorem Sn {p a b c : Int} (h1 : (Al p a b).2 = 0) (h2 : (Al p (Al p a b).1 c).2 = 0) (h3 : (Al p b c).2 = 0) : Al p a (Al p b c).1 = Al p (Al p a b).1 c := by
 cases hb : Ao p
 · cases h5 : ieq p 5
   · cases h4 : ieq p 4
     · have e : ∀ x y, Al p x y = bif ilt y x then (y, 0) else (x, 0) := fun x y => by rw [Al, hb, h5, h4]; rfl
       rw [e a b, e b c]
       cases q1 : ilt b a <;> cases q2 : ilt c b <;> simp only [cT, cF, e]
       · have := Ab.1 q1; have := Ab.1 q2
         rw [q1, Ab.2 (by omega : a ≤ c)]; rfl
       · rw [q1, q2]; rfl
       · have := Ad.1 q1; have := Ad.1 q2
         rw [q2, Ad.2 (by omega : c < a)]; rfl
     · have e : ∀ x y, Al p x y = bif ilt x y then (y, 0) else (x, 0) := fun x y => by rw [Al, hb, h5, h4]; rfl
       rw [e a b, e b c]
       cases q1 : ilt a b <;> cases q2 : ilt b c <;> simp only [cT, cF, e]
       · have := Ab.1 q1; have := Ab.1 q2
         rw [q1, Ab.2 (by omega : c ≤ a)]; rfl
       · rw [q1, q2]; rfl
       · have := Ad.1 q1; have := Ad.1 q2
         rw [q2, Ad.2 (by omega : a < c)]; rfl
   · have e : ∀ x y, Al p x y = bif AF (x + y) then (x + y, 0) else (0, 8) := fun x y => by
      rw [Al, hb, h5, Be]
      cases AF (x + y) <;> rfl
     rw [e a b] at h1 h2 ⊢
     rw [e b c] at h3 ⊢
     cases q1 : AF (a + b)
     · rw [q1] at h1; cases h1
     · cases q2 : AF (b + c)
       · rw [q2] at h3; cases h3
       · rw [q1] at h2
         simp only [cT, e] at h2 ⊢
         have : a + b + c = a + (b + c) := by omega
         rw [this]
 · rw [Al, hb] at h1; cases h1
theorem TU (K : Nat) (y x : GMsg) : GU K y x = some (!(leM x y)) := by
 rw [GU, leM]
 cases h1 : ilt y.To x.To
 · cases h2 : ieq y.To x.To
   · have := Ab.1 h1; have := As.1 h2
     rw [Ad.2 (by omega : x.To < y.To)]; rfl
   · have e := Af.1 h2
     rw [Ab.2 (by omega : y.To ≤ x.To), Af.2 e.symm]
     simp only [cF, cT, Bool.false_or, Bool.true_and]
     congr 1
     cases h3 : ilt y.V x.V
     · rw [AK.2 (by have := Ab.1 h3; omega)]; rfl
     · rw [Di.2 (by have := Ad.1 h3; omega)]; rfl
 · have := Ad.1 h1
   rw [Ab.2 (by omega : y.To ≤ x.To), As.2 (by omega : x.To ≠ y.To)]; rfl
theorem Tf {K : Nat} : ∀ (k : Nat) (a b c : List GMsg), a.length + b.length < k → a.length + b.length + c.length < 100000 → Dr (c ++ a) → Dr (c ++ b) →
 ∃ a' b' c', Ff K k a b c = some (a', (b', c')) ∧ (c' ++ a' ++ b').Perm (c ++ a ++ b) ∧ Dr (c' ++ a' ++ b') := by
 intro k
 induction k with
 | zero => intro a b c h; omega
 | succ k ih =>
  intro a b c hk hl ha hb
  rw [Ff]
  cases a with
  | nil => exact ⟨[], b, c, rfl, List.Perm.refl _, by simpa using hb⟩
  | cons x a =>
   cases b with
   | nil =>
    refine ⟨x :: a, [], c, ?_, List.Perm.refl _, by simpa using ha⟩
    rw [Ad.2 (show (0 : Int) < nlen (len (x :: a)) by show (0 : Int) < ((a.length + 1 : Nat) : Int); omega)]; rfl
   | cons y b =>
    simp only [List.length_cons] at hk hl
    have i1 : ilt 0 (nlen (len (x :: a))) = true := Ad.2 (by show (0 : Int) < ((a.length + 1 : Nat) : Int); omega)
    have i2 : ilt 0 (nlen (len (y :: b))) = true := Ad.2 (by show (0 : Int) < ((b.length + 1 : Nat) : Int); omega)
    have r1 : inr 0 (len (x :: a)) = true := decide_eq_true ⟨by omega, by show (0 : Int) < (((a.length + 1 : Nat)) : Int); omega⟩
    have r2 : inr 0 (len (y :: b)) = true := decide_eq_true ⟨by omega, by show (0 : Int) < (((b.length + 1 : Nat)) : Int); omega⟩
    have g1 : elAt (x :: a) 0 = some x := rfl
    have g2 : elAt (y :: b) 0 = some y := rfl
    have ap : apok (len c) 1 16 = true := decide_eq_true ⟨by show c.length + 1 ≤ _; omega, by show (c.length + 1) * 16 ≤ _; omega⟩
    have b1 : bnd 1 (nlen (len (x :: a))) (len (x :: a)) = true := by simp [bnd, nlen, len]; omega
    have b2 : bnd 1 (nlen (len (y :: b))) (len (y :: b)) = true := by simp [bnd, nlen, len]; omega
    have s1 : subL (x :: a) 1 (nlen (len (x :: a))) = a := by simp [subL, nlen, len]
    have s2 : subL (y :: b) 1 (nlen (len (y :: b))) = b := by simp [subL, nlen, len]
    rw [i1, i2, r1, r2, g1, g2, ap, b1, b2, s1, s2]
    simp only [cT, bS, TU]
    have ha' := List.pairwise_append.1 ha
    have hb' := List.pairwise_append.1 hb
    have hxa := List.pairwise_cons.1 ha'.2.1
    have hyb := List.pairwise_cons.1 hb'.2.1
    cases hxy : leM x y
    · have hyx := Ml hxy
      obtain ⟨a', b', c', e, p, q⟩ := ih (x :: a) b (c ++ [y]) (by simp; omega) (by simp; omega)
       (by
        refine List.pairwise_append.2 ⟨List.pairwise_append.2 ⟨hb'.1, List.pairwise_singleton _ _, fun u hu w hw => ?_⟩, ha'.2.1, fun u hu w hw => ?_⟩
        · rw [List.mem_singleton.1 hw]; exact hb'.2.2 u hu y List.mem_cons_self
        · rcases List.mem_append.1 hu with hu | hu
          · exact ha'.2.2 u hu w hw
          · rw [List.mem_singleton.1 hu]
            rcases List.mem_cons.1 hw with rfl | hw
            · exact hyx
            · exact I1 hyx (hxa.1 w hw))
       (by rw [List.append_assoc]; exact hb)
      refine ⟨a', b', c', e, p.trans ?_, q⟩
      have : (c ++ [y] ++ (x :: a) ++ b) = c ++ (y :: (x :: a)) ++ b := by simp
      rw [this, List.append_assoc, List.append_assoc]
      exact List.Perm.append_left c (List.perm_middle (l₁ := x :: a) (a := y) (l₂ := b)).symm
    · obtain ⟨a', b', c', e, p, q⟩ := ih a (y :: b) (c ++ [x]) (by simp; omega) (by simp; omega)
       (by rw [List.append_assoc]; exact ha)
       (by
        refine List.pairwise_append.2 ⟨List.pairwise_append.2 ⟨hb'.1, List.pairwise_singleton _ _, fun u hu w hw => ?_⟩, hb'.2.1, fun u hu w hw => ?_⟩
        · rw [List.mem_singleton.1 hw]; exact ha'.2.2 u hu x List.mem_cons_self
        · rcases List.mem_append.1 hu with hu | hu
          · exact hb'.2.2 u hu w hw
          · rw [List.mem_singleton.1 hu]
            rcases List.mem_cons.1 hw with rfl | hw
            · exact hxy
            · exact I1 hxy (hyb.1 w hw))
      refine ⟨a', b', c', e, p.trans ?_, q⟩
      have : (c ++ [x] ++ a ++ (y :: b)) = c ++ (x :: a) ++ (y :: b) := by simp
      rw [this]
theorem Uj {K : Nat} : ∀ (d : Nat) (l : List GMsg), l.length < d → l.length < K → l.length < 10000 → ES K d l = some (Ay l) := by
 intro d
 induction d with
 | zero => intro l h; omega
 | succ d ih =>
  intro l hd hK hl
  rw [ES]
  cases h2 : ilt (nlen (len l)) 2
  · have h2' : 2 ≤ l.length := by have := Ab.1 h2; simp only [nlen, len] at this; omega
    have hq : wquo .i64 (nlen (len l)) 2 = ((l.length / 2 : Nat) : Int) := by
     show IntKind.i64.wrap (((l.length : Nat) : Int).tdiv 2) = _
     rw [Int.tdiv_eq_ediv_of_nonneg om, IntKind.wrap_i64]; omega
    have b1 : bnd 0 ((l.length / 2 : Nat) : Int) (len l) = true := by simp [bnd, len]; omega
    have b2 : bnd ((l.length / 2 : Nat) : Int) (nlen (len l)) (len l) = true := by simp [bnd, len, nlen]; omega
    have s1 : subL l 0 ((l.length / 2 : Nat) : Int) = l.take (l.length / 2) := by simp [subL]; omega
    have s2 : subL l ((l.length / 2 : Nat) : Int) (nlen (len l)) = l.drop (l.length / 2) := by
     simp only [subL, nlen, len, Int.toNat_natCast]
     exact List.take_of_length_le (by rw [List.length_drop]; omega)
    have l1 : (l.take (l.length / 2)).length ≤ l.length / 2 := by rw [List.length_take]; omega
    have l2 : (l.drop (l.length / 2)).length = l.length - l.length / 2 := List.length_drop
    have mk : mkok 0 (nlen (len l)) 16 = true := by simp [mkok, nlen, len]; omega
    obtain ⟨a', b', c', e, p, q⟩ := Tf (K := K) K (Ay (l.take (l.length / 2))) (Ay (l.drop (l.length / 2))) [] (by rw [Et, Et]; omega) (by rw [Et, Et]; simp only [List.length_nil]; omega) (by simpa using FF _) (by simpa using FF _)
    have er : repL (α := GMsg) 0 (GMsg.mk 0 0) = [] := rfl
    have pl : (c' ++ a' ++ b').Perm l := p.trans (by
     rw [List.nil_append]
     have := (C4 (l.take (l.length / 2))).append (C4 (l.drop (l.length / 2)))
     rwa [List.take_append_drop] at this)
    have ln := pl.length_eq
    rw [List.length_append, List.length_append] at ln
    have a1 : apok (len c') (len a') 16 = true := decide_eq_true ⟨by show c'.length + a'.length ≤ _; omega, by show (c'.length + a'.length) * 16 ≤ _; omega⟩
    have a2 : apok (len (appL c' a')) (len b') 16 = true := decide_eq_true ⟨by show (c' ++ a').length + b'.length ≤ _; rw [List.length_append]; omega, by show ((c' ++ a').length + b'.length) * 16 ≤ _; rw [List.length_append]; omega⟩
    rw [cF, hq, b1, b2, s1, s2, ih _ om om om, ih _ om om om, mk, er]
    simp only [cT, bS, e, a1, a2]
    rw [Jg q pl]; rfl
  · have h2' : l.length < 2 := by have := Ad.1 h2; simp only [nlen, len] at this; omega
    have ap : apok 0 (len l) 16 = true := decide_eq_true ⟨by show 0 + l.length ≤ _; omega, by show (0 + l.length) * 16 ≤ _; omega⟩
    rw [cT, ap, cT]
    congr 1
    rw [Jg (l := l) (r := l) ?_ (List.Perm.refl l)]; rfl
    match l, h2' with
    | [], _ => exact List.Pairwise.nil
    | [x], _ => exact List.pairwise_singleton _ _
theorem Kx {K : Nat} (l : List GMsg) (hK : l.length < K) (hl : l.length < 10000) : Gb K l = some (Ay l) := by
 rw [Gb, Uj K l hK hK hl]; rfl
def Bz (p : Int) : List GMsg → GMsg → List GMsg → Int ⊕ List GMsg
 | [], cur, done => .inr (done ++ [cur])
 | x :: r, cur, done => bif ieq cur.To x.To then (bif ieq (Al p cur.V x.V).2 0 then Bz p r (GMsg.mk cur.To (Al p cur.V x.V).1) done else .inl (Al p cur.V x.V).2) else Bz p r x (done ++ [cur])
def Dx (p : Int) : List GMsg → List GMsg → Int ⊕ List GMsg
 | [], done => .inr done
 | x :: r, done => Bz p r x done
def U8 : Int ⊕ List GMsg → List GMsg × Int
 | .inl e => ([], e)
 | .inr s => (s, 0)
def Am (p : Int) (l : List GMsg) : List GMsg × Int := bif Ao p then ([], 1) else U8 (Dx p (Ay l) [])
theorem Pw {α : Type} (d : List α) (c x : α) : inr (wsub .i64 (nlen (len (d ++ [c]))) 1) (len (d ++ [c])) = true ∧ (d.length < 1000000 → elAt (d ++ [c]) (wsub .i64 (nlen (len (d ++ [c]))) 1) = some c ∧ putAt (d ++ [c]) (wsub .i64 (nlen (len (d ++ [c]))) 1) x = d ++ [x]) ∨ ¬ d.length < 1000000 := by
 by_cases h : d.length < 1000000
 · left
   have w : wsub .i64 (nlen (len (d ++ [c]))) 1 = ((d.length : Nat) : Int) := by
    show IntKind.i64.wrap (((d ++ [c]).length : Int) - 1) = _
    rw [List.length_append, IntKind.wrap_i64]; simp; omega
   rw [w]
   refine ⟨decide_eq_true ⟨by omega, by show (d.length : Int) < ((d ++ [c]).length : Int); simp; omega⟩, fun _ => ⟨by rw [Bg]; simp, ?_⟩⟩
   unfold putAt
   rw [Int.toNat_natCast, List.set_append_right (h := by omega)]; simp
 · right; exact h
theorem My {K : Nat} (p : Int) (l : List GMsg) (hv : ∀ x ∈ l, i64 x.V) (hK : l.length < K) (hl : l.length < 10000) : F95 K p l = some (Am p l) := by
 have i0 : i64 0 := by unfold i64; omega
 have hz : (Al p 0 0).2 = bif Ao p then 1 else 0 := by
  rw [Al]
  cases Ao p
  · have : Be 0 0 = (0, true) := rfl
    have e : ilt 0 0 = false := rfl
    rw [this, e]
    cases ieq p 5 <;> cases ieq p 4 <;> rfl
  · rfl
 rw [F95, Mi K p i0 i0, bS, hz, Am, Kx l hK hl]
 cases hb : Ao p
 · let step : GMsg → List GMsg → (List GMsg → Option (Int ⊕ List GMsg)) → Option (Int ⊕ List GMsg) := fun x s c =>
    bif (ilt 0 (nlen (len s))) then
     (bif (inr (wsub .i64 (nlen (len s)) 1) (len s)) then
     (elAt s (wsub .i64 (nlen (len s)) 1)).bind fun y =>
     bif (ieq y.To x.To) then
      ((EA K p y.V x.V).bind fun r =>
      bif (ieq r.2 0) then
       (c (putAt s (wsub .i64 (nlen (len s)) 1) (GMsg.mk y.To r.1)))
      else
      some (.inl r.2))
     else
     bif (apok (len s) 1 16) then
     c (appL s [x])
     else none
     else none)
    else
    bif (apok (len s) 1 16) then
    c (appL s [x])
    else none
   have hsl : (Ay l).length = l.length := Et l
   have h := AE (l := Ay l) (L := fun k s i => DW K p (Ay l) k s i) step (fun s => some (.inr s)) (fun k s i _ => rfl) om (K := K) om []
   have hw : ∀ (r : List GMsg) (d : List GMsg) (c : GMsg), d.length + r.length < 100000 → i64 c.V → (∀ x ∈ r, i64 x.V) → goL step (fun s => some (.inr s)) r (d ++ [c]) = some (Bz p r c d) := by
    intro r
    induction r with
    | nil => intro d c _ _ _; rfl
    | cons x r ih =>
     intro d c hd hc hr
     simp only [List.length_cons] at hd
     have hx := hr x List.mem_cons_self
     have hr' := fun y hy => hr y (List.mem_cons_of_mem _ hy)
     rw [goL]
     show (bif (ilt 0 (nlen (len (d ++ [c])))) then
      (bif (inr (wsub .i64 (nlen (len (d ++ [c]))) 1) (len (d ++ [c]))) then
      (elAt (d ++ [c]) (wsub .i64 (nlen (len (d ++ [c]))) 1)).bind fun y =>
      bif (ieq y.To x.To) then
       ((EA K p y.V x.V).bind fun q =>
       bif (ieq q.2 0) then
        (goL step (fun s => some (.inr s)) r (putAt (d ++ [c]) (wsub .i64 (nlen (len (d ++ [c]))) 1) (GMsg.mk y.To q.1)))
       else
       some (.inl q.2))
      else
      bif (apok (len (d ++ [c])) 1 16) then
      goL step (fun s => some (.inr s)) r (appL (d ++ [c]) [x])
      else none
      else none)
     else
     bif (apok (len (d ++ [c])) 1 16) then
     goL step (fun s => some (.inr s)) r (appL (d ++ [c]) [x])
     else none) = _
     have i1 : ilt 0 (nlen (len (d ++ [c]))) = true := Ad.2 (by show (0 : Int) < ((d ++ [c]).length : Int); rw [List.length_append]; simp only [List.length_singleton]; omega)
     have ap : apok (len (d ++ [c])) 1 16 = true := decide_eq_true ⟨by show (d ++ [c]).length + 1 ≤ _; rw [List.length_append]; simp only [List.length_singleton]; omega, by show ((d ++ [c]).length + 1) * 16 ≤ _; rw [List.length_append]; simp only [List.length_singleton]; omega⟩
     rcases Pw d c (GMsg.mk c.To (Al p c.V x.V).1) with ⟨q1, q2⟩ | q
     · obtain ⟨q2, q3⟩ := q2 om
       rw [i1, q1, q2, ap]
       simp only [cT, bS, Mi K p hc hx, q3]
       rw [Bz]
       cases ieq c.To x.To
       · rw [cF, cF]
         exact ih (d ++ [c]) x (by rw [List.length_append]; simp only [List.length_singleton]; omega) hx hr'
       · rw [cT, cT]
         cases ieq (Al p c.V x.V).2 0
         · rfl
         · rw [cT, cT]
           exact ih d _ om (G1 hc hx) hr'
     · omega
   have h' : DW K p (Ay l) K [] 0 = some (Dx p (Ay l) []) := by
    rw [show DW K p (Ay l) K [] 0 = _ from h]
    have hs : ∀ x ∈ Ay l, i64 x.V := fun x hx => hv x ((C4 l).mem_iff.1 hx)
    generalize Ay l = m at *
    cases m with
    | nil => rfl
    | cons x r =>
     rw [goL]
     show goL step (fun s => some (.inr s)) r (appL [] [x]) = _
     simp only [List.length_cons] at hsl
     exact hw r [] x (by simp only [List.length_nil]; omega) (hs x List.mem_cons_self) (fun y hy => hs y (List.mem_cons_of_mem _ hy))
   have z0 : ieq (bif false then 1 else 0) 0 = true := rfl
   rw [z0, cT, bS, h', bS]
   cases Dx p (Ay l) [] <;> rfl
 · rfl
def Gg (p t : Int) : List GMsg → Int → Int ⊕ (List GMsg × Int)
 | [], v => .inr ([], v)
 | x :: r, v => bif ieq x.To t then (bif ieq (Al p v x.V).2 0 then Gg p t r (Al p v x.V).1 else .inl (Al p v x.V).2) else .inr (x :: r, v)
theorem SM (a b : Int) : ieq a b = ieq b a := by
 cases h : ieq b a
 · exact As.2 fun q => As.1 h q.symm
 · exact Af.2 (Af.1 h).symm
theorem Jt (p t : Int) : ∀ (r : List GMsg) (v : Int) (d : List GMsg), Bz p r (GMsg.mk t v) d = match Gg p t r v with | .inl e => .inl e | .inr w => Dx p w.1 (d ++ [GMsg.mk t w.2])
 | [], v, d => rfl
 | x :: r, v, d => by
  rw [Bz, Gg, SM x.To t]
  cases ieq t x.To
  · rfl
  · rw [cT, cT]
    cases ieq (Al p v x.V).2 0
    · rfl
    · rw [cT, cT]; exact Jt p t r _ d
theorem Vp {K : Nat} (p : Int) (l : List GMsg) (o : List GMsg) (x : GMsg) (hl : l.length < 100000) (hs : ∀ y ∈ l, i64 y.V) : ∀ (r : List GMsg) (k i : Nat) (v : Int), l.drop i = r → r.length < k → i64 v → i ≤ l.length →
 (∃ e, Gg p x.To r v = .inl e ∧ EJ K p l o x k (i : Int) v = some (.inl e)) ∨
 (∃ (n : Nat) (v' : Int), Gg p x.To r v = .inr (l.drop n, v') ∧ EJ K p l o x k (i : Int) v = some (.inr ((n : Int), v')) ∧ i ≤ n ∧ n ≤ l.length ∧ i64 v') := by
 intro r
 induction r with
 | nil =>
  intro k i v hr hk hv hi
  obtain ⟨k, rfl⟩ : ∃ q, k = q + 1 := ⟨k - 1, by omega⟩
  right
  refine ⟨i, v, by rw [hr]; rfl, ?_, Nat.le_refl _, hi, hv⟩
  rcases FW l i with ⟨y, e1, _⟩ | ⟨e1, e2⟩
  · rw [hr] at e1; cases e1
  · rw [EJ, e2]; rfl
 | cons y r ih =>
  intro k i v hr hk hv hi
  obtain ⟨k, rfl⟩ : ∃ q, k = q + 1 := ⟨k - 1, by omega⟩
  simp only [List.length_cons] at hk
  rcases FW l i with ⟨y', e1, e2, e3, e4⟩ | ⟨e1, _⟩
  · rw [hr] at e1
    injection e1 with e1 e5
    subst e1
    have hlt := EG hr
    have hy : i64 y.V := hs y (List.mem_of_mem_drop (by rw [hr]; exact List.mem_cons_self))
    rw [EJ, e2, e3, e4, Gg]
    simp only [cT, bS, Lz K p hv hy]
    cases ieq y.To x.To
    · right
      exact ⟨i, v, by rw [hr]; rfl, rfl, Nat.le_refl _, hi, hv⟩
    · rw [cT, cT]
      cases ieq (Al p v y.V).2 0
      · left; exact ⟨_, rfl, rfl⟩
      · rw [cT, cT, Ge om]
        rcases ih k (i + 1) _ e5.symm om (G1 hv hy) om with h | ⟨n, v', h1, h2, h3, h4, h5⟩
        · left; exact h
        · right; exact ⟨n, v', h1, h2, by omega, h4, h5⟩
  · rw [hr] at e1; cases e1
theorem Oe {K : Nat} (p : Int) (l : List GMsg) (hl : l.length < 100000) (hK : l.length < K) (hs : ∀ y ∈ l, i64 y.V) : ∀ (k i : Nat) (d : List GMsg), l.length - i < k → i ≤ l.length → d.length ≤ i →
 E8 K p l k d (i : Int) = some (Dx p (l.drop i) d) := by
 intro k
 induction k with
 | zero => intro i d h; omega
 | succ k ih =>
  intro i d hk hi hd
  rw [E8]
  rcases FW l i with ⟨x, e1, e2, e3, e4⟩ | ⟨e1, e2⟩
  · have hlt := EG e1
    have hx : i64 x.V := hs x (List.mem_of_mem_drop (by rw [e1]; exact List.mem_cons_self))
    have ap : apok (len d) 1 16 = true := decide_eq_true ⟨by show d.length + 1 ≤ _; omega, by show (d.length + 1) * 16 ≤ _; omega⟩
    rw [e2, e3, e4, e1, Dx, show Bz p (l.drop (i + 1)) x d = Bz p (l.drop (i + 1)) (GMsg.mk x.To x.V) d from rfl, Jt, Ge om]
    simp only [cT, bS, ap]
    rcases Vp (K := K) p l d x hl hs _ K (i + 1) x.V rfl (by rw [List.length_drop]; omega) hx om with ⟨e, h1, h2⟩ | ⟨n, v', h1, h2, h3, h4, h5⟩
    · rw [h1, h2]; rfl
    · rw [h1, h2]
      simp only [bS, Sum.elim_inr]
      exact ih n (d ++ [GMsg.mk x.To v']) om h4 (by rw [List.length_append]; simp only [List.length_singleton]; omega)
  · rw [e2, e1]; rfl
theorem SO {K : Nat} (p : Int) (l : List GMsg) (hv : ∀ x ∈ l, i64 x.V) (hK : l.length < K) (hl : l.length < 10000) : F51 K p l = some (Am p l) := by
 have hsl := Et l
 have hs : ∀ x ∈ Ay l, i64 x.V := fun x hx => hv x ((C4 l).mem_iff.1 hx)
 have h := Oe (K := K) p (Ay l) om om hs K 0 [] om om (by simp)
 have h' : E8 K p (Ay l) K [] 0 = some (Dx p (Ay l) []) := h
 rw [F51, Am, Ao, VF l om hK, bS, h', bS]
 cases ilt p 1
 · cases ilt 5 p
   · cases Dx p (Ay l) [] <;> rfl
   · rfl
 · rfl
def atS (l : List GMsg) (v : Int) : Int × Bool := match l.find? (fun m => ieq m.To v) with
 | some m => (m.V, true)
 | none => (0, false)
def U5 : Option GMsg → Int ⊕ Unit
 | some m => .inl m.V
 | none => .inr ()
theorem Lc (l : List GMsg) (v : Int) : goL (fun (x : GMsg) (_ : Unit) c => bif ieq x.To v then some (.inl x.V) else c ()) (fun _ => some (.inr ())) l () = (some (U5 (l.find? fun m => ieq m.To v)) : Option (Int ⊕ Unit)) := by
 induction l with
 | nil => rfl
 | cons x l ih =>
  rw [goL, List.find?_cons]
  cases h : ieq x.To v
  · exact ih
  · rfl
theorem UT {K : Nat} (l : List GMsg) (v : Int) (hl : l.length < 100000) (hK : l.length < K) : F92 K l v = some (atS l v) := by
 have e : FZ K l v K 0 = _ := AE (l := l) (L := fun k (_ : Unit) i => FZ K l v k i) (fun x _ c => bif ieq x.To v then some (.inl x.V) else c ()) (fun _ => some (.inr ())) (fun k s i _ => rfl) om hK ()
 rw [F92, e, Lc, atS]
 cases l.find? fun m => ieq m.To v <;> rfl
theorem Tl {K : Nat} (l : List GMsg) (v : Int) (hl : l.length < 100000) (hK : l.length < K) : F49 K l v = some (atS l v) := by
 have e : FG K l v K 0 = _ := AE (l := l) (L := fun k (_ : Unit) i => FG K l v k i) (fun x _ c => bif ieq x.To v then some (.inl x.V) else c ()) (fun _ => some (.inr ())) (fun k s i _ => rfl) om hK ()
 rw [F49, e, Lc, atS]
 cases l.find? fun m => ieq m.To v <;> rfl
theorem HN {l : List GMsg} {v : Int} (h : ∀ x ∈ l, i64 x.V) : i64 (atS l v).1 := by
 rw [atS]
 cases hq : l.find? fun m => ieq m.To v with
 | none => show i64 0; unfold i64; omega
 | some m => exact h m (List.mem_of_find?_eq_some hq)
def Ap (g : GGraph) (j : GJob) (s : GState) (p : Int) : GPart :=
 GPart.mk p s.Step ((Ak g j p).map fun v => s.Vals.getD v 0) ((Ak g j p).map fun v => s.Rest.getD v false) (s.In.filter fun m => ieq (m.To % j.Parts) p)
def AG (g : GGraph) (j : GJob) (s : GState) : List GPart := (List.range j.Parts.toNat).map fun (p : Nat) => Ap g j s (p : Int)
def Hw (g : GGraph) (j : GJob) (s : GState) : List GPart × Int := bif ieq (An g j) 0 then (bif Aq g j s then (AG g j s, 0) else ([], 1)) else ([], An g j)
theorem AZ {g : GGraph} {j : GJob} {s : GState} (h : Aq g j s = true) : ieq (An g j) 0 = true ∧ 0 ≤ s.Step ∧ s.Step ≤ 40 ∧ (s.Vals.length : Int) = g.N ∧ (s.Rest.length : Int) = g.N ∧ Cn g.N (-1) s.In = true := by
 simp only [Aq, Bool.and_eq_true, AK, Af] at h
 obtain ⟨h1, h2, h3, h4, h5, h6⟩ := h
 exact ⟨Af.2 h1, h2, h3, h4, h5, h6⟩
theorem HG {n : Int} : ∀ {l : List GMsg} {v : Int}, Cn n v l = true → l.Pairwise (fun a b => a.To < b.To) ∧ (∀ m ∈ l, v < m.To ∧ m.To < n)
 | [], v, _ => ⟨List.Pairwise.nil, fun m h => (nomatch h)⟩
 | m :: l, v, h => by
  simp only [Cn, Bool.and_eq_true, Ad] at h
  obtain ⟨h1, h2, h3⟩ := h
  obtain ⟨a, b⟩ := HG h3
  refine ⟨List.pairwise_cons.2 ⟨fun x hx => (b x hx).1, a⟩, fun x hx => ?_⟩
  rcases List.mem_cons.1 hx with e | e
  · subst e; exact ⟨h1, h2⟩
  · have := b x e; exact ⟨by omega, this.2⟩
theorem GJ {n : Int} : ∀ {l : List GMsg} {v : Int}, Cn n v l = true → v ≤ n → (l.length : Int) ≤ n - v
 | [], v, _, hv => by simp; omega
 | m :: l, v, h, hv => by
  simp only [Cn, Bool.and_eq_true, Ad] at h
  obtain ⟨h1, h2, h3⟩ := h
  have := GJ h3 om
  simp only [List.length_cons]; omega
def Dc : Nat → Nat → Nat → Nat → List Nat
 | 0, _, _, _ => []
 | k + 1, n, parts, v => if v < n then v :: Dc k n parts (v + parts) else []
theorem Vo : ∀ parts < 7, 0 < parts → ∀ n < 25, ∀ p < parts, Dc 30 n parts p = (List.range n).filter fun v => v % parts == p := by decide +kernel
theorem Vx {n parts : Nat} (h1 : 0 < parts) (h2 : parts < 7) (hn : n < 25) {p : Nat} (hp : p < parts) : Dc 30 n parts p = Cr n parts (p : Int) := by
 rw [Vo parts h2 h1 n hn p hp, Cr]
 refine List.filter_congr fun v _ => ?_
 rw [Bool.eq_iff_iff, Af, beq_iff_eq]; omega
theorem Fe {α : Type} {l : List α} {v : Nat} (d : α) (h : v < l.length) : inr (v : Int) (len l) = true ∧ elAt l (v : Int) = some (l.getD v d) := by
 refine ⟨decide_eq_true ⟨by omega, by show (v : Int) < (l.length : Int); omega⟩, ?_⟩
 rw [Bg]; simp [h, List.getD]
theorem OP {K : Nat} (s : GState) (p : Int) (r : List Int) (a : List Int) (b : List Bool) (i : Nat) (x : Int) (y : Bool) (v : Int) (hi : inr (i : Int) (len r) = true) (he : elAt r (i : Int) = some v) (hl : s.In.length ≤ 1000) (hK : s.In.length < K) (acc : List GMsg) (ha : acc.length ≤ 100000) :
 D6 K s p r a b (i : Int) x y K acc 0 = some (acc ++ s.In.filter fun m => ieq m.To v) := by
 let step : GMsg → List GMsg → (List GMsg → Option (List GMsg)) → Option (List GMsg) := fun m a c =>
  bif (inr (i : Int) (len r)) then
  (elAt r (i : Int)).bind fun z => bif (ieq m.To z) then (bif (apok (len a) 1 16) then c (appL a [m]) else none) else c a
  else none
 have h := AE (l := s.In) (L := fun k c q => D6 K s p r a b (i : Int) x y k c q) step (fun a => some a) (fun k s i _ => rfl) om (K := K) hK acc
 have hw : ∀ (l : List GMsg) (a : List GMsg), a.length + l.length ≤ 200000 → goL step (fun a => some a) l a = some (a ++ l.filter fun m => ieq m.To v) := by
  intro l
  induction l with
  | nil => intro a _; simp [goL]
  | cons m l ih =>
   intro a ha
   simp only [List.length_cons] at ha
   rw [goL]
   show (bif (inr (i : Int) (len r)) then
   (elAt r (i : Int)).bind fun z => bif (ieq m.To z) then (bif (apok (len a) 1 16) then goL step (fun a => some a) l (appL a [m]) else none) else goL step (fun a => some a) l a
   else none) = _
   have ap : apok (len a) 1 16 = true := decide_eq_true ⟨by show a.length + 1 ≤ _; omega, by show (a.length + 1) * 16 ≤ _; omega⟩
   rw [hi, cT, he, bS, ap, List.filter_cons]
   cases ieq m.To v
   · rw [cF, ih a om]; rfl
   · rw [cT, cT, ih _ (by simp [appL]; omega)]; simp [appL]
 rw [hw s.In acc om] at h
 exact h
theorem R5 {K : Nat} (s : GState) (p : Int) (vs : List Nat) (hvl : vs.length ≤ 30) (hK : 1000 ≤ K) (hv : ∀ v ∈ vs, v < s.Vals.length ∧ v < s.Rest.length) (hl : s.In.length ≤ 500) :
 F5 K s p (vs.map Int.ofNat) K [] [] [] 0 = some (vs.map (fun v => s.Vals.getD v 0), vs.map (fun v => s.Rest.getD v false), vs.flatMap fun (v : Nat) => s.In.filter fun m => ieq m.To (v : Int)) := by
 let step : Nat → Int → List Int × List Bool × List GMsg → (List Int × List Bool × List GMsg → Option (List Int × List Bool × List GMsg)) → Option (List Int × List Bool × List GMsg) := fun i x st c =>
  bif (inr x (len s.Vals)) then
  (elAt s.Vals x).bind fun x2246 =>
  bif (apok (len st.1) 1 8) then
  bif (inr x (len s.Rest)) then
  (elAt s.Rest x).bind fun x2250 =>
  bif (apok (len st.2.1) 1 1) then
  (D6 K s p (vs.map Int.ofNat) st.1 st.2.1 (i : Int) x2246 x2250 K st.2.2 0).bind fun w2278 =>
  c (appL st.1 [x2246], appL st.2.1 [x2250], w2278)
  else none
  else none
  else none
  else none
 have h := Bw (l := vs.map Int.ofNat) (L := fun k (st : List Int × List Bool × List GMsg) i => F5 K s p (vs.map Int.ofNat) k st.1 st.2.1 st.2.2 i) step (fun st => some st) (fun k st i _ => rfl) (by simp; omega) K ([], [], []) 0 (by simp; omega) om
 have hw : ∀ (r : List Nat) (i : Nat) (a : List Int) (b : List Bool) (m : List GMsg), vs.drop i = r → a.length + r.length ≤ 100 → b.length + r.length ≤ 100 → m.length + 500 * r.length ≤ 50000 →
  goI step (fun st => some st) i (r.map Int.ofNat) (a, b, m) = some (a ++ r.map (fun v => s.Vals.getD v 0), b ++ r.map (fun v => s.Rest.getD v false), m ++ r.flatMap fun (v : Nat) => s.In.filter fun m => ieq m.To (v : Int)) := by
  intro r
  induction r with
  | nil => intro i a b m _ _ _ _; simp [goI]
  | cons v r ih =>
   intro i a b m hr ha hb hm
   simp only [List.length_cons] at ha hb hm
   obtain ⟨n1, n2, hi⟩ := Ga hr
   have hvm : v ∈ vs := by
    have : v ∈ vs.drop i := by rw [hr]; exact List.mem_cons_self
    exact List.mem_of_mem_drop this
   obtain ⟨v1, v2⟩ := hv v hvm
   obtain ⟨i1, i2⟩ := Fe (l := s.Vals) 0 v1
   obtain ⟨i3, i4⟩ := Fe (l := s.Rest) false v2
   have a1 : apok (len a) 1 8 = true := decide_eq_true ⟨by show a.length + 1 ≤ _; omega, by show (a.length + 1) * 8 ≤ _; omega⟩
   have a2 : apok (len b) 1 1 = true := decide_eq_true ⟨by show b.length + 1 ≤ _; omega, by show (b.length + 1) * 1 ≤ _; omega⟩
   have j1 : inr (i : Int) (len (vs.map Int.ofNat)) = true := decide_eq_true ⟨by omega, by show (i : Int) < ((vs.map Int.ofNat).length : Int); simp; omega⟩
   have j2 : elAt (vs.map Int.ofNat) (i : Int) = some (v : Int) := by
    rw [Bg, List.getElem?_map, show vs[i]? = some v from n1]; rfl
   rw [List.map_cons, goI]
   show (bif (inr (v : Int) (len s.Vals)) then
   (elAt s.Vals (v : Int)).bind fun x2246 =>
   bif (apok (len a) 1 8) then
   bif (inr (v : Int) (len s.Rest)) then
   (elAt s.Rest (v : Int)).bind fun x2250 =>
   bif (apok (len b) 1 1) then
   (D6 K s p (vs.map Int.ofNat) a b (i : Int) x2246 x2250 K m 0).bind fun w2278 =>
   goI step (fun st => some st) (i + 1) (r.map Int.ofNat) (appL a [x2246], appL b [x2250], w2278)
   else none
   else none
   else none
   else none) = _
   have hfl : (s.In.filter fun m => ieq m.To (v : Int)).length ≤ 500 := Nat.le_trans (List.length_filter_le _ _) hl
   rw [i1, cT, i2, bS, a1, cT, i3, cT, i4, bS, a2, cT, OP (K := K) s p (vs.map Int.ofNat) a b i _ _ (v : Int) j1 j2 om om m om, bS,
    ih (i + 1) _ _ _ n2 (by simp [appL]; omega) (by simp [appL]; omega) (by simp only [List.length_append]; omega)]
   simp [appL]
 have := hw vs 0 [] [] [] rfl (by simp; omega) (by simp; omega) (by simp; omega)
 rw [List.drop_zero, this] at h
 simpa using h
theorem Tc {g : GGraph} {j : GJob} (hp : 1 ≤ j.Parts) {s : GState} (hs : s.In.Pairwise fun a b => a.To < b.To) (hr : ∀ m ∈ s.In, 0 ≤ m.To ∧ m.To < g.N) (p : Int) :
 ((Ak g j p).flatMap fun (v : Nat) => s.In.filter fun m => ieq m.To (v : Int)) = s.In.filter fun m => ieq (m.To % j.Parts) p := by
 refine HZ (lt := fun a b : GMsg => a.To < b.To) (fun a b h => by omega) ?_ (hs.filter _) fun m => ?_
 · refine List.pairwise_flatMap.2 ⟨fun v _ => hs.filter _, ?_⟩
   have hv : (Ak g j p).Pairwise (· < ·) := by
    unfold Ak Cr
    exact List.pairwise_lt_range.filter _
   refine hv.imp fun {a b} hab x hx y hy => ?_
   have h1 := Af.1 (List.mem_filter.1 hx).2
   have h2 := Af.1 (List.mem_filter.1 hy).2
   omega
 · simp only [List.mem_flatMap, List.mem_filter, Af]
   constructor
   · rintro ⟨v, hv, hm, e⟩
     have := (DH hp).1 hv
     exact ⟨hm, by rw [e]; exact this.2⟩
   · rintro ⟨hm, e⟩
     obtain ⟨h0, h1⟩ := hr m hm
     obtain ⟨v, hv⟩ := Int.eq_ofNat_of_zero_le h0
     exact ⟨v, (DH hp).2 ⟨by omega, by rw [← hv]; exact e⟩, hm, hv⟩
theorem RN {K : Nat} (hK : 1000 ≤ K) {g : GGraph} {j : GJob} {s : GState} (h : Aq g j s = true) (p : Int) : F48 K g j s p = some (Ap g j s p) := by
 obtain ⟨hc, s1, s2, s3, s4, s5⟩ := AZ h
 obtain ⟨hg, p1, p2, p3, p4, p5, p6, p7, p8⟩ := Au hc
 obtain ⟨g1, g2, _, _⟩ := AQ hg
 obtain ⟨q1, q2⟩ := HG s5
 have hlen := GJ s5 om
 have hvl := Ft g j g2 p
 rw [F48, J3 om p7 p8 g2, bS, R5 s p (Ak g j p) om hK (fun v hv => by have := (DH p7).1 hv; omega) om, bS]
 rw [Tc p7 q1 (fun m hm => by have := q2 m hm; omega)]; rfl
theorem VE {K : Nat} (hK : 1000 ≤ K) (g : GGraph) (j : GJob) (s : GState) (h : Aq g j s = true) : Gl K g j s K [] 0 = some (AG g j s) := by
 obtain ⟨hc, s1, s2, s3, s4, s5⟩ := AZ h
 obtain ⟨hg, p1, p2, p3, p4, p5, p6, p7, p8⟩ := Au hc
 let step : Nat → List GPart → (List GPart → Option (List GPart)) → Option (List GPart) := fun i out c =>
  (F48 K g j s (i : Int)).bind fun r => bif (apok (len out) 1 88) then c (appL out [r]) else none
 have hs := EM (N := j.Parts) (L := fun k a i => Gl K g j s k a i) step (fun a => some a) (fun k s i _ => rfl) om (K := K) om []
 have hw : ∀ (l : List Nat) (out : List GPart), out.length + l.length ≤ 100 → goL step (fun a => some a) l out = some (out ++ l.map fun (p : Nat) => Ap g j s (p : Int)) := by
  intro l
  induction l with
  | nil => intro out _; simp [goL]
  | cons p l ih =>
   intro out ho
   simp only [List.length_cons] at ho
   have ap : apok (len out) 1 88 = true := decide_eq_true ⟨by show out.length + 1 ≤ _; omega, by show (out.length + 1) * 88 ≤ _; omega⟩
   rw [goL]
   show ((F48 K g j s (p : Int)).bind fun r => bif (apok (len out) 1 88) then goL step (fun a => some a) l (appL out [r]) else none) = _
   rw [RN hK h, bS, ap, cT, ih _ (by simp [appL]; omega)]
   simp [appL]
 rw [hw _ [] (by simp; omega)] at hs
 exact hs
theorem Rv {K : Nat} (hK : 1000 ≤ K) (g : GGraph) (j : GJob) (s : GState) (hl : s.In.length < 1000) : F21 K g j s = some (Hw g j s) := by
 rw [F21, E6 om, bS, Hw]
 cases hc : ieq (An g j) 0
 · rfl
 · rw [cT, cT, Ih hK g j s om om, bS]
   cases hr : Aq g j s
   · rfl
   · rw [cT, cT, VE hK g j s hr]; rfl
def noP : GPart := GPart.mk 0 0 [] [] []
def noS : GState := GState.mk 0 [] [] []
def AX (l : List GPart) (j : GJob) (v : Nat) : GPart := l.getD (v % j.Parts.toNat) noP
def Fv (g : GGraph) (j : GJob) (l : List GPart) : GState :=
 GState.mk (l.getD 0 noP).Step ((List.range g.N.toNat).map fun v => (AX l j v).Vals.getD (v / j.Parts.toNat) 0) ((List.range g.N.toNat).map fun v => (AX l j v).Rest.getD (v / j.Parts.toNat) false)
  ((List.range g.N.toNat).flatMap fun (v : Nat) => (AX l j v).In.filter fun m => ieq m.To (v : Int))
def C6 (g : GGraph) (j : GJob) (st : Int) : Nat → List GPart → Bool
 | _, [] => true
 | i, x :: r => ieq x.P (i : Int) && (ieq x.Step st && (Av g j x && C6 g j st (i + 1) r))
def HE (g : GGraph) (j : GJob) (l : List GPart) : GState × Int := bif ieq (An g j) 0 then (bif ieq (l.length : Int) j.Parts then (bif C6 g j (l.getD 0 noP).Step 0 l then (Fv g j l, 0) else (noS, 1)) else (noS, 1)) else (noS, An g j)
theorem KH {g : GGraph} {j : GJob} {st : Int} : ∀ {l : List GPart} {i k : Nat}, C6 g j st i l = true → k < l.length → (l.getD k noP).P = ((i + k : Nat) : Int) ∧ (l.getD k noP).Step = st ∧ Av g j (l.getD k noP) = true
 | [], i, k, _, hk => by simp at hk
 | x :: r, i, k, h, hk => by
  simp only [C6, Bool.and_eq_true, Af] at h
  obtain ⟨h1, h2, h3, h4⟩ := h
  cases k with
  | zero => exact ⟨by simpa using h1, by simpa using h2, by simpa using h3⟩
  | succ k =>
   have := KH (k := k) h4 (by simp only [List.length_cons] at hk; omega)
   simp only [List.getD_cons_succ]
   exact ⟨by rw [this.1]; omega, this.2⟩
theorem S7 {K : Nat} {g : GGraph} {j : GJob} {l : List GPart} {x0 : GPart} (h0 : l.getD 0 noP = x0) (hl : 0 < l.length) (F : Nat → GGraph → GJob → GPart → Option Bool) (hF : ∀ x ∈ l, F K g j x = some (Av g j x)) :
 ∀ (r : List GPart) (i : Nat), l.drop i = r → goI (fun i x (_ : Unit) c => bif ieq x.P (i : Int) then (bif inr 0 (len l) then (elAt l 0).bind fun y => bif ieq x.Step y.Step then ((F K g j x).bind fun q => bif q then c () else some (.inl ())) else some (.inl ()) else none) else some (.inl ())) (fun _ => some (.inr ())) i r () = some (Bf (C6 g j x0.Step i r)) := by
 intro r
 induction r with
 | nil => intro i _; rfl
 | cons x r ih =>
  intro i hr
  obtain ⟨n1, n2, hi⟩ := Ga hr
  have hx : x ∈ l := by
   have : x ∈ l.drop i := by rw [hr]; exact List.mem_cons_self
   exact List.mem_of_mem_drop this
  have e1 : inr 0 (len l) = true := decide_eq_true ⟨by omega, by show (0 : Int) < (l.length : Int); omega⟩
  have e2 : elAt l 0 = some x0 := by
   have := (Fe (l := l) noP hl).2
   rw [h0] at this; exact this
  rw [goI, C6, ih (i + 1) n2, e1, e2, hF x hx, cT, bS, bS]
  cases ieq x.P (i : Int) <;> cases ieq x.Step x0.Step <;> cases Av g j x <;> rfl
theorem TV : ∀ parts < 7, 0 < parts → ∀ n < 25, ∀ v < n, v / parts < (n + parts - 1 - v % parts) / parts ∧ ((List.range n).filter fun w => w % parts == v % parts)[v / parts]? = some v := by decide +kernel
theorem LW {n parts : Nat} (h1 : 0 < parts) (h2 : parts < 7) (hn : n < 25) {v : Nat} (hv : v < n) : v / parts < (Cr n parts ((v % parts : Nat) : Int)).length ∧ (Cr n parts ((v % parts : Nat) : Int))[v / parts]? = some v := by
 obtain ⟨a, b⟩ := TV parts h2 h1 n hn v hv
 have e : Cr n parts ((v % parts : Nat) : Int) = (List.range n).filter fun w => w % parts == v % parts := by
  rw [Cr]
  refine List.filter_congr fun w _ => ?_
  rw [Bool.eq_iff_iff, Af, beq_iff_eq]; omega
 exact ⟨by rw [Mg h1 h2 hn (Nat.mod_lt _ h1)]; exact a, by rw [e]; exact b⟩
theorem DD {g : GGraph} {j : GJob} {x : GPart} (h : Av g j x = true) : ieq (An g j) 0 = true ∧ 0 ≤ x.P ∧ x.P < j.Parts ∧ 0 ≤ x.Step ∧ x.Step ≤ 40 ∧ (x.Vals.length : Int) = AL g j x.P ∧ (x.Rest.length : Int) = AL g j x.P ∧ Bj g.N j.Parts x.P (-1) x.In = true := by
 simp only [Av, Bool.and_eq_true, AK, Ad, Af] at h
 obtain ⟨h1, h2, h3, h4, h5, h6, h7, h8⟩ := h
 exact ⟨Af.2 h1, h2, h3, h4, h5, h6, h7, h8⟩
theorem FI {n parts p : Int} : ∀ {l : List GMsg} {v : Int}, Bj n parts p v l = true → l.Pairwise (fun a b => a.To < b.To) ∧ (∀ m ∈ l, v < m.To ∧ m.To < n ∧ m.To % parts = p)
 | [], v, _ => ⟨List.Pairwise.nil, fun m h => (nomatch h)⟩
 | m :: l, v, h => by
  simp only [Bj, Bool.and_eq_true, Ad, Af] at h
  obtain ⟨h1, h2, h3, h4⟩ := h
  obtain ⟨a, b⟩ := FI h4
  refine ⟨List.pairwise_cons.2 ⟨fun x hx => (b x hx).1, a⟩, fun x hx => ?_⟩
  rcases List.mem_cons.1 hx with e | e
  · subst e; exact ⟨h1, h2, h3⟩
  · have := b x e; exact ⟨by omega, this.2⟩
theorem IM {n parts p : Int} : ∀ {l : List GMsg} {v : Int}, l.Pairwise (fun a b => a.To < b.To) → (∀ m ∈ l, v < m.To ∧ m.To < n ∧ m.To % parts = p) → Bj n parts p v l = true
 | [], _, _, _ => rfl
 | m :: l, v, h, hm => by
  obtain ⟨a, b⟩ := List.pairwise_cons.1 h
  have h1 := hm m List.mem_cons_self
  rw [Bj, Ad.2 h1.1, Ad.2 h1.2.1, Af.2 h1.2.2]
  exact IM b fun x hx => ⟨a x hx, (hm x (List.mem_cons_of_mem _ hx)).2⟩
theorem JF {n parts p : Int} : ∀ {l : List GMsg} {v : Int}, Bj n parts p v l = true → Cn n v l = true
 | [], _, _ => rfl
 | m :: l, v, h => by
  simp only [Bj, Bool.and_eq_true] at h
  simp only [Cn, Bool.and_eq_true]
  exact ⟨h.1, h.2.1, JF h.2.2.2⟩
structure JoinAt (g : GGraph) (j : GJob) (l : List GPart) (v : Nat) : Prop where
 z : izero j.Parts = false
 r : wrem (v : Int) j.Parts = ((v % j.Parts.toNat : Nat) : Int)
 q : wquo .i64 (v : Int) j.Parts = ((v / j.Parts.toNat : Nat) : Int)
 i1 : inr ((v % j.Parts.toNat : Nat) : Int) (len l) = true
 e1 : elAt l ((v % j.Parts.toNat : Nat) : Int) = some (AX l j v)
 i2 : inr ((v / j.Parts.toNat : Nat) : Int) (len (AX l j v).Vals) = true
 e2 : elAt (AX l j v).Vals ((v / j.Parts.toNat : Nat) : Int) = some ((AX l j v).Vals.getD (v / j.Parts.toNat) 0)
 i3 : inr ((v / j.Parts.toNat : Nat) : Int) (len (AX l j v).Rest) = true
 e3 : elAt (AX l j v).Rest ((v / j.Parts.toNat : Nat) : Int) = some ((AX l j v).Rest.getD (v / j.Parts.toNat) false)
 pr : Av g j (AX l j v) = true
 pp : (AX l j v).P = ((v % j.Parts.toNat : Nat) : Int)
theorem OK {g : GGraph} {j : GJob} {l : List GPart} {st : Int} (hc : ieq (An g j) 0 = true) (hl : (l.length : Int) = j.Parts) (h : C6 g j st 0 l = true) {v : Nat} (hv : (v : Int) < g.N) : JoinAt g j l v := by
 obtain ⟨hg, p1, p2, p3, p4, p5, p6, p7, p8⟩ := Au hc
 obtain ⟨g1, g2, _, _⟩ := AQ hg
 obtain ⟨m, hm⟩ := Int.eq_ofNat_of_zero_le (show 0 ≤ j.Parts by omega)
 obtain ⟨n, hn⟩ := Int.eq_ofNat_of_zero_le (show 0 ≤ g.N by omega)
 have hmt : j.Parts.toNat = m := by omega
 have hnt : g.N.toNat = n := by omega
 have hlt : v % m < l.length := by have := Nat.mod_lt v (show 0 < m by omega); omega
 obtain ⟨o1, o2, o3⟩ := KH (k := v % m) h hlt
 obtain ⟨_, r1, r2, r3, r4, r5, r6, r7⟩ := DD o3
 obtain ⟨s1, s2⟩ := LW (n := n) (parts := m) om om om (v := v) om
 have hcnt : AL g j (l.getD (v % m) noP).P = ((Cr n m ((v % m : Nat) : Int)).length : Int) := by
  rw [o1, Nat.zero_add, AL, Ak, hmt, hnt]
 obtain ⟨a1, a2⟩ := Fe (l := l) noP hlt
 obtain ⟨b1, b2⟩ := Fe (l := (l.getD (v % m) noP).Vals) 0 (show v / m < _ by omega)
 obtain ⟨c1, c2⟩ := Fe (l := (l.getD (v % m) noP).Rest) false (show v / m < _ by omega)
 refine ⟨decide_eq_false om, ?_, ?_, ?_, ?_, ?_, ?_, ?_, ?_, ?_, ?_⟩
 · rw [He om, hm]; simp
 · show IntKind.i64.wrap ((v : Int).tdiv j.Parts) = _
   have hle : v / m ≤ v := Nat.div_le_self _ _
   have : (v : Int).tdiv j.Parts = ((v / m : Nat) : Int) := by rw [hm, Int.tdiv_eq_ediv_of_nonneg om]; rfl
   rw [this, hmt, IntKind.wrap_i64]
   generalize v / m = d at *
   omega
 · rw [hmt]; exact a1
 all_goals (unfold AX; rw [hmt]; first | exact a2 | exact b1 | exact b2 | exact c1 | exact c2 | exact o3 | (rw [o1, Nat.zero_add]))
theorem Os {a : List Int} (h : a.length ≤ 1000) : apok (len a) 1 8 = true := decide_eq_true ⟨by show a.length + 1 ≤ _; omega, by show (a.length + 1) * 8 ≤ _; omega⟩
theorem On {a : List Bool} (h : a.length ≤ 1000) : apok (len a) 1 1 = true := decide_eq_true ⟨by show a.length + 1 ≤ _; omega, by show (a.length + 1) * 1 ≤ _; omega⟩
theorem N4 {a : List GMsg} (h : a.length ≤ 1000000) : apok (len a) 1 16 = true := decide_eq_true ⟨by show a.length + 1 ≤ _; omega, by show (a.length + 1) * 16 ≤ _; omega⟩
theorem Td {K : Nat} (g : GGraph) (j : GJob) (l : List GPart) (x0 : GPart) (a : List Int) (b : List Bool) (v : Int) (x : GPart) (y : Int) (z : Bool) (hl : x.In.length ≤ 1000) (hK : x.In.length < K) (acc : List GMsg) (ha : acc.length ≤ 100000) :
 D8 K g j l x0 a b v x y z K acc 0 = some (acc ++ x.In.filter fun m => ieq m.To v) := by
 let step : GMsg → List GMsg → (List GMsg → Option (List GMsg)) → Option (List GMsg) := fun m a c => bif (ieq m.To v) then (bif (apok (len a) 1 16) then c (appL a [m]) else none) else c a
 have h := AE (l := x.In) (L := fun k c q => D8 K g j l x0 a b v x y z k c q) step (fun a => some a) (fun k s i _ => rfl) om (K := K) hK acc
 have hw : ∀ (l : List GMsg) (a : List GMsg), a.length + l.length ≤ 200000 → goL step (fun a => some a) l a = some (a ++ l.filter fun m => ieq m.To v) := by
  intro l
  induction l with
  | nil => intro a _; simp [goL]
  | cons m l ih =>
   intro a ha
   simp only [List.length_cons] at ha
   rw [goL]
   show (bif (ieq m.To v) then (bif (apok (len a) 1 16) then goL step (fun a => some a) l (appL a [m]) else none) else goL step (fun a => some a) l a) = _
   rw [N4 om, List.filter_cons]
   cases ieq m.To v
   · rw [cF, ih a om]; rfl
   · rw [cT, cT, ih _ (by simp [appL]; omega)]; simp [appL]
 rw [hw x.In acc om] at h
 exact h
theorem Od {K : Nat} (hK : 1000 ≤ K) (g : GGraph) (j : GJob) (l : List GPart) (x0 : GPart) {st : Int} (hc : ieq (An g j) 0 = true) (hl : (l.length : Int) = j.Parts) (h : C6 g j st 0 l = true) :
 FJ K g j l x0 K [] [] [] 0 = some ((Fv g j l).Vals, (Fv g j l).Rest, (Fv g j l).In) := by
 obtain ⟨hg, p1, p2, p3, p4, p5, p6, p7, p8⟩ := Au hc
 obtain ⟨g1, g2, _, _⟩ := AQ hg
 let step : Nat → List Int × List Bool × List GMsg → (List Int × List Bool × List GMsg → Option (List Int × List Bool × List GMsg)) → Option (List Int × List Bool × List GMsg) := fun v s c =>
  bif (izero j.Parts) then none else
  bif (inr (wrem (v : Int) j.Parts) (len l)) then
  (elAt l (wrem (v : Int) j.Parts)).bind fun x3822 =>
  bif (inr (wquo .i64 (v : Int) j.Parts) (len x3822.Vals)) then
  (elAt x3822.Vals (wquo .i64 (v : Int) j.Parts)).bind fun x3825 =>
  bif (apok (len s.1) 1 8) then
  bif (inr (wquo .i64 (v : Int) j.Parts) (len x3822.Rest)) then
  (elAt x3822.Rest (wquo .i64 (v : Int) j.Parts)).bind fun x3829 =>
  bif (apok (len s.2.1) 1 1) then
  (D8 K g j l x0 s.1 s.2.1 (v : Int) x3822 x3825 x3829 K s.2.2 0).bind fun w3851 => c (appL s.1 [x3825], appL s.2.1 [x3829], w3851)
  else none
  else none
  else none
  else none
  else none
 have hs := EM (N := g.N) (L := fun k (s : List Int × List Bool × List GMsg) i => FJ K g j l x0 k s.1 s.2.1 s.2.2 i) step (fun s => some s) (fun k s i _ => rfl) om (K := K) om ([], [], [])
 have hw : ∀ (r : List Nat) (a : List Int) (b : List Bool) (m : List GMsg), (∀ v ∈ r, (v : Int) < g.N) → a.length + r.length ≤ 100 → b.length + r.length ≤ 100 → m.length + 100 * r.length ≤ 10000 →
  goL step (fun s => some s) r (a, b, m) = some (a ++ r.map (fun v => (AX l j v).Vals.getD (v / j.Parts.toNat) 0), b ++ r.map (fun v => (AX l j v).Rest.getD (v / j.Parts.toNat) false), m ++ r.flatMap fun (v : Nat) => (AX l j v).In.filter fun m => ieq m.To (v : Int)) := by
  intro r
  induction r with
  | nil => intro a b m _ _ _ _; simp [goL]
  | cons v r ih =>
   intro a b m hv ha hb hm
   simp only [List.length_cons] at ha hb hm
   have ja := OK hc hl h (hv v List.mem_cons_self)
   obtain ⟨_, r1, r2, r3, r4, r5, r6, r7⟩ := DD ja.pr
   obtain ⟨q1, q2⟩ := FI r7
   have hlen : (AX l j v).In.length ≤ 25 := by
    have := GJ (n := g.N) (v := -1) (l := (AX l j v).In) (JF r7) om
    omega
   have hfl : ((AX l j v).In.filter fun m => ieq m.To (v : Int)).length ≤ 25 := Nat.le_trans (List.length_filter_le _ _) hlen
   rw [goL]
   show (bif (izero j.Parts) then none else
   bif (inr (wrem (v : Int) j.Parts) (len l)) then
   (elAt l (wrem (v : Int) j.Parts)).bind fun x3822 =>
   bif (inr (wquo .i64 (v : Int) j.Parts) (len x3822.Vals)) then
   (elAt x3822.Vals (wquo .i64 (v : Int) j.Parts)).bind fun x3825 =>
   bif (apok (len a) 1 8) then
   bif (inr (wquo .i64 (v : Int) j.Parts) (len x3822.Rest)) then
   (elAt x3822.Rest (wquo .i64 (v : Int) j.Parts)).bind fun x3829 =>
   bif (apok (len b) 1 1) then
   (D8 K g j l x0 a b (v : Int) x3822 x3825 x3829 K m 0).bind fun w3851 => goL step (fun s => some s) r (appL a [x3825], appL b [x3829], w3851)
   else none
   else none
   else none
   else none
   else none) = _
   rw [ja.z, cF, ja.r, ja.q, ja.i1, cT, ja.e1, bS, ja.i2, cT, ja.e2, bS, Os om, cT, ja.i3, cT, ja.e3, bS, On om, cT,
    Td g j l x0 a b (v : Int) (AX l j v) _ _ om om m om, bS, ih _ _ _ (fun x hx => hv x (List.mem_cons_of_mem _ hx)) (by simp [appL]; omega) (by simp [appL]; omega) (by simp only [List.length_append]; omega)]
   simp [appL]
 rw [hw _ [] [] [] (fun v hv => by have := List.mem_range.1 hv; omega) (by simp; omega) (by simp; omega) (by simp; omega)] at hs
 simpa [Fv] using hs
def Cq : GPart := GPart.mk 0 0 [] [] []
def CK (n parts p : Int) (l : List GMsg) : Bool := l.all fun m => ile 0 m.To && (ilt m.To n && ieq (m.To % parts) p)
def Gp (j : GJob) (x : GPart) (l : List GMsg) : GPart × Int := bif ieq (Am j.Prog l).2 0 then (GPart.mk x.P x.Step x.Vals x.Rest (Am j.Prog l).1, 0) else (Cq, (Am j.Prog l).2)
def AO (g : GGraph) (j : GJob) (x : GPart) (l : List GMsg) : GPart × Int :=
 bif ieq (An g j) 0 then (bif Av g j x then (bif ieq (nlen (len x.In)) 0 then (bif CK g.N j.Parts x.P l then Gp j x l else (Cq, 1)) else (Cq, 1)) else (Cq, 1)) else (Cq, An g j)
theorem Sc {n parts p : Int} {l l' : List GMsg} (h : l.Perm l') : CK n parts p l = CK n parts p l' := by
 rw [Bool.eq_iff_iff]
 simp only [CK, List.all_eq_true]
 exact ⟨fun q m hm => q m (h.mem_iff.2 hm), fun q m hm => q m (h.mem_iff.1 hm)⟩
theorem T4 {p : Int} {l l' : List GMsg} (h : l.Perm l') : Am p l = Am p l' := by
 rw [Am, Am, SJ h]
theorem Ol {K : Nat} (ls : List (List GMsg)) (h1 : ls.length < 10000) (h2 : ls.length < K) (h3 : (ls.flatten).length < 10000) (h4 : (ls.flatten).length < K) : F98 K ls = some (Ay ls.flatten) := by
 let step : List GMsg → List GMsg → (List GMsg → Option (List GMsg)) → Option (List GMsg) := fun x a c => bif (apok (len a) (len x) 16) then c (appL a x) else none
 have h := AE (l := ls) (L := fun k s i => FH K ls k s i) step (fun s => some s) (fun k s i _ => rfl) om h2 []
 have hw : ∀ (r : List (List GMsg)) (a : List GMsg), a.length + r.flatten.length < 100000 → goL step (fun s => some s) r a = some (a ++ r.flatten) := by
  intro r
  induction r with
  | nil => intro a _; simp [goL]
  | cons x r ih =>
   intro a ha
   rw [List.flatten_cons, List.length_append] at ha
   rw [goL]
   show (bif (apok (len a) (len x) 16) then goL step (fun s => some s) r (appL a x) else none) = _
   have ap : apok (len a) (len x) 16 = true := decide_eq_true ⟨by show a.length + x.length ≤ _; omega, by show (a.length + x.length) * 16 ≤ _; omega⟩
   rw [ap, cT, ih _ (by simp only [appL, List.length_append]; omega)]; simp [appL]
 rw [hw ls [] (by simp only [List.length_nil]; omega), List.nil_append] at h
 have h' : FH K ls K [] 0 = some ls.flatten := h
 rw [F98, h', bS, Kx _ h4 h3]; rfl
theorem OB {K : Nat} (g : GGraph) (j : GJob) (x : GPart) (l : List GMsg) (hp : 1 ≤ j.Parts) (h6 : j.Parts ≤ 6) (h0 : 0 ≤ x.P) (hl : l.length < 1000000) (hK : l.length < K) : F3 K g j x l K 0 = some (Bf (CK g.N j.Parts x.P l)) := by
 let step : GMsg → Unit → (Unit → Option (Unit ⊕ Unit)) → Option (Unit ⊕ Unit) := fun m _ c =>
  bif (ile g.N m.To) then (some (.inl ())) else (F94 K j m.To).bind fun r => bif (ieq r x.P) then c () else some (.inl ())
 have h := AE (l := l) (L := fun k (_ : Unit) i => F3 K g j x l k i) step (fun _ => some (.inr ())) (fun k s i _ => rfl) om (K := K) hK ()
 have hw : ∀ (r : List GMsg), goL step (fun _ => some (.inr ())) r () = some (Bf (CK g.N j.Parts x.P r)) := by
  intro r
  induction r with
  | nil => rfl
  | cons m r ih =>
   rw [goL]
   show (bif (ile g.N m.To) then (some (.inl ())) else (F94 K j m.To).bind fun r' => bif (ieq r' x.P) then goL step (fun _ => some (.inr ())) r () else some (.inl ())) = _
   rw [LC, ih, bS, EO, AU, Ab.2 hp, Ab.2 h6, CK, CK, List.all_cons, Ea m.To 0]
   cases h1 : ilt m.To g.N
   · cases ile 0 m.To <;> rfl
   · cases h2 : ile 0 m.To
     · rw [Bool.not_false, Bool.true_or, cT, As.2 (by omega : (-1 : Int) ≠ x.P)]; rfl
     · simp only [Bool.not_true, Bool.false_or, cF, Bool.true_and]
       cases ieq (m.To % j.Parts) x.P <;> rfl
 rw [hw] at h
 exact h
theorem Uq {α : Type} (b : Bool) (x : Option α) (y : Option α) : (some (Bf b)).bind (fun z => Sum.elim (fun _ => x) (fun _ => y) z) = bif b then y else x := by cases b <;> rfl
theorem Sv {K : Nat} (hK : 1000 ≤ K) (g : GGraph) (j : GJob) (x : GPart) (ls : List (List GMsg)) (hp : i64 x.P) (hx : x.In.length ≤ 300) (hv : x.Vals.length ≤ 100) (hr : x.Rest.length ≤ 100)
 (h1 : ls.length < 1000) (h3 : (ls.flatten).length < 10000) (h4 : (ls.flatten).length < K) (hs : ∀ m ∈ ls.flatten, i64 m.V) : F62 K g j x ls = some (AO g j x ls.flatten) := by
 rw [F62, E1 om, II hK g j x om om hp, bS, bS, AO]
 cases hc : ieq (An g j) 0
 · rfl
 · cases hR : Av g j x
   · rfl
   · obtain ⟨_, p1, p2, _⟩ := DD hR
     obtain ⟨hg, _, _, _, _, _, _, p7, p8⟩ := Au hc
     have hsl := Et ls.flatten
     have e1 : ilt 0 (nlen (len x.In)) = !(ieq (nlen (len x.In)) 0) := by
      show ilt 0 (x.In.length : Int) = !(ieq (x.In.length : Int) 0)
      cases x.In.length with
      | zero => rfl
      | succ n => rw [Ad.2 om, As.2 om]; rfl
     have ap1 : apok 0 (len x.Vals) 8 = true := decide_eq_true ⟨by show 0 + x.Vals.length ≤ _; omega, by show (0 + x.Vals.length) * 8 ≤ _; omega⟩
     have ap2 : apok 0 (len x.Rest) 1 = true := decide_eq_true ⟨by show 0 + x.Rest.length ≤ _; omega, by show (0 + x.Rest.length) * 1 ≤ _; omega⟩
     have hso : ∀ m ∈ Ay ls.flatten, i64 m.V := fun m hm => hs m ((C4 _).mem_iff.1 hm)
     simp only [cT, e1, Ol ls (show ls.length < 10000 by omega) (show ls.length < K by omega) h3 h4, bS]
     rw [OB g j x _ p7 p8 p1 om om, My j.Prog (Ay ls.flatten) hso om om, Uq, F99, ap1, ap2, Sc (C4 ls.flatten), T4 (C4 ls.flatten)]
     cases ieq (nlen (len x.In)) 0
     · rfl
     · cases CK g.N j.Parts x.P ls.flatten
       · rfl
       · rw [Gp]
         simp only [cT, bS, Bool.not_true, cF]
         cases ieq (Am j.Prog ls.flatten).2 0 <;> rfl
theorem E2 {a b : Int} (h : 0 ≤ a + b) (h2 : a + b < 18446744073709551616) : wadd .u64 a b = a + b := by
 show IntKind.u64.wrap (a + b) = _
 simp [IntKind.wrap, IntKind.signed, IntKind.bits]; omega
theorem G5 {a b : Int} (h : 0 ≤ a * b) (h2 : a * b < 18446744073709551616) : wmul .u64 a b = a * b := by
 show IntKind.u64.wrap (a * b) = _
 simp only [IntKind.wrap, IntKind.signed, IntKind.bits, Bool.false_and]
 generalize a * b = t at *
 simp; omega
theorem FR {a : Int} (h : 0 ≤ a) (h2 : a < 18446744073709551616) : wquo .u64 a 4294967296 = a / 4294967296 := by
 show IntKind.u64.wrap (a.tdiv 4294967296) = _
 rw [Int.tdiv_eq_ediv_of_nonneg h]
 simp [IntKind.wrap, IntKind.signed, IntKind.bits]; omega
theorem FE {a : Int} (h : 0 ≤ a) : wrem a 4294967296 = a % 4294967296 := by
 show a.tmod 4294967296 = _
 exact Int.tmod_eq_emod_of_nonneg h
theorem Ld (K : Nat) {x b : Int} (hx : 0 ≤ x) (hx2 : x ≤ 9223372036854775808) (hb : 1 ≤ b) (hb2 : b ≤ 1000) :
 ∃ hi lo, G2 K x b = some (GA193.mk hi lo) ∧ hi * 18446744073709551616 + lo = x * b ∧ 0 ≤ lo ∧ lo < 18446744073709551616 ∧ 0 ≤ hi := by
 obtain ⟨u, hu⟩ : ∃ u, x / 4294967296 = u := ⟨_, rfl⟩
 obtain ⟨v, hv⟩ : ∃ v, x % 4294967296 = v := ⟨_, rfl⟩
 have hu0 : 0 ≤ u ∧ u ≤ 2147483648 := by omega
 have hv0 : 0 ≤ v ∧ v < 4294967296 := by omega
 have hxu : x = u * 4294967296 + v := by omega
 obtain ⟨P, hP⟩ : ∃ P, u * b = P := ⟨_, rfl⟩
 obtain ⟨Q, hQ⟩ : ∃ Q, v * b = Q := ⟨_, rfl⟩
 have hP0 : 0 ≤ P := hP ▸ Int.mul_nonneg hu0.1 om
 have hQ0 : 0 ≤ Q := hQ ▸ Int.mul_nonneg hv0.1 om
 have hP1 : P ≤ 2147483648 * 1000 := hP ▸ Int.mul_le_mul hu0.2 hb2 om om
 have hQ1 : Q ≤ 4294967296 * 1000 := hQ ▸ Int.mul_le_mul om hb2 om om
 have hxb : x * b = P * 4294967296 + Q := by rw [hxu, Int.add_mul, hQ, ← hP, Int.mul_right_comm]
 have a1 : wquo .u64 x 4294967296 = u := by rw [FR hx om, hu]
 have a2 : wquo .u64 b 4294967296 = 0 := by rw [FR om om]; omega
 have a3 : wrem x 4294967296 = v := by rw [FE hx, hv]
 have a4 : wrem b 4294967296 = b := by rw [FE om]; omega
 have b1 : wmul .u64 u 0 = 0 := by rw [G5 om om]; omega
 have b2 : wmul .u64 u b = P := by rw [G5 om om, hP]
 have b3 : wmul .u64 v 0 = 0 := by rw [G5 om om]; omega
 have b4 : wmul .u64 v b = Q := by rw [G5 om om, hQ]
 have c1 : wquo .u64 P 4294967296 = P / 4294967296 := FR hP0 om
 have c2 : wquo .u64 0 4294967296 = 0 := by rw [FR om om]; omega
 have c3 : wquo .u64 Q 4294967296 = Q / 4294967296 := FR hQ0 om
 have c4 : wrem P 4294967296 = P % 4294967296 := FE hP0
 have c5 : wrem 0 4294967296 = 0 := by rw [FE om]; omega
 have c6 : wrem Q 4294967296 = Q % 4294967296 := FE hQ0
 have d1 : wadd .u64 (Q / 4294967296) (P % 4294967296) = Q / 4294967296 + P % 4294967296 := E2 om om
 have d2 : wadd .u64 (Q / 4294967296 + P % 4294967296) 0 = Q / 4294967296 + P % 4294967296 := by rw [E2 om om]; omega
 have d3 : wquo .u64 (Q / 4294967296 + P % 4294967296) 4294967296 = (Q / 4294967296 + P % 4294967296) / 4294967296 := FR om om
 have d4 : wrem (Q / 4294967296 + P % 4294967296) 4294967296 = (Q / 4294967296 + P % 4294967296) % 4294967296 := FE om
 have d5 : wadd .u64 0 (P / 4294967296) = P / 4294967296 := by rw [E2 om om]; omega
 have d6 : wadd .u64 (P / 4294967296) 0 = P / 4294967296 := by rw [E2 om om]; omega
 have d7 : wadd .u64 (P / 4294967296) ((Q / 4294967296 + P % 4294967296) / 4294967296) = P / 4294967296 + (Q / 4294967296 + P % 4294967296) / 4294967296 := E2 om om
 have d8 : wmul .u64 ((Q / 4294967296 + P % 4294967296) % 4294967296) 4294967296 = (Q / 4294967296 + P % 4294967296) % 4294967296 * 4294967296 := G5 om om
 have d9 : wadd .u64 ((Q / 4294967296 + P % 4294967296) % 4294967296 * 4294967296) (Q % 4294967296) = (Q / 4294967296 + P % 4294967296) % 4294967296 * 4294967296 + Q % 4294967296 := E2 om om
 refine ⟨P / 4294967296 + (Q / 4294967296 + P % 4294967296) / 4294967296, (Q / 4294967296 + P % 4294967296) % 4294967296 * 4294967296 + Q % 4294967296, ?_, ?_, by omega, by omega, by omega⟩
 · rw [G2, a1, a2, a3, a4, b1, b2, b3, b4, c1, c2, c3, c4, c5, c6, d1, d2, d3, d4, d5, d6, d7, d8, d9]
 · rw [hxb]; omega
theorem JE (K : Nat) {a : Int} (ha : i64 a) : Fz K a = some (bif ilt a 0 then -a else a) := by
 unfold i64 at ha
 rw [Fz]
 cases h : ilt a 0
 · have := Ab.1 h
   have e : wconv .u64 a = a := by
    show IntKind.u64.wrap a = _
    simp [IntKind.wrap, IntKind.signed, IntKind.bits]; omega
   rw [e]; rfl
 · have := Ad.1 h
   have e1 : wadd .i64 a 1 = a + 1 := Fs (by unfold i64; omega)
   have e2 : wneg .i64 (a + 1) = -(a + 1) := by
    show IntKind.i64.wrap (0 - (a + 1)) = _
    rw [IntKind.wrap_i64]; omega
   have e3 : wconv .u64 (-(a + 1)) = -(a + 1) := by
    show IntKind.u64.wrap _ = _
    simp [IntKind.wrap, IntKind.signed, IntKind.bits]; omega
   have e4 : wadd .u64 (-(a + 1)) 1 = -a := by rw [E2 om om]; omega
   rw [e1, e2, e3, e4]; rfl
def CW (a b : Int) : Int × Bool := bif AF (a * b) then (a * b, true) else (0, false)
theorem Qe (K : Nat) {a b : Int} (ha : i64 a) (hb : 1 ≤ b) (hb2 : b ≤ 1000) : GT K a b = some (CW a b) := by
 have hb0 : ilt b 0 = false := Ab.2 om
 have h175 : Fz K b = some b := by rw [JE K (by unfold i64; omega), hb0]; rfl
 have hconv : ∀ n : Int, 0 ≤ n → n ≤ 9223372036854775807 → wconv .i64 n = n := fun n h1 h2 => by
  show IntKind.i64.wrap n = _
  rw [IntKind.wrap_i64]; omega
 rw [GT, JE K ha, h175, CW, hb0]
 unfold i64 at ha
 cases h : ilt a 0
 · have hn := Ab.1 h
   obtain ⟨hi, lo, e, h1, h2, h3, h4⟩ := Ld K hn om hb hb2
   simp only [bS, cF, e]
   cases c1 : ilt 0 hi
   · have c1' := Ab.1 c1
     cases c2 : ilt 9223372036854775808 lo
     · have c2' := Ab.1 c2
       cases c3 : ieq lo 9223372036854775808
       · have c3' := As.1 c3
         have hf : AF (a * b) = true := Cm.2 (by unfold i64; omega)
         have : lo = a * b := by omega
         rw [hf, hconv lo h2 om, this]; rfl
       · have c3' := Af.1 c3
         have hf : AF (a * b) = false := DG.2 om
         rw [hf]; rfl
     · have c2' := Ad.1 c2
       have hf : AF (a * b) = false := DG.2 om
       rw [hf]; rfl
   · have c1' := Ad.1 c1
     have hf : AF (a * b) = false := DG.2 om
     rw [hf]; rfl
 · have hn := Ad.1 h
   obtain ⟨hi, lo, e, h1, h2, h3, h4⟩ := Ld K (x := -a) om om hb hb2
   rw [Int.neg_mul] at h1
   simp only [bS, cT, e]
   cases c1 : ilt 0 hi
   · have c1' := Ab.1 c1
     cases c2 : ilt 9223372036854775808 lo
     · have c2' := Ab.1 c2
       cases c3 : ieq lo 9223372036854775808
       · have c3' := As.1 c3
         have hf : AF (a * b) = true := Cm.2 (by unfold i64; omega)
         have hw : wneg .i64 lo = a * b := by
          show IntKind.i64.wrap (0 - lo) = _
          rw [IntKind.wrap_i64]; omega
         rw [hf, hconv lo h2 om, hw]; rfl
       · have c3' := Af.1 c3
         have hf : AF (a * b) = true := Cm.2 (by unfold i64; omega)
         have : a * b = -9223372036854775808 := by omega
         rw [hf, this]; rfl
     · have c2' := Ad.1 c2
       have hf : AF (a * b) = false := DG.2 om
       rw [hf]; rfl
   · have c1' := Ad.1 c1
     have hf : AF (a * b) = false := DG.2 om
     rw [hf]; rfl
theorem GW {a d : Int} (ha : i64 a) (hd : 1 ≤ d) : wquo .i64 a d = a.tdiv d ∧ i64 (a.tdiv d) := by
 unfold i64 at ha
 have h1 : (a.tdiv d).natAbs ≤ a.natAbs := Int.natAbs_tdiv_le_natAbs a d
 have h2 : -9223372036854775808 ≤ a.tdiv d ∧ a.tdiv d ≤ 9223372036854775808 := by omega
 have h3 : 0 ≤ a → 0 ≤ a.tdiv d := fun h => Int.tdiv_nonneg h om
 have h4 : a ≤ 0 → a.tdiv d ≤ 0 := fun h => by
  have := Int.tdiv_nonneg (show 0 ≤ -a by omega) (show 0 ≤ d by omega)
  rw [Int.neg_tdiv] at this; omega
 have h5 : i64 (a.tdiv d) := by
  unfold i64
  rcases Int.le_total 0 a with h | h
  · have := h3 h; omega
  · have := h4 h; omega
 refine ⟨?_, h5⟩
 unfold i64 at h5
 show IntKind.i64.wrap (a.tdiv d) = _
 rw [IntKind.wrap_i64]; omega
theorem TM (K : Nat) {a b : Int} (ha : i64 a) (hb : 1 ≤ b) (hb2 : b ≤ 1000) : GA K a b = some (CW a b) := by
 unfold i64 at ha
 rw [GA, CW, As.2 (by omega : b ≠ 0), As.2 (by omega : b ≠ -1)]
 cases h0 : ieq a 0
 · have h0' := As.1 h0
   cases h1 : ieq a (-1)
   · have hz : izero b = false := decide_eq_false om
     simp only [cF, hz]
     obtain ⟨t, ht⟩ : ∃ t, a * b = t := ⟨_, rfl⟩
     obtain ⟨p, hp⟩ : ∃ p, wmul .i64 a b = p := ⟨_, rfl⟩
     have hp' : p = if 9223372036854775808 ≤ t % 18446744073709551616 then t % 18446744073709551616 - 18446744073709551616 else t % 18446744073709551616 := by
      rw [← hp, ← ht]
      show IntKind.i64.wrap (a * b) = _
      rw [IntKind.wrap_i64, ht]
      split <;> omega
     have hpr : -9223372036854775808 ≤ p ∧ p ≤ 9223372036854775807 := by rw [hp']; split <;> omega
     obtain ⟨q, hq⟩ : ∃ q, p.tdiv b = q := ⟨_, rfl⟩
     obtain ⟨r, hr⟩ : ∃ r, p.tmod b = r := ⟨_, rfl⟩
     have hdiv : b * q + r = p := by rw [← hq, ← hr]; exact Int.mul_tdiv_add_tmod p b
     have hrb : -1000 < r ∧ r < 1000 := by
      have h1 := Int.tmod_lt_of_pos p (show 0 < b by omega)
      have h2 := Int.lt_tmod_of_pos p (show 0 < b by omega)
      omega
     have hqr : -9223372036854775808 ≤ q ∧ q ≤ 9223372036854775807 := by
      have : i64 (p.tdiv b) := (GW (show i64 p from hpr) hb).2
      unfold i64 at this
      rw [hq] at this; exact this
     have hw : wquo .i64 p b = q := by rw [(GW (show i64 p from hpr) hb).1, hq]
     rw [hp, hw, ht]
     cases hf : AF t
     · have hf' := DG.1 hf
       have hne : ieq q a = false := As.2 fun hc => by
        have hba : b * q = t := by rw [hc, Int.mul_comm]; exact ht
        rw [hba] at hdiv
        have := hp'
        split at this <;> omega
       rw [hne]; rfl
     · have hf' := Cm.1 hf
       unfold i64 at hf'
       have hpt : p = t := by rw [hp']; split <;> omega
       have hqa : q = a := by
        rw [← hq, hpt, ← ht]
        exact Int.mul_tdiv_cancel a om
       rw [hqa, A6, hpt]; rfl
   · have h1' := Af.1 h1
     subst h1'
     have e1 : ieq (-1) (-9223372036854775808) = false := rfl
     have e2 : ieq b (-9223372036854775808) = false := As.2 om
     have e3 : AF (-1 * b) = true := Cm.2 (by unfold i64; omega)
     have e4 : wmul .i64 (-1) b = -1 * b := Lj (by unfold i64; omega)
     rw [e1, e2, e3, e4]; rfl
 · have h0' := Af.1 h0
   subst h0'
   have e3 : AF (0 * b) = true := Cm.2 (by unfold i64; omega)
   rw [e3, Int.zero_mul]; rfl
def Cb (v n d : Int) : Int × Bool := bif ilt d 1 then (0, false) else bif (CW v n).2 then ((CW v n).1.tdiv d, true) else (0, false)
theorem IQ {a b : Int} : i64 (CW a b).1 := by
 rw [CW]
 cases h : AF (a * b)
 · unfold i64; simp
 · exact Cm.1 h
theorem Ii {v n d : Int} : i64 (Cb v n d).1 := by
 have h0 : i64 0 := by unfold i64; omega
 rw [Cb]
 cases hd : ilt d 1
 · cases (CW v n).2
   · exact h0
   · exact (GW IQ (Ab.1 hd)).2
 · exact h0
theorem J9 (K : Nat) {v n : Int} (d : Int) (hv : i64 v) (hn : 1 ≤ n) (hn2 : n ≤ 1000) : EP K v n d = some (Cb v n d) := by
 rw [EP, Qe K hv hn hn2, bS, Cb]
 cases hd : ilt d 1
 · have hd' := Ab.1 hd
   have hz : izero d = false := decide_eq_false om
   rw [(GW (IQ (a := v) (b := n)) hd').1, hz]
   cases (CW v n).2 <;> rfl
 · cases (CW v n).2 <;> rfl
theorem Kb (K : Nat) {v n : Int} (d : Int) (hv : i64 v) (hn : 1 ≤ n) (hn2 : n ≤ 1000) : FV K v n d = some (Cb v n d) := by
 rw [FV, TM K hv hn hn2, Cb]
 cases hd : ilt d 1
 · have hd' := Ab.1 hd
   have hz : izero d = false := decide_eq_false om
   rw [cF, cF, bS, (GW (IQ (a := v) (b := n)) hd').1, hz]
   cases (CW v n).2 <;> rfl
 · rfl
def Ej (got : Int) : Int × Bool := bif (Cb got 85 100).2 then Be 150000 (Cb got 85 100).1 else (0, false)
theorem MR (K : Nat) {got : Int} (hg : i64 got) : F73 K got = some (Ej got) := by
 rw [F73, Kb K 100 hg om om, bS, Ej]
 cases (Cb got 85 100).2
 · rfl
 · rw [cT, cT, HC K (by unfold i64; omega) Ii]; rfl
theorem HW {a b : Int} : i64 (Be a b).1 := by
 rw [Be]
 cases h : AF (a + b)
 · unfold i64; simp
 · exact Cm.1 h
theorem MA {got : Int} : i64 (Ej got).1 := by
 rw [Ej]
 cases (Cb got 85 100).2
 · unfold i64; simp
 · exact HW
def Aj (g : GGraph) (v : Int) : List GEdge := bif ieq (Br g) 0 then g.Edges.filter (fun e => ieq e.From v) else []
theorem Jr (l : List GEdge) (v : Int) : ∀ (s : List GEdge), s.length + l.length ≤ 80 →
 goL (fun x (s : List GEdge) c => bif (ieq x.From v) then (bif (apok (len s) 1 24) then c (appL s [x]) else none) else c s) (fun s => some s) l s = some (s ++ l.filter (fun e => ieq e.From v)) := by
 induction l with
 | nil => intro s _; simp [goL]
 | cons x l ih =>
  intro s hs
  simp only [List.length_cons] at hs
  rw [goL]
  cases hx : ieq x.From v
  · rw [cF, ih s om, List.filter_cons, hx]; rfl
  · have ha : apok (len s) 1 24 = true := decide_eq_true ⟨by show s.length + 1 ≤ _; omega, by show (s.length + 1) * 24 ≤ _; omega⟩
    rw [cT, ha, cT, ih _ (by simp [appL]; omega), List.filter_cons, hx]
    simp [appL]
theorem GG {K : Nat} (hK : 100 ≤ K) (g : GGraph) (v : Int) : Cp K g v = some (Aj g v) := by
 rw [Cp, KX hK, bS, Aj]
 cases hc : ieq (Br g) 0
 · rfl
 · obtain ⟨h1, h2, h3, h4⟩ := AQ hc
   have e : Fm K g v K [] 0 = _ := AE (l := g.Edges) (L := fun k s i => Fm K g v k s i) (fun x (s : List GEdge) c => bif (ieq x.From v) then (bif (apok (len s) 1 24) then c (appL s [x]) else none) else c s) (fun s => some s) (fun k s i _ => rfl) om om []
   rw [cT, cT, e, Jr _ _ _ (by simpa using h3)]; rfl
theorem Pz {K : Nat} (hK : 100 ≤ K) (g : GGraph) (v : Int) : F75 K g v = some (Aj g v) := by
 rw [F75, KN hK, bS, Aj]
 cases hc : ieq (Br g) 0
 · rfl
 · obtain ⟨h1, h2, h3, h4⟩ := AQ hc
   have e : EY K g v K [] 0 = _ := AE (l := g.Edges) (L := fun k s i => EY K g v k s i) (fun x (s : List GEdge) c => bif (ieq x.From v) then (bif (apok (len s) 1 24) then c (appL s [x]) else none) else c s) (fun s => some s) (fun k s i _ => rfl) om om []
   rw [cT, cT, e, Jr _ _ _ (by simpa using h3)]; rfl
theorem D9 {g : GGraph} {v : Int} : (Aj g v).length ≤ 80 := by
 rw [Aj]
 cases hc : ieq (Br g) 0
 · simp
 · obtain ⟨h1, h2, h3, h4⟩ := AQ hc
   exact Nat.le_trans (List.length_filter_le _ _) h3
def CS (p val : Int) (e : GEdge) (many : Int) : Int × Bool := bif ieq p 1 then Be val e.W else bif ieq p 3 then Be val 1 else bif ieq p 5 then Cb val 1 many else (val, true)
def AS (p val many : Int) : List GEdge → List GMsg → Option (List GMsg)
 | [], s => some s
 | e :: l, s => bif (CS p val e many).2 then AS p val many l (s ++ [GMsg.mk e.To (CS p val e many).1]) else none
def Dp {α : Type} : Option α → Unit ⊕ α
 | none => .inl ()
 | some s => .inr s
def Cx (rest : Bool) (val : Int) : Option (List GMsg) → Int × List GMsg × Bool × Int
 | none => (0, [], false, 8)
 | some s => (val, s, rest, 0)
theorem KI (rest : Bool) (val : Int) (o : Option (List GMsg)) : (some (Dp o)).bind (fun y => Sum.elim (fun w => some ((0, ([], (false, 8))) : Int × List GMsg × Bool × Int)) (fun w => some (val, (w, (rest, 0)))) y) = some (Cx rest val o) := by
 cases o <;> rfl
theorem HK (rest : Bool) (val : Int) (o : Option (List GMsg)) : Sum.elim (fun w => some ((0, ([], (false, 8))) : Int × List GMsg × Bool × Int)) (fun w => some (val, (w, (rest, 0)))) (Dp o) = some (Cx rest val o) := by
 cases o <;> rfl
theorem En (p val many : Int) (f : GEdge → Option (Int × Bool)) (l : List GEdge) (hf : ∀ e ∈ l, f e = some (CS p val e many)) : ∀ (s : List GMsg), s.length + l.length ≤ 80 →
 goL (fun e (s : List GMsg) c => (f e).bind fun r => bif r.2 then (bif (apok (len s) 1 16) then c (appL s [(GMsg.mk e.To r.1)]) else none) else some (.inl ())) (fun s => some (.inr s)) l s = some (Dp (AS p val many l s)) := by
 induction l with
 | nil => intro s _; rfl
 | cons x l ih =>
  intro s hs
  simp only [List.length_cons] at hs
  rw [goL, hf x List.mem_cons_self, bS, AS]
  cases (CS p val x many).2
  · rfl
  · have ha : apok (len s) 1 16 = true := decide_eq_true ⟨by show s.length + 1 ≤ _; omega, by show (s.length + 1) * 16 ≤ _; omega⟩
    rw [cT, ha, cT, ih (fun e he => hf e (List.mem_cons_of_mem _ he)) _ (by simp [appL]; omega), cT]; rfl
theorem Ho {g : GGraph} {v : Int} {e : GEdge} (h : e ∈ Aj g v) : 0 ≤ e.W ∧ e.W ≤ 4611686018427387904 := by
 rw [Aj] at h
 cases hc : ieq (Br g) 0
 · rw [hc] at h; cases h
 · obtain ⟨h1, h2, h3, h4⟩ := AQ hc
   rw [hc] at h
   have := FU (Hy h4 e (List.mem_filter.1 h).1)
   omega
theorem QJ (K : Nat) {val : Int} {e : GEdge} (many : Int) (hv : i64 val) (he : i64 e.W) : F83 K val e = some (CS 1 val e many) := by
 rw [F83, H5 K hv he]; rfl
theorem Rp (K : Nat) {val : Int} (e : GEdge) (many : Int) (hv : i64 val) : F85 K val e = some (CS 3 val e many) := by
 rw [F85, H5 K hv (by unfold i64; omega)]; rfl
theorem Iq (K : Nat) (p : Int) {val many : Int} {e : GEdge} (hv : i64 val) (he : i64 e.W) : F76 K p val e many = some (CS p val e many) := by
 rw [F76, CS, HC K hv he, HC K hv (show i64 1 by unfold i64; omega), Kb K many hv (show (1 : Int) ≤ 1 by omega) (show (1 : Int) ≤ 1000 by omega)]
 cases ieq p 1 <;> cases ieq p 3 <;> cases ieq p 5 <;> rfl
def A4 (g : GGraph) (v : Int) : Int := nlen (len (Aj g v))
section loops
variable {K : Nat} (hK : 100 ≤ K) (g : GGraph) (v : Int) {val : Int} (hv : i64 val)
include hK hv
theorem LB (b : Bool) : Dk K val b (Aj g v) K [] 0 = some (Dp (AS 1 val (A4 g v) (Aj g v) [])) := by
 have hl := D9 (g := g) (v := v)
 have e := AE (l := Aj g v) (L := fun k s i => Dk K val b (Aj g v) k s i) (fun e (s : List GMsg) c => (F83 K val e).bind fun r => bif r.2 then (bif (apok (len s) 1 16) then c (appL s [(GMsg.mk e.To r.1)]) else none) else some (.inl ())) (fun s => some (.inr s)) (fun k s i _ => rfl) (K := K) om om []
 exact e.trans (En 1 val (A4 g v) (F83 K val) _ (fun e he => QJ K _ hv (by have := Ho he; unfold i64; omega)) [] (by simpa using hl))
theorem Nn (b : Bool) : C8 K val b (Aj g v) K [] 0 = some (Dp (AS 3 val (A4 g v) (Aj g v) [])) := by
 have hl := D9 (g := g) (v := v)
 have e := AE (l := Aj g v) (L := fun k s i => C8 K val b (Aj g v) k s i) (fun e (s : List GMsg) c => (F85 K val e).bind fun r => bif r.2 then (bif (apok (len s) 1 16) then c (appL s [(GMsg.mk e.To r.1)]) else none) else some (.inl ())) (fun s => some (.inr s)) (fun k s i _ => rfl) (K := K) om om []
 exact e.trans (En 3 val (A4 g v) (F85 K val) _ (fun e he => Rp K e _ hv) [] (by simpa using hl))
omit hv in
theorem LD (val : Int) (b : Bool) : Dd K val b (Aj g v) K [] 0 = some (Dp (AS 2 val (A4 g v) (Aj g v) [])) := by
 have hl := D9 (g := g) (v := v)
 have e := AE (l := Aj g v) (L := fun k s i => Dd K val b (Aj g v) k s i) (fun e (s : List GMsg) c => (F87 K val e).bind fun r => bif r.2 then (bif (apok (len s) 1 16) then c (appL s [(GMsg.mk e.To r.1)]) else none) else some (.inl ())) (fun s => some (.inr s)) (fun k s i _ => rfl) (K := K) om om []
 exact e.trans (En 2 val (A4 g v) (F87 K val) _ (fun e he => rfl) [] (by simpa using hl))
omit hv in
theorem KY (val : Int) (b : Bool) : Dh K val b (Aj g v) K [] 0 = some (Dp (AS 4 val (A4 g v) (Aj g v) [])) := by
 have hl := D9 (g := g) (v := v)
 have e := AE (l := Aj g v) (L := fun k s i => Dh K val b (Aj g v) k s i) (fun e (s : List GMsg) c => (F87 K val e).bind fun r => bif r.2 then (bif (apok (len s) 1 16) then c (appL s [(GMsg.mk e.To r.1)]) else none) else some (.inl ())) (fun s => some (.inr s)) (fun k s i _ => rfl) (K := K) om om []
 exact e.trans (En 4 val (A4 g v) (F87 K val) _ (fun e he => rfl) [] (by simpa using hl))
theorem JL : EU K (Aj g v) val K [] 0 = some (Dp (AS 5 val (A4 g v) (Aj g v) [])) := by
 have hl := D9 (g := g) (v := v)
 have e := AE (l := Aj g v) (L := fun k s i => EU K (Aj g v) val k s i) (fun e (s : List GMsg) c => (EP K val 1 (nlen (len (Aj g v)))).bind fun r => bif r.2 then (bif (apok (len s) 1 16) then c (appL s [(GMsg.mk e.To r.1)]) else none) else some (.inl ())) (fun s => some (.inr s)) (fun k s i _ => rfl) (K := K) om om []
 exact e.trans (En 5 val (A4 g v) (fun _ => EP K val 1 (nlen (len (Aj g v)))) _ (fun e he => J9 K _ hv om om) [] (by simpa using hl))
theorem L0 (p a b c : Int) : Dz K val p a b c (Aj g v) K [] 0 = some (Dp (AS p val (A4 g v) (Aj g v) [])) := by
 have hl := D9 (g := g) (v := v)
 have e := AE (l := Aj g v) (L := fun k s i => Dz K val p a b c (Aj g v) k s i) (fun e (s : List GMsg) c => (F76 K p val e (nlen (len (Aj g v)))).bind fun r => bif r.2 then (bif (apok (len s) 1 16) then c (appL s [(GMsg.mk e.To r.1)]) else none) else some (.inl ())) (fun s => some (.inr s)) (fun k s i _ => rfl) (K := K) om om []
 exact e.trans (En p val (A4 g v) (fun e => F76 K p val e (nlen (len (Aj g v)))) _ (fun e he => Iq K p hv (by have := Ho he; unfold i64; omega)) [] (by simpa using hl))
theorem M1 (p a b c : Int) (m : Bool) : DV K val p a b c m (Aj g v) K [] 0 = some (bif m then Dp (AS p val (A4 g v) (Aj g v) []) else .inr []) := by
 have hl := D9 (g := g) (v := v)
 cases m
 · obtain ⟨k, rfl⟩ : ∃ k, K = k + 1 := ⟨K - 1, by omega⟩
   rw [DV]
   cases ilt 0 (nlen (len (Aj g v))) <;> rfl
 · have e := AE (l := Aj g v) (L := fun k s i => DV K val p a b c true (Aj g v) k s i) (fun e (s : List GMsg) c => (F76 K p val e (nlen (len (Aj g v)))).bind fun r => bif r.2 then (bif (apok (len s) 1 16) then c (appL s [(GMsg.mk e.To r.1)]) else none) else some (.inl ())) (fun s => some (.inr s)) (fun k s i _ => rfl) (K := K) om om []
   exact e.trans (En p val (A4 g v) (fun e => F76 K p val e (nlen (len (Aj g v)))) _ (fun e he => Iq K p hv (by have := Ho he; unfold i64; omega)) [] (by simpa using hl))
theorem KB (p a b c : Int) (m : Bool) : Dy K val p a b c m (Aj g v) K [] 0 = some (bif m then Dp (AS p val (A4 g v) (Aj g v) []) else .inr []) := by
 have hl := D9 (g := g) (v := v)
 cases m
 · obtain ⟨k, rfl⟩ : ∃ k, K = k + 1 := ⟨K - 1, by omega⟩
   rw [Dy]
   cases ilt 0 (nlen (len (Aj g v))) <;> rfl
 · have e := AE (l := Aj g v) (L := fun k s i => Dy K val p a b c true (Aj g v) k s i) (fun e (s : List GMsg) c => (F76 K p val e (nlen (len (Aj g v)))).bind fun r => bif r.2 then (bif (apok (len s) 1 16) then c (appL s [(GMsg.mk e.To r.1)]) else none) else some (.inl ())) (fun s => some (.inr s)) (fun k s i _ => rfl) (K := K) om om []
   exact e.trans (En p val (A4 g v) (fun e => F76 K p val e (nlen (len (Aj g v)))) _ (fun e he => Iq K p hv (by have := Ho he; unfold i64; omega)) [] (by simpa using hl))
omit hv in
theorem Wh (val p a b c : Int) : DR K val p a b c (Aj g v) K [] 0 = some (.inl []) := by
 obtain ⟨k, rfl⟩ : ∃ k, K = k + 1 := ⟨K - 1, by omega⟩
 rw [DR, A6]
 cases ilt 0 (nlen (len (Aj g v))) <;> rfl
end loops
def CN (step val got : Int) (sm : Bool) : Int × Bool := bif ilt 0 step then Ej (bif sm then got else 0) else (val, true)
def DN (step : Int) (w : Int × Bool) (many : Int) (l : List GEdge) : Int × List GMsg × Bool × Int :=
 bif w.2 then (bif ile 10 step then (w.1, [], true, 0) else Cx false w.1 (AS 5 w.1 many l [])) else (0, [], false, 8)
def CQ (p val got : Int) (sm : Bool) : Int := bif sm then (Al p val got).1 else val
def DT (p src step v val w : Int) : Bool := bif ieq step 0 && (bif ieq p 1 || ieq p 3 then ieq v src else true) then true else ine w val
def Dw (p : Int) (m : Bool) (w many : Int) (l : List GEdge) : Int × List GMsg × Bool × Int :=
 bif m then Cx true w (AS p w many l []) else (w, [], true, 0)
def AC (g : GGraph) (j : GJob) (step v val got : Int) (sm : Bool) : Int × List GMsg × Bool × Int :=
 bif ieq (An g j) 0 then
  (bif ilt v 0 then (0, [], false, 4) else bif ile g.N v then (0, [], false, 4)
   else bif ilt step 0 then (0, [], false, 1) else bif ilt 40 step then (0, [], false, 1)
   else bif ieq j.Prog 5 then DN step (CN step val got sm) (A4 g v) (Aj g v)
   else Dw j.Prog (DT j.Prog j.Source step v val (CQ j.Prog val got sm)) (CQ j.Prog val got sm) (A4 g v) (Aj g v))
 else (0, [], false, An g j)
theorem Ni {K : Nat} (hK : 100 ≤ K) (g : GGraph) (v step : Int) {val got : Int} (hv : i64 val) (hg : i64 got) : Ep K (Aj g v) step val got = some (DN step (CN step val got true) (A4 g v) (Aj g v)) := by
 rw [Ep, J9 K 100 hg om om, bS, H5 K (by unfold i64; omega) Ii, CN, DN]
 cases hs : ilt 0 step
 · rw [JL hK g v hv, KI]
   cases ile 10 step <;> rfl
 · rw [cT, cT, bS, cT, Ej]
   cases (Cb got 85 100).2
   · rfl
   · cases h2 : (Be 150000 (Cb got 85 100).1).2
     · rw [cT, cT, h2]; rfl
     · rw [cT, cT, cT, h2, cT, JL hK g v HW, KI]
       cases ile 10 step <;> rfl
theorem Rt {K : Nat} (hK : 100 ≤ K) (g : GGraph) (j : GJob) (step v : Int) {val got : Int} (sm : Bool) (hv : i64 val) (hg : i64 got) : F93 K g j step v val got sm = some (AC g j step v val got sm) := by
 rw [F93, E1 hK, bS, AC]
 cases hc : ieq (An g j) 0
 · rfl
 · obtain ⟨hgc, p1, p2, p3, p4, p5, p6, p7, p8⟩ := Au hc
   rw [cT, cT]
   cases h1 : ilt v 0
   · cases h2 : ile g.N v
     · cases h3 : ilt step 0
       · cases h4 : ilt 40 step
         · simp only [cF]
           rcases Ij j.Prog with q | q | q | q | q | q
           · have e5 : ieq 1 5 = false := rfl
             have e4 : ieq 1 4 = false := rfl
             have e1 : ieq 1 1 = true := rfl
             have e3 : ieq 1 3 = false := rfl
             have eb : Ao 1 = false := rfl
             rw [GG hK, q, I0, DT, CQ, Al, e5, e4, e1, e3, eb, Dw]
             simp only [bS, cT, cF, BI, BK, BG, Ch, BL, BX, BT, BU, B8, B4, Cc, BN, Cg, BV, B3, B0, Cl, BE, BJ, BF, B2, B1, B5, BW, BR, BS, BZ, BP, B7, B9, BM, Ce, BO, Cf, BQ, Cj, LB hK g v hv, LB hK g v hg, F82, HK, Bool.or_true, Bool.true_or, Bool.or_false, Bool.and_true]
             cases sm
             · have : ine val val = false := ine_t (A6 val)
               simp only [cF, this]
               cases ieq step 0 <;> cases ieq v j.Source <;> rfl
             · cases hb : ilt got val
               · have : ine val val = false := ine_t (A6 val)
                 simp only [cT, cF, this]
                 cases ieq step 0 <;> cases ieq v j.Source <;> rfl
               · have : ine got val = true := ine_f (As.2 (by have := Ad.1 hb; omega))
                 simp only [cT, cF, this]
                 cases ieq step 0 <;> cases ieq v j.Source <;> rfl
           · have e5 : ieq 2 5 = false := rfl
             have e4 : ieq 2 4 = false := rfl
             have e1 : ieq 2 1 = false := rfl
             have e3 : ieq 2 3 = false := rfl
             have eb : Ao 2 = false := rfl
             rw [GG hK, q, I3, DT, CQ, Al, e5, e4, e1, e3, eb, Dw]
             simp only [bS, cT, cF, BI, BK, BG, Ch, BL, BX, BT, BU, B8, B4, Cc, BN, Cg, BV, B3, B0, Cl, BE, BJ, BF, B2, B1, B5, BW, BR, BS, BZ, BP, B7, B9, BM, Ce, BO, Cf, BQ, Cj, LD hK g v val, LD hK g v got, F82, HK, Bool.or_true, Bool.true_or, Bool.or_false, Bool.and_true]
             cases sm
             · have : ine val val = false := ine_t (A6 val)
               simp only [cF, this]
               cases ieq step 0 <;> rfl
             · cases hb : ilt got val
               · have : ine val val = false := ine_t (A6 val)
                 simp only [cT, cF, this]
                 cases ieq step 0 <;> rfl
               · have : ine got val = true := ine_f (As.2 (by have := Ad.1 hb; omega))
                 simp only [cT, cF, this]
                 cases ieq step 0 <;> rfl
           · have e5 : ieq 3 5 = false := rfl
             have e4 : ieq 3 4 = false := rfl
             have e1 : ieq 3 1 = false := rfl
             have e3 : ieq 3 3 = true := rfl
             have eb : Ao 3 = false := rfl
             rw [GG hK, q, Ie, DT, CQ, Al, e5, e4, e1, e3, eb, Dw]
             simp only [bS, cT, cF, BI, BK, BG, Ch, BL, BX, BT, BU, B8, B4, Cc, BN, Cg, BV, B3, B0, Cl, BE, BJ, BF, B2, B1, B5, BW, BR, BS, BZ, BP, B7, B9, BM, Ce, BO, Cf, BQ, Cj, Nn hK g v hv, Nn hK g v hg, F82, HK, Bool.or_true, Bool.true_or, Bool.or_false, Bool.and_true]
             cases sm
             · have : ine val val = false := ine_t (A6 val)
               simp only [cF, this]
               cases ieq step 0 <;> cases ieq v j.Source <;> rfl
             · cases hb : ilt got val
               · have : ine val val = false := ine_t (A6 val)
                 simp only [cT, cF, this]
                 cases ieq step 0 <;> cases ieq v j.Source <;> rfl
               · have : ine got val = true := ine_f (As.2 (by have := Ad.1 hb; omega))
                 simp only [cT, cF, this]
                 cases ieq step 0 <;> cases ieq v j.Source <;> rfl
           · have e5 : ieq 4 5 = false := rfl
             have e4 : ieq 4 4 = true := rfl
             have e1 : ieq 4 1 = false := rfl
             have e3 : ieq 4 3 = false := rfl
             have eb : Ao 4 = false := rfl
             rw [GG hK, q, Jm, DT, CQ, Al, e5, e4, e1, e3, eb, Dw]
             simp only [bS, cT, cF, BI, BK, BG, Ch, BL, BX, BT, BU, B8, B4, Cc, BN, Cg, BV, B3, B0, Cl, BE, BJ, BF, B2, B1, B5, BW, BR, BS, BZ, BP, B7, B9, BM, Ce, BO, Cf, BQ, Cj, KY hK g v val, KY hK g v got, F89, igt, HK, Bool.or_true, Bool.true_or, Bool.or_false, Bool.and_true]
             have hd : decide (got > val) = ilt val got := rfl
             rw [hd]
             cases sm
             · have : ine val val = false := ine_t (A6 val)
               simp only [cF, this]
               cases ieq step 0 <;> rfl
             · cases hb : ilt val got
               · have : ine val val = false := ine_t (A6 val)
                 simp only [cT, cF, this]
                 cases ieq step 0 <;> rfl
               · have : ine got val = true := ine_f (As.2 (by have := Ad.1 hb; omega))
                 simp only [cT, cF, this]
                 cases ieq step 0 <;> rfl
           · have e5 : ieq 5 5 = true := rfl
             rw [GG hK, q, Ja, e5]
             simp only [bS, cT, cF, BI, BK, BG, Ch, BL, BX, BT, BU, B8, B4, Cc, BN, Cg, BV, B3, B0, Cl, BE, BJ, BF, B2, B1, B5, BW, BR, BS, BZ, BP, B7, B9, BM, Ce, BO, Cf, BQ, Cj, Ni hK g v step hv hg, Ni hK g v step hv (show i64 0 by unfold i64; omega)]
             cases sm <;> rfl
           · omega
         · rfl
       · rfl
     · rfl
   · rfl
def Ik (t : Int × List GMsg × Bool × Int) : GTurned := GTurned.mk t.1 t.2.1 t.2.2.1 t.2.2.2
theorem MP (rest : Bool) (val : Int) (o : Option (List GMsg)) : Sum.elim (fun w => some (GTurned.mk 0 [] false 8)) (fun w => some (GTurned.mk val w rest 0)) (Dp o) = some (Ik (Cx rest val o)) := by
 cases o <;> rfl
theorem K3 (rest : Bool) (val : Int) (m : Bool) (x y : Unit ⊕ List GMsg) : Sum.elim (fun w => some (GTurned.mk 0 [] false 8)) (fun w => some (GTurned.mk val w rest 0)) (bif m then x else y) = bif m then Sum.elim (fun w => some (GTurned.mk 0 [] false 8)) (fun w => some (GTurned.mk val w rest 0)) x else Sum.elim (fun w => some (GTurned.mk 0 [] false 8)) (fun w => some (GTurned.mk val w rest 0)) y := by
 cases m <;> rfl
theorem T5 {K : Nat} (hK : 100 ≤ K) (g : GGraph) (j : GJob) (step v : Int) {val got : Int} (sm : Bool) (hv : i64 val) (hg : i64 got) : F50 K g j step v val got sm = some (Ik (AC g j step v val got sm)) := by
 rw [F50, E6 hK, bS, AC]
 cases hc : ieq (An g j) 0
 · rfl
 · obtain ⟨hgc, p1, p2, p3, p4, p5, p6, p7, p8⟩ := Au hc
   rw [cT, cT]
   cases h1 : ilt v 0
   · cases h2 : ile g.N v
     · cases h3 : ilt step 0
       · cases h4 : ilt 40 step
         · have i0 : i64 0 := by unfold i64; omega
           have hf : i64 (Al j.Prog val got).1 := G1 hv hg
           have fl : ine val val = false := ine_t (A6 val)
           simp only [cF, Pz hK, bS, MR K hg, MR K i0, Lz K j.Prog hv hg]
           cases q5 : ieq j.Prog 5
           · simp only [cF, L0 hK g v hv, L0 hK g v hf, KB hK g v hv, KB hK g v hf, Wh hK g v, bS, MP, Sum.elim_inl, K3, Sum.elim_inr, Dw, DT, CQ]
             cases sm
             · simp only [cF, fl]
               cases ieq j.Prog 1 <;> cases ieq j.Prog 3 <;> cases ieq v j.Source <;> cases ieq step 0 <;> rfl
             · simp only [cT]
               cases ieq j.Prog 1 <;> cases ieq j.Prog 3 <;> cases ieq v j.Source <;> cases ieq step 0 <;> simp only [cT, cF, Bool.and_true, Bool.and_false, Bool.true_and, Bool.false_and, Bool.or_true, Bool.or_false] <;> first | rfl | (cases ine (Al j.Prog val got).1 val <;> rfl)
           · have q := Af.1 q5
             rw [q]
             simp only [cT, M1 hK g v hv, M1 hK g v MA, bS, MP, Sum.elim_inl, K3, Sum.elim_inr, DN, CN]
             have hm : ilt step 10 = !(ile 10 step) := by
              cases h : ile 10 step
              · have := Di.1 h; exact Ad.2 om
              · have := AK.1 h; exact Ab.2 om
             simp only [hm]
             cases sm <;> cases ilt 0 step <;> cases ile 10 step <;> simp only [cT, cF, Bool.not_true, Bool.not_false] <;> first | rfl | (cases (Ej got).2 <;> rfl) | (cases (Ej 0).2 <;> rfl)
         · rfl
       · rfl
     · rfl
   · rfl
theorem M5 {p val many : Int} : ∀ {l : List GEdge} {s r : List GMsg}, AS p val many l s = some r → r.map (·.To) = s.map (·.To) ++ l.map (·.To)
 | [], s, r, h => by injection h with h; subst h; simp
 | e :: l, s, r, h => by
  rw [AS] at h
  cases hq : (CS p val e many).2
  · rw [hq] at h; cases h
  · rw [hq, cT] at h
    rw [M5 h]; simp
theorem Je {g : GGraph} {j : GJob} {step v val got : Int} {sm : Bool} (h : ieq (AC g j step v val got sm).2.2.2 0 = true) :
 (AC g j step v val got sm).2.1 = [] ∨ ((AC g j step v val got sm).2.1.map (·.To) = (Aj g v).map (·.To)) := by
 have hs : ∀ (b : Bool) (w : Int) (p : Int), (Cx b w (AS p w (A4 g v) (Aj g v) [])).2.1 = [] ∨ (Cx b w (AS p w (A4 g v) (Aj g v) [])).2.1.map (·.To) = (Aj g v).map (·.To) := fun b w p => by
  cases hq : AS p w (A4 g v) (Aj g v) []
  · left; rfl
  · right; have := M5 hq; simpa [Cx] using this
 rw [AC]
 cases ieq (An g j) 0
 · left; rfl
 · cases ilt v 0
   · cases ile g.N v
     · cases ilt step 0
       · cases ilt 40 step
         · simp only [cT, cF]
           cases ieq j.Prog 5
           · rw [cF, Dw]
             cases DT j.Prog j.Source step v val (CQ j.Prog val got sm)
             · left; rfl
             · exact hs _ _ _
           · rw [cT, DN]
             cases (CN step val got sm).2
             · left; rfl
             · cases ile 10 step
               · exact hs _ _ _
               · left; rfl
         · left; rfl
       · left; rfl
     · left; rfl
   · left; rfl
theorem IG {g : GGraph} {j : GJob} {step v val got : Int} {sm : Bool} (h : ieq (AC g j step v val got sm).2.2.2 0 = false) : (AC g j step v val got sm).1 = 0 ∧ (AC g j step v val got sm).2.1 = [] := by
 have hs : ∀ (b : Bool) (w : Int) (o : Option (List GMsg)), ieq (Cx b w o).2.2.2 0 = false → (Cx b w o).1 = 0 ∧ (Cx b w o).2.1 = [] := fun b w o => by
  cases o
  · intro _; exact ⟨rfl, rfl⟩
  · intro h; cases h
 rw [AC] at h ⊢
 cases hc : ieq (An g j) 0
 · exact ⟨rfl, rfl⟩
 · rw [hc] at h
   cases h1 : ilt v 0
   · cases h2 : ile g.N v
     · cases h3 : ilt step 0
       · cases h4 : ilt 40 step
         · rw [h1, h2, h3, h4] at h
           simp only [cT, cF] at h ⊢
           cases h5 : ieq j.Prog 5
           · rw [h5, cF, Dw] at h
             rw [cF, Dw]
             cases hm : DT j.Prog j.Source step v val (CQ j.Prog val got sm)
             · rw [hm] at h; cases h
             · rw [hm] at h; exact hs _ _ _ h
           · rw [h5, cT, DN] at h
             rw [cT, DN]
             cases hw : (CN step val got sm).2
             · exact ⟨rfl, rfl⟩
             · rw [hw] at h
               cases h10 : ile 10 step
               · rw [h10] at h; exact hs _ _ _ h
               · rw [h10] at h; cases h
         · exact ⟨rfl, rfl⟩
       · exact ⟨rfl, rfl⟩
     · exact ⟨rfl, rfl⟩
   · exact ⟨rfl, rfl⟩
theorem QY {g : GGraph} {j : GJob} {step v val got : Int} {sm : Bool} : (AC g j step v val got sm).2.1.length ≤ 80 := by
 have ho := D9 (g := g) (v := v)
 cases h : ieq (AC g j step v val got sm).2.2.2 0
 · rw [(IG h).2]; simp
 · rcases Je h with hz | hz
   · rw [hz]; simp
   · have := congrArg List.length hz
     simp only [List.length_map] at this
     omega
abbrev Tri := List Int × List Bool × List GMsg
def Ag (g : GGraph) (j : GJob) (s : GState) (v : Nat) : Int × List GMsg × Bool × Int :=
 bif s.Rest.getD v false && !(atS s.In (v : Int)).2 then (s.Vals.getD v 0, [], true, 0)
 else AC g j s.Step (v : Int) (s.Vals.getD v 0) (atS s.In (v : Int)).1 (atS s.In (v : Int)).2
def Bh (g : GGraph) (j : GJob) (s : GState) : List Nat → List Int → List Bool → List GMsg → Int ⊕ Tri
 | [], a, b, c => .inr (a, b, c)
 | v :: l, a, b, c => bif ieq (Ag g j s v).2.2.2 0 then Bh g j s l (a ++ [(Ag g j s v).1]) (b ++ [(Ag g j s v).2.2.1]) (c ++ (Ag g j s v).2.1) else .inl (Ag g j s v).2.2.2
def G0 : GState := GState.mk 0 [] [] []
def GI (g : GGraph) (j : GJob) (s : GState) : Int ⊕ Tri → GState × Int
 | .inl e => (G0, e)
 | .inr w => bif ieq (Am j.Prog w.2.2).2 0 then (GState.mk (s.Step + 1) w.1 w.2.1 (Am j.Prog w.2.2).1, 0) else (G0, (Am j.Prog w.2.2).2)
def AH (g : GGraph) (j : GJob) (s : GState) : GState × Int :=
 bif ieq (An g j) 0 then (bif Aq g j s then (bif ieq s.Step 40 then (G0, 6) else GI g j s (Bh g j s (List.range g.N.toNat) [] [] [])) else (G0, 1)) else (G0, An g j)
def CL (s : GState) : Prop := (∀ v ∈ s.Vals, i64 v) ∧ (∀ m ∈ s.In, i64 m.V)
theorem NJ {s : GState} (h : WGState s) : CL s := ⟨fun v hv => Mp (h.2.1.2 v hv), fun m hm => Mp ((h.2.2.2.1).2 m hm).2.1⟩
theorem VT {p val many : Int} {e : GEdge} (hv : i64 val) : i64 (CS p val e many).1 := by
 rw [CS]
 cases ieq p 1
 · cases ieq p 3
   · cases ieq p 5
     · exact hv
     · exact Ii
   · exact HW
 · exact HW
theorem JI {p val many : Int} (hv : i64 val) : ∀ {l : List GEdge} {s r : List GMsg}, (∀ m ∈ s, i64 m.V) → AS p val many l s = some r → ∀ m ∈ r, i64 m.V
 | [], s, r, hs, h => by injection h with h; subst h; exact hs
 | e :: l, s, r, hs, h => by
  rw [AS] at h
  cases hq : (CS p val e many).2
  · rw [hq] at h; cases h
  · rw [hq, cT] at h
    refine JI hv (fun m hm => ?_) h
    rcases List.mem_append.1 hm with hm | hm
    · exact hs m hm
    · rw [List.mem_singleton.1 hm]; exact VT hv
theorem J7 {p w many : Int} {b : Bool} {l : List GEdge} (hw : i64 w) : i64 (Cx b w (AS p w many l [])).1 ∧ ∀ m ∈ (Cx b w (AS p w many l [])).2.1, i64 m.V := by
 have h0 : i64 0 := by unfold i64; omega
 cases hq : AS p w many l []
 · exact ⟨h0, fun m hm => absurd hm (List.not_mem_nil)⟩
 · exact ⟨hw, JI hw (fun m hm => absurd hm (List.not_mem_nil)) hq⟩
end
end Go.Proofs.Ytbaihlhoedbpkaa.Tm

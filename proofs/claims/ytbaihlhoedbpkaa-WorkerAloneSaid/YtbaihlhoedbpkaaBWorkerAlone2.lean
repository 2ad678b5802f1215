/- What the row of WorkerAlone leans on: printed functions and plain laws. Conditions: none. -/
import Derived.Test.YtbaihlhoedbpkaaTy
import Derived.Test.YtbaihlhoedbpkaaTab
import Derived.Test.YtbaihlhoedbpkaaKn
import Derived.Test.YtbaihlhoedbpkaaWf
import Derived.IntWalk
import Derived.KernelRfl
import Derived.OpenShut
import Derived.Test.YtbaihlhoedbpkaaBWorkerAlone1
set_option linter.unusedVariables false
set_option linter.unusedSimpArgs false
namespace Go.Proofs.Ytbaihlhoedbpkaa.Tm
open Go
noncomputable section
theorem F17_ok (K : Nat) (a1 : GGraph) (a2 : GJob) (a3 : GPart) (r : Bool) (hF : F17 K a1 a2 a3 = some r) : Evt E H 17 [.agg (eGGraph a1), .agg (eGJob a2), .agg (eGPart a3)] (F17_res r) := by
 rw [F17] at hF
 bs r4 h5
 cs h6
 ·
  have q19 {l} (z : HA hn17 l) := zl (F19_ok K a1 a2 _ h5) <| zB3x (ine_t h6) <| z
  cs h7
  ·
   ob
   exact fpC hn17 <| q19 <| zA5x h7 <| zt3 <| zr1 <| zt3 <| zr2 <| z0
  have q20 {l} (z : HA hn17 l) := zB5x h7 <| z
  cs h8
  ·
   ob
   exact fpC hn17 <| q19 <| q20 <| zA3x (ige_eq h8) <| zt3 <| zr2 <| z0
  have q21 {l} (z : HA hn17 l) := zB3x (ige_eq h8) <| z
  cs h9
  ·
   ob
   exact fpC hn17 <| q19 <| q20 <| q21 <| zA3x h9 <| zr1 <| z0
  have q22 {l} (z : HA hn17 l) := zB3x h9 <| z
  cs h10
  ·
   ob
   exact fpC hn17 <| q19 <| q20 <| q21 <| q22 <| zT (igt_eq h10) <| z0
  bs r11 h12
  have q23 {l} (z : HA hn17 l) := zF (igt_eq h10) <| zl (F39_ok K a1 a2 a3.P _ h12) <| zi (nl a3.Vals) <| zi (nl r11) <| z
  cs h13
  ·
   have q24 {l} (z : HA hn17 l) := zB3 (ine_t h13) <| zi (nl a3.Rest) <| zB2 (ine_t h13) <| zi (nl r11) <| zB1x (ine_t h13) <| z
   cs h14
   ·
    bs y16 h15
    ss w17 w18
    ·
     subst hx
     ob
     exact fpC hn17 <| q19 <| q20 <| q21 <| q22 <| q23 <| q24 <| zF (ine_t h14) <| zo (F17_l0_0_ok K a3 r11 K 0 _ h15) <| z0
    subst hx
    ob
    exact fpC hn17 <| q19 <| q20 <| q21 <| q22 <| q23 <| q24 <| zF (ine_t h14) <| zo (F17_l0_0_ok K a3 r11 K 0 _ h15) <| z0
   ob
   exact fpC hn17 <| q19 <| q20 <| q21 <| q22 <| q23 <| q24 <| zT (ine_f h14) <| z0
  ob
  exact fpC hn17 <| q19 <| q20 <| q21 <| q22 <| q23 <| zA6x (ine_f h13) <| zr1 <| z0
 ob
 exact fpC hn17 <| zl (F19_ok K a1 a2 _ h5) <| zA3x (ine_f h6) <| zt5 <| zr1 <| zt3 <| zr1 <| zt3 <| zr2 <| z0
def hn20 : Hint := { H 20 with nt := 75, prot := 0, kp := 0 }
def c20_0 : Code := loopOf E 20 0
def F20_res (r1 : Bool) : Res := ⟨[(.one (mB r1))], []⟩
def F20_l0_0 (K : Nat) (a1 : GGraph) (a2 : GState) : Nat → Int → Option ((Unit) ⊕ (Unit))
 | 0, _ => none
 | k + 1, v3 =>
  bif (ilt v3 (nlen (len a2.In))) then
   (bif (inr v3 (len a2.In)) then
   (elAt a2.In v3).bind fun x4 =>
   bif (ilt x4.To 0) then
    (some (.inl ()))
   else
   bif (ile a1.N x4.To) then
    (some (.inl ()))
   else
   bif (ilt 0 v3) then
    (bif (inr (wsub .i64 v3 1) (len a2.In)) then
    (elAt a2.In (wsub .i64 v3 1)).bind fun x5 =>
    bif (ile x4.To x5.To) then
     (some (.inl ()))
    else
    F20_l0_0 K a1 a2 k (wadd .i64 v3 1)
    else none)
   else
   F20_l0_0 K a1 a2 k (wadd .i64 v3 1)
   else none)
  else
  some (.inr ())
def F20_l0_0_S (a1 : GGraph) (a2 : GState) (v3 : Int) : TS := .on (kq 192 3 <| kq 320 5 <| kq 448 2 <| []) <| b0 192 a1 <| b5 320 a2 <| sq 448 [u0, (uI v3)] []
def F20_l0_0_X0 (a1 : GGraph) (a2 : GState) (w3 : Unit) : TS := .on (kq 384 2 <| []) <| sq 384 [u0, (uB false)] []
def F20_l0_0_X1 (a1 : GGraph) (a2 : GState) (w3 : Unit) : TS := .on [] []
theorem F20_l0_0_ok (K : Nat) (a1 : GGraph) (a2 : GState) : ∀ (k : Nat) (v3 : Int) (r : (Unit) ⊕ (Unit)), F20_l0_0 K a1 a2 k v3 = some r → (Sum.elim (fun w => LoopEv E H hn20 0 c20_0 (F20_l0_0_S a1 a2 v3) .ret (F20_l0_0_X0 a1 a2 w)) (fun w => LoopEv E H hn20 0 c20_0 (F20_l0_0_S a1 a2 v3) (.exit 0) (F20_l0_0_X1 a1 a2 w))) r := by
 intro k
 induction k with
 | zero => intro v3 r hF; cases hF
 | succ k ih =>
  intro v3 r hF
  rw [F20_l0_0] at hF
  cs h4
  ·
   cn h5
   bs x6 h7
   have q15 {l} (z : HA hn20 l) := zi (nl a2.In) <| zT h4 <| zT h5 <| zU eGMsg_len h7 0 1 <| z
   cs h8
   ·
    ob
    exact lE <| q15 <| zA4x h8 <| zt4 <| zr2 <| z0
   have q16 {l} (z : HA hn20 l) := zB4x h8 <| z
   cs h9
   ·
    ob
    exact lE <| q15 <| q16 <| zA4x (ige_eq h9) <| zr1 <| z0
   have q17 {l} (z : HA hn20 l) := zB3 (ige_eq h9) <| z
   cs h10
   ·
    cn h11
    bs x12 h13
    have q18 {l} (z : HA hn20 l) := zC4 (igt_eq h10) <| zi (wsub .i64 v3 1) <| zC1 (igt_eq h10) <| zT h11 <| zC2 (igt_eq h10) <| zU eGMsg_len h13 0 1 <| zC2 (igt_eq h10) <| zB1 (ige_eq h9) <| zT (igt_eq h10) <| zF (ige_eq h9) <| z
    cs h14
    ·
     ob
     exact lE <| q15 <| q16 <| q17 <| q18 <| zT (ige_eq h14) <| z0
    exact lN2 (q15 <| q16 <| q17 <| q18 <| zF (ige_eq h14) <| zi (wadd .i64 v3 1) <| z0) (ih _ _ hF)
   exact lN2 (q15 <| q16 <| q17 <| zD6 (igt_eq h10) <| zD3 (igt_eq h10) <| zB1 (ige_eq h9) <| zF (igt_eq h10) <| zF (ige_eq h9) <| zf1 <| zi (wadd .i64 v3 1) <| z0) (ih _ _ hF)
  ob
  exact lE <| zi (nl a2.In) <| zF h4 <| z0
def F20 (K : Nat) (a1 : GGraph) (a2 : GJob) (a3 : GState) : Option (Bool) :=
 (F19 K a1 a2).bind fun r4 =>
 bif (ieq r4 0) then
  (bif (ilt a3.Step 0) then
   (some false)
  else
  bif (ilt 40 a3.Step) then
   (some false)
  else
  bif (ieq (nlen (len a3.Vals)) a1.N) then
   (bif (ieq (nlen (len a3.Rest)) a1.N) then
    ((F20_l0_0 K a1 a3 K 0).bind fun y5 =>
    Sum.elim (fun w6 =>
     some false)
     (fun w7 =>
     some true) y5)
   else
   some false)
  else
  some false)
 else
 some false
theorem F20_ok (K : Nat) (a1 : GGraph) (a2 : GJob) (a3 : GState) (r : Bool) (hF : F20 K a1 a2 a3 = some r) : Evt E H 20 [.agg (eGGraph a1), .agg (eGJob a2), .agg (eGState a3)] (F20_res r) := by
 rw [F20] at hF
 bs r4 h5
 cs h6
 ·
  have q15 {l} (z : HA hn20 l) := zl (F19_ok K a1 a2 _ h5) <| zB3x (ine_t h6) <| z
  cs h7
  ·
   ob
   exact fpC hn20 <| q15 <| zA3x h7 <| zt6 <| zr1 <| zt6 <| zr2 <| z0
  have q16 {l} (z : HA hn20 l) := zB3x h7 <| z
  cs h8
  ·
   ob
   exact fpC hn20 <| q15 <| q16 <| zA6x (igt_eq h8) <| zt6 <| zr2 <| z0
  have q17 {l} (z : HA hn20 l) := zB3 (igt_eq h8) <| zi (nl a3.Vals) <| zB3x (igt_eq h8) <| z
  cs h9
  ·
   have q18 {l} (z : HA hn20 l) := zB3 (ine_t h9) <| zi (nl a3.Rest) <| zB3x (ine_t h9) <| z
   cs h10
   ·
    bs y12 h11
    ss w13 w14
    ·
     subst hx
     ob
     exact fpC hn20 <| q15 <| q16 <| q17 <| q18 <| zF (ine_t h10) <| zo (F20_l0_0_ok K a1 a3 K 0 _ h11) <| z0
    subst hx
    ob
    exact fpC hn20 <| q15 <| q16 <| q17 <| q18 <| zF (ine_t h10) <| zo (F20_l0_0_ok K a1 a3 K 0 _ h11) <| z0
   ob
   exact fpC hn20 <| q15 <| q16 <| q17 <| q18 <| zT (ine_f h10) <| z0
  ob
  exact fpC hn20 <| q15 <| q16 <| q17 <| zA6x (ine_f h9) <| zr1 <| z0
 ob
 exact fpC hn20 <| zl (F19_ok K a1 a2 _ h5) <| zA3x (ine_f h6) <| zt3 <| zr1 <| zt6 <| zr1 <| zt6 <| zr2 <| z0
def hn48 : Hint := { H 48 with nt := 82, prot := 0, kp := 0 }
def c48_0 : Code := loopOf E 48 0
def c48_1 : Code := loopOf E 48 1
def F48_res (r1 : GPart) : Res := ⟨[(.agg [(mI r1.P), (mI r1.Step), (.own 2 (sE e6 r1.Vals)), (.own 4 (sE eBool r1.Rest)), (.own 78 (sE eGMsg r1.In))])], []⟩
def F48_l1_1 (K : Nat) (a1 : GState) (a2 : Int) (r3 : List Int) (v4 : List Int) (v5 : List Bool) (v6 : Int) (x7 : Int) (x8 : Bool) : Nat → List GMsg → Int → Option (List GMsg)
 | 0, _, _ => none
 | k + 1, v9, v10 =>
  bif (ilt v10 (nlen (len a1.In))) then
   (bif (inr v10 (len a1.In)) then
   (elAt a1.In v10).bind fun x11 =>
   bif (inr v6 (len r3)) then
   (elAt r3 v6).bind fun x12 =>
   bif (ieq x11.To x12) then
    (bif (apok (len v9) 1 16) then
    F48_l1_1 K a1 a2 r3 v4 v5 v6 x7 x8 k (appL v9 [x11]) (wadd .i64 v10 1)
    else none)
   else
   F48_l1_1 K a1 a2 r3 v4 v5 v6 x7 x8 k v9 (wadd .i64 v10 1)
   else none
   else none)
  else
  some v9
def F48_l1_1_S (a1 : GState) (a2 : Int) (r3 : List Int) (v4 : List Int) (v5 : List Bool) (v6 : Int) (x7 : Int) (x8 : Bool) (v9 : List GMsg) (v10 : Int) : TS := .on (kq 384 5 <| kq 512 6 <| kq 576 6 <| kq 640 2 <| kq 704 2 <| kq 768 2 <| []) <| b5 384 a1 <| b4 512 <| sq 576 [(uX 45 5), (uI a2), (uI a1.Step), (uO 2 e6 (appL v4 [x7])), (uO 4 eBool (appL v5 [x8])), (uO 78 eGMsg v9)] <| sq 640 [u0, (uO 3 e6 r3)] <| sq 704 [u0, (uI v6)] <| sq 768 [u0, (uI v10)] []
def F48_l1_1_X0 (a1 : GState) (a2 : Int) (r3 : List Int) (v4 : List Int) (v5 : List Bool) (v6 : Int) (x7 : Int) (x8 : Bool) (w9 : List GMsg) : TS := .on (kq 384 5 <| kq 512 6 <| kq 576 6 <| kq 640 2 <| kq 704 2 <| []) <| b5 384 a1 <| b4 512 <| sq 576 [(uX 45 5), (uI a2), (uI a1.Step), (uO 2 e6 (appL v4 [x7])), (uO 4 eBool (appL v5 [x8])), (uO 78 eGMsg w9)] <| sq 640 [u0, (uO 3 e6 r3)] <| sq 704 [u0, (uI v6)] []
theorem F48_l1_1_ok (K : Nat) (a1 : GState) (a2 : Int) (r3 : List Int) (v4 : List Int) (v5 : List Bool) (v6 : Int) (x7 : Int) (x8 : Bool) : ∀ (k : Nat) (v9 : List GMsg) (v10 : Int) (r : List GMsg), F48_l1_1 K a1 a2 r3 v4 v5 v6 x7 x8 k v9 v10 = some r → LoopEv E H hn48 2 c48_1 (F48_l1_1_S a1 a2 r3 v4 v5 v6 x7 x8 v9 v10) (.exit 2) (F48_l1_1_X0 a1 a2 r3 v4 v5 v6 x7 x8 r) := by
 intro k
 induction k with
 | zero => intro v9 v10 r hF; cases hF
 | succ k ih =>
  intro v9 v10 r hF
  rw [F48_l1_1] at hF
  cs h11
  ·
   cn h12
   bs x13 h14
   cn h15
   bs x16 h17
   have q20 {l} (z : HA hn48 l) := zi (nl a1.In) <| zT h11 <| zT h12 <| zU eGMsg_len h14 0 1 <| zT h15 <| zX (.sub (flat e6 r3) (nidx v6 1) 1 [(i6 x16)]) ⟨rfl, sub_flat0 (eInt_len _) h17 1 (by decide)⟩ <| z
   cs h18
   ·
    cn h19
    exact lN1 (q20 <| zT h18 <| zT h12 <| zS eGMsg_len h14 2 <| zX (tt (leqm [(i6 x13.To), (i6 x13.V)] 1 2)) rfl <| zT h19 <| zV (app_ok (enc := eGMsg) (v9 : List GMsg) [x13]) <| zi (wadd .i64 v10 1) <| z0) (ih _ _ _ hF)
   exact lN1 (q20 <| zF h18 <| zi (wadd .i64 v10 1) <| z0) (ih _ _ _ hF)
  ob
  exact lE <| zi (nl a1.In) <| zF h11 <| z0
def F48_l0_0 (K : Nat) (a1 : GState) (a2 : Int) (r3 : List Int) : Nat → List Int → List Bool → List GMsg → Int → Option (List Int × List Bool × List GMsg)
 | 0, _, _, _, _ => none
 | k + 1, v4, v5, v6, v7 =>
  bif (ilt v7 (nlen (len r3))) then
   (bif (inr v7 (len r3)) then
   (elAt r3 v7).bind fun x8 =>
   bif (inr x8 (len a1.Vals)) then
   (elAt a1.Vals x8).bind fun x9 =>
   bif (apok (len v4) 1 8) then
   bif (inr x8 (len a1.Rest)) then
   (elAt a1.Rest x8).bind fun x10 =>
   bif (apok (len v5) 1 1) then
   (F48_l1_1 K a1 a2 r3 v4 v5 v7 x9 x10 K v6 0).bind fun w11 =>
   F48_l0_0 K a1 a2 r3 k (appL v4 [x9]) (appL v5 [x10]) w11 (wadd .i64 v7 1)
   else none
   else none
   else none
   else none
   else none)
  else
  some (v4, (v5, v6))
def F48_l0_0_S (a1 : GState) (a2 : Int) (r3 : List Int) (v4 : List Int) (v5 : List Bool) (v6 : List GMsg) (v7 : Int) : TS := .on (kq 384 5 <| kq 512 6 <| kq 576 6 <| kq 640 2 <| kq 704 2 <| []) <| b5 384 a1 <| b4 512 <| sq 576 [(uX 45 5), (uI a2), (uI a1.Step), (uO 2 e6 v4), (uO 4 eBool v5), (uO 78 eGMsg v6)] <| sq 640 [u0, (uO 3 e6 r3)] <| sq 704 [u0, (uI v7)] []
def F48_l0_0_X0 (a1 : GState) (a2 : Int) (r3 : List Int) (w4 : List Int × List Bool × List GMsg) : TS := .on (kq 512 6 <| kq 576 6 <| []) <| b4 512 <| sq 576 [(uX 45 5), (uI a2), (uI a1.Step), (uO 2 e6 w4.1), (uO 4 eBool w4.2.1), (uO 78 eGMsg w4.2.2)] []
theorem F48_l0_0_ok (K : Nat) (a1 : GState) (a2 : Int) (r3 : List Int) : ∀ (k : Nat) (v4 : List Int) (v5 : List Bool) (v6 : List GMsg) (v7 : Int) (r : List Int × List Bool × List GMsg), F48_l0_0 K a1 a2 r3 k v4 v5 v6 v7 = some r → LoopEv E H hn48 0 c48_0 (F48_l0_0_S a1 a2 r3 v4 v5 v6 v7) (.exit 0) (F48_l0_0_X0 a1 a2 r3 r) := by
 intro k
 induction k with
 | zero => intro v4 v5 v6 v7 r hF; cases hF
 | succ k ih =>
  intro v4 v5 v6 v7 r hF
  rw [F48_l0_0] at hF
  cs h8
  ·
   cn h9
   bs x10 h11
   cn h12
   bs x13 h14
   cn h15
   cn h16
   bs x17 h18
   cn h19
   bs w21 h20
   exact lN1 (zi (nl r3) <| zT h8 <| zT h9 <| zX (.sub (flat e6 r3) (nidx v7 1) 1 [(i6 x10)]) ⟨rfl, sub_flat0 (eInt_len _) h11 1 (by decide)⟩ <| zT h12 <| zX (.sub (flat e6 a1.Vals) (nidx x10 1) 1 [(i6 x13)]) ⟨rfl, sub_flat0 (eInt_len _) h14 1 (by decide)⟩ <| zX (tt (leqm [(i6 x13)] 1 1)) rfl <| zT h15 <| zV (app_ok (enc := e6) (v4 : List Int) [x13]) <| zT h9 <| zX (.sub (flat e6 r3) (nidx v7 1) 1 [(i6 x10)]) ⟨rfl, sub_flat0 (eInt_len _) h11 1 (by decide)⟩ <| zT h16 <| zS eBool_len h18 1 <| zX (tt (leqm [(.lit (.bool x17))] 1 1)) rfl <| zT h19 <| zV (app_ok (enc := eBool) (v5 : List Bool) [x17]) <| zo (F48_l1_1_ok K a1 a2 r3 v4 v5 v7 x13 x17 K v6 0 _ h20) <| zi (wadd .i64 v7 1) <| z0) (ih _ _ _ _ _ hF)
  ob
  exact lE <| zi (nl r3) <| zF h8 <| z0
def F48 (K : Nat) (a1 : GGraph) (a2 : GJob) (a3 : GState) (a4 : Int) : Option (GPart) :=
 (F39 K a1 a2 a4).bind fun r5 =>
 (F48_l0_0 K a3 a4 r5 K [] [] [] 0).bind fun w6 =>
 some (GPart.mk a4 a3.Step w6.1 w6.2.1 w6.2.2)
theorem F48_ok (K : Nat) (a1 : GGraph) (a2 : GJob) (a3 : GState) (a4 : Int) (r : GPart) (hF : F48 K a1 a2 a3 a4 = some r) : Evt E H 48 [.agg (eGGraph a1), .agg (eGJob a2), .agg (eGState a3), .one (i6 a4)] (F48_res r) := by
 rw [F48] at hF
 bs r5 h6
 bs w8 h7
 ob
 exact fpC hn48 <| zl (F39_ok K a1 a2 a4 _ h6) <| zo (F48_l0_0_ok K a3 a4 r5 K [] [] [] 0 _ h7) <| z0
def hn21 : Hint := { H 21 with nt := 37, prot := 0, kp := 0 }
def c21_0 : Code := loopOf E 21 0
def F21_res (r1 : List GPart × Int) : Res := ⟨[(.one (.own 45 (sE eGPart r1.1))), (.one (mI r1.2))], []⟩
def F21_l0_0 (K : Nat) (a1 : GGraph) (a2 : GJob) (a3 : GState) : Nat → List GPart → Int → Option (List GPart)
 | 0, _, _ => none
 | k + 1, v4, v5 =>
  bif (ilt v5 a2.Parts) then
   ((F48 K a1 a2 a3 v5).bind fun r6 =>
   bif (apok (len v4) 1 88) then
   F21_l0_0 K a1 a2 a3 k (appL v4 [r6]) (wadd .i64 v5 1)
   else none)
  else
  some v4
def F21_l0_0_S (a1 : GGraph) (a2 : GJob) (a3 : GState) (v4 : List GPart) (v5 : Int) : TS := .on (kq 192 3 <| kq 256 5 <| kq 320 5 <| kq 576 2 <| kq 640 2 <| []) <| b0 192 a1 <| b1 256 a2 <| b5 320 a3 <| sq 576 [u0, (uO 45 eGPart v4)] <| sq 640 [u0, (uI v5)] []
def F21_l0_0_X0 (a1 : GGraph) (a2 : GJob) (a3 : GState) (w4 : List GPart) : TS := .on (kq 576 2 <| []) <| sq 576 [u0, (uO 45 eGPart w4)] []
theorem F21_l0_0_ok (K : Nat) (a1 : GGraph) (a2 : GJob) (a3 : GState) : ∀ (k : Nat) (v4 : List GPart) (v5 : Int) (r : List GPart), F21_l0_0 K a1 a2 a3 k v4 v5 = some r → LoopEv E H hn21 0 c21_0 (F21_l0_0_S a1 a2 a3 v4 v5) (.exit 0) (F21_l0_0_X0 a1 a2 a3 r) := by
 intro k
 induction k with
 | zero => intro v4 v5 r hF; cases hF
 | succ k ih =>
  intro v4 v5 r hF
  rw [F21_l0_0] at hF
  cs h6
  ·
   bs r7 h8
   cn h9
   exact lN1 (zT h6 <| zl (F48_ok K a1 a2 a3 v5 _ h8) <| zX (tt (leqm [(i6 r7.P), (i6 r7.Step), (sE e6 r7.Vals), (sE eBool r7.Rest), (sE eGMsg r7.In)] 1 5)) rfl <| zT h9 <| zV (app_ok (enc := eGPart) (v4 : List GPart) [r7]) <| zi (wadd .i64 v5 1) <| z0) (ih _ _ _ hF)
  ob
  exact lE <| zF h6 <| z0
def F21 (K : Nat) (a1 : GGraph) (a2 : GJob) (a3 : GState) : Option (List GPart × Int) :=
 (F19 K a1 a2).bind fun r4 =>
 bif (ieq r4 0) then
  ((F20 K a1 a2 a3).bind fun r5 =>
  bif r5 then
   ((F21_l0_0 K a1 a2 a3 K [] 0).bind fun w6 =>
   some (w6, 0))
  else
  some ([], 1))
 else
 some ([], r4)
theorem F21_ok (K : Nat) (a1 : GGraph) (a2 : GJob) (a3 : GState) (r : List GPart × Int) (hF : F21 K a1 a2 a3 = some r) : Evt E H 21 [.agg (eGGraph a1), .agg (eGJob a2), .agg (eGState a3)] (F21_res r) := by
 rw [F21] at hF
 bs r4 h5
 cs h6
 ·
  bs r7 h8
  have q12 {l} (z : HA hn21 l) := zl (F19_ok K a1 a2 _ h5) <| zF (ine_t h6) <| zl (F20_ok K a1 a2 a3 _ h8) <| z
  cs h9
  ·
   bs w11 h10
   ob
   exact fpC hn21 <| q12 <| zF (bnot_t h9) <| zo (F21_l0_0_ok K a1 a2 a3 K [] 0 _ h10) <| z0
  ob
  exact fpC hn21 <| q12 <| zT (bnot_f h9) <| z0
 ob
 exact fpC hn21 <| zl (F19_ok K a1 a2 _ h5) <| zT (ine_f h6) <| z0
def hn49 : Hint := { H 49 with nt := 25, prot := 0, kp := 0 }
def c49_0 : Code := loopOf E 49 0
def F49_res (r1 : Int × Bool) : Res := ⟨[(.one (mI r1.1)), (.one (mB r1.2))], []⟩
def F49_l0_0 (K : Nat) (a1 : List GMsg) (a2 : Int) : Nat → Int → Option ((Int) ⊕ (Unit))
 | 0, _ => none
 | k + 1, v3 =>
  bif (ilt v3 (nlen (len a1))) then
   (bif (inr v3 (len a1)) then
   (elAt a1 v3).bind fun x4 =>
   bif (ieq x4.To a2) then
    (some (.inl x4.V))
   else
   F49_l0_0 K a1 a2 k (wadd .i64 v3 1)
   else none)
  else
  some (.inr ())
def F49_l0_0_S (a1 : List GMsg) (a2 : Int) (v3 : Int) : TS := .on (kq 0 2 <| kq 64 2 <| kq 384 2 <| []) <| sq 0 [u0, (uS eGMsg a1)] <| sq 64 [u0, (uI a2)] <| sq 384 [u0, (uI v3)] []
def F49_l0_0_X0 (a1 : List GMsg) (a2 : Int) (w3 : Int) : TS := .on (kq 256 2 <| kq 320 2 <| []) <| sq 256 [u0, (uI w3)] <| sq 320 [u0, (uB true)] []
def F49_l0_0_X1 (a1 : List GMsg) (a2 : Int) (w3 : Unit) : TS := .on [] []
theorem F49_l0_0_ok (K : Nat) (a1 : List GMsg) (a2 : Int) : ∀ (k : Nat) (v3 : Int) (r : (Int) ⊕ (Unit)), F49_l0_0 K a1 a2 k v3 = some r → (Sum.elim (fun w => LoopEv E H hn49 0 c49_0 (F49_l0_0_S a1 a2 v3) .ret (F49_l0_0_X0 a1 a2 w)) (fun w => LoopEv E H hn49 0 c49_0 (F49_l0_0_S a1 a2 v3) (.exit 0) (F49_l0_0_X1 a1 a2 w))) r := by
 intro k
 induction k with
 | zero => intro v3 r hF; cases hF
 | succ k ih =>
  intro v3 r hF
  rw [F49_l0_0] at hF
  cs h4
  ·
   cn h5
   bs x6 h7
   have q9 {l} (z : HA hn49 l) := zi (nl a1) <| zT h4 <| zT h5 <| zU eGMsg_len h7 0 1 <| z
   cs h8
   ·
    ob
    exact lE <| q9 <| zT h8 <| zT h5 <| zU eGMsg_len h7 1 1 <| z0
   exact lN2 (q9 <| zF h8 <| zi (wadd .i64 v3 1) <| z0) (ih _ _ hF)
  ob
  exact lE <| zi (nl a1) <| zF h4 <| z0
def F49 (K : Nat) (a1 : List GMsg) (a2 : Int) : Option (Int × Bool) :=
 (F49_l0_0 K a1 a2 K 0).bind fun y3 =>
 Sum.elim (fun w4 =>
  some (w4, true))
  (fun w5 =>
  some (0, false)) y3
theorem F49_ok (K : Nat) (a1 : List GMsg) (a2 : Int) (r : Int × Bool) (hF : F49 K a1 a2 = some r) : Evt E H 49 [.one (sE eGMsg a1), .one (i6 a2)] (F49_res r) := by
 rw [F49] at hF
 bs y4 h3
 ss w5 w6
 ·
  subst hx
  ob
  exact fpC hn49 <| zo (F49_l0_0_ok K a1 a2 K 0 _ h3) <| z0
 subst hx
 ob
 exact fpC hn49 <| zo (F49_l0_0_ok K a1 a2 K 0 _ h3) <| z0
def hn109 : Hint := { H 109 with nt := 37, prot := 0, kp := 0 }
def F109_res (r1 : Int × Bool) : Res := ⟨[(.one (mI r1.1)), (.one (mB r1.2))], []⟩
def F109 (K : Nat) (a1 : Int) (a2 : Int) : Option (Int × Bool) :=
 bif (ieq a1 0) then
  (some (0, true))
 else
 bif (ieq a2 0) then
  (some (0, true))
 else
 bif (ieq a1 (-1)) then
  (bif (ieq a1 (-9223372036854775808)) then
   (some (0, false))
  else
  bif (ieq a2 (-9223372036854775808)) then
   (some (0, false))
  else
  some ((wmul .i64 a1 a2), true))
 else
 bif (ieq a2 (-1)) then
  (bif (ieq a1 (-9223372036854775808)) then
   (some (0, false))
  else
  bif (ieq a2 (-9223372036854775808)) then
   (some (0, false))
  else
  some ((wmul .i64 a1 a2), true))
 else
 bif (izero a2) then none else
 bif (ieq (wquo .i64 (wmul .i64 a1 a2) a2) a1) then
  (some ((wmul .i64 a1 a2), true))
 else
 some (0, false)
theorem F109_ok (K : Nat) (a1 : Int) (a2 : Int) (r : Int × Bool) (hF : F109 K a1 a2 = some r) : Evt E H 109 [.one (i6 a1), .one (i6 a2)] (F109_res r) := by
 rw [F109] at hF
 cs h3
 ·
  ob
  exact fpC hn109 <| zA2x h3 <| zr1 <| z0
 have q13 {l} (z : HA hn109 l) := zB2x h3 <| z
 cs h4
 ·
  ob
  exact fpC hn109 <| q13 <| zT h4 <| z0
 cs h5
 ·
  have q14 {l} (z : HA hn109 l) := zF h4 <| zA2x h5 <| zr1 <| z
  cs h6
  ·
   ob
   exact fpC hn109 <| q13 <| q14 <| zA2x h6 <| zr1 <| z0
  have q15 {l} (z : HA hn109 l) := zB2x h6 <| z
  cs h7
  ·
   ob
   exact fpC hn109 <| q13 <| q14 <| q15 <| zT h7 <| z0
  ob
  exact fpC hn109 <| q13 <| q14 <| q15 <| zF h7 <| zi (wmul .i64 a1 a2) <| z0
 have q16 {l} (z : HA hn109 l) := zF h4 <| zB2x h5 <| z
 cs h8
 ·
  cs h9
  ·
   ob
   exact fpC hn109 <| q13 <| q16 <| zT h8 <| zA2x h9 <| zr1 <| z0
  have q17 {l} (z : HA hn109 l) := zT h8 <| zB2x h9 <| z
  cs h10
  ·
   ob
   exact fpC hn109 <| q13 <| q16 <| q17 <| zT h10 <| z0
  ob
  exact fpC hn109 <| q13 <| q16 <| q17 <| zF h10 <| zi (wmul .i64 a1 a2) <| z0
 refine cond_some hF (fun _ hF => nomatch hF) (fun h11 hF => ?_)
 have q18 {l} (z : HA hn109 l) := zF h8 <| zi (wmul .i64 a1 a2) <| zF h11 <| zi (wquo .i64 (wmul .i64 a1 a2) a2) <| z
 cs h12
 ·
  ob
  exact fpC hn109 <| q13 <| q16 <| q18 <| zF (ine_t h12) <| z0
 ob
 exact fpC hn109 <| q13 <| q16 <| q18 <| zT (ine_f h12) <| z0
def hn101 : Hint := { H 101 with nt := 23, prot := 0, kp := 0 }
def F101_res (r1 : Int × Bool) : Res := ⟨[(.one (mI r1.1)), (.one (mB r1.2))], []⟩
def F101 (K : Nat) (a1 : Int) (a2 : Int) (a3 : Int) : Option (Int × Bool) :=
 bif (ilt a3 1) then
  (some (0, false))
 else
 (F109 K a1 a2).bind fun r4 =>
 bif r4.2 then
  (bif (izero a3) then none else
  some ((wquo .i64 r4.1 a3), true))
 else
 some (0, false)
theorem F101_ok (K : Nat) (a1 : Int) (a2 : Int) (a3 : Int) (r : Int × Bool) (hF : F101 K a1 a2 a3 = some r) : Evt E H 101 [.one (i6 a1), .one (i6 a2), .one (i6 a3)] (F101_res r) := by
 rw [F101] at hF
 cs h4
 ·
  ob
  exact fpC hn101 <| zT h4 <| z0
 bs r5 h6
 have q9 {l} (z : HA hn101 l) := zF h4 <| zl (F109_ok K a1 a2 _ h6) <| z
 cs h7
 ·
  refine cond_some hF (fun _ hF => nomatch hF) (fun h8 hF => ?_)
  ob
  exact fpC hn101 <| q9 <| zF (bnot_t h7) <| zF h8 <| zi (wquo .i64 r5.1 a3) <| z0
 ob
 exact fpC hn101 <| q9 <| zT (bnot_f h7) <| z0
def hn102 : Hint := { H 102 with nt := 27, prot := 0, kp := 0 }
def F102_res (r1 : Int × Bool) : Res := ⟨[(.one (mI r1.1)), (.one (mB r1.2))], []⟩
def F102 (K : Nat) (a1 : Int) (a2 : Int) : Option (Int × Bool) :=
 bif (ilt 0 a2) then
  (bif (ilt (wsub .i64 9223372036854775807 a2) a1) then
   (some (0, false))
  else
  bif (ilt a2 0) then
   (bif (ilt a1 (wsub .i64 (-9223372036854775808) a2)) then
    (some (0, false))
   else
   some ((wadd .i64 a1 a2), true))
  else
  some ((wadd .i64 a1 a2), true))
 else
 bif (ilt a2 0) then
  (bif (ilt a1 (wsub .i64 (-9223372036854775808) a2)) then
   (some (0, false))
  else
  some ((wadd .i64 a1 a2), true))
 else
 some ((wadd .i64 a1 a2), true)
theorem F102_ok (K : Nat) (a1 : Int) (a2 : Int) (r : Int × Bool) (hF : F102 K a1 a2 = some r) : Evt E H 102 [.one (i6 a1), .one (i6 a2)] (F102_res r) := by
 rw [F102] at hF
 cs h3
 ·
  have q9 {l} (z : HA hn102 l) := zC3 (igt_eq h3) <| zi (wsub .i64 9223372036854775807 a2) <| zC1x (igt_eq h3) <| z
  cs h4
  ·
   ob
   exact fpC hn102 <| q9 <| zA4x (igt_eq h4) <| zr1 <| z0
  have q10 {l} (z : HA hn102 l) := zB3 (igt_eq h4) <| z
  cs h5
  ·
   have q11 {l} (z : HA hn102 l) := zC3 h5 <| zi (wsub .i64 (-9223372036854775808) a2) <| zC1 h5 <| zB1 (igt_eq h4) <| zT h5 <| zF (igt_eq h4) <| z
   cs h6
   ·
    ob
    exact fpC hn102 <| q9 <| q10 <| q11 <| zT h6 <| z0
   ob
   exact fpC hn102 <| q9 <| q10 <| q11 <| zF h6 <| zi (wadd .i64 a1 a2) <| z0
  ob
  exact fpC hn102 <| q9 <| q10 <| zD4 h5 <| zB1 (igt_eq h4) <| zF h5 <| zF (igt_eq h4) <| zf1 <| zi (wadd .i64 a1 a2) <| z0
 have q12 {l} (z : HA hn102 l) := zD4x (igt_eq h3) <| zX (bg false) (bB rfl) <| zX (bg false) (bB rfl) <| zX (bg false) (bB rfl) <| z
 cs h7
 ·
  have q13 {l} (z : HA hn102 l) := zC3 h7 <| zi (wsub .i64 (-9223372036854775808) a2) <| zC1 h7 <| zX (bg false) (bB rfl) <| zT h7 <| zf1 <| z
  cs h8
  ·
   ob
   exact fpC hn102 <| q12 <| q13 <| zT h8 <| z0
  ob
  exact fpC hn102 <| q12 <| q13 <| zF h8 <| zi (wadd .i64 a1 a2) <| z0
 ob
 exact fpC hn102 <| q12 <| zD4 h7 <| zX (bg false) (bB rfl) <| zF h7 <| zf2 <| zi (wadd .i64 a1 a2) <| z0
def hn73 : Hint := { H 73 with nt := 17, prot := 0, kp := 0 }
def F73_res (r1 : Int × Bool) : Res := ⟨[(.one (mI r1.1)), (.one (mB r1.2))], []⟩
def F73 (K : Nat) (a1 : Int) : Option (Int × Bool) :=
 (F101 K a1 85 100).bind fun r2 =>
 bif r2.2 then
  ((F102 K 150000 r2.1).bind fun r3 =>
  some (r3.1, r3.2))
 else
 some (0, false)
theorem F73_ok (K : Nat) (a1 : Int) (r : Int × Bool) (hF : F73 K a1 = some r) : Evt E H 73 [.one (i6 a1)] (F73_res r) := by
 rw [F73] at hF
 bs r2 h3
 cs h4
 ·
  bs r5 h6
  ob
  exact fpC hn73 <| zl (F101_ok K a1 85 100 _ h3) <| zF (bnot_t h4) <| zl (F102_ok K 150000 r2.1 _ h6) <| z0
 ob
 exact fpC hn73 <| zl (F101_ok K a1 85 100 _ h3) <| zT (bnot_f h4) <| z0
def hn75 : Hint := { H 75 with nt := 35, prot := 0, kp := 0 }
def c75_0 : Code := loopOf E 75 0
def F75_res (r1 : List GEdge) : Res := ⟨[(.one (.own 132 (sE eGEdge r1)))], []⟩
def F75_l0_0 (K : Nat) (a1 : GGraph) (a2 : Int) : Nat → List GEdge → Int → Option (List GEdge)
 | 0, _, _ => none
 | k + 1, v3, v4 =>
  bif (ilt v4 (nlen (len a1.Edges))) then
   (bif (inr v4 (len a1.Edges)) then
   (elAt a1.Edges v4).bind fun x5 =>
   bif (ieq x5.From a2) then
    (bif (apok (len v3) 1 24) then
    F75_l0_0 K a1 a2 k (appL v3 [x5]) (wadd .i64 v4 1)
    else none)
   else
   F75_l0_0 K a1 a2 k v3 (wadd .i64 v4 1)
   else none)
  else
  some v3
def F75_l0_0_S (a1 : GGraph) (a2 : Int) (v3 : List GEdge) (v4 : Int) : TS := .on (kq 64 2 <| kq 128 3 <| kq 320 2 <| kq 384 2 <| []) <| sq 64 [u0, (uI a2)] <| b0 128 a1 <| sq 320 [u0, (uO 132 eGEdge v3)] <| sq 384 [u0, (uI v4)] []
def F75_l0_0_X0 (a1 : GGraph) (a2 : Int) (w3 : List GEdge) : TS := .on (kq 320 2 <| []) <| sq 320 [u0, (uO 132 eGEdge w3)] []
theorem F75_l0_0_ok (K : Nat) (a1 : GGraph) (a2 : Int) : ∀ (k : Nat) (v3 : List GEdge) (v4 : Int) (r : List GEdge), F75_l0_0 K a1 a2 k v3 v4 = some r → LoopEv E H hn75 0 c75_0 (F75_l0_0_S a1 a2 v3 v4) (.exit 0) (F75_l0_0_X0 a1 a2 r) := by
 intro k
 induction k with
 | zero => intro v3 v4 r hF; cases hF
 | succ k ih =>
  intro v3 v4 r hF
  rw [F75_l0_0] at hF
  cs h5
  ·
   cn h6
   bs x7 h8
   have q11 {l} (z : HA hn75 l) := zi (nl a1.Edges) <| zT h5 <| zT h6 <| zU eGEdge_len h8 0 1 <| z
   cs h9
   ·
    cn h10
    exact lN1 (q11 <| zT h9 <| zT h6 <| zS eGEdge_len h8 3 <| zX (tt (leqm [(i6 x7.From), (i6 x7.To), (i6 x7.W)] 1 3)) rfl <| zT h10 <| zV (app_ok (enc := eGEdge) (v3 : List GEdge) [x7]) <| zi (wadd .i64 v4 1) <| z0) (ih _ _ _ hF)
   exact lN1 (q11 <| zF h9 <| zi (wadd .i64 v4 1) <| z0) (ih _ _ _ hF)
  ob
  exact lE <| zi (nl a1.Edges) <| zF h5 <| z0
def F75 (K : Nat) (a1 : GGraph) (a2 : Int) : Option (List GEdge) :=
 (F47 K a1).bind fun r3 =>
 bif (ieq r3 0) then
  ((F75_l0_0 K a1 a2 K [] 0).bind fun w4 =>
  some w4)
 else
 some []
theorem F75_ok (K : Nat) (a1 : GGraph) (a2 : Int) (r : List GEdge) (hF : F75 K a1 a2 = some r) : Evt E H 75 [.agg (eGGraph a1), .one (i6 a2)] (F75_res r) := by
 rw [F75] at hF
 bs r3 h4
 cs h5
 ·
  bs w7 h6
  ob
  exact fpC hn75 <| zl (F47_ok K a1 _ h4) <| zF (ine_t h5) <| zo (F75_l0_0_ok K a1 a2 K [] 0 _ h6) <| z0
 ob
 exact fpC hn75 <| zl (F47_ok K a1 _ h4) <| zT (ine_f h5) <| z0
def hn76 : Hint := { H 76 with nt := 33, prot := 0, kp := 0 }
def F76_res (r1 : Int × Bool) : Res := ⟨[(.one (mI r1.1)), (.one (mB r1.2))], []⟩
def F76 (K : Nat) (a1 : Int) (a2 : Int) (a3 : GEdge) (a4 : Int) : Option (Int × Bool) :=
 bif (ieq a1 1) then
  ((F102 K a2 a3.W).bind fun r5 =>
  some (r5.1, r5.2))
 else
 bif (ieq a1 3) then
  ((F102 K a2 1).bind fun r6 =>
  some (r6.1, r6.2))
 else
 bif (ieq a1 5) then
  ((F101 K a2 1 a4).bind fun r7 =>
  some (r7.1, r7.2))
 else
 some (a2, true)
theorem F76_ok (K : Nat) (a1 : Int) (a2 : Int) (a3 : GEdge) (a4 : Int) (r : Int × Bool) (hF : F76 K a1 a2 a3 a4 = some r) : Evt E H 76 [.one (i6 a1), .one (i6 a2), .agg (eGEdge a3), .one (i6 a4)] (F76_res r) := by
 rw [F76] at hF
 cs h5
 ·
  bs r6 h7
  ob
  exact fpC hn76 <| zT h5 <| zl (F102_ok K a2 a3.W _ h7) <| z0
 cs h8
 ·
  bs r9 h10
  ob
  exact fpC hn76 <| zF h5 <| zT h8 <| zl (F102_ok K a2 1 _ h10) <| z0
 cs h11
 ·
  bs r12 h13
  ob
  exact fpC hn76 <| zF h5 <| zF h8 <| zT h11 <| zl (F101_ok K a2 1 a4 _ h13) <| z0
 ob
 exact fpC hn76 <| zF h5 <| zF h8 <| zF h11 <| z0
def hn74 : Hint := { H 74 with nt := 39, prot := 0, kp := 0 }
def F74_res (r1 : Int × Int) : Res := ⟨[(.one (mI r1.1)), (.one (mI r1.2))], []⟩
def F74 (K : Nat) (a1 : Int) (a2 : Int) (a3 : Int) : Option (Int × Int) :=
 bif (ilt a1 1) then
  (some (0, 1))
 else
 bif (ilt 5 a1) then
  (some (0, 1))
 else
 bif (ieq a1 5) then
  ((F102 K a2 a3).bind fun r4 =>
  bif r4.2 then
   (some (r4.1, 0))
  else
  some (0, 8))
 else
 bif (ieq a1 4) then
  (bif (ilt a3 a2) then
   (some (a2, 0))
  else
  some (a3, 0))
 else
 bif (ilt a2 a3) then
  (some (a2, 0))
 else
 some (a3, 0)
theorem F74_ok (K : Nat) (a1 : Int) (a2 : Int) (a3 : Int) (r : Int × Int) (hF : F74 K a1 a2 a3 = some r) : Evt E H 74 [.one (i6 a1), .one (i6 a2), .one (i6 a3)] (F74_res r) := by
 rw [F74] at hF
 cs h4
 ·
  ob
  exact fpC hn74 <| zA2x h4 <| zr1 <| z0
 have q13 {l} (z : HA hn74 l) := zB2x h4 <| z
 cs h5
 ·
  ob
  exact fpC hn74 <| q13 <| zT (igt_eq h5) <| z0
 cs h6
 ·
  bs r7 h8
  have q14 {l} (z : HA hn74 l) := zF (igt_eq h5) <| zT h6 <| zl (F102_ok K a2 a3 _ h8) <| z
  cs h9
  ·
   ob
   exact fpC hn74 <| q13 <| q14 <| zF (bnot_t h9) <| z0
  ob
  exact fpC hn74 <| q13 <| q14 <| zT (bnot_f h9) <| z0
 cs h10
 ·
  have q15 {l} (z : HA hn74 l) := zF (igt_eq h5) <| zF h6 <| zT h10 <| z
  cs h11
  ·
   ob
   exact fpC hn74 <| q13 <| q15 <| zT (igt_eq h11) <| z0
  ob
  exact fpC hn74 <| q13 <| q15 <| zF (igt_eq h11) <| z0
 have q16 {l} (z : HA hn74 l) := zF (igt_eq h5) <| zF h6 <| zF h10 <| z
 cs h12
 ·
  ob
  exact fpC hn74 <| q13 <| q16 <| zT h12 <| z0
 ob
 exact fpC hn74 <| q13 <| q16 <| zF h12 <| z0
def hn50 : Hint := { H 50 with nt := 145, prot := 0, kp := 0 }
def c50_0 : Code := loopOf E 50 0
def F50_res (r1 : GTurned) : Res := ⟨[(.agg [(mI r1.Val), (.own 78 (sE eGMsg r1.Out)), (mB r1.Rest), (mI r1.E)])], []⟩
def F50_l0_0 (K : Nat) (v1 : Int) (v2 : Int) (v3 : Int) (v4 : Int) (v5 : Int) (v6 : Bool) (v7 : List GEdge) : Nat → List GMsg → Int → Option ((Unit) ⊕ (List GMsg))
 | 0, _, _ => none
 | k + 1, v8, v9 =>
  bif (ilt v9 (nlen (len v7))) then
   (bif v6 then
    (bif (inr v9 (len v7)) then
    (elAt v7 v9).bind fun x10 =>
    (F76 K v2 v1 x10 (nlen (len v7))).bind fun r11 =>
    bif r11.2 then
     (bif (apok (len v8) 1 16) then
     F50_l0_0 K v1 v2 v3 v4 v5 v6 v7 k (appL v8 [(GMsg.mk x10.To r11.1)]) (wadd .i64 v9 1)
     else none)
    else
    some (.inl ())
    else none)
   else
   some (.inr v8))
  else
  some (.inr v8)
def F50_l0_0_S (v1 : Int) (v2 : Int) (v3 : Int) (v4 : Int) (v5 : Int) (v6 : Bool) (v7 : List GEdge) (v8 : List GMsg) (v9 : Int) : TS := .on (kq 256 2 <| kq 512 5 <| kq 896 5 <| kq 1088 2 <| kq 1344 5 <| kq 1408 2 <| kq 1472 2 <| []) <| sq 256 [u0, (uI v1)] <| sq 512 [(uX 26 4), (uI v2), (uI v3), (uI v4), (uI v5)] <| b10 896 <| sq 1088 [u0, (uB v6)] <| sq 1344 [(uX 123 4), (uI v1), (uO 78 eGMsg v8), (uB (bnot v6)), (uI 0)] <| sq 1408 [u0, (uO 132 eGEdge v7)] <| sq 1472 [u0, (uI v9)] []
def F50_l0_0_X0 (v1 : Int) (v2 : Int) (v3 : Int) (v4 : Int) (v5 : Int) (v6 : Bool) (v7 : List GEdge) (w8 : Unit) : TS := .on (kq 896 5 <| []) <| b16 896 []
def F50_l0_0_X1 (v1 : Int) (v2 : Int) (v3 : Int) (v4 : Int) (v5 : Int) (v6 : Bool) (v7 : List GEdge) (w8 : List GMsg) : TS := .on (kq 896 5 <| kq 1344 5 <| []) <| b10 896 <| sq 1344 [(uX 123 4), (uI v1), (uO 78 eGMsg w8), (uB (bnot v6)), (uI 0)] []
theorem F50_l0_0_ok (K : Nat) (v1 : Int) (v2 : Int) (v3 : Int) (v4 : Int) (v5 : Int) (v6 : Bool) (v7 : List GEdge) : ∀ (k : Nat) (v8 : List GMsg) (v9 : Int) (r : (Unit) ⊕ (List GMsg)), F50_l0_0 K v1 v2 v3 v4 v5 v6 v7 k v8 v9 = some r → (Sum.elim (fun w => LoopEv E H hn50 0 c50_0 (F50_l0_0_S v1 v2 v3 v4 v5 v6 v7 v8 v9) .ret (F50_l0_0_X0 v1 v2 v3 v4 v5 v6 v7 w)) (fun w => LoopEv E H hn50 0 c50_0 (F50_l0_0_S v1 v2 v3 v4 v5 v6 v7 v8 v9) (.exit 0) (F50_l0_0_X1 v1 v2 v3 v4 v5 v6 v7 w))) r := by
 intro k
 induction k with
 | zero => intro v8 v9 r hF; cases hF
 | succ k ih =>
  intro v8 v9 r hF
  rw [F50_l0_0] at hF
  cs h10
  ·
   have q19 {l} (z : HA hn50 l) := zi (nl v7) <| zC1x h10 <| z
   cs h11
   ·
    cn h12
    bs x13 h14
    bs r15 h16
    have q20 {l} (z : HA hn50 l) := zT h11 <| zT h12 <| zS eGEdge_len h14 3 <| zi (nl v7) <| zl (F76_ok K v2 v1 x13 (nl v7) _ h16) <| z
    cs h17
    ·
     cn h18
     exact lN2 (q19 <| q20 <| zF (bnot_t h17) <| zT h12 <| zU eGEdge_len h14 1 1 <| zX (tt (leqm [(i6 x13.To), (i6 r15.1)] 1 2)) rfl <| zT h18 <| zV (app_ok (enc := eGMsg) (v8 : List GMsg) [(GMsg.mk x13.To r15.1)]) <| zi (wadd .i64 v9 1) <| z0) (ih _ _ _ hF)
    ob
    exact lE <| q19 <| q20 <| zT (bnot_f h17) <| z0
   ob
   exact lE <| q19 <| zF h11 <| z0
  ob
  exact lE <| zi (nl v7) <| zD1x h10 <| zf1 <| z0
def F50_l0_1 (K : Nat) (v1 : Int) (v2 : Int) (v3 : Int) (v4 : Int) (v5 : Int) (v6 : List GEdge) : Nat → List GMsg → Int → Option ((Unit) ⊕ (List GMsg))
 | 0, _, _ => none
 | k + 1, v7, v8 =>
  bif (ilt v8 (nlen (len v6))) then
   (bif (inr v8 (len v6)) then
   (elAt v6 v8).bind fun x9 =>
   (F76 K v2 v1 x9 (nlen (len v6))).bind fun r10 =>
   bif r10.2 then
    (bif (apok (len v7) 1 16) then
    F50_l0_1 K v1 v2 v3 v4 v5 v6 k (appL v7 [(GMsg.mk x9.To r10.1)]) (wadd .i64 v8 1)
    else none)
   else
   some (.inl ())
   else none)
  else
  some (.inr v7)
def F50_l0_1_S (v1 : Int) (v2 : Int) (v3 : Int) (v4 : Int) (v5 : Int) (v6 : List GEdge) (v7 : List GMsg) (v8 : Int) : TS := .on (kq 256 2 <| kq 512 5 <| kq 896 5 <| kq 1088 2 <| kq 1344 5 <| kq 1408 2 <| kq 1472 2 <| []) <| sq 256 [u0, (uI v1)] <| sq 512 [(uX 26 4), (uI v2), (uI v3), (uI v4), (uI v5)] <| b10 896 <| sq 1088 [u0, (uB true)] <| sq 1344 [(uX 123 4), (uI v1), (uO 78 eGMsg v7), (uB true), (uI 0)] <| sq 1408 [u0, (uO 132 eGEdge v6)] <| sq 1472 [u0, (uI v8)] []
def F50_l0_1_X0 (v1 : Int) (v2 : Int) (v3 : Int) (v4 : Int) (v5 : Int) (v6 : List GEdge) (w7 : Unit) : TS := .on (kq 896 5 <| []) <| b16 896 []
def F50_l0_1_X1 (v1 : Int) (v2 : Int) (v3 : Int) (v4 : Int) (v5 : Int) (v6 : List GEdge) (w7 : List GMsg) : TS := .on (kq 896 5 <| kq 1344 5 <| []) <| b10 896 <| sq 1344 [(uX 123 4), (uI v1), (uO 78 eGMsg w7), (uB true), (uI 0)] []
theorem F50_l0_1_ok (K : Nat) (v1 : Int) (v2 : Int) (v3 : Int) (v4 : Int) (v5 : Int) (v6 : List GEdge) : ∀ (k : Nat) (v7 : List GMsg) (v8 : Int) (r : (Unit) ⊕ (List GMsg)), F50_l0_1 K v1 v2 v3 v4 v5 v6 k v7 v8 = some r → (Sum.elim (fun w => LoopEv E H hn50 0 c50_0 (F50_l0_1_S v1 v2 v3 v4 v5 v6 v7 v8) .ret (F50_l0_1_X0 v1 v2 v3 v4 v5 v6 w)) (fun w => LoopEv E H hn50 0 c50_0 (F50_l0_1_S v1 v2 v3 v4 v5 v6 v7 v8) (.exit 0) (F50_l0_1_X1 v1 v2 v3 v4 v5 v6 w))) r := by
 intro k
 induction k with
 | zero => intro v7 v8 r hF; cases hF
 | succ k ih =>
  intro v7 v8 r hF
  rw [F50_l0_1] at hF
  cs h9
  ·
   cn h10
   bs x11 h12
   bs r13 h14
   have q17 {l} (z : HA hn50 l) := zi (nl v6) <| zC1x h9 <| zr1 <| zT h10 <| zS eGEdge_len h12 3 <| zi (nl v6) <| zl (F76_ok K v2 v1 x11 (nl v6) _ h14) <| z
   cs h15
   ·
    cn h16
    exact lN2 (q17 <| zF (bnot_t h15) <| zT h10 <| zU eGEdge_len h12 1 1 <| zX (tt (leqm [(i6 x11.To), (i6 r13.1)] 1 2)) rfl <| zT h16 <| zV (app_ok (enc := eGMsg) (v7 : List GMsg) [(GMsg.mk x11.To r13.1)]) <| zi (wadd .i64 v8 1) <| z0) (ih _ _ _ hF)
   ob
   exact lE <| q17 <| zT (bnot_f h15) <| z0
  ob
  exact lE <| zi (nl v6) <| zD1x h9 <| zf1 <| z0
def F50_l0_2 (K : Nat) (v1 : Int) (v2 : Int) (v3 : Int) (v4 : Int) (v5 : Int) (v6 : Bool) (v7 : List GEdge) : Nat → List GMsg → Int → Option ((Unit) ⊕ (List GMsg))
 | 0, _, _ => none
 | k + 1, v8, v9 =>
  bif (ilt v9 (nlen (len v7))) then
   (bif v6 then
    (bif (inr v9 (len v7)) then
    (elAt v7 v9).bind fun x10 =>
    (F76 K v2 v1 x10 (nlen (len v7))).bind fun r11 =>
    bif r11.2 then
     (bif (apok (len v8) 1 16) then
     F50_l0_2 K v1 v2 v3 v4 v5 v6 v7 k (appL v8 [(GMsg.mk x10.To r11.1)]) (wadd .i64 v9 1)
     else none)
    else
    some (.inl ())
    else none)
   else
   some (.inr v8))
  else
  some (.inr v8)
def F50_l0_2_S (v1 : Int) (v2 : Int) (v3 : Int) (v4 : Int) (v5 : Int) (v6 : Bool) (v7 : List GEdge) (v8 : List GMsg) (v9 : Int) : TS := .on (kq 256 2 <| kq 512 5 <| kq 896 5 <| kq 1088 2 <| kq 1344 5 <| kq 1408 2 <| kq 1472 2 <| []) <| sq 256 [u0, (uI v1)] <| sq 512 [(uX 26 4), (uI v2), (uI v3), (uI v4), (uI v5)] <| b10 896 <| sq 1088 [u0, (uB v6)] <| sq 1344 [(uX 123 4), (uI v1), (uO 78 eGMsg v8), (uB true), (uI 0)] <| sq 1408 [u0, (uO 132 eGEdge v7)] <| sq 1472 [u0, (uI v9)] []
def F50_l0_2_X0 (v1 : Int) (v2 : Int) (v3 : Int) (v4 : Int) (v5 : Int) (v6 : Bool) (v7 : List GEdge) (w8 : Unit) : TS := .on (kq 896 5 <| []) <| b16 896 []
def F50_l0_2_X1 (v1 : Int) (v2 : Int) (v3 : Int) (v4 : Int) (v5 : Int) (v6 : Bool) (v7 : List GEdge) (w8 : List GMsg) : TS := .on (kq 896 5 <| kq 1344 5 <| []) <| b10 896 <| sq 1344 [(uX 123 4), (uI v1), (uO 78 eGMsg w8), (uB true), (uI 0)] []
theorem F50_l0_2_ok (K : Nat) (v1 : Int) (v2 : Int) (v3 : Int) (v4 : Int) (v5 : Int) (v6 : Bool) (v7 : List GEdge) : ∀ (k : Nat) (v8 : List GMsg) (v9 : Int) (r : (Unit) ⊕ (List GMsg)), F50_l0_2 K v1 v2 v3 v4 v5 v6 v7 k v8 v9 = some r → (Sum.elim (fun w => LoopEv E H hn50 0 c50_0 (F50_l0_2_S v1 v2 v3 v4 v5 v6 v7 v8 v9) .ret (F50_l0_2_X0 v1 v2 v3 v4 v5 v6 v7 w)) (fun w => LoopEv E H hn50 0 c50_0 (F50_l0_2_S v1 v2 v3 v4 v5 v6 v7 v8 v9) (.exit 0) (F50_l0_2_X1 v1 v2 v3 v4 v5 v6 v7 w))) r := by
 intro k
 induction k with
 | zero => intro v8 v9 r hF; cases hF
 | succ k ih =>
  intro v8 v9 r hF
  rw [F50_l0_2] at hF
  cs h10
  ·
   have q19 {l} (z : HA hn50 l) := zi (nl v7) <| zC1x h10 <| z
   cs h11
   ·
    cn h12
    bs x13 h14
    bs r15 h16
    have q20 {l} (z : HA hn50 l) := zT h11 <| zT h12 <| zS eGEdge_len h14 3 <| zi (nl v7) <| zl (F76_ok K v2 v1 x13 (nl v7) _ h16) <| z
    cs h17
    ·
     cn h18
     exact lN2 (q19 <| q20 <| zF (bnot_t h17) <| zT h12 <| zU eGEdge_len h14 1 1 <| zX (tt (leqm [(i6 x13.To), (i6 r15.1)] 1 2)) rfl <| zT h18 <| zV (app_ok (enc := eGMsg) (v8 : List GMsg) [(GMsg.mk x13.To r15.1)]) <| zi (wadd .i64 v9 1) <| z0) (ih _ _ _ hF)
    ob
    exact lE <| q19 <| q20 <| zT (bnot_f h17) <| z0
   ob
   exact lE <| q19 <| zF h11 <| z0
  ob
  exact lE <| zi (nl v7) <| zD1x h10 <| zf1 <| z0
def F50_l0_3 (K : Nat) (v1 : Int) (v2 : Int) (v3 : Int) (v4 : Int) (v5 : Int) (v6 : List GEdge) : Nat → List GMsg → Int → Option (((List GMsg)) ⊕ (Unit))
 | 0, _, _ => none
 | k + 1, v7, v8 =>
  bif (ilt v8 (nlen (len v6))) then
   (bif (ieq v1 v1) then
    (some (.inl v7))
   else
   bif (inr v8 (len v6)) then
   (elAt v6 v8).bind fun x9 =>
   (F76 K v2 v1 x9 (nlen (len v6))).bind fun r10 =>
   bif r10.2 then
    (bif (apok (len v7) 1 16) then
    F50_l0_3 K v1 v2 v3 v4 v5 v6 k (appL v7 [(GMsg.mk x9.To r10.1)]) (wadd .i64 v8 1)
    else none)
   else
   some (.inr ())
   else none)
  else
  some (.inl v7)
def F50_l0_3_S (v1 : Int) (v2 : Int) (v3 : Int) (v4 : Int) (v5 : Int) (v6 : List GEdge) (v7 : List GMsg) (v8 : Int) : TS := .on (kq 256 2 <| kq 512 5 <| kq 896 5 <| kq 1088 2 <| kq 1344 5 <| kq 1408 2 <| kq 1472 2 <| []) <| sq 256 [u0, (uI v1)] <| sq 512 [(uX 26 4), (uI v2), (uI v3), (uI v4), (uI v5)] <| b10 896 <| sq 1088 [u0, (uB (ine v1 v1))] <| sq 1344 [(uX 123 4), (uI v1), (uO 78 eGMsg v7), (uB true), (uI 0)] <| sq 1408 [u0, (uO 132 eGEdge v6)] <| sq 1472 [u0, (uI v8)] []
def F50_l0_3_X0 (v1 : Int) (v2 : Int) (v3 : Int) (v4 : Int) (v5 : Int) (v6 : List GEdge) (w7 : List GMsg) : TS := .on (kq 896 5 <| kq 1344 5 <| []) <| b10 896 <| sq 1344 [(uX 123 4), (uI v1), (uO 78 eGMsg w7), (uB true), (uI 0)] []
def F50_l0_3_X1 (v1 : Int) (v2 : Int) (v3 : Int) (v4 : Int) (v5 : Int) (v6 : List GEdge) (w7 : Unit) : TS := .on (kq 896 5 <| []) <| b16 896 []
theorem F50_l0_3_ok (K : Nat) (v1 : Int) (v2 : Int) (v3 : Int) (v4 : Int) (v5 : Int) (v6 : List GEdge) : ∀ (k : Nat) (v7 : List GMsg) (v8 : Int) (r : ((List GMsg)) ⊕ (Unit)), F50_l0_3 K v1 v2 v3 v4 v5 v6 k v7 v8 = some r → (Sum.elim (fun w => LoopEv E H hn50 0 c50_0 (F50_l0_3_S v1 v2 v3 v4 v5 v6 v7 v8) (.exit 0) (F50_l0_3_X0 v1 v2 v3 v4 v5 v6 w)) (fun w => LoopEv E H hn50 0 c50_0 (F50_l0_3_S v1 v2 v3 v4 v5 v6 v7 v8) .ret (F50_l0_3_X1 v1 v2 v3 v4 v5 v6 w))) r := by
 intro k
 induction k with
 | zero => intro v7 v8 r hF; cases hF
 | succ k ih =>
  intro v7 v8 r hF
  rw [F50_l0_3] at hF
  cs h9
  ·
   have q18 {l} (z : HA hn50 l) := zi (nl v6) <| zC1x h9 <| z
   cs h10
   ·
    ob
    exact lE <| q18 <| zF (ine_t h10) <| z0
   cn h11
   bs x12 h13
   bs r14 h15
   have q19 {l} (z : HA hn50 l) := zT (ine_f h10) <| zT h11 <| zS eGEdge_len h13 3 <| zi (nl v6) <| zl (F76_ok K v2 v1 x12 (nl v6) _ h15) <| z
   cs h16
   ·
    cn h17
    exact lN2 (q18 <| q19 <| zF (bnot_t h16) <| zT h11 <| zU eGEdge_len h13 1 1 <| zX (tt (leqm [(i6 x12.To), (i6 r14.1)] 1 2)) rfl <| zT h17 <| zV (app_ok (enc := eGMsg) (v7 : List GMsg) [(GMsg.mk x12.To r14.1)]) <| zi (wadd .i64 v8 1) <| z0) (ih _ _ _ hF)
   ob
   exact lE <| q18 <| q19 <| zT (bnot_f h16) <| z0
  ob
  exact lE <| zi (nl v6) <| zD1x h9 <| zf1 <| z0
def F50 (K : Nat) (a1 : GGraph) (a2 : GJob) (a3 : Int) (a4 : Int) (a5 : Int) (a6 : Int) (a7 : Bool) : Option (GTurned) :=
 (F19 K a1 a2).bind fun r8 =>
 bif (ieq r8 0) then
  (bif (ilt a4 0) then
   (some (GTurned.mk 0 [] false 4))
  else
  bif (ile a1.N a4) then
   (some (GTurned.mk 0 [] false 4))
  else
  bif (ilt a3 0) then
   (some (GTurned.mk 0 [] false 1))
  else
  bif (ilt 40 a3) then
   (some (GTurned.mk 0 [] false 1))
  else
  bif (ieq a2.Prog 5) then
   (bif a7 then
    (bif (ilt 0 a3) then
     ((F73 K a6).bind fun r9 =>
     bif r9.2 then
      ((F75 K a1 a4).bind fun r10 =>
      (F50_l0_0 K r9.1 a2.Prog a2.Source a2.Limit a2.Parts (ilt a3 10) r10 K [] 0).bind fun y11 =>
      Sum.elim (fun w12 =>
       some (GTurned.mk 0 [] false 8))
       (fun w13 =>
       some (GTurned.mk r9.1 w13 (bnot (ilt a3 10)) 0)) y11)
     else
     some (GTurned.mk 0 [] false 8))
    else
    (F75 K a1 a4).bind fun r14 =>
    (F50_l0_0 K a5 a2.Prog a2.Source a2.Limit a2.Parts (ilt a3 10) r14 K [] 0).bind fun y15 =>
    Sum.elim (fun w16 =>
     some (GTurned.mk 0 [] false 8))
     (fun w17 =>
     some (GTurned.mk a5 w17 (bnot (ilt a3 10)) 0)) y15)
   else
   bif (ilt 0 a3) then
    ((F73 K 0).bind fun r18 =>
    bif r18.2 then
     ((F75 K a1 a4).bind fun r19 =>
     (F50_l0_0 K r18.1 a2.Prog a2.Source a2.Limit a2.Parts (ilt a3 10) r19 K [] 0).bind fun y20 =>
     Sum.elim (fun w21 =>
      some (GTurned.mk 0 [] false 8))
      (fun w22 =>
      some (GTurned.mk r18.1 w22 (bnot (ilt a3 10)) 0)) y20)
    else
    some (GTurned.mk 0 [] false 8))
   else
   (F75 K a1 a4).bind fun r23 =>
   (F50_l0_0 K a5 a2.Prog a2.Source a2.Limit a2.Parts (ilt a3 10) r23 K [] 0).bind fun y24 =>
   Sum.elim (fun w25 =>
    some (GTurned.mk 0 [] false 8))
    (fun w26 =>
    some (GTurned.mk a5 w26 (bnot (ilt a3 10)) 0)) y24)
  else
  bif (ieq a2.Prog 1) then
   (bif (ieq a4 a2.Source) then
    (bif a7 then
     ((F74 K a2.Prog a5 a6).bind fun r27 =>
     bif (ieq a3 0) then
      ((F75 K a1 a4).bind fun r28 =>
      (F50_l0_1 K r27.1 a2.Prog a2.Source a2.Limit a2.Parts r28 K [] 0).bind fun y29 =>
      Sum.elim (fun w30 =>
       some (GTurned.mk 0 [] false 8))
       (fun w31 =>
       some (GTurned.mk r27.1 w31 true 0)) y29)
     else
     (F75 K a1 a4).bind fun r32 =>
     (F50_l0_2 K r27.1 a2.Prog a2.Source a2.Limit a2.Parts (ine r27.1 a5) r32 K [] 0).bind fun y33 =>
     Sum.elim (fun w34 =>
      some (GTurned.mk 0 [] false 8))
      (fun w35 =>
      some (GTurned.mk r27.1 w35 true 0)) y33)
    else
    bif (ieq a3 0) then
     ((F75 K a1 a4).bind fun r36 =>
     (F50_l0_1 K a5 a2.Prog a2.Source a2.Limit a2.Parts r36 K [] 0).bind fun y37 =>
     Sum.elim (fun w38 =>
      some (GTurned.mk 0 [] false 8))
      (fun w39 =>
      some (GTurned.mk a5 w39 true 0)) y37)
    else
    (F75 K a1 a4).bind fun r40 =>
    (F50_l0_3 K a5 a2.Prog a2.Source a2.Limit a2.Parts r40 K [] 0).bind fun y41 =>
    Sum.elim (fun w42 =>
     some (GTurned.mk a5 w42 true 0))
     (fun w43 =>
     some (GTurned.mk 0 [] false 8)) y41)
   else
   bif a7 then
    ((F74 K a2.Prog a5 a6).bind fun r44 =>
    (F75 K a1 a4).bind fun r45 =>
    (F50_l0_2 K r44.1 a2.Prog a2.Source a2.Limit a2.Parts (ine r44.1 a5) r45 K [] 0).bind fun y46 =>
    Sum.elim (fun w47 =>
     some (GTurned.mk 0 [] false 8))
     (fun w48 =>
     some (GTurned.mk r44.1 w48 true 0)) y46)
   else
   (F75 K a1 a4).bind fun r49 =>
   (F50_l0_3 K a5 a2.Prog a2.Source a2.Limit a2.Parts r49 K [] 0).bind fun y50 =>
   Sum.elim (fun w51 =>
    some (GTurned.mk a5 w51 true 0))
    (fun w52 =>
    some (GTurned.mk 0 [] false 8)) y50)
  else
  bif (ieq a2.Prog 3) then
   (bif (ieq a4 a2.Source) then
    (bif a7 then
     ((F74 K a2.Prog a5 a6).bind fun r53 =>
     bif (ieq a3 0) then
      ((F75 K a1 a4).bind fun r54 =>
      (F50_l0_1 K r53.1 a2.Prog a2.Source a2.Limit a2.Parts r54 K [] 0).bind fun y55 =>
      Sum.elim (fun w56 =>
       some (GTurned.mk 0 [] false 8))
       (fun w57 =>
       some (GTurned.mk r53.1 w57 true 0)) y55)
     else
     (F75 K a1 a4).bind fun r58 =>
     (F50_l0_2 K r53.1 a2.Prog a2.Source a2.Limit a2.Parts (ine r53.1 a5) r58 K [] 0).bind fun y59 =>
     Sum.elim (fun w60 =>
      some (GTurned.mk 0 [] false 8))
      (fun w61 =>
      some (GTurned.mk r53.1 w61 true 0)) y59)
    else
    bif (ieq a3 0) then
     ((F75 K a1 a4).bind fun r62 =>
     (F50_l0_1 K a5 a2.Prog a2.Source a2.Limit a2.Parts r62 K [] 0).bind fun y63 =>
     Sum.elim (fun w64 =>
      some (GTurned.mk 0 [] false 8))
      (fun w65 =>
      some (GTurned.mk a5 w65 true 0)) y63)
    else
    (F75 K a1 a4).bind fun r66 =>
    (F50_l0_3 K a5 a2.Prog a2.Source a2.Limit a2.Parts r66 K [] 0).bind fun y67 =>
    Sum.elim (fun w68 =>
     some (GTurned.mk a5 w68 true 0))
     (fun w69 =>
     some (GTurned.mk 0 [] false 8)) y67)
   else
   bif a7 then
    ((F74 K a2.Prog a5 a6).bind fun r70 =>
    (F75 K a1 a4).bind fun r71 =>
    (F50_l0_2 K r70.1 a2.Prog a2.Source a2.Limit a2.Parts (ine r70.1 a5) r71 K [] 0).bind fun y72 =>
    Sum.elim (fun w73 =>
     some (GTurned.mk 0 [] false 8))
     (fun w74 =>
     some (GTurned.mk r70.1 w74 true 0)) y72)
   else
   (F75 K a1 a4).bind fun r75 =>
   (F50_l0_3 K a5 a2.Prog a2.Source a2.Limit a2.Parts r75 K [] 0).bind fun y76 =>
   Sum.elim (fun w77 =>
    some (GTurned.mk a5 w77 true 0))
    (fun w78 =>
    some (GTurned.mk 0 [] false 8)) y76)
  else
  bif a7 then
   ((F74 K a2.Prog a5 a6).bind fun r79 =>
   bif (ieq a3 0) then
    ((F75 K a1 a4).bind fun r80 =>
    (F50_l0_1 K r79.1 a2.Prog a2.Source a2.Limit a2.Parts r80 K [] 0).bind fun y81 =>
    Sum.elim (fun w82 =>
     some (GTurned.mk 0 [] false 8))
     (fun w83 =>
     some (GTurned.mk r79.1 w83 true 0)) y81)
   else
   (F75 K a1 a4).bind fun r84 =>
   (F50_l0_2 K r79.1 a2.Prog a2.Source a2.Limit a2.Parts (ine r79.1 a5) r84 K [] 0).bind fun y85 =>
   Sum.elim (fun w86 =>
    some (GTurned.mk 0 [] false 8))
    (fun w87 =>
    some (GTurned.mk r79.1 w87 true 0)) y85)
  else
  bif (ieq a3 0) then
   ((F75 K a1 a4).bind fun r88 =>
   (F50_l0_1 K a5 a2.Prog a2.Source a2.Limit a2.Parts r88 K [] 0).bind fun y89 =>
   Sum.elim (fun w90 =>
    some (GTurned.mk 0 [] false 8))
    (fun w91 =>
    some (GTurned.mk a5 w91 true 0)) y89)
  else
  (F75 K a1 a4).bind fun r92 =>
  (F50_l0_3 K a5 a2.Prog a2.Source a2.Limit a2.Parts r92 K [] 0).bind fun y93 =>
  Sum.elim (fun w94 =>
   some (GTurned.mk a5 w94 true 0))
   (fun w95 =>
   some (GTurned.mk 0 [] false 8)) y93)
 else
 some (GTurned.mk 0 [] false r8)
theorem F50_ok (K : Nat) (a1 : GGraph) (a2 : GJob) (a3 : Int) (a4 : Int) (a5 : Int) (a6 : Int) (a7 : Bool) (r : GTurned) (hF : F50 K a1 a2 a3 a4 a5 a6 a7 = some r) : Evt E H 50 [.agg (eGGraph a1), .agg (eGJob a2), .one (i6 a3), .one (i6 a4), .one (i6 a5), .one (i6 a6), .one (.lit (.bool a7))] (F50_res r) := by
 rw [F50] at hF
 bs r8 h9
 cs h10
 ·
  have q170 {l} (z : HA hn50 l) := zl (F19_ok K a1 a2 _ h9) <| zF (ine_t h10) <| z
  cs h11
  ·
   ob
   exact fpC hn50 <| q170 <| zA4x h11 <| zr1 <| z0
  have q171 {l} (z : HA hn50 l) := zB4x h11 <| z
  cs h12
  ·
   ob
   exact fpC hn50 <| q170 <| q171 <| zT (ige_eq h12) <| z0
  cs h13
  ·
   ob
   exact fpC hn50 <| q170 <| q171 <| zF (ige_eq h12) <| zA2x h13 <| zr1 <| z0
  have q172 {l} (z : HA hn50 l) := zF (ige_eq h12) <| zB2x h13 <| z
  cs h14
  ·
   ob
   exact fpC hn50 <| q170 <| q171 <| q172 <| zT (igt_eq h14) <| z0
  cs h15
  ·
   cs h16
   ·
    have q173 {l} (z : HA hn50 l) := zF (igt_eq h14) <| zT h15 <| zF (bnot_t h16) <| z
    cs h17
    ·
     bs r18 h19
     have q174 {l} (z : HA hn50 l) := zT (igt_eq h17) <| zl (F73_ok K a6 _ h19) <| z
     cs h20
     ·
      bs r21 h22
      have q175 {l} (z : HA hn50 l) := zF (bnot_t h20) <| zl (F75_ok K a1 a4 _ h22) <| z
      bs y24 h23
      ss w25 w26
      ·
       subst hx
       ob
       exact fpC hn50 <| q170 <| q171 <| q172 <| q173 <| q174 <| q175 <| zo (F50_l0_0_ok K r18.1 a2.Prog a2.Source a2.Limit a2.Parts (ilt a3 10) r21 K [] 0 _ h23) <| z0
      subst hx
      ob
      exact fpC hn50 <| q170 <| q171 <| q172 <| q173 <| q174 <| q175 <| zo (F50_l0_0_ok K r18.1 a2.Prog a2.Source a2.Limit a2.Parts (ilt a3 10) r21 K [] 0 _ h23) <| z0
     ob
     exact fpC hn50 <| q170 <| q171 <| q172 <| q173 <| q174 <| zT (bnot_f h20) <| z0
    bs r27 h28
    have q176 {l} (z : HA hn50 l) := zF (igt_eq h17) <| zl (F75_ok K a1 a4 _ h28) <| z
    bs y30 h29
    ss w31 w32
    ·
     subst hx
     ob
     exact fpC hn50 <| q170 <| q171 <| q172 <| q173 <| q176 <| zo (F50_l0_0_ok K a5 a2.Prog a2.Source a2.Limit a2.Parts (ilt a3 10) r27 K [] 0 _ h29) <| z0
    subst hx
    ob
    exact fpC hn50 <| q170 <| q171 <| q172 <| q173 <| q176 <| zo (F50_l0_0_ok K a5 a2.Prog a2.Source a2.Limit a2.Parts (ilt a3 10) r27 K [] 0 _ h29) <| z0
   have q177 {l} (z : HA hn50 l) := zF (igt_eq h14) <| zT h15 <| zT (bnot_f h16) <| z
   cs h33
   ·
    bs r34 h35
    have q178 {l} (z : HA hn50 l) := zT (igt_eq h33) <| zl (F73_ok K 0 _ h35) <| z
    cs h36
    ·
     bs r37 h38
     have q179 {l} (z : HA hn50 l) := zF (bnot_t h36) <| zl (F75_ok K a1 a4 _ h38) <| z
     bs y40 h39
     ss w41 w42
     ·
      subst hx
      ob
      exact fpC hn50 <| q170 <| q171 <| q172 <| q177 <| q178 <| q179 <| zo (F50_l0_0_ok K r34.1 a2.Prog a2.Source a2.Limit a2.Parts (ilt a3 10) r37 K [] 0 _ h39) <| z0
     subst hx
     ob
     exact fpC hn50 <| q170 <| q171 <| q172 <| q177 <| q178 <| q179 <| zo (F50_l0_0_ok K r34.1 a2.Prog a2.Source a2.Limit a2.Parts (ilt a3 10) r37 K [] 0 _ h39) <| z0
    ob
    exact fpC hn50 <| q170 <| q171 <| q172 <| q177 <| q178 <| zT (bnot_f h36) <| z0
   bs r43 h44
   have q180 {l} (z : HA hn50 l) := zF (igt_eq h33) <| zl (F75_ok K a1 a4 _ h44) <| z
   bs y46 h45
   ss w47 w48
   ·
    subst hx
    ob
    exact fpC hn50 <| q170 <| q171 <| q172 <| q177 <| q180 <| zo (F50_l0_0_ok K a5 a2.Prog a2.Source a2.Limit a2.Parts (ilt a3 10) r43 K [] 0 _ h45) <| z0
   subst hx
   ob
   exact fpC hn50 <| q170 <| q171 <| q172 <| q177 <| q180 <| zo (F50_l0_0_ok K a5 a2.Prog a2.Source a2.Limit a2.Parts (ilt a3 10) r43 K [] 0 _ h45) <| z0
  cs h49
  ·
   have q181 {l} (z : HA hn50 l) := zF (igt_eq h14) <| zF h15 <| zA3x h49 <| zX (bh true) (bC rfl) <| zX (bh true) (bC rfl) <| zX (bh true) (bC rfl) <| zX (bh true) (bC rfl) <| zr1 <| z
   cs h50
   ·
    cs h51
    ·
     bs r52 h53
     have q182 {l} (z : HA hn50 l) := zF (ine_t h50) <| zT h51 <| zl (F74_ok K a2.Prog a5 a6 _ h53) <| z
     cs h54
     ·
      bs r55 h56
      have q183 {l} (z : HA hn50 l) := zA3x h54 <| zl (F75_ok K a1 a4 _ h56) <| z
      bs y58 h57
      ss w59 w60
      ·
       subst hx
       ob
       exact fpC hn50 <| q170 <| q171 <| q172 <| q181 <| q182 <| q183 <| zo (F50_l0_1_ok K r52.1 a2.Prog a2.Source a2.Limit a2.Parts r55 K [] 0 _ h57) <| z0
      subst hx
      ob
      exact fpC hn50 <| q170 <| q171 <| q172 <| q181 <| q182 <| q183 <| zo (F50_l0_1_ok K r52.1 a2.Prog a2.Source a2.Limit a2.Parts r55 K [] 0 _ h57) <| z0
     bs r61 h62
     have q184 {l} (z : HA hn50 l) := zB3x h54 <| zl (F75_ok K a1 a4 _ h62) <| z
     bs y64 h63
     ss w65 w66
     ·
      subst hx
      ob
      exact fpC hn50 <| q170 <| q171 <| q172 <| q181 <| q182 <| q184 <| zo (F50_l0_2_ok K r52.1 a2.Prog a2.Source a2.Limit a2.Parts (ine r52.1 a5) r61 K [] 0 _ h63) <| z0
     subst hx
     ob
     exact fpC hn50 <| q170 <| q171 <| q172 <| q181 <| q182 <| q184 <| zo (F50_l0_2_ok K r52.1 a2.Prog a2.Source a2.Limit a2.Parts (ine r52.1 a5) r61 K [] 0 _ h63) <| z0
    cs h67
    ·
     bs r68 h69
     have q185 {l} (z : HA hn50 l) := zF (ine_t h50) <| zF h51 <| zA3x h67 <| zl (F75_ok K a1 a4 _ h69) <| z
     bs y71 h70
     ss w72 w73
     ·
      subst hx
      ob
      exact fpC hn50 <| q170 <| q171 <| q172 <| q181 <| q185 <| zo (F50_l0_1_ok K a5 a2.Prog a2.Source a2.Limit a2.Parts r68 K [] 0 _ h70) <| z0
     subst hx
     ob
     exact fpC hn50 <| q170 <| q171 <| q172 <| q181 <| q185 <| zo (F50_l0_1_ok K a5 a2.Prog a2.Source a2.Limit a2.Parts r68 K [] 0 _ h70) <| z0
    bs r74 h75
    have q186 {l} (z : HA hn50 l) := zF (ine_t h50) <| zF h51 <| zB3x h67 <| zl (F75_ok K a1 a4 _ h75) <| z
    bs y77 h76
    ss w78 w79
    ·
     subst hx
     ob
     exact fpC hn50 <| q170 <| q171 <| q172 <| q181 <| q186 <| zo (F50_l0_3_ok K a5 a2.Prog a2.Source a2.Limit a2.Parts r74 K [] 0 _ h76) <| z0
    subst hx
    ob
    exact fpC hn50 <| q170 <| q171 <| q172 <| q181 <| q186 <| zo (F50_l0_3_ok K a5 a2.Prog a2.Source a2.Limit a2.Parts r74 K [] 0 _ h76) <| z0
   cs h80
   ·
    bs r81 h82
    bs r83 h84
    have q187 {l} (z : HA hn50 l) := zT (ine_f h50) <| zT h80 <| zl (F74_ok K a2.Prog a5 a6 _ h82) <| zX (bg false) (bB rfl) <| zX (bg false) (bB rfl) <| zX (bg false) (bB rfl) <| zf1 <| zl (F75_ok K a1 a4 _ h84) <| z
    bs y86 h85
    ss w87 w88
    ·
     subst hx
     ob
     exact fpC hn50 <| q170 <| q171 <| q172 <| q181 <| q187 <| zo (F50_l0_2_ok K r81.1 a2.Prog a2.Source a2.Limit a2.Parts (ine r81.1 a5) r83 K [] 0 _ h85) <| z0
    subst hx
    ob
    exact fpC hn50 <| q170 <| q171 <| q172 <| q181 <| q187 <| zo (F50_l0_2_ok K r81.1 a2.Prog a2.Source a2.Limit a2.Parts (ine r81.1 a5) r83 K [] 0 _ h85) <| z0
   bs r89 h90
   have q188 {l} (z : HA hn50 l) := zT (ine_f h50) <| zF h80 <| zX (bg false) (bB rfl) <| zX (bg false) (bB rfl) <| zX (bg false) (bB rfl) <| zf1 <| zl (F75_ok K a1 a4 _ h90) <| z
   bs y92 h91
   ss w93 w94
   ·
    subst hx
    ob
    exact fpC hn50 <| q170 <| q171 <| q172 <| q181 <| q188 <| zo (F50_l0_3_ok K a5 a2.Prog a2.Source a2.Limit a2.Parts r89 K [] 0 _ h91) <| z0
   subst hx
   ob
   exact fpC hn50 <| q170 <| q171 <| q172 <| q181 <| q188 <| zo (F50_l0_3_ok K a5 a2.Prog a2.Source a2.Limit a2.Parts r89 K [] 0 _ h91) <| z0
  have q189 {l} (z : HA hn50 l) := zF (igt_eq h14) <| zF h15 <| zB3x h49 <| z
  cs h95
  ·
   have q190 {l} (z : HA hn50 l) := zC4x h95 <| z
   cs h96
   ·
    cs h97
    ·
     bs r98 h99
     have q191 {l} (z : HA hn50 l) := zF (ine_t h96) <| zT h97 <| zl (F74_ok K a2.Prog a5 a6 _ h99) <| z
     cs h100
     ·
      bs r101 h102
      have q192 {l} (z : HA hn50 l) := zA3x h100 <| zl (F75_ok K a1 a4 _ h102) <| z
      bs y104 h103
      ss w105 w106
      ·
       subst hx
       ob
       exact fpC hn50 <| q170 <| q171 <| q172 <| q189 <| q190 <| q191 <| q192 <| zo (F50_l0_1_ok K r98.1 a2.Prog a2.Source a2.Limit a2.Parts r101 K [] 0 _ h103) <| z0
      subst hx
      ob
      exact fpC hn50 <| q170 <| q171 <| q172 <| q189 <| q190 <| q191 <| q192 <| zo (F50_l0_1_ok K r98.1 a2.Prog a2.Source a2.Limit a2.Parts r101 K [] 0 _ h103) <| z0
     bs r107 h108
     have q193 {l} (z : HA hn50 l) := zB3x h100 <| zl (F75_ok K a1 a4 _ h108) <| z
     bs y110 h109
     ss w111 w112
     ·
      subst hx
      ob
      exact fpC hn50 <| q170 <| q171 <| q172 <| q189 <| q190 <| q191 <| q193 <| zo (F50_l0_2_ok K r98.1 a2.Prog a2.Source a2.Limit a2.Parts (ine r98.1 a5) r107 K [] 0 _ h109) <| z0
     subst hx
     ob
     exact fpC hn50 <| q170 <| q171 <| q172 <| q189 <| q190 <| q191 <| q193 <| zo (F50_l0_2_ok K r98.1 a2.Prog a2.Source a2.Limit a2.Parts (ine r98.1 a5) r107 K [] 0 _ h109) <| z0
    cs h113
    ·
     bs r114 h115
     have q194 {l} (z : HA hn50 l) := zF (ine_t h96) <| zF h97 <| zA3x h113 <| zl (F75_ok K a1 a4 _ h115) <| z
     bs y117 h116
     ss w118 w119
     ·
      subst hx
      ob
      exact fpC hn50 <| q170 <| q171 <| q172 <| q189 <| q190 <| q194 <| zo (F50_l0_1_ok K a5 a2.Prog a2.Source a2.Limit a2.Parts r114 K [] 0 _ h116) <| z0
     subst hx
     ob
     exact fpC hn50 <| q170 <| q171 <| q172 <| q189 <| q190 <| q194 <| zo (F50_l0_1_ok K a5 a2.Prog a2.Source a2.Limit a2.Parts r114 K [] 0 _ h116) <| z0
    bs r120 h121
    have q195 {l} (z : HA hn50 l) := zF (ine_t h96) <| zF h97 <| zB3x h113 <| zl (F75_ok K a1 a4 _ h121) <| z
    bs y123 h122
    ss w124 w125
    ·
     subst hx
     ob
     exact fpC hn50 <| q170 <| q171 <| q172 <| q189 <| q190 <| q195 <| zo (F50_l0_3_ok K a5 a2.Prog a2.Source a2.Limit a2.Parts r120 K [] 0 _ h122) <| z0
    subst hx
    ob
    exact fpC hn50 <| q170 <| q171 <| q172 <| q189 <| q190 <| q195 <| zo (F50_l0_3_ok K a5 a2.Prog a2.Source a2.Limit a2.Parts r120 K [] 0 _ h122) <| z0
   cs h126
   ·
    bs r127 h128
    bs r129 h130
    have q196 {l} (z : HA hn50 l) := zT (ine_f h96) <| zT h126 <| zl (F74_ok K a2.Prog a5 a6 _ h128) <| zX (bg false) (bB rfl) <| zX (bg false) (bB rfl) <| zX (bg false) (bB rfl) <| zf1 <| zl (F75_ok K a1 a4 _ h130) <| z
    bs y132 h131
    ss w133 w134
    ·
     subst hx
     ob
     exact fpC hn50 <| q170 <| q171 <| q172 <| q189 <| q190 <| q196 <| zo (F50_l0_2_ok K r127.1 a2.Prog a2.Source a2.Limit a2.Parts (ine r127.1 a5) r129 K [] 0 _ h131) <| z0
    subst hx
    ob
    exact fpC hn50 <| q170 <| q171 <| q172 <| q189 <| q190 <| q196 <| zo (F50_l0_2_ok K r127.1 a2.Prog a2.Source a2.Limit a2.Parts (ine r127.1 a5) r129 K [] 0 _ h131) <| z0
   bs r135 h136
   have q197 {l} (z : HA hn50 l) := zT (ine_f h96) <| zF h126 <| zX (bg false) (bB rfl) <| zX (bg false) (bB rfl) <| zX (bg false) (bB rfl) <| zf1 <| zl (F75_ok K a1 a4 _ h136) <| z
   bs y138 h137
   ss w139 w140
   ·
    subst hx
    ob
    exact fpC hn50 <| q170 <| q171 <| q172 <| q189 <| q190 <| q197 <| zo (F50_l0_3_ok K a5 a2.Prog a2.Source a2.Limit a2.Parts r135 K [] 0 _ h137) <| z0
   subst hx
   ob
   exact fpC hn50 <| q170 <| q171 <| q172 <| q189 <| q190 <| q197 <| zo (F50_l0_3_ok K a5 a2.Prog a2.Source a2.Limit a2.Parts r135 K [] 0 _ h137) <| z0
  have q198 {l} (z : HA hn50 l) := zD4x h95 <| zf1 <| z
  cs h141
  ·
   bs r142 h143
   have q199 {l} (z : HA hn50 l) := zT h141 <| zl (F74_ok K a2.Prog a5 a6 _ h143) <| z
   cs h144
   ·
    bs r145 h146
    have q200 {l} (z : HA hn50 l) := zA3x h144 <| zl (F75_ok K a1 a4 _ h146) <| z
    bs y148 h147
    ss w149 w150
    ·
     subst hx
     ob
     exact fpC hn50 <| q170 <| q171 <| q172 <| q189 <| q198 <| q199 <| q200 <| zo (F50_l0_1_ok K r142.1 a2.Prog a2.Source a2.Limit a2.Parts r145 K [] 0 _ h147) <| z0
    subst hx
    ob
    exact fpC hn50 <| q170 <| q171 <| q172 <| q189 <| q198 <| q199 <| q200 <| zo (F50_l0_1_ok K r142.1 a2.Prog a2.Source a2.Limit a2.Parts r145 K [] 0 _ h147) <| z0
   bs r151 h152
   have q201 {l} (z : HA hn50 l) := zB3x h144 <| zl (F75_ok K a1 a4 _ h152) <| z
   bs y154 h153
   ss w155 w156
   ·
    subst hx
    ob
    exact fpC hn50 <| q170 <| q171 <| q172 <| q189 <| q198 <| q199 <| q201 <| zo (F50_l0_2_ok K r142.1 a2.Prog a2.Source a2.Limit a2.Parts (ine r142.1 a5) r151 K [] 0 _ h153) <| z0
   subst hx
   ob
   exact fpC hn50 <| q170 <| q171 <| q172 <| q189 <| q198 <| q199 <| q201 <| zo (F50_l0_2_ok K r142.1 a2.Prog a2.Source a2.Limit a2.Parts (ine r142.1 a5) r151 K [] 0 _ h153) <| z0
  cs h157
  ·
   bs r158 h159
   have q202 {l} (z : HA hn50 l) := zF h141 <| zA3x h157 <| zl (F75_ok K a1 a4 _ h159) <| z
   bs y161 h160
   ss w162 w163
   ·
    subst hx
    ob
    exact fpC hn50 <| q170 <| q171 <| q172 <| q189 <| q198 <| q202 <| zo (F50_l0_1_ok K a5 a2.Prog a2.Source a2.Limit a2.Parts r158 K [] 0 _ h160) <| z0
   subst hx
   ob
   exact fpC hn50 <| q170 <| q171 <| q172 <| q189 <| q198 <| q202 <| zo (F50_l0_1_ok K a5 a2.Prog a2.Source a2.Limit a2.Parts r158 K [] 0 _ h160) <| z0
  bs r164 h165
  have q203 {l} (z : HA hn50 l) := zF h141 <| zB3x h157 <| zl (F75_ok K a1 a4 _ h165) <| z
  bs y167 h166
  ss w168 w169
  ·
   subst hx
   ob
   exact fpC hn50 <| q170 <| q171 <| q172 <| q189 <| q198 <| q203 <| zo (F50_l0_3_ok K a5 a2.Prog a2.Source a2.Limit a2.Parts r164 K [] 0 _ h166) <| z0
  subst hx
  ob
  exact fpC hn50 <| q170 <| q171 <| q172 <| q189 <| q198 <| q203 <| zo (F50_l0_3_ok K a5 a2.Prog a2.Source a2.Limit a2.Parts r164 K [] 0 _ h166) <| z0
 ob
 exact fpC hn50 <| zl (F19_ok K a1 a2 _ h9) <| zT (ine_f h10) <| z0
def hn77 : Hint := { H 77 with nt := 66, prot := 0, kp := 0 }
def c77_0 : Code := loopOf E 77 0
def c77_1 : Code := loopOf E 77 1
def F77_res (r1 : List GMsg) : Res := ⟨[(.one (.own 78 (sE eGMsg r1)))], []⟩
def F77_l1_1 (K : Nat) (a1 : List GMsg) (v2 : Int) : Nat → List GMsg → Int → Option (List GMsg)
 | 0, _, _ => none
 | k + 1, v3, v4 =>
  bif (ilt 0 v4) then
   (bif (inr (wsub .i64 v4 1) (len v3)) then
   (elAt v3 (wsub .i64 v4 1)).bind fun x5 =>
   bif (inr v4 (len v3)) then
   (elAt v3 v4).bind fun x6 =>
   bif (ilt x5.To x6.To) then
    (some v3)
   else
   bif (ieq x5.To x6.To) then
    (bif (ile x5.V x6.V) then
     (some v3)
    else
    bif (inr v4 (len (α := GMsg) (putAt v3 (wsub .i64 v4 1) x6))) then
    (elAt (putAt v3 (wsub .i64 v4 1) x6) v4).bind fun x7 =>
    F77_l1_1 K a1 v2 k (putAt (putAt v3 (wsub .i64 v4 1) x6) v4 x5) (wsub .i64 v4 1)
    else none)
   else
   bif (inr v4 (len (α := GMsg) (putAt v3 (wsub .i64 v4 1) x6))) then
   (elAt (putAt v3 (wsub .i64 v4 1) x6) v4).bind fun x8 =>
   F77_l1_1 K a1 v2 k (putAt (putAt v3 (wsub .i64 v4 1) x6) v4 x5) (wsub .i64 v4 1)
   else none
   else none
   else none)
  else
  some v3
def F77_l1_1_S (a1 : List GMsg) (v2 : Int) (v3 : List GMsg) (v4 : Int) : TS := .on (kq 0 2 <| kq 192 2 <| kq 256 2 <| kq 320 2 <| []) <| sq 0 [u0, (uS eGMsg a1)] <| sq 192 [u0, (uO 78 eGMsg v3)] <| sq 256 [u0, (uI v2)] <| sq 320 [u0, (uI v4)] []
def F77_l1_1_X0 (a1 : List GMsg) (v2 : Int) (w3 : List GMsg) : TS := .on (kq 0 2 <| kq 192 2 <| kq 256 2 <| []) <| sq 0 [u0, (uS eGMsg a1)] <| sq 192 [u0, (uO 78 eGMsg w3)] <| sq 256 [u0, (uI v2)] []
theorem F77_l1_1_ok (K : Nat) (a1 : List GMsg) (v2 : Int) : ∀ (k : Nat) (v3 : List GMsg) (v4 : Int) (r : List GMsg), F77_l1_1 K a1 v2 k v3 v4 = some r → LoopEv E H hn77 2 c77_1 (F77_l1_1_S a1 v2 v3 v4) (.exit 2) (F77_l1_1_X0 a1 v2 r) := by
 intro k
 induction k with
 | zero => intro v3 v4 r hF; cases hF
 | succ k ih =>
  intro v3 v4 r hF
  rw [F77_l1_1] at hF
  cs h5
  ·
   cn h6
   bs x7 h8
   cn h9
   bs x10 h11
   have q21 {l} (z : HA hn77 l) := zT (igt_eq h5) <| zi (wsub .i64 v4 1) <| zT h6 <| zS eGMsg_len h8 2 <| zT h9 <| zS eGMsg_len h11 2 <| z
   cs h12
   ·
    ob
    exact lE <| q21 <| zA6 h12 <| zA1x h12 <| zr1 <| z0
   have q22 {l} (z : HA hn77 l) := zB6 h12 <| z
   cs h13
   ·
    have q23 {l} (z : HA hn77 l) := zC5 h13 <| zB1 h12 <| zT h13 <| zF h12 <| z
    cs h14
    ·
     ob
     exact lE <| q21 <| q22 <| q23 <| zT h14 <| z0
    cn h15
    bs x16 h17
    exact lN1 (q21 <| q22 <| q23 <| zF h14 <| zi (wsub .i64 v4 1) <| zT h6 <| zX (tt (lfits (nidx (wsub .i64 v4 1) 2) 2 (flat eGMsg v3))) (lfits_flat0 eGMsg_len h8 _ (by decide)) <| zX (.sl (len v3) (lset (flat eGMsg v3) (nidx (wsub .i64 v4 1) 2) [(i6 x10.To), (i6 x10.V)]) (len (α := GMsg) (putAt v3 (wsub .i64 v4 1) x10)) (flat eGMsg (putAt v3 (wsub .i64 v4 1) x10))) (set_ok0 eGMsg_len h8 _ (by simp) rfl) <| zT h15 <| zX (tt (lfits (nidx v4 2) 2 (flat eGMsg (putAt v3 (wsub .i64 v4 1) x10)))) (lfits_flat0 eGMsg_len h17 _ (by decide)) <| zX (.sl (len (α := GMsg) (putAt v3 (wsub .i64 v4 1) x10)) (lset (flat eGMsg (putAt v3 (wsub .i64 v4 1) x10)) (nidx v4 2) [(i6 x7.To), (i6 x7.V)]) (len (α := GMsg) (putAt (putAt v3 (wsub .i64 v4 1) x10) v4 x7)) (flat eGMsg (putAt (putAt v3 (wsub .i64 v4 1) x10) v4 x7))) (set_ok0 eGMsg_len h17 _ (by simp) rfl) <| zi (wsub .i64 v4 1) <| z0) (ih _ _ _ hF)
   cn h18
   bs x19 h20
   exact lN1 (q21 <| q22 <| zD5 h13 <| zB1 h12 <| zF h13 <| zF h12 <| zf1 <| zi (wsub .i64 v4 1) <| zT h6 <| zX (tt (lfits (nidx (wsub .i64 v4 1) 2) 2 (flat eGMsg v3))) (lfits_flat0 eGMsg_len h8 _ (by decide)) <| zX (.sl (len v3) (lset (flat eGMsg v3) (nidx (wsub .i64 v4 1) 2) [(i6 x10.To), (i6 x10.V)]) (len (α := GMsg) (putAt v3 (wsub .i64 v4 1) x10)) (flat eGMsg (putAt v3 (wsub .i64 v4 1) x10))) (set_ok0 eGMsg_len h8 _ (by simp) rfl) <| zT h18 <| zX (tt (lfits (nidx v4 2) 2 (flat eGMsg (putAt v3 (wsub .i64 v4 1) x10)))) (lfits_flat0 eGMsg_len h20 _ (by decide)) <| zX (.sl (len (α := GMsg) (putAt v3 (wsub .i64 v4 1) x10)) (lset (flat eGMsg (putAt v3 (wsub .i64 v4 1) x10)) (nidx v4 2) [(i6 x7.To), (i6 x7.V)]) (len (α := GMsg) (putAt (putAt v3 (wsub .i64 v4 1) x10) v4 x7)) (flat eGMsg (putAt (putAt v3 (wsub .i64 v4 1) x10) v4 x7))) (set_ok0 eGMsg_len h20 _ (by simp) rfl) <| zi (wsub .i64 v4 1) <| z0) (ih _ _ _ hF)
  ob
  exact lE <| zF (igt_eq h5) <| z0
def F77_l0_0 (K : Nat) (a1 : List GMsg) : Nat → List GMsg → Int → Option (List GMsg)
 | 0, _, _ => none
 | k + 1, v2, v3 =>
  bif (ilt v3 (nlen (len a1))) then
   (bif (inr v3 (len a1)) then
   (elAt a1 v3).bind fun x4 =>
   bif (apok (len v2) 1 16) then
   (F77_l1_1 K a1 v3 K (appL v2 [x4]) (wsub .i64 (nlen (len (α := GMsg) (appL v2 [x4]))) 1)).bind fun w5 =>
   F77_l0_0 K a1 k w5 (wadd .i64 v3 1)
   else none
   else none)
  else
  some v2
def F77_l0_0_S (a1 : List GMsg) (v2 : List GMsg) (v3 : Int) : TS := .on (kq 0 2 <| kq 192 2 <| kq 256 2 <| []) <| sq 0 [u0, (uS eGMsg a1)] <| sq 192 [u0, (uO 78 eGMsg v2)] <| sq 256 [u0, (uI v3)] []
def F77_l0_0_X0 (a1 : List GMsg) (w2 : List GMsg) : TS := .on (kq 192 2 <| []) <| sq 192 [u0, (uO 78 eGMsg w2)] []
theorem F77_l0_0_ok (K : Nat) (a1 : List GMsg) : ∀ (k : Nat) (v2 : List GMsg) (v3 : Int) (r : List GMsg), F77_l0_0 K a1 k v2 v3 = some r → LoopEv E H hn77 0 c77_0 (F77_l0_0_S a1 v2 v3) (.exit 0) (F77_l0_0_X0 a1 r) := by
 intro k
 induction k with
 | zero => intro v2 v3 r hF; cases hF
 | succ k ih =>
  intro v2 v3 r hF
  rw [F77_l0_0] at hF
  cs h4
  ·
   cn h5
   bs x6 h7
   cn h8
   bs w10 h9
   exact lN1 (zi (nl a1) <| zT h4 <| zT h5 <| zS eGMsg_len h7 2 <| zX (tt (leqm [(i6 x6.To), (i6 x6.V)] 1 2)) rfl <| zT h8 <| zV (app_ok (enc := eGMsg) (v2 : List GMsg) [x6]) <| zi (nlen (len (α := GMsg) (appL v2 [x6]))) <| zi (wsub .i64 (nlen (len (α := GMsg) (appL v2 [x6]))) 1) <| zo (F77_l1_1_ok K a1 v3 K (appL v2 [x6]) (wsub .i64 (nlen (len (α := GMsg) (appL v2 [x6]))) 1) _ h9) <| zi (wadd .i64 v3 1) <| z0) (ih _ _ _ hF)
  ob
  exact lE <| zi (nl a1) <| zF h4 <| z0
def F77 (K : Nat) (a1 : List GMsg) : Option (List GMsg) :=
 (F77_l0_0 K a1 K [] 0).bind fun w2 =>
 some w2
theorem F77_ok (K : Nat) (a1 : List GMsg) (r : List GMsg) (hF : F77 K a1 = some r) : Evt E H 77 [.one (sE eGMsg a1)] (F77_res r) := by
 rw [F77] at hF
 bs w3 h2
 ob
 exact fpC hn77 <| zo (F77_l0_0_ok K a1 K [] 0 _ h2) <| z0
def hn51 : Hint := { H 51 with nt := 68, prot := 0, kp := 0 }
def c51_0 : Code := loopOf E 51 0
def c51_1 : Code := loopOf E 51 1
def F51_res (r1 : List GMsg × Int) : Res := ⟨[(.one (.own 78 (sE eGMsg r1.1))), (.one (mI r1.2))], []⟩
def F51_l1_1 (K : Nat) (a1 : Int) (r2 : List GMsg) (v3 : List GMsg) (x4 : GMsg) : Nat → Int → Int → Option ((Int) ⊕ (Int × Int))
 | 0, _, _ => none
 | k + 1, v5, v6 =>
  bif (ilt v5 (nlen (len r2))) then
   (bif (inr v5 (len r2)) then
   (elAt r2 v5).bind fun x7 =>
   bif (ieq x7.To x4.To) then
    ((F74 K a1 v6 x7.V).bind fun r8 =>
    bif (ieq r8.2 0) then
     (F51_l1_1 K a1 r2 v3 x4 k (wadd .i64 v5 1) r8.1)
    else
    some (.inl r8.2))
   else
   some (.inr (v5, v6))
   else none)
  else
  some (.inr (v5, v6))
def F51_l1_1_S (a1 : Int) (r2 : List GMsg) (v3 : List GMsg) (x4 : GMsg) (v5 : Int) (v6 : Int) : TS := .on (kq 0 2 <| kq 384 2 <| kq 448 2 <| kq 512 2 <| kq 576 3 <| []) <| sq 0 [u0, (uI a1)] <| sq 384 [u0, (uO 78 eGMsg r2)] <| sq 448 [u0, (uO 78 eGMsg v3)] <| sq 512 [u0, (uI v5)] <| sq 576 [(uX 78 2), (uI x4.To), (uI v6)] []
def F51_l1_1_X0 (a1 : Int) (r2 : List GMsg) (v3 : List GMsg) (x4 : GMsg) (w5 : Int) : TS := .on (kq 256 2 <| kq 320 2 <| []) <| sq 256 [u0, (uN 78)] <| sq 320 [u0, (uI w5)] []
def F51_l1_1_X1 (a1 : Int) (r2 : List GMsg) (v3 : List GMsg) (x4 : GMsg) (w5 : Int × Int) : TS := .on (kq 0 2 <| kq 384 2 <| kq 448 2 <| kq 512 2 <| kq 576 3 <| []) <| sq 0 [u0, (uI a1)] <| sq 384 [u0, (uO 78 eGMsg r2)] <| sq 448 [u0, (uO 78 eGMsg v3)] <| sq 512 [u0, (uI w5.1)] <| sq 576 [(uX 78 2), (uI x4.To), (uI w5.2)] []
theorem F51_l1_1_ok (K : Nat) (a1 : Int) (r2 : List GMsg) (v3 : List GMsg) (x4 : GMsg) : ∀ (k : Nat) (v5 : Int) (v6 : Int) (r : (Int) ⊕ (Int × Int)), F51_l1_1 K a1 r2 v3 x4 k v5 v6 = some r → (Sum.elim (fun w => LoopEv E H hn51 2 c51_1 (F51_l1_1_S a1 r2 v3 x4 v5 v6) .ret (F51_l1_1_X0 a1 r2 v3 x4 w)) (fun w => LoopEv E H hn51 2 c51_1 (F51_l1_1_S a1 r2 v3 x4 v5 v6) (.exit 2) (F51_l1_1_X1 a1 r2 v3 x4 w))) r := by
 intro k
 induction k with
 | zero => intro v5 v6 r hF; cases hF
 | succ k ih =>
  intro v5 v6 r hF
  rw [F51_l1_1] at hF
  cs h7
  ·
   cn h8
   bs x9 h10
   have q15 {l} (z : HA hn51 l) := zi (nl r2) <| zC3 h7 <| zT h8 <| zC2 h7 <| zU eGMsg_len h10 0 1 <| zC3x h7 <| z
   cs h11
   ·
    bs r12 h13
    have q16 {l} (z : HA hn51 l) := zT h11 <| zT h8 <| zU eGMsg_len h10 1 1 <| zl (F74_ok K a1 v6 x9.V _ h13) <| z
    cs h14
    ·
     exact lN2 (q15 <| q16 <| zF (ine_t h14) <| zi (wadd .i64 v5 1) <| z0) (ih _ _ _ hF)
    ob
    exact lE <| q15 <| q16 <| zT (ine_f h14) <| z0
   ob
   exact lE <| q15 <| zF h11 <| z0
  ob
  exact lE <| zi (nl r2) <| zD6 h7 <| zD2x h7 <| zf1 <| z0
def F51_l0_0 (K : Nat) (a1 : Int) (r2 : List GMsg) : Nat → List GMsg → Int → Option ((Int) ⊕ (List GMsg))
 | 0, _, _ => none
 | k + 1, v3, v4 =>
  bif (ilt v4 (nlen (len r2))) then
   (bif (inr v4 (len r2)) then
   (elAt r2 v4).bind fun x5 =>
   (F51_l1_1 K a1 r2 v3 x5 K (wadd .i64 v4 1) x5.V).bind fun y6 =>
   Sum.elim (fun w7 =>
    some (.inl w7))
    (fun w8 =>
    bif (apok (len v3) 1 16) then
    F51_l0_0 K a1 r2 k (appL v3 [(GMsg.mk x5.To w8.2)]) w8.1
    else none) y6
   else none)
  else
  some (.inr v3)
def F51_l0_0_S (a1 : Int) (r2 : List GMsg) (v3 : List GMsg) (v4 : Int) : TS := .on (kq 0 2 <| kq 384 2 <| kq 448 2 <| kq 512 2 <| []) <| sq 0 [u0, (uI a1)] <| sq 384 [u0, (uO 78 eGMsg r2)] <| sq 448 [u0, (uO 78 eGMsg v3)] <| sq 512 [u0, (uI v4)] []
def F51_l0_0_X0 (a1 : Int) (r2 : List GMsg) (w3 : Int) : TS := .on (kq 256 2 <| kq 320 2 <| []) <| sq 256 [u0, (uN 78)] <| sq 320 [u0, (uI w3)] []
def F51_l0_0_X1 (a1 : Int) (r2 : List GMsg) (w3 : List GMsg) : TS := .on (kq 448 2 <| []) <| sq 448 [u0, (uO 78 eGMsg w3)] []
theorem F51_l0_0_ok (K : Nat) (a1 : Int) (r2 : List GMsg) : ∀ (k : Nat) (v3 : List GMsg) (v4 : Int) (r : (Int) ⊕ (List GMsg)), F51_l0_0 K a1 r2 k v3 v4 = some r → (Sum.elim (fun w => LoopEv E H hn51 0 c51_0 (F51_l0_0_S a1 r2 v3 v4) .ret (F51_l0_0_X0 a1 r2 w)) (fun w => LoopEv E H hn51 0 c51_0 (F51_l0_0_S a1 r2 v3 v4) (.exit 0) (F51_l0_0_X1 a1 r2 w))) r := by
 intro k
 induction k with
 | zero => intro v3 v4 r hF; cases hF
 | succ k ih =>
  intro v3 v4 r hF
  rw [F51_l0_0] at hF
  cs h5
  ·
   cn h6
   bs x7 h8
   have q14 {l} (z : HA hn51 l) := zi (nl r2) <| zT h5 <| zT h6 <| zS eGMsg_len h8 2 <| zi (wadd .i64 v4 1) <| z
   bs y10 h9
   ss w11 w12
   ·
    subst hx
    ob
    exact lE <| q14 <| zo (F51_l1_1_ok K a1 r2 v3 x7 K (wadd .i64 v4 1) x7.V _ h9) <| z0
   subst hx
   cn h13
   exact lN2 (q14 <| zo (F51_l1_1_ok K a1 r2 v3 x7 K (wadd .i64 v4 1) x7.V _ h9) <| zX (tt (leqm [(i6 x7.To), (i6 w12.2)] 1 2)) rfl <| zT h13 <| zV (app_ok (enc := eGMsg) (v3 : List GMsg) [(GMsg.mk x7.To w12.2)]) <| z0) (ih _ _ _ hF)
  ob
  exact lE <| zi (nl r2) <| zF h5 <| z0
def F51 (K : Nat) (a1 : Int) (a2 : List GMsg) : Option (List GMsg × Int) :=
 bif (ilt a1 1) then
  (some ([], 1))
 else
 bif (ilt 5 a1) then
  (some ([], 1))
 else
 (F77 K a2).bind fun r3 =>
 (F51_l0_0 K a1 r3 K [] 0).bind fun y4 =>
 Sum.elim (fun w5 =>
  some ([], w5))
  (fun w6 =>
  some (w6, 0)) y4
theorem F51_ok (K : Nat) (a1 : Int) (a2 : List GMsg) (r : List GMsg × Int) (hF : F51 K a1 a2 = some r) : Evt E H 51 [.one (i6 a1), .one (sE eGMsg a2)] (F51_res r) := by
 rw [F51] at hF
 cs h3
 ·
  ob
  exact fpC hn51 <| zA2x h3 <| zr1 <| z0
 have q11 {l} (z : HA hn51 l) := zB2x h3 <| z
 cs h4
 ·
  ob
  exact fpC hn51 <| q11 <| zT (igt_eq h4) <| z0
 bs r5 h6
 have q12 {l} (z : HA hn51 l) := zF (igt_eq h4) <| zl (F77_ok K a2 _ h6) <| z
 bs y8 h7
 ss w9 w10
 ·
  subst hx
  ob
  exact fpC hn51 <| q11 <| q12 <| zo (F51_l0_0_ok K a1 r5 K [] 0 _ h7) <| z0
 subst hx
 ob
 exact fpC hn51 <| q11 <| q12 <| zo (F51_l0_0_ok K a1 r5 K [] 0 _ h7) <| z0
def hn23 : Hint := { H 23 with nt := 117, prot := 0, kp := 0 }
def c23_0 : Code := loopOf E 23 0
def F23_res (r1 : GState × Int) : Res := ⟨[(.agg [(mI r1.1.Step), (.own 2 (sE e6 r1.1.Vals)), (.own 4 (sE eBool r1.1.Rest)), (.own 78 (sE eGMsg r1.1.In))]), (.one (mI r1.2))], []⟩
def F23_l0_0 (K : Nat) (a1 : GGraph) (a2 : GJob) (a3 : GState) : Nat → List Int → List Bool → List GMsg → Int → Option ((Int) ⊕ (List Int × List Bool × List GMsg))
 | 0, _, _, _, _ => none
 | k + 1, v4, v5, v6, v7 =>
  bif (ilt v7 a1.N) then
   ((F49 K a3.In v7).bind fun r8 =>
   bif (inr v7 (len a3.Vals)) then
   (elAt a3.Vals v7).bind fun x9 =>
   bif r8.2 then
    ((F50 K a1 a2 a3.Step v7 x9 r8.1 r8.2).bind fun r10 =>
    bif (ieq r10.E 0) then
     (bif (apok (len v4) 1 8) then
     bif (apok (len v5) 1 1) then
     bif (apok (len v6) (len r10.Out) 16) then
     F23_l0_0 K a1 a2 a3 k (appL v4 [r10.Val]) (appL v5 [r10.Rest]) (appL v6 r10.Out) (wadd .i64 v7 1)
     else none
     else none
     else none)
    else
    some (.inl r10.E))
   else
   bif (inr v7 (len a3.Rest)) then
   (elAt a3.Rest v7).bind fun x11 =>
   bif x11 then
    (bif (apok (len v4) 1 8) then
    bif (apok (len v5) 1 1) then
    bif (apok (len v6) 0 16) then
    F23_l0_0 K a1 a2 a3 k (appL v4 [x9]) (appL v5 [true]) (appL v6 []) (wadd .i64 v7 1)
    else none
    else none
    else none)
   else
   (F50 K a1 a2 a3.Step v7 x9 r8.1 r8.2).bind fun r12 =>
   bif (ieq r12.E 0) then
    (bif (apok (len v4) 1 8) then
    bif (apok (len v5) 1 1) then
    bif (apok (len v6) (len r12.Out) 16) then
    F23_l0_0 K a1 a2 a3 k (appL v4 [r12.Val]) (appL v5 [r12.Rest]) (appL v6 r12.Out) (wadd .i64 v7 1)
    else none
    else none
    else none)
   else
   some (.inl r12.E)
   else none
   else none)
  else
  some (.inr (v4, (v5, v6)))
def F23_l0_0_S (a1 : GGraph) (a2 : GJob) (a3 : GState) (v4 : List Int) (v5 : List Bool) (v6 : List GMsg) (v7 : Int) : TS := .on (kq 192 3 <| kq 256 5 <| kq 320 5 <| kq 384 5 <| kq 576 5 <| kq 640 2 <| kq 704 2 <| []) <| b0 192 a1 <| b1 256 a2 <| b5 320 a3 <| b7 384 <| sq 576 [(uX 74 4), (uI (wadd .i64 a3.Step 1)), (uO 2 e6 v4), (uO 4 eBool v5), (uN 78)] <| sq 640 [u0, (uO 78 eGMsg v6)] <| sq 704 [u0, (uI v7)] []
def F23_l0_0_X0 (a1 : GGraph) (a2 : GJob) (a3 : GState) (w4 : Int) : TS := .on (kq 384 5 <| kq 448 2 <| []) <| b7 384 <| sq 448 [u0, (uI w4)] []
def F23_l0_0_X1 (a1 : GGraph) (a2 : GJob) (a3 : GState) (w4 : List Int × List Bool × List GMsg) : TS := .on (kq 256 5 <| kq 384 5 <| kq 576 5 <| kq 640 2 <| []) <| b1 256 a2 <| b7 384 <| sq 576 [(uX 74 4), (uI (wadd .i64 a3.Step 1)), (uO 2 e6 w4.1), (uO 4 eBool w4.2.1), (uN 78)] <| sq 640 [u0, (uO 78 eGMsg w4.2.2)] []
theorem F23_l0_0_ok (K : Nat) (a1 : GGraph) (a2 : GJob) (a3 : GState) : ∀ (k : Nat) (v4 : List Int) (v5 : List Bool) (v6 : List GMsg) (v7 : Int) (r : (Int) ⊕ (List Int × List Bool × List GMsg)), F23_l0_0 K a1 a2 a3 k v4 v5 v6 v7 = some r → (Sum.elim (fun w => LoopEv E H hn23 0 c23_0 (F23_l0_0_S a1 a2 a3 v4 v5 v6 v7) .ret (F23_l0_0_X0 a1 a2 a3 w)) (fun w => LoopEv E H hn23 0 c23_0 (F23_l0_0_S a1 a2 a3 v4 v5 v6 v7) (.exit 0) (F23_l0_0_X1 a1 a2 a3 w))) r := by
 intro k
 induction k with
 | zero => intro v4 v5 v6 v7 r hF; cases hF
 | succ k ih =>
  intro v4 v5 v6 v7 r hF
  rw [F23_l0_0] at hF
  cs h8
  ·
   bs r9 h10
   cn h11
   bs x12 h13
   have q34 {l} (z : HA hn23 l) := zT h8 <| zl (F49_ok K a3.In v7 _ h10) <| zT h11 <| zX (.sub (flat e6 a3.Vals) (nidx v7 1) 1 [(i6 x12)]) ⟨rfl, sub_flat0 (eInt_len _) h13 1 (by decide)⟩ <| z
   cs h14
   ·
    bs r15 h16
    have q35 {l} (z : HA hn23 l) := zA6x h14 <| zr1 <| zT h11 <| zX (.sub (flat e6 a3.Vals) (nidx v7 1) 1 [(i6 x12)]) ⟨rfl, sub_flat0 (eInt_len _) h13 1 (by decide)⟩ <| zl (F50_ok K a1 a2 a3.Step v7 x12 r9.1 r9.2 _ h16) <| z
    cs h17
    ·
     cn h18
     cn h19
     cn h20
     exact lN2 (q34 <| q35 <| zF (ine_t h17) <| zX (tt (leqm [(i6 r15.Val)] 1 1)) rfl <| zT h18 <| zV (app_ok (enc := e6) (v4 : List Int) [r15.Val]) <| zX (tt (leqm [(.lit (.bool r15.Rest))] 1 1)) rfl <| zT h19 <| zV (app_ok (enc := eBool) (v5 : List Bool) [r15.Rest]) <| zX (tt (leqm (flat eGMsg r15.Out) (len r15.Out) 2)) (leqm_flat eGMsg_len _) <| zT h20 <| zV (app_ok (enc := eGMsg) (v6 : List GMsg) r15.Out) <| zi (wadd .i64 v7 1) <| z0) (ih _ _ _ _ _ hF)
    ob
    exact lE <| q34 <| q35 <| zT (ine_f h17) <| z0
   cn h21
   bs x22 h23
   have q36 {l} (z : HA hn23 l) := zB4 h14 <| zT h21 <| zB1 h14 <| zS eBool_len h23 1 <| zB1x h14 <| z
   cs h24
   ·
    cn h25
    cn h26
    cn h27
    exact lN2 (q34 <| q36 <| zF (bnot_t h24) <| zY (ff (ine 0 0)) <| zX (tt (leqm [(i6 x12)] 1 1)) rfl <| zT h25 <| zV (app_ok (enc := e6) (v4 : List Int) [x12]) <| zX (tt (leqm [(.lit (.bool true))] 1 1)) rfl <| zT h26 <| zV (app_ok (enc := eBool) (v5 : List Bool) [true]) <| zX (tt (leqm [] 0 2)) rfl <| zT h27 <| zV (app_ok (enc := eGMsg) (v6 : List GMsg) []) <| zi (wadd .i64 v7 1) <| z0) (ih _ _ _ _ _ hF)
   bs r28 h29
   have q37 {l} (z : HA hn23 l) := zT (bnot_f h24) <| zT h11 <| zX (.sub (flat e6 a3.Vals) (nidx v7 1) 1 [(i6 x12)]) ⟨rfl, sub_flat0 (eInt_len _) h13 1 (by decide)⟩ <| zl (F50_ok K a1 a2 a3.Step v7 x12 r9.1 r9.2 _ h29) <| z
   cs h30
   ·
    cn h31
    cn h32
    cn h33
    exact lN2 (q34 <| q36 <| q37 <| zF (ine_t h30) <| zX (tt (leqm [(i6 r28.Val)] 1 1)) rfl <| zT h31 <| zV (app_ok (enc := e6) (v4 : List Int) [r28.Val]) <| zX (tt (leqm [(.lit (.bool r28.Rest))] 1 1)) rfl <| zT h32 <| zV (app_ok (enc := eBool) (v5 : List Bool) [r28.Rest]) <| zX (tt (leqm (flat eGMsg r28.Out) (len r28.Out) 2)) (leqm_flat eGMsg_len _) <| zT h33 <| zV (app_ok (enc := eGMsg) (v6 : List GMsg) r28.Out) <| zi (wadd .i64 v7 1) <| z0) (ih _ _ _ _ _ hF)
   ob
   exact lE <| q34 <| q36 <| q37 <| zT (ine_f h30) <| z0
  ob
  exact lE <| zF h8 <| z0
def F23 (K : Nat) (a1 : GGraph) (a2 : GJob) (a3 : GState) : Option (GState × Int) :=
 (F19 K a1 a2).bind fun r4 =>
 bif (ieq r4 0) then
  ((F20 K a1 a2 a3).bind fun r5 =>
  bif r5 then
   (bif (ieq a3.Step 40) then
    (some ((GState.mk 0 [] [] []), 6))
   else
   (F23_l0_0 K a1 a2 a3 K [] [] [] 0).bind fun y6 =>
   Sum.elim (fun w7 =>
    some ((GState.mk 0 [] [] []), w7))
    (fun w8 =>
    (F51 K a2.Prog w8.2.2).bind fun r9 =>
    bif (ieq r9.2 0) then
     (some ((GState.mk (wadd .i64 a3.Step 1) w8.1 w8.2.1 r9.1), 0))
    else
    some ((GState.mk 0 [] [] []), r9.2)) y6)
  else
  some ((GState.mk 0 [] [] []), 1))
 else
 some ((GState.mk 0 [] [] []), r4)
theorem F23_ok (K : Nat) (a1 : GGraph) (a2 : GJob) (a3 : GState) (r : GState × Int) (hF : F23 K a1 a2 a3 = some r) : Evt E H 23 [.agg (eGGraph a1), .agg (eGJob a2), .agg (eGState a3)] (F23_res r) := by
 rw [F23] at hF
 bs r4 h5
 cs h6
 ·
  bs r7 h8
  have q18 {l} (z : HA hn23 l) := zl (F19_ok K a1 a2 _ h5) <| zF (ine_t h6) <| zl (F20_ok K a1 a2 a3 _ h8) <| z
  cs h9
  ·
   cs h10
   ·
    ob
    exact fpC hn23 <| q18 <| zF (bnot_t h9) <| zT h10 <| z0
   have q19 {l} (z : HA hn23 l) := zF (bnot_t h9) <| zF h10 <| zi (wadd .i64 a3.Step 1) <| z
   bs y12 h11
   ss w13 w14
   ·
    subst hx
    ob
    exact fpC hn23 <| q18 <| q19 <| zo (F23_l0_0_ok K a1 a2 a3 K [] [] [] 0 _ h11) <| z0
   subst hx
   bs r15 h16
   have q20 {l} (z : HA hn23 l) := zo (F23_l0_0_ok K a1 a2 a3 K [] [] [] 0 _ h11) <| zl (F51_ok K a2.Prog w14.2.2 _ h16) <| z
   cs h17
   ·
    ob
    exact fpC hn23 <| q18 <| q19 <| q20 <| zF (ine_t h17) <| z0
   ob
   exact fpC hn23 <| q18 <| q19 <| q20 <| zT (ine_f h17) <| z0
  ob
  exact fpC hn23 <| q18 <| zT (bnot_f h9) <| z0
 ob
 exact fpC hn23 <| zl (F19_ok K a1 a2 _ h5) <| zT (ine_f h6) <| z0
def hn24 : Hint := { H 24 with nt := 133, prot := 0, kp := 0 }
def c24_0 : Code := loopOf E 24 0
def c24_1 : Code := loopOf E 24 1
def c24_2 : Code := loopOf E 24 2
def F24_res (r1 : GState × Int) : Res := ⟨[(.agg [(mI r1.1.Step), (.own 2 (sE e6 r1.1.Vals)), (.own 4 (sE eBool r1.1.Rest)), (.own 78 (sE eGMsg r1.1.In))]), (.one (mI r1.2))], []⟩
def F24_l0_0 (K : Nat) (a1 : GGraph) (a2 : GJob) (a3 : List GPart) : Nat → Int → Option ((Unit) ⊕ (Unit))
 | 0, _ => none
 | k + 1, v4 =>
  bif (ilt v4 (nlen (len a3))) then
   (bif (inr v4 (len a3)) then
   (elAt a3 v4).bind fun x5 =>
   bif (ieq x5.P v4) then
    (bif (inr 0 (len a3)) then
    (elAt a3 0).bind fun x6 =>
    bif (ieq x5.Step x6.Step) then
     ((F17 K a1 a2 x5).bind fun r7 =>
     bif r7 then
      (F24_l0_0 K a1 a2 a3 k (wadd .i64 v4 1))
     else
     some (.inl ()))
    else
    some (.inl ())
    else none)
   else
   some (.inl ())
   else none)
  else
  some (.inr ())
def F24_l0_0_S (a1 : GGraph) (a2 : GJob) (a3 : List GPart) (v4 : Int) : TS := .on (kq 128 2 <| kq 192 3 <| kq 256 5 <| kq 384 5 <| kq 576 2 <| []) <| sq 128 [u0, (uS eGPart a3)] <| b0 192 a1 <| b1 256 a2 <| b7 384 <| sq 576 [u0, (uI v4)] []
def F24_l0_0_X0 (a1 : GGraph) (a2 : GJob) (a3 : List GPart) (w4 : Unit) : TS := .on (kq 384 5 <| kq 448 2 <| []) <| b7 384 <| sq 448 [u0, (uI 1)] []
def F24_l0_0_X1 (a1 : GGraph) (a2 : GJob) (a3 : List GPart) (w4 : Unit) : TS := .on (kq 128 2 <| kq 192 3 <| kq 256 5 <| kq 384 5 <| []) <| sq 128 [u0, (uS eGPart a3)] <| b0 192 a1 <| b1 256 a2 <| b7 384 []
theorem F24_l0_0_ok (K : Nat) (a1 : GGraph) (a2 : GJob) (a3 : List GPart) : ∀ (k : Nat) (v4 : Int) (r : (Unit) ⊕ (Unit)), F24_l0_0 K a1 a2 a3 k v4 = some r → (Sum.elim (fun w => LoopEv E H hn24 0 c24_0 (F24_l0_0_S a1 a2 a3 v4) .ret (F24_l0_0_X0 a1 a2 a3 w)) (fun w => LoopEv E H hn24 0 c24_0 (F24_l0_0_S a1 a2 a3 v4) (.exit 0) (F24_l0_0_X1 a1 a2 a3 w))) r := by
 intro k
 induction k with
 | zero => intro v4 r hF; cases hF
 | succ k ih =>
  intro v4 r hF
  rw [F24_l0_0] at hF
  cs h5
  ·
   cn h6
   bs x7 h8
   have q17 {l} (z : HA hn24 l) := zi (nl a3) <| zT h5 <| zT h6 <| zU eGPart_len h8 0 1 <| z
   cs h9
   ·
    cn h10
    bs x11 h12
    have q18 {l} (z : HA hn24 l) := zB3 (ine_t h9) <| zT h6 <| zB2 (ine_t h9) <| zU eGPart_len h8 1 1 <| zB2 (ine_t h9) <| zT h10 <| zB2 (ine_t h9) <| zU eGPart_len h12 1 1 <| zB1x (ine_t h9) <| z
    cs h13
    ·
     bs r14 h15
     have q19 {l} (z : HA hn24 l) := zB5 (ine_t h13) <| zT h6 <| zB1 (ine_t h13) <| zS eGPart_len h8 5 <| zB1 (ine_t h13) <| zl (F17_ok K a1 a2 x7 _ h15) <| zB1x (ine_t h13) <| z
     cs h16
     ·
      exact lN2 (q17 <| q18 <| q19 <| zF (bnot_t h16) <| zi (wadd .i64 v4 1) <| z0) (ih _ _ hF)
     ob
     exact lE <| q17 <| q18 <| q19 <| zT (bnot_f h16) <| z0
    ob
    exact lE <| q17 <| q18 <| zA6 (ine_f h13) <| zA2x (ine_f h13) <| zr1 <| z0
   ob
   exact lE <| q17 <| zA6 (ine_f h9) <| zA4x (ine_f h9) <| zt6 <| zt2 <| zr2 <| z0
  ob
  exact lE <| zi (nl a3) <| zF h5 <| z0
def F24_l2_2 (K : Nat) (a1 : GGraph) (a2 : GJob) (a3 : List GPart) (x4 : GPart) (v5 : List Int) (v6 : List Bool) (v7 : Int) (x8 : GPart) (x9 : Int) (x10 : Bool) : Nat → List GMsg → Int → Option (List GMsg)
 | 0, _, _ => none
 | k + 1, v11, v12 =>
  bif (ilt v12 (nlen (len x8.In))) then
   (bif (inr v12 (len x8.In)) then
   (elAt x8.In v12).bind fun x13 =>
   bif (ieq x13.To v7) then
    (bif (apok (len v11) 1 16) then
    F24_l2_2 K a1 a2 a3 x4 v5 v6 v7 x8 x9 x10 k (appL v11 [x13]) (wadd .i64 v12 1)
    else none)
   else
   F24_l2_2 K a1 a2 a3 x4 v5 v6 v7 x8 x9 x10 k v11 (wadd .i64 v12 1)
   else none)
  else
  some v11
def F24_l2_2_S (a1 : GGraph) (a2 : GJob) (a3 : List GPart) (x4 : GPart) (v5 : List Int) (v6 : List Bool) (v7 : Int) (x8 : GPart) (x9 : Int) (x10 : Bool) (v11 : List GMsg) (v12 : Int) : TS := .on (kq 128 2 <| kq 192 3 <| kq 256 5 <| kq 384 5 <| kq 640 5 <| kq 704 2 <| kq 768 6 <| kq 832 2 <| []) <| sq 128 [u0, (uS eGPart a3)] <| b0 192 a1 <| b1 256 a2 <| b7 384 <| sq 640 [(uX 74 4), (uI x4.Step), (uO 2 e6 (appL v5 [x9])), (uO 4 eBool (appL v6 [x10])), (uO 78 eGMsg v11)] <| sq 704 [u0, (uI v7)] <| b8 768 x8 <| sq 832 [u0, (uI v12)] []
def F24_l2_2_X0 (a1 : GGraph) (a2 : GJob) (a3 : List GPart) (x4 : GPart) (v5 : List Int) (v6 : List Bool) (v7 : Int) (x8 : GPart) (x9 : Int) (x10 : Bool) (w11 : List GMsg) : TS := .on (kq 128 2 <| kq 192 3 <| kq 256 5 <| kq 384 5 <| kq 640 5 <| kq 704 2 <| []) <| sq 128 [u0, (uS eGPart a3)] <| b0 192 a1 <| b1 256 a2 <| b7 384 <| sq 640 [(uX 74 4), (uI x4.Step), (uO 2 e6 (appL v5 [x9])), (uO 4 eBool (appL v6 [x10])), (uO 78 eGMsg w11)] <| sq 704 [u0, (uI v7)] []
theorem F24_l2_2_ok (K : Nat) (a1 : GGraph) (a2 : GJob) (a3 : List GPart) (x4 : GPart) (v5 : List Int) (v6 : List Bool) (v7 : Int) (x8 : GPart) (x9 : Int) (x10 : Bool) : ∀ (k : Nat) (v11 : List GMsg) (v12 : Int) (r : List GMsg), F24_l2_2 K a1 a2 a3 x4 v5 v6 v7 x8 x9 x10 k v11 v12 = some r → LoopEv E H hn24 4 c24_2 (F24_l2_2_S a1 a2 a3 x4 v5 v6 v7 x8 x9 x10 v11 v12) (.exit 4) (F24_l2_2_X0 a1 a2 a3 x4 v5 v6 v7 x8 x9 x10 r) := by
 intro k
 induction k with
 | zero => intro v11 v12 r hF; cases hF
 | succ k ih =>
  intro v11 v12 r hF
  rw [F24_l2_2] at hF
  cs h13
  ·
   cn h14
   bs x15 h16
   have q19 {l} (z : HA hn24 l) := zi (nl x8.In) <| zT h13 <| zT h14 <| zU eGMsg_len h16 0 1 <| z
   cs h17
   ·
    cn h18
    exact lN1 (q19 <| zT h17 <| zT h14 <| zS eGMsg_len h16 2 <| zX (tt (leqm [(i6 x15.To), (i6 x15.V)] 1 2)) rfl <| zT h18 <| zV (app_ok (enc := eGMsg) (v11 : List GMsg) [x15]) <| zi (wadd .i64 v12 1) <| z0) (ih _ _ _ hF)
   exact lN1 (q19 <| zF h17 <| zi (wadd .i64 v12 1) <| z0) (ih _ _ _ hF)
  ob
  exact lE <| zi (nl x8.In) <| zF h13 <| z0
def F24_l1_1 (K : Nat) (a1 : GGraph) (a2 : GJob) (a3 : List GPart) (x4 : GPart) : Nat → List Int → List Bool → List GMsg → Int → Option (List Int × List Bool × List GMsg)
 | 0, _, _, _, _ => none
 | k + 1, v5, v6, v7, v8 =>
  bif (ilt v8 a1.N) then
   (bif (izero a2.Parts) then none else
   bif (inr (wrem v8 a2.Parts) (len a3)) then
   (elAt a3 (wrem v8 a2.Parts)).bind fun x9 =>
   bif (inr (wquo .i64 v8 a2.Parts) (len x9.Vals)) then
   (elAt x9.Vals (wquo .i64 v8 a2.Parts)).bind fun x10 =>
   bif (apok (len v5) 1 8) then
   bif (inr (wquo .i64 v8 a2.Parts) (len x9.Rest)) then
   (elAt x9.Rest (wquo .i64 v8 a2.Parts)).bind fun x11 =>
   bif (apok (len v6) 1 1) then
   (F24_l2_2 K a1 a2 a3 x4 v5 v6 v8 x9 x10 x11 K v7 0).bind fun w12 =>
   F24_l1_1 K a1 a2 a3 x4 k (appL v5 [x10]) (appL v6 [x11]) w12 (wadd .i64 v8 1)
   else none
   else none
   else none
   else none
   else none)
  else
  some (v5, (v6, v7))
def F24_l1_1_S (a1 : GGraph) (a2 : GJob) (a3 : List GPart) (x4 : GPart) (v5 : List Int) (v6 : List Bool) (v7 : List GMsg) (v8 : Int) : TS := .on (kq 128 2 <| kq 192 3 <| kq 256 5 <| kq 384 5 <| kq 640 5 <| kq 704 2 <| []) <| sq 128 [u0, (uS eGPart a3)] <| b0 192 a1 <| b1 256 a2 <| b7 384 <| sq 640 [(uX 74 4), (uI x4.Step), (uO 2 e6 v5), (uO 4 eBool v6), (uO 78 eGMsg v7)] <| sq 704 [u0, (uI v8)] []
def F24_l1_1_X0 (a1 : GGraph) (a2 : GJob) (a3 : List GPart) (x4 : GPart) (w5 : List Int × List Bool × List GMsg) : TS := .on (kq 384 5 <| kq 640 5 <| []) <| b7 384 <| sq 640 [(uX 74 4), (uI x4.Step), (uO 2 e6 w5.1), (uO 4 eBool w5.2.1), (uO 78 eGMsg w5.2.2)] []
theorem F24_l1_1_ok (K : Nat) (a1 : GGraph) (a2 : GJob) (a3 : List GPart) (x4 : GPart) : ∀ (k : Nat) (v5 : List Int) (v6 : List Bool) (v7 : List GMsg) (v8 : Int) (r : List Int × List Bool × List GMsg), F24_l1_1 K a1 a2 a3 x4 k v5 v6 v7 v8 = some r → LoopEv E H hn24 2 c24_1 (F24_l1_1_S a1 a2 a3 x4 v5 v6 v7 v8) (.exit 2) (F24_l1_1_X0 a1 a2 a3 x4 r) := by
 intro k
 induction k with
 | zero => intro v5 v6 v7 v8 r hF; cases hF
 | succ k ih =>
  intro v5 v6 v7 v8 r hF
  rw [F24_l1_1] at hF
  cs h9
  ·
   refine cond_some hF (fun _ hF => nomatch hF) (fun h10 hF => ?_)
   cn h11
   bs x12 h13
   cn h14
   bs x15 h16
   cn h17
   cn h18
   bs x19 h20
   cn h21
   bs w23 h22
   exact lN1 (zT h9 <| zF h10 <| zi (wrem v8 a2.Parts) <| zT h11 <| zS eGPart_len h13 5 <| zF h10 <| zi (wquo .i64 v8 a2.Parts) <| zT h14 <| zX (.sub (flat e6 x12.Vals) (nidx (wquo .i64 v8 a2.Parts) 1) 1 [(i6 x15)]) ⟨rfl, sub_flat0 (eInt_len _) h16 1 (by decide)⟩ <| zX (tt (leqm [(i6 x15)] 1 1)) rfl <| zT h17 <| zV (app_ok (enc := e6) (v5 : List Int) [x15]) <| zF h10 <| zi (wquo .i64 v8 a2.Parts) <| zT h18 <| zS eBool_len h20 1 <| zX (tt (leqm [(.lit (.bool x19))] 1 1)) rfl <| zT h21 <| zV (app_ok (enc := eBool) (v6 : List Bool) [x19]) <| zo (F24_l2_2_ok K a1 a2 a3 x4 v5 v6 v8 x12 x15 x19 K v7 0 _ h22) <| zi (wadd .i64 v8 1) <| z0) (ih _ _ _ _ _ hF)
  ob
  exact lE <| zF h9 <| z0
def F24 (K : Nat) (a1 : GGraph) (a2 : GJob) (a3 : List GPart) : Option (GState × Int) :=
 (F19 K a1 a2).bind fun r4 =>
 bif (ieq r4 0) then
  (bif (ieq (nlen (len a3)) a2.Parts) then
   ((F24_l0_0 K a1 a2 a3 K 0).bind fun y5 =>
   Sum.elim (fun w6 =>
    some ((GState.mk 0 [] [] []), 1))
    (fun w7 =>
    bif (inr 0 (len a3)) then
    (elAt a3 0).bind fun x8 =>
    (F24_l1_1 K a1 a2 a3 x8 K [] [] [] 0).bind fun w9 =>
    some ((GState.mk x8.Step w9.1 w9.2.1 w9.2.2), 0)
    else none) y5)
  else
  some ((GState.mk 0 [] [] []), 1))
 else
 some ((GState.mk 0 [] [] []), r4)
theorem F24_ok (K : Nat) (a1 : GGraph) (a2 : GJob) (a3 : List GPart) (r : GState × Int) (hF : F24 K a1 a2 a3 = some r) : Evt E H 24 [.agg (eGGraph a1), .agg (eGJob a2), .one (sE eGPart a3)] (F24_res r) := by
 rw [F24] at hF
 bs r4 h5
 cs h6
 ·
  have q17 {l} (z : HA hn24 l) := zl (F19_ok K a1 a2 _ h5) <| zF (ine_t h6) <| zi (nl a3) <| z
  cs h7
  ·
   bs y9 h8
   ss w10 w11
   ·
    subst hx
    ob
    exact fpC hn24 <| q17 <| zF (ine_t h7) <| zo (F24_l0_0_ok K a1 a2 a3 K 0 _ h8) <| z0
   subst hx
   cn h12
   bs x13 h14
   bs w16 h15
   ob
   exact fpC hn24 <| q17 <| zF (ine_t h7) <| zo (F24_l0_0_ok K a1 a2 a3 K 0 _ h8) <| zT h12 <| zU eGPart_len h14 1 1 <| zo (F24_l1_1_ok K a1 a2 a3 x13 K [] [] [] 0 _ h15) <| z0
  ob
  exact fpC hn24 <| q17 <| zT (ine_f h7) <| z0
 ob
 exact fpC hn24 <| zl (F19_ok K a1 a2 _ h5) <| zT (ine_f h6) <| z0
def hn25 : Hint := { H 25 with nt := 31, prot := 0, kp := 0 }
def F25_res (r1 : Bool) : Res := ⟨[(.one (mB r1))], []⟩
def F25 (K : Nat) (a1 : GState) (a2 : GState) : Option (Bool) :=
 bif (ieq a1.Step a2.Step) then
  ((F52 K a1.Vals a2.Vals).bind fun r3 =>
  bif r3 then
   ((F53 K a1.Rest a2.Rest).bind fun r4 =>
   bif r4 then
    ((F37 K a1.In a2.In).bind fun r5 =>
    some r5)
   else
   some false)
  else
  some false)
 else
 some false
theorem F25_ok (K : Nat) (a1 : GState) (a2 : GState) (r : Bool) (hF : F25 K a1 a2 = some r) : Evt E H 25 [.agg (eGState a1), .agg (eGState a2)] (F25_res r) := by
 rw [F25] at hF
 cs h3
 ·
  bs r4 h5
  have q12 {l} (z : HA hn25 l) := zC5 h3 <| zl (F52_ok K a1.Vals a2.Vals _ h5) <| zT h3 <| z
  cs h6
  ·
   bs r7 h8
   have q13 {l} (z : HA hn25 l) := zC5 h6 <| zl (F53_ok K a1.Rest a2.Rest _ h8) <| zT h6 <| z
   cs h9
   ·
    bs r10 h11
    ob
    exact fpC hn25 <| q12 <| q13 <| zC5 h9 <| zl (F37_ok K a1.In a2.In _ h11) <| zT h9 <| z0
   ob
   exact fpC hn25 <| q12 <| q13 <| zD5x h9 <| z0
  ob
  exact fpC hn25 <| q12 <| zD5x h6 <| zk5 <| zf1 <| z0
 ob
 exact fpC hn25 <| zD5x h3 <| zk5 <| zf1 <| zk5 <| zf1 <| z0
def hn78 : Hint := { H 78 with nt := 9, prot := 0, kp := 0 }
def F78_res (r1 : Bool) : Res := ⟨[(.one (mB r1))], []⟩
def F78 (K : Nat) (a1 : Int) : Option (Bool) :=
 bif (ile 0 a1) then
  (some (ile a1 1099511627776))
 else
 some false
theorem F78_ok (K : Nat) (a1 : Int) (r : Bool) (hF : F78 K a1 = some r) : Evt E H 78 [.one (i6 a1)] (F78_res r) := by
 rw [F78] at hF
 cs h2
 ·
  ob
  exact fpC hn78 <| zC2x (ige_eq h2) <| z0
 ob
 exact fpC hn78 <| zD2x (ige_eq h2) <| z0
def hn54 : Hint := { H 54 with nt := 22, prot := 0, kp := 0 }
def c54_0 : Code := loopOf E 54 0
def F54_res (r1 : Bool) : Res := ⟨[(.one (mB r1))], []⟩
def F54_l0_0 (K : Nat) (a1 : List Int) (a2 : Int) : Nat → Int → Option ((Unit) ⊕ (Unit))
 | 0, _ => none
 | k + 1, v3 =>
  bif (ilt v3 (nlen (len a1))) then
   (bif (inr v3 (len a1)) then
   (elAt a1 v3).bind fun x4 =>
   (F78 K x4).bind fun r5 =>
   bif r5 then
    (F54_l0_0 K a1 a2 k (wadd .i64 v3 1))
   else
   some (.inl ())
   else none)
  else
  some (.inr ())
def F54_l0_0_S (a1 : List Int) (a2 : Int) (v3 : Int) : TS := .on (kq 0 2 <| kq 64 2 <| kq 320 2 <| []) <| sq 0 [u0, (uS e6 a1)] <| sq 64 [u0, (uI a2)] <| sq 320 [u0, (uI v3)] []
def F54_l0_0_X0 (a1 : List Int) (a2 : Int) (w3 : Unit) : TS := .on (kq 256 2 <| []) <| sq 256 [u0, (uB false)] []
def F54_l0_0_X1 (a1 : List Int) (a2 : Int) (w3 : Unit) : TS := .on (kq 0 2 <| kq 64 2 <| []) <| sq 0 [u0, (uS e6 a1)] <| sq 64 [u0, (uI a2)] []
theorem F54_l0_0_ok (K : Nat) (a1 : List Int) (a2 : Int) : ∀ (k : Nat) (v3 : Int) (r : (Unit) ⊕ (Unit)), F54_l0_0 K a1 a2 k v3 = some r → (Sum.elim (fun w => LoopEv E H hn54 0 c54_0 (F54_l0_0_S a1 a2 v3) .ret (F54_l0_0_X0 a1 a2 w)) (fun w => LoopEv E H hn54 0 c54_0 (F54_l0_0_S a1 a2 v3) (.exit 0) (F54_l0_0_X1 a1 a2 w))) r := by
 intro k
 induction k with
 | zero => intro v3 r hF; cases hF
 | succ k ih =>
  intro v3 r hF
  rw [F54_l0_0] at hF
  cs h4
  ·
   cn h5
   bs x6 h7
   bs r8 h9
   have q11 {l} (z : HA hn54 l) := zi (nl a1) <| zT h4 <| zT h5 <| zX (.sub (flat e6 a1) (nidx v3 1) 1 [(i6 x6)]) ⟨rfl, sub_flat0 (eInt_len _) h7 1 (by decide)⟩ <| zl (F78_ok K x6 _ h9) <| z
   cs h10
   ·
    exact lN2 (q11 <| zF (bnot_t h10) <| zi (wadd .i64 v3 1) <| z0) (ih _ _ hF)
   ob
   exact lE <| q11 <| zT (bnot_f h10) <| z0
  ob
  exact lE <| zi (nl a1) <| zF h4 <| z0
def F54 (K : Nat) (a1 : List Int) (a2 : Int) : Option (Bool) :=
 (F54_l0_0 K a1 a2 K 0).bind fun y3 =>
 Sum.elim (fun w4 =>
  some false)
  (fun w5 =>
  some (ile (nlen (len a1)) a2)) y3
theorem F54_ok (K : Nat) (a1 : List Int) (a2 : Int) (r : Bool) (hF : F54 K a1 a2 = some r) : Evt E H 54 [.one (sE e6 a1), .one (i6 a2)] (F54_res r) := by
 rw [F54] at hF
 bs y4 h3
 ss w5 w6
 ·
  subst hx
  ob
  exact fpC hn54 <| zo (F54_l0_0_ok K a1 a2 K 0 _ h3) <| z0
 subst hx
 ob
 exact fpC hn54 <| zo (F54_l0_0_ok K a1 a2 K 0 _ h3) <| zi (nl a1) <| z0
def hn55 : Hint := { H 55 with nt := 20, prot := 0, kp := 0 }
def c55_0 : Code := loopOf E 55 0
def F55_res (r1 : Bool) : Res := ⟨[(.one (mB r1))], []⟩
def F55_l0_0 (K : Nat) (a1 : List GMsg) : Nat → Int → Option ((Unit) ⊕ (Unit))
 | 0, _ => none
 | k + 1, v2 =>
  bif (ilt v2 (nlen (len a1))) then
   (bif (inr v2 (len a1)) then
   (elAt a1 v2).bind fun x3 =>
   (F78 K x3.To).bind fun r4 =>
   bif r4 then
    (F55_l0_0 K a1 k (wadd .i64 v2 1))
   else
   some (.inl ())
   else none)
  else
  some (.inr ())
def F55_l0_0_S (a1 : List GMsg) (v2 : Int) : TS := .on (kq 0 2 <| kq 192 2 <| []) <| sq 0 [u0, (uS eGMsg a1)] <| sq 192 [u0, (uI v2)] []
def F55_l0_0_X0 (a1 : List GMsg) (w2 : Unit) : TS := .on (kq 128 2 <| []) <| sq 128 [u0, (uB false)] []
def F55_l0_0_X1 (a1 : List GMsg) (w2 : Unit) : TS := .on (kq 0 2 <| []) <| sq 0 [u0, (uS eGMsg a1)] []
theorem F55_l0_0_ok (K : Nat) (a1 : List GMsg) : ∀ (k : Nat) (v2 : Int) (r : (Unit) ⊕ (Unit)), F55_l0_0 K a1 k v2 = some r → (Sum.elim (fun w => LoopEv E H hn55 0 c55_0 (F55_l0_0_S a1 v2) .ret (F55_l0_0_X0 a1 w)) (fun w => LoopEv E H hn55 0 c55_0 (F55_l0_0_S a1 v2) (.exit 0) (F55_l0_0_X1 a1 w))) r := by
 intro k
 induction k with
 | zero => intro v2 r hF; cases hF
 | succ k ih =>
  intro v2 r hF
  rw [F55_l0_0] at hF
  cs h3
  ·
   cn h4
   bs x5 h6
   bs r7 h8
   have q10 {l} (z : HA hn55 l) := zi (nl a1) <| zT h3 <| zT h4 <| zU eGMsg_len h6 0 1 <| zl (F78_ok K x5.To _ h8) <| z
   cs h9
   ·
    exact lN2 (q10 <| zF (bnot_t h9) <| zi (wadd .i64 v2 1) <| z0) (ih _ _ hF)
   ob
   exact lE <| q10 <| zT (bnot_f h9) <| z0
  ob
  exact lE <| zi (nl a1) <| zF h3 <| z0
def F55 (K : Nat) (a1 : List GMsg) : Option (Bool) :=
 (F55_l0_0 K a1 K 0).bind fun y2 =>
 Sum.elim (fun w3 =>
  some false)
  (fun w4 =>
  some (ile (nlen (len a1)) 24)) y2
theorem F55_ok (K : Nat) (a1 : List GMsg) (r : Bool) (hF : F55 K a1 = some r) : Evt E H 55 [.one (sE eGMsg a1)] (F55_res r) := by
 rw [F55] at hF
 bs y3 h2
 ss w4 w5
 ·
  subst hx
  ob
  exact fpC hn55 <| zo (F55_l0_0_ok K a1 K 0 _ h2) <| z0
 subst hx
 ob
 exact fpC hn55 <| zo (F55_l0_0_ok K a1 K 0 _ h2) <| zi (nl a1) <| z0
def hn26 : Hint := { H 26 with nt := 88, prot := 0, kp := 0 }
def F26_res (r1 : Bool) : Res := ⟨[(.one (mB r1))], []⟩
def F26 (K : Nat) (a1 : GMail) : Option (Bool) :=
 bif (ilt a1.Kind 1) then
  (some false)
 else
 bif (ilt 11 a1.Kind) then
  (some false)
 else
 (F54 K [a1.Epoch, a1.Fresh, a1.Step, a1.P, a1.Q, a1.To, a1.E, a1.X.P, a1.X.Step] 9).bind fun r2 =>
 bif r2 then
  ((F54 K a1.Owners 6).bind fun r3 =>
  bif r3 then
   ((F54 K a1.Ids 5).bind fun r4 =>
   bif r4 then
    ((F54 K a1.Incs 5).bind fun r5 =>
    bif r5 then
     (bif (ieq (nlen (len a1.Ids)) (nlen (len a1.Incs))) then
      (bif (ile (nlen (len a1.X.Vals)) 24) then
       (bif (ieq (nlen (len a1.X.Rest)) (nlen (len a1.X.Vals))) then
        ((F55 K a1.X.In).bind fun r6 =>
        bif r6 then
         ((F55 K a1.Msgs).bind fun r7 =>
         some r7)
        else
        some false)
       else
       some false)
      else
      some false)
     else
     some false)
    else
    some false)
   else
   some false)
  else
  some false)
 else
 some false
theorem F26_ok (K : Nat) (a1 : GMail) (r : Bool) (hF : F26 K a1 = some r) : Evt E H 26 [.agg (eGMail a1)] (F26_res r) := by
 rw [F26] at hF
 cs h2
 ·
  ob
  exact fpC hn26 <| zA3x h2 <| zt6 <| zt6 <| zt6 <| zt5 <| zr2 <| z0
 have q24 {l} (z : HA hn26 l) := zB3x h2 <| z
 cs h3
 ·
  ob
  exact fpC hn26 <| q24 <| zA6 (igt_eq h3) <| zA6 (igt_eq h3) <| zA6 (igt_eq h3) <| zA5x (igt_eq h3) <| zr1 <| z0
 bs r4 h5
 have q25 {l} (z : HA hn26 l) := zB6 (igt_eq h3) <| zB6 (igt_eq h3) <| zB6 (igt_eq h3) <| zB4 (igt_eq h3) <| zl (F54_ok K [a1.Epoch, a1.Fresh, a1.Step, a1.P, a1.Q, a1.To, a1.E, a1.X.P, a1.X.Step] 9 _ h5) <| zB1x (igt_eq h3) <| z
 cs h6
 ·
  bs r7 h8
  have q26 {l} (z : HA hn26 l) := zF (bnot_t h6) <| zl (F54_ok K a1.Owners 6 _ h8) <| z
  cs h9
  ·
   bs r10 h11
   have q27 {l} (z : HA hn26 l) := zB3 (bnot_t h9) <| zl (F54_ok K a1.Ids 5 _ h11) <| zB1x (bnot_t h9) <| z
   cs h12
   ·
    bs r13 h14
    have q28 {l} (z : HA hn26 l) := zB3 (bnot_t h12) <| zl (F54_ok K a1.Incs 5 _ h14) <| zB1x (bnot_t h12) <| z
    cs h15
    ·
     have q29 {l} (z : HA hn26 l) := zB3 (bnot_t h15) <| zi (nl a1.Ids) <| zB3 (bnot_t h15) <| zi (nl a1.Incs) <| zB1x (bnot_t h15) <| z
     cs h16
     ·
      cs h17
      ·
       have q30 {l} (z : HA hn26 l) := zF (ine_t h16) <| zi (nl a1.X.Vals) <| zC4 h17 <| zi (nl a1.X.Rest) <| zC4 h17 <| zi (nl a1.X.Vals) <| zC1x h17 <| z
       cs h18
       ·
        bs r19 h20
        have q31 {l} (z : HA hn26 l) := zC4 h18 <| zl (F55_ok K a1.X.In _ h20) <| zT h18 <| z
        cs h21
        ·
         bs r22 h23
         ob
         exact fpC hn26 <| q24 <| q25 <| q26 <| q27 <| q28 <| q29 <| q30 <| q31 <| zC3 h21 <| zl (F55_ok K a1.Msgs _ h23) <| zT h21 <| z0
        ob
        exact fpC hn26 <| q24 <| q25 <| q26 <| q27 <| q28 <| q29 <| q30 <| q31 <| zD3x h21 <| z0
       ob
       exact fpC hn26 <| q24 <| q25 <| q26 <| q27 <| q28 <| q29 <| q30 <| zD4x h18 <| zk3 <| zf1 <| z0
      ob
      exact fpC hn26 <| q24 <| q25 <| q26 <| q27 <| q28 <| q29 <| zF (ine_t h16) <| zi (nl a1.X.Vals) <| zD6 h17 <| zD3x h17 <| zk4 <| zf1 <| zk3 <| zf1 <| z0
     ob
     exact fpC hn26 <| q24 <| q25 <| q26 <| q27 <| q28 <| q29 <| zT (ine_f h16) <| z0
    ob
    exact fpC hn26 <| q24 <| q25 <| q26 <| q27 <| q28 <| zA6 (bnot_f h15) <| zA1x (bnot_f h15) <| zr1 <| z0
   ob
   exact fpC hn26 <| q24 <| q25 <| q26 <| q27 <| zA4x (bnot_f h12) <| zt6 <| zt1 <| zr2 <| z0
  ob
  exact fpC hn26 <| q24 <| q25 <| q26 <| zA4x (bnot_f h9) <| zt4 <| zr1 <| zt6 <| zt1 <| zr2 <| z0
 ob
 exact fpC hn26 <| q24 <| q25 <| zT (bnot_f h6) <| z0
def goI {α σ β : Type} (step : Nat → α → σ → (σ → Option β) → Option β) (fin : σ → Option β) : Nat → List α → σ → Option β
 | _, [], s => fin s
 | i, x :: r, s => step i x s (goI step fin (i + 1) r)
def goL {α σ β : Type} (step : α → σ → (σ → Option β) → Option β) (fin : σ → Option β) : List α → σ → Option β
 | [], s => fin s
 | x :: r, s => step x s (goL step fin r)
theorem lt_of_drop' {α : Type} {l : List α} {i : Nat} {x : α} {r : List α} (h : l.drop i = x :: r) : i < l.length := by
 rcases Nat.lt_or_ge i l.length with g | g
 · exact g
 · rw [List.drop_eq_nil_of_le g] at h; cases h
theorem scanI {α σ β : Type} {l : List α} {L : Nat → σ → Int → Option β} (step : Nat → α → σ → (σ → Option β) → Option β) (fin : σ → Option β)
 (h : ∀ k s (i : Nat), i ≤ l.length → L (k + 1) s i = bif ilt i (nlen (len l)) then (bif inr i (len l) then (elAt l i).bind fun x => step i x s (fun s' => L k s' (wadd .i64 i 1)) else none) else fin s)
 (hl : l.length < 4611686018427387904) : ∀ (k : Nat) (s : σ) (i : Nat), l.length - i < k → i ≤ l.length → L k s i = goI step fin i (l.drop i) s := by
 intro k
 induction k with
 | zero => intro s i h; omega
 | succ k ih =>
  intro s i hk hi
  rw [h k s i hi]
  rcases at_idx l i with ⟨x, e1, e2, e3, e4⟩ | ⟨e1, e2⟩
  · have hlt := lt_of_drop' e1
    rw [e1, e2, e3, e4]
    simp only [cT, bS, goI]
    congr 1
    funext s'
    rw [wadd_nat om]
    exact ih s' (i + 1) om om
  · rw [e1, e2]; rfl
theorem scanL {α σ β : Type} {l : List α} {L : Nat → σ → Int → Option β} (step : α → σ → (σ → Option β) → Option β) (fin : σ → Option β)
 (h : ∀ k s (i : Nat), i ≤ l.length → L (k + 1) s i = bif ilt i (nlen (len l)) then (bif inr i (len l) then (elAt l i).bind fun x => step x s (fun s' => L k s' (wadd .i64 i 1)) else none) else fin s)
 (hl : l.length < 4611686018427387904) {K : Nat} (hK : l.length < K) (s : σ) : L K s 0 = goL step fin l s := by
 have e : ∀ (i : Nat) (r : List α) (s : σ), goI (fun _ => step) fin i r s = goL step fin r s := by
  intro i r
  induction r generalizing i with
  | nil => intro s; rfl
  | cons x r ih =>
   intro s
   simp only [goI, goL]
   congr 1
   funext s'
   exact ih (i + 1) s'
 have := scanI (fun _ => step) fin h hl K s 0 om om
 rw [e, List.drop_zero] at this
 exact this
theorem ilt_not' (a b : Int) : ilt a b = !(ile b a) := by
 unfold ilt ile
 by_cases h : a < b <;> simp [h] <;> omega
theorem ieq_refl (a : Int) : ieq a a = true := by simp [ieq]
theorem beqb_refl (a : Bool) : beqb a a = true := by cases a <;> rfl
theorem ile_iff {a b : Int} : ile a b = true ↔ a ≤ b := decide_eq_true_iff
theorem ilt_iff {a b : Int} : ilt a b = true ↔ a < b := decide_eq_true_iff
theorem ieq_iff {a b : Int} : ieq a b = true ↔ a = b := by simp [ieq]
theorem ile_f {a b : Int} : ile a b = false ↔ b < a := by simp [ile]
theorem ilt_f {a b : Int} : ilt a b = false ↔ b ≤ a := by simp [ilt]
theorem ieq_f {a b : Int} : ieq a b = false ↔ a ≠ b := by simp [ieq]
def badE (n : Int) (e : GEdge) : Int :=
 bif ilt e.From 0 || ile n e.From || ilt e.To 0 || ile n e.To then 4 else bif ilt e.W 0 || ilt 4611686018427387904 e.W then 1 else 0
def ordE (d e : GEdge) : Int := bif ieq d.From e.From && ieq d.To e.To then 5 else bif ilt e.From d.From || (ieq d.From e.From && ilt e.To d.To) then 6 else 0
def gchk (n : Int) : Option GEdge → List GEdge → Int
 | _, [] => 0
 | prev, e :: r => bif ieq (badE n e) 0 then (match prev with
  | none => gchk n (some e) r
  | some d => bif ieq (ordE d e) 0 then gchk n (some e) r else ordE d e) else badE n e
def gcheck (g : GGraph) : Int := bif ilt g.N 1 || ilt 24 g.N then 1 else bif ilt 80 (nlen (len g.Edges)) then 3 else gchk g.N none g.Edges
def prevOf {α : Type} (l : List α) : Nat → Option α
 | 0 => none
 | i + 1 => l[i]?
theorem wsub_one {i : Nat} (h0 : 0 < i) (h : i < 4611686018427387904) : wsub .i64 (i : Int) 1 = ((i - 1 : Nat) : Int) := by
 show IntKind.i64.wrap ((i : Int) - 1) = _
 rw [IntKind.wrap_i64]; omega
theorem prev_at {α : Type} {l : List α} {i : Nat} (h0 : 0 < i) (hi : i < l.length) (hl : l.length < 4611686018427387904) :
 ∃ d, prevOf l i = some d ∧ wsub .i64 (i : Int) 1 = ((i - 1 : Nat) : Int) ∧ inr ((i - 1 : Nat) : Int) (len l) = true ∧ elAt l ((i - 1 : Nat) : Int) = some d := by
 obtain ⟨j, rfl⟩ : ∃ j, i = j + 1 := ⟨i - 1, by omega⟩
 refine ⟨l[j], by simp [prevOf], wsub_one h0 om, decide_eq_true ⟨by omega, by show ((j + 1 - 1 : Nat) : Int) < (l.length : Int); omega⟩, ?_⟩
 rw [elAt_nat]
 simp
theorem prev_next {α : Type} {l : List α} {i : Nat} {x : α} {r : List α} (h : l.drop i = x :: r) : prevOf l (i + 1) = some x ∧ l.drop (i + 1) = r ∧ i < l.length := by
 have hi := lt_of_drop' h
 have := List.drop_eq_getElem_cons hi
 rw [h] at this
 injection this with a b
 exact ⟨by simp [prevOf, hi, a], b.symm, hi⟩
def sumI (v : Int) : Int ⊕ Unit := bif ieq v 0 then .inr () else .inl v
theorem F79_spec (K : Nat) (e : GEdge) (n : Int) : F79 K e n = some (badE n e) := by
 rw [F79, badE]
 cases ilt e.From 0 <;> cases ile n e.From <;> cases ilt e.To 0 <;> cases ile n e.To <;> cases ilt e.W 0 <;> cases ilt 4611686018427387904 e.W <;> rfl
theorem badE_ok {n : Int} {e : GEdge} (h : ieq (badE n e) 0 = true) : 0 ≤ e.From ∧ e.From < n ∧ 0 ≤ e.To ∧ e.To < n ∧ 0 ≤ e.W ∧ e.W ≤ 4611686018427387904 := by
 rw [badE] at h
 cases h1 : ilt e.From 0 || ile n e.From || ilt e.To 0 || ile n e.To
 · cases h2 : ilt e.W 0 || ilt 4611686018427387904 e.W
   · simp only [Bool.or_eq_false_iff, ilt_f, ile_f] at h1 h2
     omega
   · rw [h1, h2] at h; cases h
 · rw [h1] at h; cases h
theorem F80_spec (K : Nat) {n : Int} {d e : GEdge} (hn : n ≤ 24) (hd : ieq (badE n d) 0 = true) (he : ieq (badE n e) 0 = true) :
 F80 K d e = some (bif ieq d.From e.From then d.To - e.To else d.From - e.From) := by
 have h1 := badE_ok hd
 have h2 := badE_ok he
 rw [F80]
 have e1 : wsub .i64 d.To e.To = d.To - e.To := by show IntKind.i64.wrap _ = _; rw [IntKind.wrap_i64]; omega
 have e2 : wsub .i64 d.From e.From = d.From - e.From := by show IntKind.i64.wrap _ = _; rw [IntKind.wrap_i64]; omega
 rw [e1, e2]
 cases ieq d.From e.From <;> rfl
theorem F56_loop {K : Nat} (hK : 100 ≤ K) (g : GGraph) (hl : g.Edges.length ≤ 80) (hn : g.N ≤ 24) : F56_l0_0 K g K 0 = some (sumI (gchk g.N none g.Edges)) := by
 let step : Nat → GEdge → Unit → (Unit → Option (Int ⊕ Unit)) → Option (Int ⊕ Unit) := fun i x _ c =>
  (F79 K x g.N).bind fun r => bif (ieq r 0) then (bif (ieq (i : Int) 0) then c () else bif (inr (wsub .i64 (i : Int) 1) (len g.Edges)) then
   (elAt g.Edges (wsub .i64 (i : Int) 1)).bind fun d => (F80 K d x).bind fun r => bif (ieq r 0) then (some (.inl 5)) else bif (ilt 0 r) then (some (.inl 6)) else c ()
   else none) else some (.inl r)
 let fin : Unit → Option (Int ⊕ Unit) := fun _ => some (.inr ())
 have h := scanI (l := g.Edges) (L := fun k (_ : Unit) i => F56_l0_0 K g k i) step fin (fun k st i hi => rfl) om K () 0 om om
 have hw : ∀ (r : List GEdge) (i : Nat), g.Edges.drop i = r → (∀ d, prevOf g.Edges i = some d → ieq (badE g.N d) 0 = true) → (i = 0 ∨ i ≤ g.Edges.length) → goI step fin i r () = some (sumI (gchk g.N (prevOf g.Edges i) r)) := by
  intro r
  induction r with
  | nil => intro i _ _ _; rfl
  | cons x r ih =>
   intro i hr hp _
   obtain ⟨n1, n2, hi⟩ := prev_next hr
   rw [goI]
   show ((F79 K x g.N).bind fun r' => bif (ieq r' 0) then (bif (ieq (i : Int) 0) then goI step fin (i + 1) r () else bif (inr (wsub .i64 (i : Int) 1) (len g.Edges)) then
    (elAt g.Edges (wsub .i64 (i : Int) 1)).bind fun d => (F80 K d x).bind fun r' => bif (ieq r' 0) then (some (.inl 5)) else bif (ilt 0 r') then (some (.inl 6)) else goI step fin (i + 1) r ()
    else none) else some (.inl r')) = _
   rw [F79_spec, bS]
   cases hb : ieq (badE g.N x) 0
   · have hne : badE g.N x ≠ 0 := ieq_f.1 hb
     cases prevOf g.Edges i <;> simp only [gchk, hb, cF, sumI]
   · have nx : goI step fin (i + 1) r () = some (sumI (gchk g.N (some x) r)) := by
      have := ih (i + 1) n2 (fun d hd => by rw [n1] at hd; cases hd; exact hb) (.inr om)
      rw [n1] at this; exact this
     rw [cT, nx]
     cases i with
     | zero =>
      have : ieq ((0 : Nat) : Int) 0 = true := rfl
      rw [this, cT]
      show _ = some (sumI (gchk g.N none (x :: r)))
      rw [gchk, hb]; rfl
     | succ j =>
      obtain ⟨d, p1, p2, p3, p4⟩ := prev_at (l := g.Edges) (i := j + 1) om hi om
      have hd := hp d p1
      have : ieq ((j + 1 : Nat) : Int) 0 = false := ieq_f.2 om
      rw [this, cF, p2, p3, cT, p4, bS, F80_spec K hn hd hb, bS, p1, gchk, hb, cT]
      have b1 := badE_ok hd
      have b2 := badE_ok hb
      by_cases q1 : d.From = x.From
      · have i1 : ieq d.From x.From = true := ieq_iff.2 q1
        rw [i1, cT]
        by_cases q2 : d.To = x.To
        · have o5 : ordE d x = 5 := by simp [ordE, ieq_iff.2 q1, ieq_iff.2 q2]
          have : ieq (d.To - x.To) 0 = true := ieq_iff.2 om
          rw [this, cT, o5]; rfl
        · have : ieq (d.To - x.To) 0 = false := ieq_f.2 om
          rw [this, cF]
          have j2 : ieq d.To x.To = false := ieq_f.2 q2
          by_cases q3 : x.To < d.To
          · have o6 : ordE d x = 6 := by simp [ordE, i1, j2, ilt_iff.2 q3]
            have : ilt 0 (d.To - x.To) = true := ilt_iff.2 om
            rw [this, cT, o6]; rfl
          · have o0 : ordE d x = 0 := by simp [ordE, i1, j2, ilt_f.2 (show d.To ≤ x.To by omega), ilt_f.2 (show d.From ≤ x.From by omega)]
            have : ilt 0 (d.To - x.To) = false := ilt_f.2 om
            rw [this, cF, o0]; rfl
      · have i1 : ieq d.From x.From = false := ieq_f.2 q1
        rw [i1, cF]
        have : ieq (d.From - x.From) 0 = false := ieq_f.2 om
        rw [this, cF]
        by_cases q3 : x.From < d.From
        · have o6 : ordE d x = 6 := by simp [ordE, i1, ilt_iff.2 q3]
          have : ilt 0 (d.From - x.From) = true := ilt_iff.2 om
          rw [this, cT, o6]; rfl
        · have o0 : ordE d x = 0 := by simp [ordE, i1, ilt_f.2 (show d.From ≤ x.From by omega)]
          have : ilt 0 (d.From - x.From) = false := ilt_f.2 om
          rw [this, cF, o0]; rfl
 have := hw g.Edges 0 rfl (fun d hd => by cases hd) (.inl rfl)
 rw [List.drop_zero, this] at h
 exact h
theorem sumI_elim (v : Int) : (some (sumI v)).bind (fun y => Sum.elim (fun w => some w) (fun w => some 0) y) = some v := by
 unfold sumI
 cases h : ieq v 0
 · rfl
 · have : v = 0 := ieq_iff.1 h
   subst this; rfl
theorem F56_spec {K : Nat} (hK : 100 ≤ K) (g : GGraph) : F56 K g = some (gcheck g) := by
 rw [F56, gcheck]
 cases ilt g.N 1
 · cases h2 : ilt 24 g.N
   · cases h3 : ilt 80 (nlen (len g.Edges))
     · have hl : g.Edges.length ≤ 80 := by have := ilt_f.1 h3; simp only [nlen, len] at this; omega
       have hn := ilt_f.1 h2
       rw [F56_loop hK g hl hn]
       exact sumI_elim _
     · rfl
   · rfl
 · rfl
theorem F47_loop {K : Nat} (hK : 100 ≤ K) (g : GGraph) (hl : g.Edges.length ≤ 80) : F47_l0_0 K g K 0 = some (sumI (gchk g.N none g.Edges)) := by
 let chk : Nat → GEdge → Option (Int ⊕ Unit) → Option (Int ⊕ Unit) := fun i x c =>
  bif (ilt 0 (i : Int)) then
   (bif (inr (wsub .i64 (i : Int) 1) (len g.Edges)) then
   (elAt g.Edges (wsub .i64 (i : Int) 1)).bind fun d =>
   bif (ieq d.From x.From) then
    (bif (ieq d.To x.To) then (some (.inl 5)) else bif (ilt x.From d.From) then (some (.inl 6)) else bif (ilt x.To d.To) then (some (.inl 6)) else c)
   else bif (ilt x.From d.From) then (some (.inl 6)) else c
   else none)
  else c
 let step : Nat → GEdge → Unit → (Unit → Option (Int ⊕ Unit)) → Option (Int ⊕ Unit) := fun i x _ c =>
  bif (ilt x.From 0) then (some (.inl 4)) else bif (ilt x.To 0) then (some (.inl 4)) else bif (ile g.N x.From) then (some (.inl 4)) else bif (ile g.N x.To) then (some (.inl 4)) else
  bif (ilt x.W 0) then (some (.inl 1)) else bif (ilt 4611686018427387904 x.W) then (some (.inl 1)) else chk i x (c ())
 let fin : Unit → Option (Int ⊕ Unit) := fun _ => some (.inr ())
 have h := scanI (l := g.Edges) (L := fun k (_ : Unit) i => F47_l0_0 K g k i) step fin (fun k st i hi => rfl) om K () 0 om om
 have hstep : ∀ i x c, step i x () c = bif ieq (badE g.N x) 0 then chk i x (c ()) else some (.inl (badE g.N x)) := by
  intro i x c
  show (bif (ilt x.From 0) then (some (.inl 4)) else bif (ilt x.To 0) then (some (.inl 4)) else bif (ile g.N x.From) then (some (.inl 4)) else bif (ile g.N x.To) then (some (.inl 4)) else
   bif (ilt x.W 0) then (some (.inl 1)) else bif (ilt 4611686018427387904 x.W) then (some (.inl 1)) else chk i x (c ())) = _
  rw [badE]
  cases ilt x.From 0 <;> cases ile g.N x.From <;> cases ilt x.To 0 <;> cases ile g.N x.To <;> cases ilt x.W 0 <;> cases ilt 4611686018427387904 x.W <;> rfl
 have hw : ∀ (r : List GEdge) (i : Nat), g.Edges.drop i = r → goI step fin i r () = some (sumI (gchk g.N (prevOf g.Edges i) r)) := by
  intro r
  induction r with
  | nil => intro i _; rfl
  | cons x r ih =>
   intro i hr
   obtain ⟨n1, n2, hi⟩ := prev_next hr
   rw [goI, hstep]
   cases hb : ieq (badE g.N x) 0
   · have hne : badE g.N x ≠ 0 := ieq_f.1 hb
     cases prevOf g.Edges i <;> simp only [gchk, hb, cF, sumI]
   · have nx := ih (i + 1) n2
     rw [n1] at nx
     rw [cT, nx]
     cases i with
     | zero =>
      show some (sumI (gchk g.N (some x) r)) = some (sumI (gchk g.N none (x :: r)))
      rw [gchk, hb]; rfl
     | succ j =>
      obtain ⟨d, p1, p2, p3, p4⟩ := prev_at (l := g.Edges) (i := j + 1) om hi om
      have : ilt 0 ((j + 1 : Nat) : Int) = true := ilt_iff.2 om
      show (bif (ilt 0 ((j + 1 : Nat) : Int)) then
       (bif (inr (wsub .i64 ((j + 1 : Nat) : Int) 1) (len g.Edges)) then
       (elAt g.Edges (wsub .i64 ((j + 1 : Nat) : Int) 1)).bind fun d =>
       bif (ieq d.From x.From) then
        (bif (ieq d.To x.To) then (some (.inl 5)) else bif (ilt x.From d.From) then (some (.inl 6)) else bif (ilt x.To d.To) then (some (.inl 6)) else some (sumI (gchk g.N (some x) r)))
       else bif (ilt x.From d.From) then (some (.inl 6)) else some (sumI (gchk g.N (some x) r))
       else none)
      else some (sumI (gchk g.N (some x) r))) = _
      rw [this, cT, p2, p3, cT, p4, bS, p1, gchk, hb, cT, ordE]
      cases hf : ieq d.From x.From
      · cases ilt x.From d.From <;> rfl
      · have : ilt x.From d.From = false := ilt_f.2 (by have := ieq_iff.1 hf; omega)
        rw [this]
        cases ieq d.To x.To <;> cases ilt x.To d.To <;> rfl
 have := hw g.Edges 0 rfl
 rw [List.drop_zero, this] at h
 exact h
theorem F47_spec {K : Nat} (hK : 100 ≤ K) (g : GGraph) : F47 K g = some (gcheck g) := by
 rw [F47, gcheck]
 cases ilt g.N 1
 · cases h2 : ilt 24 g.N
   · cases h3 : ilt 80 (nlen (len g.Edges))
     · have hl : g.Edges.length ≤ 80 := by have := ilt_f.1 h3; simp only [nlen, len] at this; omega
       rw [F47_loop hK g hl]
       exact sumI_elim _
     · rfl
   · rfl
 · rfl
theorem gcheck_ok {g : GGraph} (h : ieq (gcheck g) 0 = true) : 1 ≤ g.N ∧ g.N ≤ 24 ∧ g.Edges.length ≤ 80 ∧ gchk g.N none g.Edges = 0 := by
 rw [gcheck] at h
 cases h1 : ilt g.N 1 || ilt 24 g.N
 · rw [h1, cF] at h
   cases h2 : ilt 80 (nlen (len g.Edges))
   · rw [h2, cF] at h
     simp only [Bool.or_eq_false_iff, ilt_f] at h1
     have := ilt_f.1 h2
     simp only [nlen, len] at this
     exact ⟨by omega, by omega, by omega, ieq_iff.1 h⟩
   · rw [h2] at h; cases h
 · rw [h1] at h; cases h
theorem gchk_mem {n : Int} : ∀ {l : List GEdge} {p : Option GEdge}, gchk n p l = 0 → ∀ e ∈ l, ieq (badE n e) 0 = true
 | [], _, _, e, h => by cases h
 | x :: l, p, h, e, he => by
  unfold gchk at h
  cases hb : ieq (badE n x) 0
  · rw [hb, cF] at h; rw [h] at hb; cases hb
  · rw [hb, cT] at h
    rcases List.mem_cons.1 he with q | q
    · subst q; exact hb
    · cases p with
      | none => exact gchk_mem h e q
      | some d =>
       dsimp only at h
       cases ho : ieq (ordE d x) 0
       · rw [ho, cF] at h; rw [h] at ho; cases ho
       · rw [ho, cT] at h; exact gchk_mem h e q
theorem af_1_1 : areFns [(fnV 81), (fnV 82), (fnV 83)] [81, 82, 83] = true := rfl
theorem af_1_3 : areFns [(fnV 81), (fnV 82), (fnV 83)] [81, 82, 85] = false := rfl
theorem af_1_2 : areFns [(fnV 81), (fnV 82), (fnV 83)] [86, 82, 87] = false := rfl
theorem af_1_4 : areFns [(fnV 81), (fnV 82), (fnV 83)] [88, 89, 87] = false := rfl
theorem af_1_5 : areFns [(fnV 81), (fnV 82), (fnV 83)] [90, 0, 87] = false := rfl
theorem af_1_0 : areFns [(fnV 81), (fnV 82), (fnV 83)] [0, 0, 0] = false := rfl
theorem af_3_1 : areFns [(fnV 81), (fnV 82), (fnV 85)] [81, 82, 83] = false := rfl
theorem af_3_3 : areFns [(fnV 81), (fnV 82), (fnV 85)] [81, 82, 85] = true := rfl
theorem af_3_2 : areFns [(fnV 81), (fnV 82), (fnV 85)] [86, 82, 87] = false := rfl
theorem af_3_4 : areFns [(fnV 81), (fnV 82), (fnV 85)] [88, 89, 87] = false := rfl
theorem af_3_5 : areFns [(fnV 81), (fnV 82), (fnV 85)] [90, 0, 87] = false := rfl
theorem af_3_0 : areFns [(fnV 81), (fnV 82), (fnV 85)] [0, 0, 0] = false := rfl
theorem af_2_1 : areFns [(fnV 86), (fnV 82), (fnV 87)] [81, 82, 83] = false := rfl
theorem af_2_3 : areFns [(fnV 86), (fnV 82), (fnV 87)] [81, 82, 85] = false := rfl
theorem af_2_2 : areFns [(fnV 86), (fnV 82), (fnV 87)] [86, 82, 87] = true := rfl
theorem af_2_4 : areFns [(fnV 86), (fnV 82), (fnV 87)] [88, 89, 87] = false := rfl
theorem af_2_5 : areFns [(fnV 86), (fnV 82), (fnV 87)] [90, 0, 87] = false := rfl
theorem af_2_0 : areFns [(fnV 86), (fnV 82), (fnV 87)] [0, 0, 0] = false := rfl
theorem af_4_1 : areFns [(fnV 88), (fnV 89), (fnV 87)] [81, 82, 83] = false := rfl
theorem af_4_3 : areFns [(fnV 88), (fnV 89), (fnV 87)] [81, 82, 85] = false := rfl
theorem af_4_2 : areFns [(fnV 88), (fnV 89), (fnV 87)] [86, 82, 87] = false := rfl
theorem af_4_4 : areFns [(fnV 88), (fnV 89), (fnV 87)] [88, 89, 87] = true := rfl
theorem af_4_5 : areFns [(fnV 88), (fnV 89), (fnV 87)] [90, 0, 87] = false := rfl
theorem af_4_0 : areFns [(fnV 88), (fnV 89), (fnV 87)] [0, 0, 0] = false := rfl
theorem af_5_1 : areFns [(fnV 90), .nilFunc, (fnV 87)] [81, 82, 83] = false := rfl
theorem af_5_3 : areFns [(fnV 90), .nilFunc, (fnV 87)] [81, 82, 85] = false := rfl
theorem af_5_2 : areFns [(fnV 90), .nilFunc, (fnV 87)] [86, 82, 87] = false := rfl
theorem af_5_4 : areFns [(fnV 90), .nilFunc, (fnV 87)] [88, 89, 87] = false := rfl
theorem af_5_5 : areFns [(fnV 90), .nilFunc, (fnV 87)] [90, 0, 87] = true := rfl
theorem af_5_0 : areFns [(fnV 90), .nilFunc, (fnV 87)] [0, 0, 0] = false := rfl
theorem af_0_1 : areFns [.nilFunc, .nilFunc, .nilFunc] [81, 82, 83] = false := rfl
theorem af_0_3 : areFns [.nilFunc, .nilFunc, .nilFunc] [81, 82, 85] = false := rfl
theorem af_0_2 : areFns [.nilFunc, .nilFunc, .nilFunc] [86, 82, 87] = false := rfl
theorem af_0_4 : areFns [.nilFunc, .nilFunc, .nilFunc] [88, 89, 87] = false := rfl
theorem af_0_5 : areFns [.nilFunc, .nilFunc, .nilFunc] [90, 0, 87] = false := rfl
theorem af_0_0 : areFns [.nilFunc, .nilFunc, .nilFunc] [0, 0, 0] = true := rfl
theorem F143_1 (K : Nat) : F57 K 1 = some (Grule.mk (fnV 81) (fnV 82) true (fnV 83), true) := rfl
theorem F143_2 (K : Nat) : F57 K 2 = some (Grule.mk (fnV 86) (fnV 82) false (fnV 87), true) := rfl
theorem F143_3 (K : Nat) : F57 K 3 = some (Grule.mk (fnV 81) (fnV 82) true (fnV 85), true) := rfl
theorem F143_4 (K : Nat) : F57 K 4 = some (Grule.mk (fnV 88) (fnV 89) false (fnV 87), true) := rfl
theorem F143_5 (K : Nat) : F57 K 5 = some (Grule.mk (fnV 90) .nilFunc false (fnV 87), true) := rfl
theorem F143_0 (K : Nat) {p : Int} (h : p < 1 ∨ 5 < p) : F57 K p = some (Grule.mk .nilFunc .nilFunc false .nilFunc, false) := by
 rw [F57, ieq_f.2 (by omega : p ≠ 1), ieq_f.2 (by omega : p ≠ 3), ieq_f.2 (by omega : p ≠ 2), ieq_f.2 (by omega : p ≠ 4), ieq_f.2 (by omega : p ≠ 5)]; rfl
theorem prog_cases (p : Int) : p = 1 ∨ p = 2 ∨ p = 3 ∨ p = 4 ∨ p = 5 ∨ (p < 1 ∨ 5 < p) := by omega
def jbad (n : Int) (j : GJob) : Bool := ilt j.Source 0 || (ile n j.Source || (ilt j.Limit 0 || (ilt 40 j.Limit || (ilt j.Parts 1 || ilt 6 j.Parts))))
def pbad (p : Int) : Bool := ilt p 1 || ilt 5 p
def jcheck (g : GGraph) (j : GJob) : Int := bif ieq (gcheck g) 0 then (bif pbad j.Prog || jbad g.N j then 1 else 0) else gcheck g
theorem jtail (n : Int) (j : GJob) : (bif (ilt j.Source 0) then (some 1) else bif (ile n j.Source) then (some 1) else bif (ilt j.Limit 0) then (some 1) else bif (ilt 40 j.Limit) then (some 1) else bif (ilt j.Parts 1) then (some 1) else bif (ilt 6 j.Parts) then (some 1) else some 0) = some (bif jbad n j then 1 else 0 : Int) := by
 unfold jbad
 cases ilt j.Source 0 <;> cases ile n j.Source <;> cases ilt j.Limit 0 <;> cases ilt 40 j.Limit <;> cases ilt j.Parts 1 <;> cases ilt 6 j.Parts <;> rfl
theorem F19_spec {K : Nat} (hK : 100 ≤ K) (g : GGraph) (j : GJob) : F19 K g j = some (jcheck g j) := by
 rw [F19, F47_spec hK, bS, jcheck]
 cases ieq (gcheck g) 0
 · rfl
 · rw [cT, cT, jtail, pbad]
   cases ilt j.Prog 1 <;> cases ilt 5 j.Prog <;> rfl
theorem F31_spec {K : Nat} (hK : 100 ≤ K) (g : GGraph) (j : GJob) : F31 K g j = some (jcheck g j) := by
 rw [F31, F56_spec hK, bS, jcheck]
 cases ieq (gcheck g) 0
 · rfl
 · rw [cT, cT]
   rcases prog_cases j.Prog with h | h | h | h | h | h
   · have hb : pbad j.Prog = false := by rw [h]; rfl
     rw [hb, Bool.false_or, h, F143_1]
     simp only [bS, cT, cF, af_1_1, af_1_3, af_1_2, af_1_4, af_1_5, af_1_0, af_3_1, af_3_3, af_3_2, af_3_4, af_3_5, af_3_0, af_2_1, af_2_3, af_2_2, af_2_4, af_2_5, af_2_0, af_4_1, af_4_3, af_4_2, af_4_4, af_4_5, af_4_0, af_5_1, af_5_3, af_5_2, af_5_4, af_5_5, af_5_0, af_0_1, af_0_3, af_0_2, af_0_4, af_0_5, af_0_0, jtail]
   · have hb : pbad j.Prog = false := by rw [h]; rfl
     rw [hb, Bool.false_or, h, F143_2]
     simp only [bS, cT, cF, af_1_1, af_1_3, af_1_2, af_1_4, af_1_5, af_1_0, af_3_1, af_3_3, af_3_2, af_3_4, af_3_5, af_3_0, af_2_1, af_2_3, af_2_2, af_2_4, af_2_5, af_2_0, af_4_1, af_4_3, af_4_2, af_4_4, af_4_5, af_4_0, af_5_1, af_5_3, af_5_2, af_5_4, af_5_5, af_5_0, af_0_1, af_0_3, af_0_2, af_0_4, af_0_5, af_0_0, jtail]
   · have hb : pbad j.Prog = false := by rw [h]; rfl
     rw [hb, Bool.false_or, h, F143_3]
     simp only [bS, cT, cF, af_1_1, af_1_3, af_1_2, af_1_4, af_1_5, af_1_0, af_3_1, af_3_3, af_3_2, af_3_4, af_3_5, af_3_0, af_2_1, af_2_3, af_2_2, af_2_4, af_2_5, af_2_0, af_4_1, af_4_3, af_4_2, af_4_4, af_4_5, af_4_0, af_5_1, af_5_3, af_5_2, af_5_4, af_5_5, af_5_0, af_0_1, af_0_3, af_0_2, af_0_4, af_0_5, af_0_0, jtail]
   · have hb : pbad j.Prog = false := by rw [h]; rfl
     rw [hb, Bool.false_or, h, F143_4]
     simp only [bS, cT, cF, af_1_1, af_1_3, af_1_2, af_1_4, af_1_5, af_1_0, af_3_1, af_3_3, af_3_2, af_3_4, af_3_5, af_3_0, af_2_1, af_2_3, af_2_2, af_2_4, af_2_5, af_2_0, af_4_1, af_4_3, af_4_2, af_4_4, af_4_5, af_4_0, af_5_1, af_5_3, af_5_2, af_5_4, af_5_5, af_5_0, af_0_1, af_0_3, af_0_2, af_0_4, af_0_5, af_0_0, jtail]
   · have hb : pbad j.Prog = false := by rw [h]; rfl
     rw [hb, Bool.false_or, h, F143_5]
     simp only [bS, cT, cF, af_1_1, af_1_3, af_1_2, af_1_4, af_1_5, af_1_0, af_3_1, af_3_3, af_3_2, af_3_4, af_3_5, af_3_0, af_2_1, af_2_3, af_2_2, af_2_4, af_2_5, af_2_0, af_4_1, af_4_3, af_4_2, af_4_4, af_4_5, af_4_0, af_5_1, af_5_3, af_5_2, af_5_4, af_5_5, af_5_0, af_0_1, af_0_3, af_0_2, af_0_4, af_0_5, af_0_0, jtail]
   · have hb : pbad j.Prog = true := by
      unfold pbad
      rcases h with h | h
      · rw [ilt_iff.2 h]; rfl
      · rw [ilt_iff.2 h, Bool.or_true]
     rw [hb, Bool.true_or, F143_0 K h]
     simp only [bS, cT, cF, af_1_1, af_1_3, af_1_2, af_1_4, af_1_5, af_1_0, af_3_1, af_3_3, af_3_2, af_3_4, af_3_5, af_3_0, af_2_1, af_2_3, af_2_2, af_2_4, af_2_5, af_2_0, af_4_1, af_4_3, af_4_2, af_4_4, af_4_5, af_4_0, af_5_1, af_5_3, af_5_2, af_5_4, af_5_5, af_5_0, af_0_1, af_0_3, af_0_2, af_0_4, af_0_5, af_0_0]
theorem jcheck_ok {g : GGraph} {j : GJob} (h : ieq (jcheck g j) 0 = true) : ieq (gcheck g) 0 = true ∧ 1 ≤ j.Prog ∧ j.Prog ≤ 5 ∧ 0 ≤ j.Source ∧ j.Source < g.N ∧ 0 ≤ j.Limit ∧ j.Limit ≤ 40 ∧ 1 ≤ j.Parts ∧ j.Parts ≤ 6 := by
 rw [jcheck] at h
 cases hg : ieq (gcheck g) 0
 · rw [hg, cF] at h; rw [h] at hg; cases hg
 · rw [hg, cT] at h
   cases hb : pbad j.Prog || jbad g.N j
   · simp only [pbad, jbad, Bool.or_eq_false_iff, ilt_f, ile_f] at hb
     obtain ⟨⟨h1, h2⟩, h3, h4, h5, h6, h7, h8⟩ := hb
     exact ⟨rfl, h1, h2, h3, h4, h5, h6, h7, h8⟩
   · rw [hb] at h; cases h
theorem scanN {σ β : Type} {N : Int} {L : Nat → σ → Int → Option β} (step : Nat → σ → (σ → Option β) → Option β) (fin : σ → Option β)
 (h : ∀ k s (i : Nat), i ≤ N.toNat → L (k + 1) s i = bif ilt i N then step i s (fun s' => L k s' (wadd .i64 i 1)) else fin s) (hN : N ≤ 1000000) {K : Nat} (hK : N.toNat < K) (s : σ) :
 L K s 0 = goL step fin (List.range N.toNat) s := by
 have hw : ∀ (k : Nat) (s : σ) (i : Nat), N.toNat - i < k → i ≤ N.toNat → L k s i = goL step fin ((List.range N.toNat).drop i) s := by
  intro k
  induction k with
  | zero => intro s i h; omega
  | succ k ih =>
   intro s i hk hi
   rw [h k s i hi]
   by_cases hlt : i < N.toNat
   · have e : (List.range N.toNat).drop i = i :: (List.range N.toNat).drop (i + 1) := by
      rw [List.drop_eq_getElem_cons (by simpa using hlt)]; simp
     rw [ilt_iff.2 (by omega : (i : Int) < N), cT, e, goL]
     congr 1
     funext s'
     rw [wadd_nat om]
     exact ih s' (i + 1) om om
   · have e : (List.range N.toNat).drop i = [] := List.drop_eq_nil_of_le (by simp; omega)
     rw [ilt_f.2 (by omega : N ≤ (i : Int)), cF, e]; rfl
 have := hw K s 0 om om
 rw [List.drop_zero] at this
 exact this
def homeS (j : GJob) (v : Int) : Int := bif ilt v 0 || (ilt j.Parts 1 || ilt 6 j.Parts) then -1 else v % j.Parts
theorem wrem_emod {a b : Int} (h : 0 ≤ a) : wrem a b = a % b := by
 show Int.tmod _ _ = _
 exact Int.tmod_eq_emod_of_nonneg h
theorem F94_spec (K : Nat) (j : GJob) (v : Int) : F94 K j v = some (homeS j v) := by
 rw [F94, homeS]
 cases h0 : ilt v 0
 · cases h1 : ilt j.Parts 1
   · cases h2 : ilt 6 j.Parts
     · have v0 := ilt_f.1 h0
       have p1 := ilt_f.1 h1
       have hz : izero j.Parts = false := decide_eq_false om
       rw [hz, wrem_emod v0]; rfl
     · rfl
   · rfl
 · rfl
def vertsN (n parts : Nat) (p : Int) : List Nat := (List.range n).filter fun v => ieq ((v % parts : Nat) : Int) p
def vertsS (g : GGraph) (j : GJob) (p : Int) : List Nat := vertsN g.N.toNat j.Parts.toNat p
theorem F39_spec {K : Nat} (hK : 100 ≤ K) {g : GGraph} {j : GJob} (h1 : 1 ≤ j.Parts) (h2 : j.Parts ≤ 6) (hn : g.N ≤ 24) (p : Int) : F39 K g j p = some ((vertsS g j p).map Int.ofNat) := by
 let step : Nat → List Int → (List Int → Option (List Int)) → Option (List Int) := fun i s c =>
  bif (izero j.Parts) then none else bif (ieq (wrem (i : Int) j.Parts) p) then (bif (apok (len s) 1 8) then c (appL s [(i : Int)]) else none) else c s
 have h := scanN (N := g.N) (L := fun k s i => F39_l0_0 K g j p k s i) step (fun s => some s) (fun k s i _ => rfl) om (K := K) om []
 have hz : izero j.Parts = false := decide_eq_false om
 obtain ⟨q, hq⟩ := Int.eq_ofNat_of_zero_le (show 0 ≤ j.Parts by omega)
 have hw : ∀ (l : List Nat) (s : List Int), s.length + l.length ≤ 1000 → goL step (fun s => some s) l s = some (s ++ (l.filter fun v => ieq ((v % j.Parts.toNat : Nat) : Int) p).map Int.ofNat) := by
  intro l
  induction l with
  | nil => intro s _; simp [goL]
  | cons v l ih =>
   intro s hs
   simp only [List.length_cons] at hs
   rw [goL]
   show (bif (izero j.Parts) then none else bif (ieq (wrem (v : Int) j.Parts) p) then (bif (apok (len s) 1 8) then goL step (fun s => some s) l (appL s [(v : Int)]) else none) else goL step (fun s => some s) l s) = _
   have e : wrem (v : Int) j.Parts = ((v % j.Parts.toNat : Nat) : Int) := by rw [wrem_emod om, hq]; simp
   rw [hz, cF, e, List.filter_cons]
   cases ieq ((v % j.Parts.toNat : Nat) : Int) p
   · rw [cF, ih s om]; rfl
   · have ha : apok (len s) 1 8 = true := decide_eq_true ⟨by show s.length + 1 ≤ _; omega, by show (s.length + 1) * 8 ≤ _; omega⟩
     rw [cT, ha, cT, ih _ (by simp [appL]; omega)]
     simp [appL]
 rw [hw _ _ (by simp; omega), List.nil_append] at h
 have h' : F39_l0_0 K g j p K [] 0 = _ := h
 rw [F39, h']; rfl
theorem cnt_all : ∀ parts < 7, 0 < parts → ∀ n < 25, ∀ p < parts, ((List.range n).filter fun v => v % parts == p).length = (n + parts - 1 - p) / parts := by decide +kernel
def countS (g : GGraph) (j : GJob) (p : Int) : Int := ((vertsS g j p).length : Int)
theorem vertsN_len {n parts : Nat} (h1 : 0 < parts) (h2 : parts < 7) (hn : n < 25) {p : Nat} (hp : p < parts) : (vertsN n parts (p : Int)).length = (n + parts - 1 - p) / parts := by
 rw [← cnt_all parts h2 h1 n hn p hp, vertsN]
 congr 1
 refine List.filter_congr fun v _ => ?_
 rw [Bool.eq_iff_iff, ieq_iff, beq_iff_eq]; omega
theorem vertsN_none {n parts : Nat} (h1 : 0 < parts) {p : Int} (hp : p < 0 ∨ (parts : Int) ≤ p) : vertsN n parts p = [] := by
 rw [vertsN, List.filter_eq_nil_iff]
 intro v _ hc
 have := ieq_iff.1 hc
 have := Nat.mod_lt v h1
 omega
theorem F103_spec {K : Nat} (hK : 100 ≤ K) (g : GGraph) (j : GJob) (p : Int) (hp : -9223372036854775808 ≤ p ∧ p ≤ 9223372036854775807) : F103 K g j p = some (bif ieq (jcheck g j) 0 then countS g j p else 0) := by
 rw [F103, F31_spec hK, bS]
 cases hc : ieq (jcheck g j) 0
 · rfl
 · obtain ⟨hg, p1, p2, p3, p4, p5, p6, p7, p8⟩ := jcheck_ok hc
   obtain ⟨g1, g2, _, _⟩ := gcheck_ok hg
   rw [cT, cT, F110]
   cases h0 : ilt p 0
   · cases h1 : ile j.Parts p
     · have q0 := ilt_f.1 h0
       have q1 := ile_f.1 h1
       obtain ⟨q, rfl⟩ := Int.eq_ofNat_of_zero_le q0
       have hz : izero j.Parts = false := decide_eq_false om
       have e1 : wsub .i64 g.N (q : Int) = g.N - q := by show IntKind.i64.wrap _ = _; rw [IntKind.wrap_i64]; omega
       have e2 : wadd .i64 (g.N - q) j.Parts = g.N - q + j.Parts := by show IntKind.i64.wrap _ = _; rw [IntKind.wrap_i64]; omega
       have e3 : wsub .i64 (g.N - q + j.Parts) 1 = g.N - q + j.Parts - 1 := by show IntKind.i64.wrap _ = _; rw [IntKind.wrap_i64]; omega
       obtain ⟨n, hn⟩ := Int.eq_ofNat_of_zero_le (show 0 ≤ g.N by omega)
       obtain ⟨m, hm⟩ := Int.eq_ofNat_of_zero_le (show 0 ≤ j.Parts by omega)
       have hnum : g.N - (q : Int) + j.Parts - 1 = ((n + m - 1 - q : Nat) : Int) := by omega
       obtain ⟨d, hd⟩ : ∃ d, (n + m - 1 - q) / m = d := ⟨_, rfl⟩
       have e4 : wquo .i64 (g.N - q + j.Parts - 1) j.Parts = (d : Int) := by
        show IntKind.i64.wrap ((g.N - q + j.Parts - 1).tdiv j.Parts) = _
        rw [hnum, hm, Int.tdiv_eq_ediv_of_nonneg om]
        have hle : d ≤ n + m - 1 - q := hd ▸ Nat.div_le_self _ _
        have : (((n + m - 1 - q : Nat) : Int) / ((m : Nat) : Int)) = (d : Int) := by rw [← hd]; rfl
        rw [this, IntKind.wrap_i64]; omega
       have ecs : countS g j (q : Int) = (d : Int) := by
        unfold countS vertsS
        have a1 : g.N.toNat = n := by omega
        have a2 : j.Parts.toNat = m := by omega
        rw [a1, a2, vertsN_len om om om om, hd]
       rw [cF, cF, hz, cF, e1, e2, e3, e4, bS, ecs]
       cases hpos : ilt 0 (d : Int)
       · have := ilt_f.1 hpos
         have : d = 0 := by omega
         rw [this]; rfl
       · rfl
     · have q1 := ile_iff.1 h1
       have : countS g j p = 0 := by
        unfold countS vertsS
        rw [vertsN_none om (.inr om)]; rfl
       rw [this]; rfl
   · have q0 := ilt_iff.1 h0
     have : countS g j p = 0 := by
      unfold countS vertsS
      rw [vertsN_none om (.inl q0)]; rfl
     rw [this]; rfl
theorem mem_verts {g : GGraph} {j : GJob} (h1 : 1 ≤ j.Parts) {p : Int} {v : Nat} : v ∈ vertsS g j p ↔ (v : Int) < g.N ∧ (v : Int) % j.Parts = p := by
 obtain ⟨m, hm⟩ := Int.eq_ofNat_of_zero_le (show 0 ≤ j.Parts by omega)
 simp only [vertsS, vertsN, List.mem_filter, List.mem_range, ieq_iff]
 have : j.Parts.toNat = m := by omega
 rw [this, hm]
 constructor
 · rintro ⟨a, b⟩; exact ⟨by omega, by rw [← b]; simp⟩
 · rintro ⟨a, b⟩; exact ⟨by omega, by rw [← b]; simp⟩
def inOkS (n parts p : Int) : Int → List GMsg → Bool
 | _, [] => true
 | prev, m :: r => ilt prev m.To && (ilt m.To n && (ieq (m.To % parts) p && inOkS n parts p m.To r))
def inSt (n : Int) : Int → List GMsg → Bool
 | _, [] => true
 | prev, m :: r => ilt prev m.To && (ilt m.To n && inSt n m.To r)
def sumU (b : Bool) : Unit ⊕ Unit := bif b then .inr () else .inl ()
theorem sumU_elim (b : Bool) : (some (sumU b)).bind (fun y => Sum.elim (fun w => some false) (fun w => some true) y) = some b := by cases b <;> rfl
theorem not_ile {a b : Int} : ile a b = !(ilt b a) := by
 unfold ile ilt; by_cases h : b < a <;> simp [h] <;> omega
def partRight (g : GGraph) (j : GJob) (x : GPart) : Bool :=
 ieq (jcheck g j) 0 && (ile 0 x.P && (ilt x.P j.Parts && (ile 0 x.Step && (ile x.Step 40 && (ieq (x.Vals.length : Int) (countS g j x.P) && (ieq (x.Rest.length : Int) (countS g j x.P) && inOkS g.N j.Parts x.P (-1) x.In))))))
theorem F91_loop {K : Nat} (g : GGraph) (j : GJob) (x : GPart) (hp : 1 ≤ j.Parts) (hl : x.In.length < 1000000) (hK : x.In.length < K) : F91_l0_0 K g j x K (-1) 0 = some (sumU (inOkS g.N j.Parts x.P (-1) x.In)) := by
 let step : GMsg → Int → (Int → Option (Unit ⊕ Unit)) → Option (Unit ⊕ Unit) := fun m s c =>
  bif (ile m.To s) then (some (.inl ())) else bif (ile g.N m.To) then (some (.inl ())) else bif (izero j.Parts) then none else bif (ieq (wrem m.To j.Parts) x.P) then c m.To else some (.inl ())
 have h := scanL (l := x.In) (L := fun k s i => F91_l0_0 K g j x k s i) step (fun _ => some (.inr ())) (fun k s i _ => rfl) om (K := K) hK (-1)
 have hz : izero j.Parts = false := decide_eq_false om
 have hw : ∀ (l : List GMsg) (s : Int), -1 ≤ s → goL step (fun _ => some (.inr ())) l s = some (sumU (inOkS g.N j.Parts x.P s l)) := by
  intro l
  induction l with
  | nil => intro s _; rfl
  | cons m l ih =>
   intro s hs
   rw [goL]
   show (bif (ile m.To s) then (some (.inl ())) else bif (ile g.N m.To) then (some (.inl ())) else bif (izero j.Parts) then none else bif (ieq (wrem m.To j.Parts) x.P) then goL step (fun _ => some (.inr ())) l m.To else some (.inl ())) = _
   rw [inOkS, hz, not_ile, not_ile]
   cases h1 : ilt s m.To
   · rfl
   · have h1' := ilt_iff.1 h1
     rw [wrem_emod om, ih m.To om]
     cases ilt m.To g.N <;> cases ieq (m.To % j.Parts) x.P <;> rfl
 rw [hw _ _ om] at h
 exact h
theorem F91_spec {K : Nat} (hK : 1000 ≤ K) (g : GGraph) (j : GJob) (x : GPart) (hl : x.In.length < 1000000) (hk : x.In.length < K) (hp : -9223372036854775808 ≤ x.P ∧ x.P ≤ 9223372036854775807) : F91 K g j x = some (partRight g j x) := by
 rw [F91, F31_spec om, bS, partRight]
 cases hc : ieq (jcheck g j) 0
 · rfl
 · obtain ⟨hg, p1, p2, p3, p4, p5, p6, p7, p8⟩ := jcheck_ok hc
   rw [cT, F103_spec om g j x.P hp, hc, F91_loop g j x p7 hl hk]
   have n1 : nlen (len x.Vals) = (x.Vals.length : Int) := rfl
   have n2 : nlen (len x.Rest) = (x.Rest.length : Int) := rfl
   rw [ilt_not' x.P 0, not_ile (a := j.Parts), ilt_not' x.Step 0, ilt_not' 40 x.Step, n1, n2, cT, bS, sumU_elim]
   cases ile 0 x.P <;> cases ilt x.P j.Parts <;> cases ile 0 x.Step <;> cases ile x.Step 40 <;> cases ieq (x.Vals.length : Int) (countS g j x.P) <;> cases ieq (x.Rest.length : Int) (countS g j x.P) <;> rfl
theorem any_verts {g : GGraph} {j : GJob} (hp : 1 ≤ j.Parts) (p to : Int) : (((vertsS g j p).map Int.ofNat).any fun v => ieq v to) = (ile 0 to && (ilt to g.N && ieq (to % j.Parts) p)) := by
 rw [Bool.eq_iff_iff]
 simp only [List.any_map, List.any_eq_true, Function.comp, Bool.and_eq_true, ile_iff, ilt_iff, ieq_iff]
 constructor
 · rintro ⟨v, hv, e⟩
   have := (mem_verts hp).1 hv
   have e' : (v : Int) = to := e
   rw [← e']; exact ⟨by omega, this⟩
 · rintro ⟨h0, h1, h2⟩
   obtain ⟨v, rfl⟩ := Int.eq_ofNat_of_zero_le h0
   exact ⟨v, (mem_verts hp).2 ⟨h1, h2⟩, rfl⟩
theorem F17_inner {K : Nat} (x : GPart) (l : List Int) (v : Int) (m : GMsg) (hl : l.length < 1000000) (hk : l.length < K) : F17_l1_1 K x l v m K false 0 = some (l.any fun v => ieq v m.To) := by
 have h := scanL (l := l) (L := fun k s i => F17_l1_1 K x l v m k s i) (fun y s c => bif s then c true else c (ieq y m.To)) (fun s => some s) (fun k s i _ => by
  show F17_l1_1 K x l v m (k + 1) s i = _
  rw [F17_l1_1]
  rcases at_idx l i with ⟨z, e1, e2, e3, e4⟩ | ⟨e1, e2⟩
  · rw [e2, e3, e4]; cases s <;> rfl
  · rw [e2]; rfl) om (K := K) hk false
 have hw : ∀ (l : List Int) (s : Bool), goL (fun y s c => bif s then c true else c (ieq y m.To)) (fun s => some s) l s = some (s || l.any fun v => ieq v m.To) := by
  intro l
  induction l with
  | nil => intro s; simp [goL]
  | cons y l ih =>
   intro s
   rw [goL]
   cases s
   · rw [cF, ih, List.any_cons, Bool.false_or]
   · rw [cT, ih]; rfl
 rw [hw, Bool.false_or] at h
 exact h
theorem verts_len (g : GGraph) (j : GJob) (hn : g.N ≤ 24) (p : Int) : (vertsS g j p).length ≤ 24 := by
 unfold vertsS vertsN
 refine Nat.le_trans (List.length_filter_le _ _) ?_
 simp; omega
theorem F17_loop {K : Nat} (hK : 1000 ≤ K) (g : GGraph) (j : GJob) (x : GPart) (hp : 1 ≤ j.Parts) (hn : g.N ≤ 24) (hl : x.In.length < 1000000) (hk : x.In.length < K) : F17_l0_0 K x ((vertsS g j x.P).map Int.ofNat) K 0 = some (sumU (inOkS g.N j.Parts x.P (-1) x.In)) := by
 have hv := verts_len g j hn x.P
 let step : Nat → GMsg → Unit → (Unit → Option (Unit ⊕ Unit)) → Option (Unit ⊕ Unit) := fun i m _ c =>
  (F17_l1_1 K x ((vertsS g j x.P).map Int.ofNat) (i : Int) m K false 0).bind fun w3384 =>
  bif w3384 then
   (bif (ilt 0 (i : Int)) then
    (bif (inr (wsub .i64 (i : Int) 1) (len x.In)) then
    (elAt x.In (wsub .i64 (i : Int) 1)).bind fun x3389 =>
    bif (ile m.To x3389.To) then (some (.inl ())) else c ()
    else none)
   else c ())
  else some (.inl ())
 have h := scanI (l := x.In) (L := fun k (_ : Unit) i => F17_l0_0 K x ((vertsS g j x.P).map Int.ofNat) k i) step (fun _ => some (.inr ())) (fun k st i hi => rfl) om K () 0 om om
 have hw : ∀ (r : List GMsg) (i : Nat), x.In.drop i = r → goI step (fun _ => some (.inr ())) i r () = some (sumU (inOkS g.N j.Parts x.P (match prevOf x.In i with | none => -1 | some d => if 0 ≤ d.To then d.To else -1) r)) ∨ (∃ d, prevOf x.In i = some d ∧ d.To < 0) := by
  intro r
  induction r with
  | nil => intro i _; exact .inl rfl
  | cons m r ih =>
   intro i hr
   obtain ⟨n1, n2, hi⟩ := prev_next hr
   by_cases hneg : ∃ d, prevOf x.In i = some d ∧ d.To < 0
   · exact .inr hneg
   left
   rw [goI]
   show ((F17_l1_1 K x ((vertsS g j x.P).map Int.ofNat) (i : Int) m K false 0).bind fun w3384 =>
   bif w3384 then
    (bif (ilt 0 (i : Int)) then
     (bif (inr (wsub .i64 (i : Int) 1) (len x.In)) then
     (elAt x.In (wsub .i64 (i : Int) 1)).bind fun x3389 =>
     bif (ile m.To x3389.To) then (some (.inl ())) else goI step (fun _ => some (.inr ())) (i + 1) r ()
     else none)
    else goI step (fun _ => some (.inr ())) (i + 1) r ())
   else some (.inl ())) = _
   rw [F17_inner x _ _ m (by simp; omega) (by simp; omega), any_verts hp, bS]
   cases h0 : ile 0 m.To
   · have := ile_f.1 h0
     have hno : ∀ a : Int, -1 ≤ a → ilt a m.To = false := fun a ha => ilt_f.2 om
     have hprev : (-1 : Int) ≤ (match prevOf x.In i with | none => -1 | some d => if 0 ≤ d.To then d.To else -1) := by
      split
      · omega
      · split <;> omega
     rw [inOkS, hno _ hprev]; rfl
   · have hm0 := ile_iff.1 h0
     have nx : goI step (fun _ => some (.inr ())) (i + 1) r () = some (sumU (inOkS g.N j.Parts x.P m.To r)) := by
      rcases ih (i + 1) n2 with q | ⟨d, q1, q2⟩
      · rw [n1] at q
        dsimp only at q
        rw [if_pos hm0] at q; exact q
      · rw [n1] at q1; cases q1; omega
     rw [nx, inOkS]
     cases i with
     | zero =>
      have e1 : ilt 0 ((0 : Nat) : Int) = false := rfl
      have e2 : (match prevOf x.In 0 with | none => (-1 : Int) | some d => if 0 ≤ d.To then d.To else -1) = -1 := rfl
      rw [e1, e2, ilt_iff.2 (by omega : (-1 : Int) < m.To)]
      cases ilt m.To g.N <;> cases ieq (m.To % j.Parts) x.P <;> rfl
     | succ q =>
      obtain ⟨d, p1, p2, p3, p4⟩ := prev_at (l := x.In) (i := q + 1) om hi om
      have hd : ¬ d.To < 0 := fun hh => hneg ⟨d, p1, hh⟩
      have e1 : ilt 0 ((q + 1 : Nat) : Int) = true := ilt_iff.2 om
      rw [e1, p2, p3, p4, p1]
      simp only [bS, cT, Bool.true_and, not_ile (a := m.To), if_pos (show 0 ≤ d.To by omega)]
      cases ilt d.To m.To <;> cases ilt m.To g.N <;> cases ieq (m.To % j.Parts) x.P <;> rfl
 rcases hw x.In 0 rfl with q | ⟨d, q1, _⟩
 · rw [List.drop_zero, q] at h; exact h
 · cases q1
theorem F17_spec {K : Nat} (hK : 1000 ≤ K) (g : GGraph) (j : GJob) (x : GPart) (hl : x.In.length < 1000000) (hk : x.In.length < K) : F17 K g j x = some (partRight g j x) := by
 rw [F17, F19_spec om, bS, partRight]
 cases hc : ieq (jcheck g j) 0
 · rfl
 · obtain ⟨hg, p1, p2, p3, p4, p5, p6, p7, p8⟩ := jcheck_ok hc
   obtain ⟨g1, g2, _, _⟩ := gcheck_ok hg
   have n3 : nlen (len ((vertsS g j x.P).map Int.ofNat)) = countS g j x.P := by simp [nlen, len, countS]
   rw [cT, F39_spec om p7 p8 g2, bS, F17_loop hK g j x p7 g2 hl hk, n3]
   have n1 : nlen (len x.Vals) = (x.Vals.length : Int) := rfl
   have n2 : nlen (len x.Rest) = (x.Rest.length : Int) := rfl
   rw [ilt_not' x.P 0, not_ile (a := j.Parts), ilt_not' x.Step 0, ilt_not' 40 x.Step, n1, n2, sumU_elim]
   cases ile 0 x.P <;> cases ilt x.P j.Parts <;> cases ile 0 x.Step <;> cases ile x.Step 40 <;> cases ieq (x.Vals.length : Int) (countS g j x.P) <;> cases ieq (x.Rest.length : Int) (countS g j x.P) <;> rfl
def stRight (g : GGraph) (j : GJob) (s : GState) : Bool :=
 ieq (jcheck g j) 0 && (ile 0 s.Step && (ile s.Step 40 && (ieq (s.Vals.length : Int) g.N && (ieq (s.Rest.length : Int) g.N && inSt g.N (-1) s.In))))
theorem F20_loop {K : Nat} (g : GGraph) (s : GState) (hl : s.In.length < 1000000) (hK : s.In.length < K) : F20_l0_0 K g s K 0 = some (sumU (inSt g.N (-1) s.In)) := by
 let step : Nat → GMsg → Unit → (Unit → Option (Unit ⊕ Unit)) → Option (Unit ⊕ Unit) := fun i m _ c =>
  bif (ilt m.To 0) then (some (.inl ())) else bif (ile g.N m.To) then (some (.inl ())) else
  bif (ilt 0 (i : Int)) then
   (bif (inr (wsub .i64 (i : Int) 1) (len s.In)) then
   (elAt s.In (wsub .i64 (i : Int) 1)).bind fun d => bif (ile m.To d.To) then (some (.inl ())) else c ()
   else none)
  else c ()
 have h := scanI (l := s.In) (L := fun k (_ : Unit) i => F20_l0_0 K g s k i) step (fun _ => some (.inr ())) (fun k st i hi => rfl) om K () 0 om om
 have hw : ∀ (r : List GMsg) (i : Nat), s.In.drop i = r → (∀ d, prevOf s.In i = some d → 0 ≤ d.To) → goI step (fun _ => some (.inr ())) i r () = some (sumU (inSt g.N (match prevOf s.In i with | none => -1 | some d => d.To) r)) := by
  intro r
  induction r with
  | nil => intro i _ _; rfl
  | cons m r ih =>
   intro i hr hp
   obtain ⟨n1, n2, hi⟩ := prev_next hr
   rw [goI]
   show (bif (ilt m.To 0) then (some (.inl ())) else bif (ile g.N m.To) then (some (.inl ())) else
   bif (ilt 0 (i : Int)) then
    (bif (inr (wsub .i64 (i : Int) 1) (len s.In)) then
    (elAt s.In (wsub .i64 (i : Int) 1)).bind fun d => bif (ile m.To d.To) then (some (.inl ())) else goI step (fun _ => some (.inr ())) (i + 1) r ()
    else none)
   else goI step (fun _ => some (.inr ())) (i + 1) r ()) = _
   cases h0 : ilt m.To 0
   · have hm0 := ilt_f.1 h0
     have nx := ih (i + 1) n2 (fun d hd => by rw [n1] at hd; cases hd; exact hm0)
     rw [n1] at nx
     dsimp only at nx
     rw [nx, inSt, not_ile]
     cases i with
     | zero =>
      have e1 : ilt 0 ((0 : Nat) : Int) = false := rfl
      have e2 : (match prevOf s.In 0 with | none => (-1 : Int) | some d => d.To) = -1 := rfl
      rw [e1, e2, ilt_iff.2 (by omega : (-1 : Int) < m.To)]
      cases ilt m.To g.N <;> rfl
     | succ q =>
      obtain ⟨d, p1, p2, p3, p4⟩ := prev_at (l := s.In) (i := q + 1) om hi om
      have e1 : ilt 0 ((q + 1 : Nat) : Int) = true := ilt_iff.2 om
      rw [e1, p2, p3, p4, p1]
      simp only [bS, cT, cF, not_ile (a := m.To)]
      cases ilt d.To m.To <;> cases ilt m.To g.N <;> rfl
   · have hm0 := ilt_iff.1 h0
     have hno : ∀ a : Int, -1 ≤ a → ilt a m.To = false := fun a ha => ilt_f.2 om
     have hprev : (-1 : Int) ≤ (match prevOf s.In i with | none => -1 | some d => d.To) := by
      split
      · omega
      · rename_i d hd; have := hp d hd; omega
     rw [inSt, hno _ hprev]; rfl
 have := hw s.In 0 rfl (fun d hd => by cases hd)
 rw [List.drop_zero, this] at h
 exact h
theorem F20_spec {K : Nat} (hK : 1000 ≤ K) (g : GGraph) (j : GJob) (s : GState) (hl : s.In.length < 1000000) (hk : s.In.length < K) : F20 K g j s = some (stRight g j s) := by
 rw [F20, F19_spec om, bS, stRight]
 cases hc : ieq (jcheck g j) 0
 · rfl
 · rw [cT, F20_loop g s hl hk]
   have n1 : nlen (len s.Vals) = (s.Vals.length : Int) := rfl
   have n2 : nlen (len s.Rest) = (s.Rest.length : Int) := rfl
   rw [ilt_not' s.Step 0, ilt_not' 40 s.Step, n1, n2, sumU_elim]
   cases ile 0 s.Step <;> cases ile s.Step 40 <;> cases ieq (s.Vals.length : Int) g.N <;> cases ieq (s.Rest.length : Int) g.N <;> rfl
theorem self_go {α : Type} {l : List α} (eq : α → α → Option (Unit ⊕ Unit) → Option (Unit ⊕ Unit)) (he : ∀ x ∈ l, ∀ c, eq x x c = c) : ∀ (r : List α) (i : Nat), l.drop i = r →
 goI (fun i x (_ : Unit) c => bif inr (i : Int) (len l) then (elAt l (i : Int)).bind fun y => eq x y (c ()) else none) (fun _ => some (.inr ())) i r () = some (.inr ()) := by
 intro r
 induction r with
 | nil => intro i _; rfl
 | cons x r ih =>
  intro i hr
  have hi := lt_of_drop' hr
  have hd := List.drop_eq_getElem_cons hi
  rw [hr] at hd
  injection hd with a b
  have e1 : inr (i : Int) (len l) = true := decide_eq_true ⟨by omega, by show (i : Int) < (l.length : Int); omega⟩
  have e2 : elAt l (i : Int) = some x := by rw [elAt_nat, a]; simp [hi]
  rw [goI, e1, e2, cT, bS, he x (by rw [a]; exact List.getElem_mem hi)]
  exact ih (i + 1) b.symm
theorem same140 {K : Nat} (l : List Int) (hl : l.length < 1000000) (hK : l.length < K) : F52 K l l = some true := by
 have h := scanI (l := l) (L := fun k (_ : Unit) i => F52_l0_0 K l l k i) (fun i x (_ : Unit) c => bif inr (i : Int) (len l) then (elAt l (i : Int)).bind fun y => bif ieq x y then c () else some (.inl ()) else none) (fun _ => some (.inr ())) (fun k st i hi => rfl) om K () 0 om om
 have g := self_go (l := l) (fun x y c => bif ieq x y then c else some (.inl ())) (fun x _ c => by rw [ieq_refl]; rfl) l 0 rfl
 have h' : F52_l0_0 K l l K 0 = some (.inr ()) := h.trans g
 rw [F52, ieq_refl, h']; rfl
theorem same141 {K : Nat} (l : List Bool) (hl : l.length < 1000000) (hK : l.length < K) : F53 K l l = some true := by
 have h := scanI (l := l) (L := fun k (_ : Unit) i => F53_l0_0 K l l k i) (fun i x (_ : Unit) c => bif inr (i : Int) (len l) then (elAt l (i : Int)).bind fun y => bif beqb x y then c () else some (.inl ()) else none) (fun _ => some (.inr ())) (fun k st i hi => rfl) om K () 0 om om
 have g := self_go (l := l) (fun x y c => bif beqb x y then c else some (.inl ())) (fun x _ c => by rw [beqb_refl]; rfl) l 0 rfl
 have h' : F53_l0_0 K l l K 0 = some (.inr ()) := h.trans g
 rw [F53, ieq_refl, h']; rfl
theorem same89 {K : Nat} (l : List GMsg) (hl : l.length < 1000000) (hK : l.length < K) : F37 K l l = some true := by
 have h := scanI (l := l) (L := fun k (_ : Unit) i => F37_l0_0 K l l k i) (fun i x (_ : Unit) c => bif inr (i : Int) (len l) then (elAt l (i : Int)).bind fun y => bif ieq x.To y.To then (bif ieq x.V y.V then c () else some (.inl ())) else some (.inl ()) else none) (fun _ => some (.inr ())) (fun k st i hi => rfl) om K () 0 om om
 have g := self_go (l := l) (fun x y c => bif ieq x.To y.To then (bif ieq x.V y.V then c else some (.inl ())) else some (.inl ())) (fun x _ c => by rw [ieq_refl, ieq_refl]; rfl) l 0 rfl
 have h' : F37_l0_0 K l l K 0 = some (.inr ()) := h.trans g
 rw [F37, ieq_refl, h']; rfl
def fitP (K : Nat) (x : GPart) : Prop := (x.Vals.length < 1000000 ∧ x.Vals.length < K) ∧ (x.Rest.length < 1000000 ∧ x.Rest.length < K) ∧ x.In.length < 1000000 ∧ x.In.length < K
theorem sorted_ext {α : Type} {lt : α → α → Prop} (asym : ∀ a b, lt a b → ¬ lt b a) : ∀ {l l' : List α}, l.Pairwise lt → l'.Pairwise lt → (∀ x, x ∈ l ↔ x ∈ l') → l = l'
 | [], [], _, _, _ => rfl
 | [], b :: l', _, _, h => absurd ((h b).2 List.mem_cons_self) (by simp)
 | a :: l, [], _, _, h => absurd ((h a).1 List.mem_cons_self) (by simp)
 | a :: l, b :: l', h1, h2, h => by
  obtain ⟨p1, p2⟩ := List.pairwise_cons.1 h1
  obtain ⟨q1, q2⟩ := List.pairwise_cons.1 h2
  have hab : a = b := by
   rcases List.mem_cons.1 ((h a).1 List.mem_cons_self) with e | e
   · exact e
   · rcases List.mem_cons.1 ((h b).2 List.mem_cons_self) with e' | e'
     · exact e'.symm
     · exact absurd (p1 b e') (asym _ _ (q1 a e))
  subst hab
  congr 1
  refine sorted_ext asym p2 q2 fun x => ⟨fun hx => ?_, fun hx => ?_⟩
  · rcases List.mem_cons.1 ((h x).1 (List.mem_cons_of_mem _ hx)) with e | e
    · subst e; exact absurd (p1 x hx) (fun q => asym _ _ q q)
    · exact e
  · rcases List.mem_cons.1 ((h x).2 (List.mem_cons_of_mem _ hx)) with e | e
    · subst e; exact absurd (q1 x hx) (fun q => asym _ _ q q)
    · exact e
def leM (a b : GMsg) : Bool := ilt a.To b.To || (ieq a.To b.To && ile a.V b.V)
theorem leM_iff {a b : GMsg} : leM a b = true ↔ a.To < b.To ∨ a.To = b.To ∧ a.V ≤ b.V := by simp [leM, ilt, ieq, ile]
theorem leM_f {a b : GMsg} : leM a b = false ↔ ¬ (a.To < b.To ∨ a.To = b.To ∧ a.V ≤ b.V) := by rw [← leM_iff]; simp
theorem leM_trans {a b c : GMsg} (h : leM a b = true) (g : leM b c = true) : leM a c = true := by rw [leM_iff] at *; omega
theorem leM_anti {a b : GMsg} (h : leM a b = true) (g : leM b a = true) : a = b := by
 rw [leM_iff] at h g
 cases a; cases b
 simp only [GMsg.mk.injEq]
 dsimp only at h g
 omega
theorem leM_total {a b : GMsg} (h : leM a b = false) : leM b a = true := by rw [leM_f] at h; rw [leM_iff]; omega
def srtM (l : List GMsg) : Prop := l.Pairwise fun a b => leM a b = true
theorem srtM_eq {l l' : List GMsg} (h : srtM l) (h' : srtM l') (hp : l.Perm l') : l = l' :=
 List.Perm.eq_of_pairwise (fun a b _ _ h1 h2 => leM_anti h1 h2) h h' hp
def bubR : List GMsg → GMsg → List GMsg → List GMsg
 | [], x, Q => x :: Q
 | y :: R, x, Q => bif leM y x then (y :: R).reverse ++ x :: Q else bubR R x (y :: Q)
def sortM (l : List GMsg) : List GMsg := l.foldl (fun acc x => bubR acc.reverse x []) []
theorem bubR_perm (x : GMsg) : ∀ (R Q : List GMsg), (bubR R x Q).Perm (R.reverse ++ x :: Q)
 | [], Q => List.Perm.refl _
 | y :: R, Q => by
  rw [bubR]
  cases leM y x
  · refine (bubR_perm x R (y :: Q)).trans ?_
    rw [List.reverse_cons, List.append_assoc]
    exact List.Perm.append_left _ (List.Perm.swap y x Q)
  · exact List.Perm.refl _
theorem bubR_srt (x : GMsg) : ∀ (R Q : List GMsg), srtM (R.reverse ++ Q) → (∀ q ∈ Q, leM x q = true) → srtM (bubR R x Q)
 | [], Q, h, hx => List.pairwise_cons.2 ⟨hx, h⟩
 | y :: R, Q, h, hx => by
  rw [bubR]
  cases hy : leM y x
  · refine bubR_srt x R (y :: Q) ?_ fun q hq => ?_
    · rw [List.reverse_cons, List.append_assoc] at h; exact h
    · rcases List.mem_cons.1 hq with e | e
      · subst e; exact leM_total hy
      · exact hx q e
  · obtain ⟨h1, h2, h3⟩ := List.pairwise_append.1 h
    refine List.pairwise_append.2 ⟨h1, List.pairwise_cons.2 ⟨hx, h2⟩, fun a ha b hb => ?_⟩
    have hay : a = y ∨ leM a y = true := by
     rw [List.reverse_cons] at ha h1
     obtain ⟨_, _, h6⟩ := List.pairwise_append.1 h1
     rcases List.mem_append.1 ha with e | e
     · exact .inr (h6 a e y (by simp))
     · exact .inl (List.mem_singleton.1 e)
    rcases List.mem_cons.1 hb with e | e
    · subst e
      rcases hay with e | e
      · subst e; exact hy
      · exact leM_trans e hy
    · exact h3 a ha b e
theorem sort_go : ∀ (l acc : List GMsg), srtM acc → srtM (l.foldl (fun acc x => bubR acc.reverse x []) acc) ∧ (l.foldl (fun acc x => bubR acc.reverse x []) acc).Perm (acc ++ l)
 | [], acc, h => ⟨h, by simp⟩
 | x :: l, acc, h => by
  have h1 : srtM (bubR acc.reverse x []) := bubR_srt x acc.reverse [] (by simpa using h) (fun q hq => (nomatch hq))
  have h2 : (bubR acc.reverse x []).Perm (acc ++ [x]) := by simpa using bubR_perm x acc.reverse []
  obtain ⟨a, b⟩ := sort_go l _ h1
  refine ⟨a, b.trans ?_⟩
  have := h2.append_right l
  simpa using this
theorem sortM_srt (l : List GMsg) : srtM (sortM l) := (sort_go l [] List.Pairwise.nil).1
theorem sortM_perm (l : List GMsg) : (sortM l).Perm l := by
 have := (sort_go l [] List.Pairwise.nil).2
 rwa [List.nil_append] at this
theorem sortM_len (l : List GMsg) : (sortM l).length = l.length := (sortM_perm l).length_eq
theorem sortM_eq {l r : List GMsg} (h : srtM r) (hp : r.Perm l) : sortM l = r := srtM_eq (sortM_srt l) h ((sortM_perm l).trans hp.symm)
theorem sortM_congr {l l' : List GMsg} (hp : l.Perm l') : sortM l = sortM l' := sortM_eq (sortM_srt l') ((sortM_perm l').trans hp.symm)
theorem swap_at {α : Type} (A : List α) (y x : α) (Q : List α) : (A ++ y :: x :: Q)[A.length]? = some y ∧ (A ++ y :: x :: Q)[A.length + 1]? = some x ∧ (A ++ y :: x :: Q).set A.length x = A ++ x :: x :: Q ∧ (A ++ x :: x :: Q)[A.length + 1]? = some x ∧ (A ++ x :: x :: Q).set (A.length + 1) y = A ++ x :: y :: Q := by
 refine ⟨by simp, ?_, ?_, ?_, ?_⟩
 · rw [List.getElem?_append_right om]; simp
 · rw [List.set_append_right (h := by omega)]; simp
 · rw [List.getElem?_append_right om]; simp
 · rw [List.set_append_right (h := by omega)]; simp
theorem F77_bub (K : Nat) (a : List GMsg) (v : Int) (x : GMsg) : ∀ (R Q : List GMsg) (k : Nat), R.length < k → R.length < 1000000 → F77_l1_1 K a v k (R.reverse ++ x :: Q) (R.length : Int) = some (bubR R x Q) := by
 intro R
 induction R with
 | nil =>
  intro Q k hk _
  obtain ⟨k, rfl⟩ : ∃ q, k = q + 1 := ⟨k - 1, by omega⟩
  rw [F77_l1_1]; rfl
 | cons y R ih =>
  intro Q k hk hl
  obtain ⟨k, rfl⟩ : ∃ q, k = q + 1 := ⟨k - 1, by omega⟩
  simp only [List.length_cons] at hk hl
  have e0 : (y :: R).reverse ++ x :: Q = R.reverse ++ y :: x :: Q := by simp
  obtain ⟨s1, s2, s3, s4, s5⟩ := swap_at R.reverse y x Q
  rw [List.length_reverse] at s1 s2 s3 s4 s5
  have hlen : (R.reverse ++ y :: x :: Q).length = R.length + (Q.length + 2) := by simp
  have w : wsub .i64 ((R.length + 1 : Nat) : Int) 1 = ((R.length : Nat) : Int) := by
   show IntKind.i64.wrap _ = _
   rw [IntKind.wrap_i64]; omega
  have i1 : inr ((R.length : Nat) : Int) (len (R.reverse ++ y :: x :: Q)) = true := decide_eq_true ⟨by omega, by show ((R.length : Nat) : Int) < (((R.reverse ++ y :: x :: Q).length : Nat) : Int); omega⟩
  have i2 : inr ((R.length + 1 : Nat) : Int) (len (R.reverse ++ y :: x :: Q)) = true := decide_eq_true ⟨by omega, by show ((R.length + 1 : Nat) : Int) < (((R.reverse ++ y :: x :: Q).length : Nat) : Int); omega⟩
  have p1 : putAt (R.reverse ++ y :: x :: Q) ((R.length : Nat) : Int) x = R.reverse ++ x :: x :: Q := by unfold putAt; rw [Int.toNat_natCast]; exact s3
  have i3 : inr ((R.length + 1 : Nat) : Int) (len (R.reverse ++ x :: x :: Q)) = true := decide_eq_true ⟨by omega, by show ((R.length + 1 : Nat) : Int) < (((R.reverse ++ x :: x :: Q).length : Nat) : Int); simp; omega⟩
  have p2 : putAt (R.reverse ++ x :: x :: Q) ((R.length + 1 : Nat) : Int) y = R.reverse ++ x :: y :: Q := by unfold putAt; rw [Int.toNat_natCast]; exact s5
  have g1 : elAt (R.reverse ++ y :: x :: Q) ((R.length : Nat) : Int) = some y := by rw [elAt_nat]; exact s1
  have g2 : elAt (R.reverse ++ y :: x :: Q) ((R.length + 1 : Nat) : Int) = some x := by rw [elAt_nat]; exact s2
  have g3 : elAt (R.reverse ++ x :: x :: Q) ((R.length + 1 : Nat) : Int) = some x := by rw [elAt_nat]; exact s4
  rw [e0, List.length_cons, F77_l1_1, ilt_iff.2 (by omega : (0 : Int) < ((R.length + 1 : Nat) : Int)), cT, w, i1, cT, g1, bS, i2, cT, g2, bS, p1, i3, g3, bubR, leM]
  have sw := ih (y :: Q) k om om
  cases ilt y.To x.To
  · cases ieq y.To x.To
    · simp only [cF, cT, bS, p2, Bool.false_or, Bool.false_and]; exact sw
    · cases ile y.V x.V
      · simp only [cF, cT, bS, p2, Bool.false_or, Bool.true_and]; exact sw
      · simp
  · simp
theorem F77_spec {K : Nat} (l : List GMsg) (hl : l.length < 100000) (hK : l.length < K) : F77 K l = some (sortM l) := by
 let step : Nat → GMsg → List GMsg → (List GMsg → Option (List GMsg)) → Option (List GMsg) := fun i x a c =>
  bif (apok (len a) 1 16) then (F77_l1_1 K l (i : Int) K (appL a [x]) (wsub .i64 (nlen (len (α := GMsg) (appL a [x]))) 1)).bind fun w => c w else none
 have h := scanI (l := l) (L := fun k s i => F77_l0_0 K l k s i) step (fun s => some s) (fun k s i _ => rfl) om K [] 0 om om
 have hw : ∀ (r : List GMsg) (i : Nat) (a : List GMsg), a.length + r.length ≤ l.length → goI step (fun s => some s) i r a = some (r.foldl (fun acc x => bubR acc.reverse x []) a) := by
  intro r
  induction r with
  | nil => intro i a _; rfl
  | cons x r ih =>
   intro i a ha
   simp only [List.length_cons] at ha
   rw [goI]
   show (bif (apok (len a) 1 16) then (F77_l1_1 K l (i : Int) K (appL a [x]) (wsub .i64 (nlen (len (α := GMsg) (appL a [x]))) 1)).bind fun w => goI step (fun s => some s) (i + 1) r w else none) = _
   have ap : apok (len a) 1 16 = true := decide_eq_true ⟨by show a.length + 1 ≤ _; omega, by show (a.length + 1) * 16 ≤ _; omega⟩
   have w : wsub .i64 (nlen (len (α := GMsg) (appL a [x]))) 1 = ((a.reverse.length : Nat) : Int) := by
    have : nlen (len (α := GMsg) (appL a [x])) = ((a.length + 1 : Nat) : Int) := by simp [nlen, len, appL]
    rw [this, List.length_reverse]
    show IntKind.i64.wrap _ = _
    rw [IntKind.wrap_i64]; omega
   have e : appL a [x] = a.reverse.reverse ++ x :: [] := by simp [appL]
   have hb := (bubR_perm x a.reverse []).length_eq
   rw [ap, cT, w, e, F77_bub K l (i : Int) x a.reverse [] K (by simp; omega) (by simp; omega), bS, ih (i + 1) _ (by rw [hb]; simp; omega)]; rfl
 rw [List.drop_zero, hw l 0 [] (by simp)] at h
 have h' : F77_l0_0 K l K [] 0 = some (sortM l) := h
 rw [F77, h']; rfl
def i64 (n : Int) : Prop := -9223372036854775808 ≤ n ∧ n ≤ 9223372036854775807
theorem i64_wf {n : Int} (h : (Lit.int .i64 n).wf = true) : i64 n := bounds_i64 h
theorem wmul_ok {a b : Int} (h : i64 (a * b)) : wmul .i64 a b = a * b := by
 show IntKind.i64.wrap (a * b) = _
 rw [IntKind.wrap_i64]; unfold i64 at h; omega
theorem wadd_i64 {a b : Int} (h : i64 (a + b)) : wadd .i64 a b = a + b := by
 show IntKind.i64.wrap (a + b) = _
 rw [IntKind.wrap_i64]; unfold i64 at h; omega
def fitsB (n : Int) : Bool := decide (-9223372036854775808 ≤ n) && decide (n ≤ 9223372036854775807)
theorem fitsB_iff {n : Int} : fitsB n = true ↔ i64 n := by simp [fitsB, i64]
theorem fitsB_f {n : Int} : fitsB n = false ↔ n < -9223372036854775808 ∨ 9223372036854775807 < n := by
 cases h : fitsB n
 · have : ¬ i64 n := fun q => by rw [fitsB_iff.2 q] at h; cases h
   unfold i64 at this
   simp only [true_iff]; omega
 · have := fitsB_iff.1 h
   unfold i64 at this
   simp only [Bool.true_eq_false, false_iff]; omega
def addS (a b : Int) : Int × Bool := bif fitsB (a + b) then (a + b, true) else (0, false)
theorem F102_spec (K : Nat) {a b : Int} (ha : i64 a) (hb : i64 b) : F102 K a b = some (addS a b) := by
 unfold i64 at ha hb
 rw [F102, addS]
 cases h1 : ilt 0 b
 · have b1 := ilt_f.1 h1
   cases h2 : ilt b 0
   · have b2 := ilt_f.1 h2
     have : b = 0 := by omega
     rw [fitsB_iff.2 (by unfold i64; omega), wadd_i64 (by unfold i64; omega)]; rfl
   · have b2 := ilt_iff.1 h2
     have ew : wsub .i64 (-9223372036854775808) b = -9223372036854775808 - b := by
      show IntKind.i64.wrap _ = _
      rw [IntKind.wrap_i64]; omega
     rw [cF, cT, ew]
     cases h3 : ilt a (-9223372036854775808 - b)
     · have := ilt_f.1 h3
       rw [fitsB_iff.2 (by unfold i64; omega), wadd_i64 (by unfold i64; omega)]; rfl
     · have := ilt_iff.1 h3
       rw [fitsB_f.2 om]; rfl
 · have b1 := ilt_iff.1 h1
   have ew : wsub .i64 9223372036854775807 b = 9223372036854775807 - b := by
    show IntKind.i64.wrap _ = _
    rw [IntKind.wrap_i64]; omega
   rw [cT, ew, ilt_f.2 (by omega : (0 : Int) ≤ b), cF]
   cases h3 : ilt (9223372036854775807 - b) a
   · have := ilt_f.1 h3
     rw [fitsB_iff.2 (by unfold i64; omega), wadd_i64 (by unfold i64; omega)]; rfl
   · have := ilt_iff.1 h3
     rw [fitsB_f.2 om]; rfl
theorem F84_spec (K : Nat) {a b : Int} (ha : i64 a) (hb : i64 b) : F84 K a b = some (addS a b) := by
 unfold i64 at ha hb
 have ew : wadd .i64 a b = bif fitsB (a + b) then a + b else bif ilt (a + b) 0 then a + b + 18446744073709551616 else a + b - 18446744073709551616 := by
  show IntKind.i64.wrap (a + b) = _
  rw [IntKind.wrap_i64]
  cases h : fitsB (a + b)
  · have := fitsB_f.1 h
    cases h2 : ilt (a + b) 0
    · have := ilt_f.1 h2; simp only [cF]; omega
    · have := ilt_iff.1 h2; simp only [cF, cT]; omega
  · have := fitsB_iff.1 h; unfold i64 at this; simp only [cT]; omega
 have eg : ∀ x : Int, ige x 0 = !(ilt x 0) := fun x => by
  unfold ige ilt
  by_cases h : x < 0 <;> simp [h] <;> omega
 rw [F84, addS, eg, eg, eg, ew]
 cases h : fitsB (a + b)
 · have h' := fitsB_f.1 h
   rcases h' with h' | h'
   · rw [ilt_iff.2 (by omega : a < 0), ilt_iff.2 (by omega : b < 0), ilt_iff.2 (by omega : a + b < 0)]
     simp only [cF, cT]
     rw [ilt_f.2 (by omega : 0 ≤ a + b + 18446744073709551616)]; rfl
   · rw [ilt_f.2 (by omega : 0 ≤ a), ilt_f.2 (by omega : 0 ≤ b), ilt_f.2 (by omega : 0 ≤ a + b)]
     simp only [cF, cT]
     rw [ilt_iff.2 (by omega : a + b - 18446744073709551616 < 0)]; rfl
 · simp only [cT]
   cases h1 : ilt a 0 <;> cases h2 : ilt b 0
   · rw [ilt_f.2 (by have := ilt_f.1 h1; have := ilt_f.1 h2; omega : 0 ≤ a + b)]; rfl
   · rfl
   · rfl
   · rw [ilt_iff.2 (by have := ilt_iff.1 h1; have := ilt_iff.1 h2; omega : a + b < 0)]; rfl
def foldS (p a b : Int) : Int × Int := bif pbad p then (0, 1) else bif ieq p 5 then (bif (addS a b).2 then ((addS a b).1, 0) else (0, 8)) else bif ieq p 4 then (bif ilt a b then (b, 0) else (a, 0)) else bif ilt b a then (b, 0) else (a, 0)
theorem F74_spec (K : Nat) (p : Int) {a b : Int} (ha : i64 a) (hb : i64 b) : F74 K p a b = some (foldS p a b) := by
 rw [F74, F102_spec K ha hb, foldS, pbad]
 cases ilt p 1
 · cases ilt 5 p
   · cases ieq p 5
     · cases ieq p 4
       · simp only [Bool.or_false, cF]
         cases h1 : ilt a b <;> cases h2 : ilt b a
         · have := ilt_f.1 h1; have := ilt_f.1 h2
           have : a = b := by omega
           subst this; rfl
         · rfl
         · rfl
         · have := ilt_iff.1 h1; have := ilt_iff.1 h2; omega
       · simp only [Bool.or_false, cF, cT]
         cases h1 : ilt a b <;> cases h2 : ilt b a
         · have := ilt_f.1 h1; have := ilt_f.1 h2
           have : a = b := by omega
           subst this; rfl
         · rfl
         · rfl
         · have := ilt_iff.1 h1; have := ilt_iff.1 h2; omega
     · simp only [Bool.or_false, cF, cT, bS]
       cases (addS a b).2 <;> rfl
   · rfl
 · rfl
theorem F106_spec (K : Nat) (p : Int) {a b : Int} (ha : i64 a) (hb : i64 b) : F106 K p a b = some (foldS p a b) := by
 rw [F106]
 rcases prog_cases p with q | q | q | q | q | q
 · subst q
   have e5 : ieq 1 5 = false := rfl
   have e4 : ieq 1 4 = false := rfl
   have eb : pbad 1 = false := rfl
   rw [F143_1, foldS, e5, e4, eb]
   simp only [bS, cT, cF, af_1_1, af_1_3, af_1_2, af_1_4, af_1_5, af_1_0, af_3_1, af_3_3, af_3_2, af_3_4, af_3_5, af_3_0, af_2_1, af_2_3, af_2_2, af_2_4, af_2_5, af_2_0, af_4_1, af_4_3, af_4_2, af_4_4, af_4_5, af_4_0, af_5_1, af_5_3, af_5_2, af_5_4, af_5_5, af_5_0, af_0_1, af_0_3, af_0_2, af_0_4, af_0_5, af_0_0, F82]
   cases ilt b a <;> rfl
 · subst q
   have e5 : ieq 2 5 = false := rfl
   have e4 : ieq 2 4 = false := rfl
   have eb : pbad 2 = false := rfl
   rw [F143_2, foldS, e5, e4, eb]
   simp only [bS, cT, cF, af_1_1, af_1_3, af_1_2, af_1_4, af_1_5, af_1_0, af_3_1, af_3_3, af_3_2, af_3_4, af_3_5, af_3_0, af_2_1, af_2_3, af_2_2, af_2_4, af_2_5, af_2_0, af_4_1, af_4_3, af_4_2, af_4_4, af_4_5, af_4_0, af_5_1, af_5_3, af_5_2, af_5_4, af_5_5, af_5_0, af_0_1, af_0_3, af_0_2, af_0_4, af_0_5, af_0_0, F82]
   cases ilt b a <;> rfl
 · subst q
   have e5 : ieq 3 5 = false := rfl
   have e4 : ieq 3 4 = false := rfl
   have eb : pbad 3 = false := rfl
   rw [F143_3, foldS, e5, e4, eb]
   simp only [bS, cT, cF, af_1_1, af_1_3, af_1_2, af_1_4, af_1_5, af_1_0, af_3_1, af_3_3, af_3_2, af_3_4, af_3_5, af_3_0, af_2_1, af_2_3, af_2_2, af_2_4, af_2_5, af_2_0, af_4_1, af_4_3, af_4_2, af_4_4, af_4_5, af_4_0, af_5_1, af_5_3, af_5_2, af_5_4, af_5_5, af_5_0, af_0_1, af_0_3, af_0_2, af_0_4, af_0_5, af_0_0, F82]
   cases ilt b a <;> rfl
 · subst q
   have e5 : ieq 4 5 = false := rfl
   have e4 : ieq 4 4 = true := rfl
   have eb : pbad 4 = false := rfl
   rw [F143_4, foldS, e5, e4, eb]
   simp only [bS, cT, cF, af_1_1, af_1_3, af_1_2, af_1_4, af_1_5, af_1_0, af_3_1, af_3_3, af_3_2, af_3_4, af_3_5, af_3_0, af_2_1, af_2_3, af_2_2, af_2_4, af_2_5, af_2_0, af_4_1, af_4_3, af_4_2, af_4_4, af_4_5, af_4_0, af_5_1, af_5_3, af_5_2, af_5_4, af_5_5, af_5_0, af_0_1, af_0_3, af_0_2, af_0_4, af_0_5, af_0_0, F89, igt]
   have : decide (b > a) = ilt a b := rfl
   rw [this]
   cases ilt a b <;> rfl
 · subst q
   have e5 : ieq 5 5 = true := rfl
   have e4 : ieq 5 4 = false := rfl
   have eb : pbad 5 = false := rfl
   rw [F143_5, foldS, e5, e4, eb]
   simp only [bS, cT, cF, af_1_1, af_1_3, af_1_2, af_1_4, af_1_5, af_1_0, af_3_1, af_3_3, af_3_2, af_3_4, af_3_5, af_3_0, af_2_1, af_2_3, af_2_2, af_2_4, af_2_5, af_2_0, af_4_1, af_4_3, af_4_2, af_4_4, af_4_5, af_4_0, af_5_1, af_5_3, af_5_2, af_5_4, af_5_5, af_5_0, af_0_1, af_0_3, af_0_2, af_0_4, af_0_5, af_0_0, F84_spec K ha hb]
   cases (addS a b).2 <;> rfl
 · have eb : pbad p = true := by
    unfold pbad
    rcases q with q | q
    · rw [ilt_iff.2 q]; rfl
    · rw [ilt_iff.2 q, Bool.or_true]
   rw [F143_0 K q, foldS, eb]
   simp only [bS, cT, cF, af_1_1, af_1_3, af_1_2, af_1_4, af_1_5, af_1_0, af_3_1, af_3_3, af_3_2, af_3_4, af_3_5, af_3_0, af_2_1, af_2_3, af_2_2, af_2_4, af_2_5, af_2_0, af_4_1, af_4_3, af_4_2, af_4_4, af_4_5, af_4_0, af_5_1, af_5_3, af_5_2, af_5_4, af_5_5, af_5_0, af_0_1, af_0_3, af_0_2, af_0_4, af_0_5, af_0_0]
theorem foldS_i64 {p a b : Int} (ha : i64 a) (hb : i64 b) : i64 (foldS p a b).1 := by
 have h0 : i64 0 := by unfold i64; omega
 rw [foldS]
 cases pbad p
 · cases ieq p 5
   · cases ieq p 4
     · simp only [cF]
       cases ilt b a
       · exact ha
       · exact hb
     · simp only [cF, cT]
       cases ilt a b
       · exact ha
       · exact hb
   · simp only [cF, cT]
     unfold addS
     cases h : fitsB (a + b)
     · exact h0
     · exact fitsB_iff.1 h
 · exact h0
theorem foldS_comm (p a b : Int) : foldS p a b = foldS p b a := by
 rw [foldS, foldS, addS, addS, Int.add_comm b a]
 cases pbad p
 · cases ieq p 5
   · simp only [cF]
     cases h1 : ilt a b <;> cases h2 : ilt b a
     · have := ilt_f.1 h1; have := ilt_f.1 h2
       have : a = b := by omega
       subst this; rfl
     · cases ieq p 4 <;> rfl
     · cases ieq p 4 <;> rfl
     · have := ilt_iff.1 h1; have := ilt_iff.1 h2; omega
   · rfl
 · rfl
theorem foldS_assoc {p a b c : Int} (h1 : (foldS p a b).2 = 0) (h2 : (foldS p (foldS p a b).1 c).2 = 0) (h3 : (foldS p b c).2 = 0) : foldS p a (foldS p b c).1 = foldS p (foldS p a b).1 c := by
 cases hb : pbad p
 · cases h5 : ieq p 5
   · cases h4 : ieq p 4
     · have e : ∀ x y, foldS p x y = bif ilt y x then (y, 0) else (x, 0) := fun x y => by rw [foldS, hb, h5, h4]; rfl
       rw [e a b, e b c]
       cases q1 : ilt b a <;> cases q2 : ilt c b <;> simp only [cT, cF, e]
       · have := ilt_f.1 q1; have := ilt_f.1 q2
         rw [q1, ilt_f.2 (by omega : a ≤ c)]; rfl
       · rw [q1, q2]; rfl
       · have := ilt_iff.1 q1; have := ilt_iff.1 q2
         rw [q2, ilt_iff.2 (by omega : c < a)]; rfl
     · have e : ∀ x y, foldS p x y = bif ilt x y then (y, 0) else (x, 0) := fun x y => by rw [foldS, hb, h5, h4]; rfl
       rw [e a b, e b c]
       cases q1 : ilt a b <;> cases q2 : ilt b c <;> simp only [cT, cF, e]
       · have := ilt_f.1 q1; have := ilt_f.1 q2
         rw [q1, ilt_f.2 (by omega : c ≤ a)]; rfl
       · rw [q1, q2]; rfl
       · have := ilt_iff.1 q1; have := ilt_iff.1 q2
         rw [q2, ilt_iff.2 (by omega : a < c)]; rfl
   · have e : ∀ x y, foldS p x y = bif fitsB (x + y) then (x + y, 0) else (0, 8) := fun x y => by
      rw [foldS, hb, h5, addS]
      cases fitsB (x + y) <;> rfl
     rw [e a b] at h1 h2 ⊢
     rw [e b c] at h3 ⊢
     cases q1 : fitsB (a + b)
     · rw [q1] at h1; cases h1
     · cases q2 : fitsB (b + c)
       · rw [q2] at h3; cases h3
       · rw [q1] at h2
         simp only [cT, e] at h2 ⊢
         have : a + b + c = a + (b + c) := by omega
         rw [this]
 · rw [foldS, hb] at h1; cases h1
theorem F113_spec (K : Nat) (y x : GMsg) : F113 K y x = some (!(leM x y)) := by
 rw [F113, leM]
 cases h1 : ilt y.To x.To
 · cases h2 : ieq y.To x.To
   · have := ilt_f.1 h1; have := ieq_f.1 h2
     rw [ilt_iff.2 (by omega : x.To < y.To)]; rfl
   · have e := ieq_iff.1 h2
     rw [ilt_f.2 (by omega : y.To ≤ x.To), ieq_iff.2 e.symm]
     simp only [cF, cT, Bool.false_or, Bool.true_and]
     congr 1
     cases h3 : ilt y.V x.V
     · rw [ile_iff.2 (by have := ilt_f.1 h3; omega)]; rfl
     · rw [ile_f.2 (by have := ilt_iff.1 h3; omega)]; rfl
 · have := ilt_iff.1 h1
   rw [ilt_f.2 (by omega : y.To ≤ x.To), ieq_f.2 (by omega : x.To ≠ y.To)]; rfl
theorem merge_ok {K : Nat} : ∀ (k : Nat) (a b c : List GMsg), a.length + b.length < k → a.length + b.length + c.length < 100000 → srtM (c ++ a) → srtM (c ++ b) →
 ∃ a' b' c', F112_113_l0_0 K k a b c = some (a', (b', c')) ∧ (c' ++ a' ++ b').Perm (c ++ a ++ b) ∧ srtM (c' ++ a' ++ b') := by
 intro k
 induction k with
 | zero => intro a b c h; omega
 | succ k ih =>
  intro a b c hk hl ha hb
  rw [F112_113_l0_0]
  cases a with
  | nil => exact ⟨[], b, c, rfl, List.Perm.refl _, by simpa using hb⟩
  | cons x a =>
   cases b with
   | nil =>
    refine ⟨x :: a, [], c, ?_, List.Perm.refl _, by simpa using ha⟩
    rw [ilt_iff.2 (show (0 : Int) < nlen (len (x :: a)) by show (0 : Int) < ((a.length + 1 : Nat) : Int); omega)]; rfl
   | cons y b =>
    simp only [List.length_cons] at hk hl
    have i1 : ilt 0 (nlen (len (x :: a))) = true := ilt_iff.2 (by show (0 : Int) < ((a.length + 1 : Nat) : Int); omega)
    have i2 : ilt 0 (nlen (len (y :: b))) = true := ilt_iff.2 (by show (0 : Int) < ((b.length + 1 : Nat) : Int); omega)
    have r1 : inr 0 (len (x :: a)) = true := decide_eq_true ⟨by omega, by show (0 : Int) < (((a.length + 1 : Nat)) : Int); omega⟩
    have r2 : inr 0 (len (y :: b)) = true := decide_eq_true ⟨by omega, by show (0 : Int) < (((b.length + 1 : Nat)) : Int); omega⟩
    have g1 : elAt (x :: a) 0 = some x := rfl
    have g2 : elAt (y :: b) 0 = some y := rfl
    have ap : apok (len c) 1 16 = true := decide_eq_true ⟨by show c.length + 1 ≤ _; omega, by show (c.length + 1) * 16 ≤ _; omega⟩
    have b1 : bnd 1 (nlen (len (x :: a))) (len (x :: a)) = true := by simp [bnd, nlen, len]; omega
    have b2 : bnd 1 (nlen (len (y :: b))) (len (y :: b)) = true := by simp [bnd, nlen, len]; omega
    have s1 : subL (x :: a) 1 (nlen (len (x :: a))) = a := by simp [subL, nlen, len]
    have s2 : subL (y :: b) 1 (nlen (len (y :: b))) = b := by simp [subL, nlen, len]
    rw [i1, i2, r1, r2, g1, g2, ap, b1, b2, s1, s2]
    simp only [cT, bS, F113_spec]
    have ha' := List.pairwise_append.1 ha
    have hb' := List.pairwise_append.1 hb
    have hxa := List.pairwise_cons.1 ha'.2.1
    have hyb := List.pairwise_cons.1 hb'.2.1
    cases hxy : leM x y
    · have hyx := leM_total hxy
      obtain ⟨a', b', c', e, p, q⟩ := ih (x :: a) b (c ++ [y]) (by simp; omega) (by simp; omega)
       (by
        refine List.pairwise_append.2 ⟨List.pairwise_append.2 ⟨hb'.1, List.pairwise_singleton _ _, fun u hu w hw => ?_⟩, ha'.2.1, fun u hu w hw => ?_⟩
        · rw [List.mem_singleton.1 hw]; exact hb'.2.2 u hu y List.mem_cons_self
        · rcases List.mem_append.1 hu with hu | hu
          · exact ha'.2.2 u hu w hw
          · rw [List.mem_singleton.1 hu]
            rcases List.mem_cons.1 hw with rfl | hw
            · exact hyx
            · exact leM_trans hyx (hxa.1 w hw))
       (by rw [List.append_assoc]; exact hb)
      refine ⟨a', b', c', e, p.trans ?_, q⟩
      have : (c ++ [y] ++ (x :: a) ++ b) = c ++ (y :: (x :: a)) ++ b := by simp
      rw [this, List.append_assoc, List.append_assoc]
      exact List.Perm.append_left c (List.perm_middle (l₁ := x :: a) (a := y) (l₂ := b)).symm
    · obtain ⟨a', b', c', e, p, q⟩ := ih a (y :: b) (c ++ [x]) (by simp; omega) (by simp; omega)
       (by rw [List.append_assoc]; exact ha)
       (by
        refine List.pairwise_append.2 ⟨List.pairwise_append.2 ⟨hb'.1, List.pairwise_singleton _ _, fun u hu w hw => ?_⟩, hb'.2.1, fun u hu w hw => ?_⟩
        · rw [List.mem_singleton.1 hw]; exact ha'.2.2 u hu x List.mem_cons_self
        · rcases List.mem_append.1 hu with hu | hu
          · exact hb'.2.2 u hu w hw
          · rw [List.mem_singleton.1 hu]
            rcases List.mem_cons.1 hw with rfl | hw
            · exact hxy
            · exact leM_trans hxy (hyb.1 w hw))
      refine ⟨a', b', c', e, p.trans ?_, q⟩
      have : (c ++ [x] ++ a ++ (y :: b)) = c ++ (x :: a) ++ (y :: b) := by simp
      rw [this]
theorem F112_spec {K : Nat} : ∀ (d : Nat) (l : List GMsg), l.length < d → l.length < K → l.length < 10000 → F112_113 K d l = some (sortM l) := by
 intro d
 induction d with
 | zero => intro l h; omega
 | succ d ih =>
  intro l hd hK hl
  rw [F112_113]
  cases h2 : ilt (nlen (len l)) 2
  · have h2' : 2 ≤ l.length := by have := ilt_f.1 h2; simp only [nlen, len] at this; omega
    have hq : wquo .i64 (nlen (len l)) 2 = ((l.length / 2 : Nat) : Int) := by
     show IntKind.i64.wrap (((l.length : Nat) : Int).tdiv 2) = _
     rw [Int.tdiv_eq_ediv_of_nonneg om, IntKind.wrap_i64]; omega
    have b1 : bnd 0 ((l.length / 2 : Nat) : Int) (len l) = true := by simp [bnd, len]; omega
    have b2 : bnd ((l.length / 2 : Nat) : Int) (nlen (len l)) (len l) = true := by simp [bnd, len, nlen]; omega
    have s1 : subL l 0 ((l.length / 2 : Nat) : Int) = l.take (l.length / 2) := by simp [subL]; omega
    have s2 : subL l ((l.length / 2 : Nat) : Int) (nlen (len l)) = l.drop (l.length / 2) := by
     simp only [subL, nlen, len, Int.toNat_natCast]
     exact List.take_of_length_le (by rw [List.length_drop]; omega)
    have l1 : (l.take (l.length / 2)).length ≤ l.length / 2 := by rw [List.length_take]; omega
    have l2 : (l.drop (l.length / 2)).length = l.length - l.length / 2 := List.length_drop
    have mk : mkok 0 (nlen (len l)) 16 = true := by simp [mkok, nlen, len]; omega
    obtain ⟨a', b', c', e, p, q⟩ := merge_ok (K := K) K (sortM (l.take (l.length / 2))) (sortM (l.drop (l.length / 2))) [] (by rw [sortM_len, sortM_len]; omega) (by rw [sortM_len, sortM_len]; simp only [List.length_nil]; omega) (by simpa using sortM_srt _) (by simpa using sortM_srt _)
    have er : repL (α := GMsg) 0 (GMsg.mk 0 0) = [] := rfl
    have pl : (c' ++ a' ++ b').Perm l := p.trans (by
     rw [List.nil_append]
     have := (sortM_perm (l.take (l.length / 2))).append (sortM_perm (l.drop (l.length / 2)))
     rwa [List.take_append_drop] at this)
    have ln := pl.length_eq
    rw [List.length_append, List.length_append] at ln
    have a1 : apok (len c') (len a') 16 = true := decide_eq_true ⟨by show c'.length + a'.length ≤ _; omega, by show (c'.length + a'.length) * 16 ≤ _; omega⟩
    have a2 : apok (len (appL c' a')) (len b') 16 = true := decide_eq_true ⟨by show (c' ++ a').length + b'.length ≤ _; rw [List.length_append]; omega, by show ((c' ++ a').length + b'.length) * 16 ≤ _; rw [List.length_append]; omega⟩
    rw [cF, hq, b1, b2, s1, s2, ih _ om om om, ih _ om om om, mk, er]
    simp only [cT, bS, e, a1, a2]
    rw [sortM_eq q pl]; rfl
  · have h2' : l.length < 2 := by have := ilt_iff.1 h2; simp only [nlen, len] at this; omega
    have ap : apok 0 (len l) 16 = true := decide_eq_true ⟨by show 0 + l.length ≤ _; omega, by show (0 + l.length) * 16 ≤ _; omega⟩
    rw [cT, ap, cT]
    congr 1
    rw [sortM_eq (l := l) (r := l) ?_ (List.Perm.refl l)]; rfl
    match l, h2' with
    | [], _ => exact List.Pairwise.nil
    | [x], _ => exact List.pairwise_singleton _ _
theorem F107_spec {K : Nat} (l : List GMsg) (hK : l.length < K) (hl : l.length < 10000) : F107 K l = some (sortM l) := by
 rw [F107, F112_spec K l hK hK hl]; rfl
def foldC (p : Int) : List GMsg → GMsg → List GMsg → Int ⊕ List GMsg
 | [], cur, done => .inr (done ++ [cur])
 | x :: r, cur, done => bif ieq cur.To x.To then (bif ieq (foldS p cur.V x.V).2 0 then foldC p r (GMsg.mk cur.To (foldS p cur.V x.V).1) done else .inl (foldS p cur.V x.V).2) else foldC p r x (done ++ [cur])
def foldO (p : Int) : List GMsg → List GMsg → Int ⊕ List GMsg
 | [], done => .inr done
 | x :: r, done => foldC p r x done
def boxO : Int ⊕ List GMsg → List GMsg × Int
 | .inl e => ([], e)
 | .inr s => (s, 0)
def boxS (p : Int) (l : List GMsg) : List GMsg × Int := bif pbad p then ([], 1) else boxO (foldO p (sortM l) [])
theorem put_last {α : Type} (d : List α) (c x : α) : inr (wsub .i64 (nlen (len (d ++ [c]))) 1) (len (d ++ [c])) = true ∧ (d.length < 1000000 → elAt (d ++ [c]) (wsub .i64 (nlen (len (d ++ [c]))) 1) = some c ∧ putAt (d ++ [c]) (wsub .i64 (nlen (len (d ++ [c]))) 1) x = d ++ [x]) ∨ ¬ d.length < 1000000 := by
 by_cases h : d.length < 1000000
 · left
   have w : wsub .i64 (nlen (len (d ++ [c]))) 1 = ((d.length : Nat) : Int) := by
    show IntKind.i64.wrap (((d ++ [c]).length : Int) - 1) = _
    rw [List.length_append, IntKind.wrap_i64]; simp; omega
   rw [w]
   refine ⟨decide_eq_true ⟨by omega, by show (d.length : Int) < ((d ++ [c]).length : Int); simp; omega⟩, fun _ => ⟨by rw [elAt_nat]; simp, ?_⟩⟩
   unfold putAt
   rw [Int.toNat_natCast, List.set_append_right (h := by omega)]; simp
 · right; exact h
theorem F95_spec {K : Nat} (p : Int) (l : List GMsg) (hv : ∀ x ∈ l, i64 x.V) (hK : l.length < K) (hl : l.length < 10000) : F95 K p l = some (boxS p l) := by
 have i0 : i64 0 := by unfold i64; omega
 have hz : (foldS p 0 0).2 = bif pbad p then 1 else 0 := by
  rw [foldS]
  cases pbad p
  · have : addS 0 0 = (0, true) := rfl
    have e : ilt 0 0 = false := rfl
    rw [this, e]
    cases ieq p 5 <;> cases ieq p 4 <;> rfl
  · rfl
 rw [F95, F106_spec K p i0 i0, bS, hz, boxS, F107_spec l hK hl]
 cases hb : pbad p
 · let step : GMsg → List GMsg → (List GMsg → Option (Int ⊕ List GMsg)) → Option (Int ⊕ List GMsg) := fun x s c =>
    bif (ilt 0 (nlen (len s))) then
     (bif (inr (wsub .i64 (nlen (len s)) 1) (len s)) then
     (elAt s (wsub .i64 (nlen (len s)) 1)).bind fun y =>
     bif (ieq y.To x.To) then
      ((F106 K p y.V x.V).bind fun r =>
      bif (ieq r.2 0) then
       (c (putAt s (wsub .i64 (nlen (len s)) 1) (GMsg.mk y.To r.1)))
      else
      some (.inl r.2))
     else
     bif (apok (len s) 1 16) then
     c (appL s [x])
     else none
     else none)
    else
    bif (apok (len s) 1 16) then
    c (appL s [x])
    else none
   have hsl : (sortM l).length = l.length := sortM_len l
   have h := scanL (l := sortM l) (L := fun k s i => F95_l0_0 K p (sortM l) k s i) step (fun s => some (.inr s)) (fun k s i _ => rfl) om (K := K) om []
   have hw : ∀ (r : List GMsg) (d : List GMsg) (c : GMsg), d.length + r.length < 100000 → i64 c.V → (∀ x ∈ r, i64 x.V) → goL step (fun s => some (.inr s)) r (d ++ [c]) = some (foldC p r c d) := by
    intro r
    induction r with
    | nil => intro d c _ _ _; rfl
    | cons x r ih =>
     intro d c hd hc hr
     simp only [List.length_cons] at hd
     have hx := hr x List.mem_cons_self
     have hr' := fun y hy => hr y (List.mem_cons_of_mem _ hy)
     rw [goL]
     show (bif (ilt 0 (nlen (len (d ++ [c])))) then
      (bif (inr (wsub .i64 (nlen (len (d ++ [c]))) 1) (len (d ++ [c]))) then
      (elAt (d ++ [c]) (wsub .i64 (nlen (len (d ++ [c]))) 1)).bind fun y =>
      bif (ieq y.To x.To) then
       ((F106 K p y.V x.V).bind fun q =>
       bif (ieq q.2 0) then
        (goL step (fun s => some (.inr s)) r (putAt (d ++ [c]) (wsub .i64 (nlen (len (d ++ [c]))) 1) (GMsg.mk y.To q.1)))
       else
       some (.inl q.2))
      else
      bif (apok (len (d ++ [c])) 1 16) then
      goL step (fun s => some (.inr s)) r (appL (d ++ [c]) [x])
      else none
      else none)
     else
     bif (apok (len (d ++ [c])) 1 16) then
     goL step (fun s => some (.inr s)) r (appL (d ++ [c]) [x])
     else none) = _
     have i1 : ilt 0 (nlen (len (d ++ [c]))) = true := ilt_iff.2 (by show (0 : Int) < ((d ++ [c]).length : Int); rw [List.length_append]; simp only [List.length_singleton]; omega)
     have ap : apok (len (d ++ [c])) 1 16 = true := decide_eq_true ⟨by show (d ++ [c]).length + 1 ≤ _; rw [List.length_append]; simp only [List.length_singleton]; omega, by show ((d ++ [c]).length + 1) * 16 ≤ _; rw [List.length_append]; simp only [List.length_singleton]; omega⟩
     rcases put_last d c (GMsg.mk c.To (foldS p c.V x.V).1) with ⟨q1, q2⟩ | q
     · obtain ⟨q2, q3⟩ := q2 om
       rw [i1, q1, q2, ap]
       simp only [cT, bS, F106_spec K p hc hx, q3]
       rw [foldC]
       cases ieq c.To x.To
       · rw [cF, cF]
         exact ih (d ++ [c]) x (by rw [List.length_append]; simp only [List.length_singleton]; omega) hx hr'
       · rw [cT, cT]
         cases ieq (foldS p c.V x.V).2 0
         · rfl
         · rw [cT, cT]
           exact ih d _ om (foldS_i64 hc hx) hr'
     · omega
   have h' : F95_l0_0 K p (sortM l) K [] 0 = some (foldO p (sortM l) []) := by
    rw [show F95_l0_0 K p (sortM l) K [] 0 = _ from h]
    have hs : ∀ x ∈ sortM l, i64 x.V := fun x hx => hv x ((sortM_perm l).mem_iff.1 hx)
    generalize sortM l = m at *
    cases m with
    | nil => rfl
    | cons x r =>
     rw [goL]
     show goL step (fun s => some (.inr s)) r (appL [] [x]) = _
     simp only [List.length_cons] at hsl
     exact hw r [] x (by simp only [List.length_nil]; omega) (hs x List.mem_cons_self) (fun y hy => hs y (List.mem_cons_of_mem _ hy))
   have z0 : ieq (bif false then 1 else 0) 0 = true := rfl
   rw [z0, cT, bS, h', bS]
   cases foldO p (sortM l) [] <;> rfl
 · rfl
def foldI (p t : Int) : List GMsg → Int → Int ⊕ (List GMsg × Int)
 | [], v => .inr ([], v)
 | x :: r, v => bif ieq x.To t then (bif ieq (foldS p v x.V).2 0 then foldI p t r (foldS p v x.V).1 else .inl (foldS p v x.V).2) else .inr (x :: r, v)
theorem ieq_comm (a b : Int) : ieq a b = ieq b a := by
 cases h : ieq b a
 · exact ieq_f.2 fun q => ieq_f.1 h q.symm
 · exact ieq_iff.2 (ieq_iff.1 h).symm
theorem foldC_I (p t : Int) : ∀ (r : List GMsg) (v : Int) (d : List GMsg), foldC p r (GMsg.mk t v) d = match foldI p t r v with | .inl e => .inl e | .inr w => foldO p w.1 (d ++ [GMsg.mk t w.2])
 | [], v, d => rfl
 | x :: r, v, d => by
  rw [foldC, foldI, ieq_comm x.To t]
  cases ieq t x.To
  · rfl
  · rw [cT, cT]
    cases ieq (foldS p v x.V).2 0
    · rfl
    · rw [cT, cT]; exact foldC_I p t r _ d
theorem F51_in {K : Nat} (p : Int) (l : List GMsg) (o : List GMsg) (x : GMsg) (hl : l.length < 100000) (hs : ∀ y ∈ l, i64 y.V) : ∀ (r : List GMsg) (k i : Nat) (v : Int), l.drop i = r → r.length < k → i64 v → i ≤ l.length →
 (∃ e, foldI p x.To r v = .inl e ∧ F51_l1_1 K p l o x k (i : Int) v = some (.inl e)) ∨
 (∃ (n : Nat) (v' : Int), foldI p x.To r v = .inr (l.drop n, v') ∧ F51_l1_1 K p l o x k (i : Int) v = some (.inr ((n : Int), v')) ∧ i ≤ n ∧ n ≤ l.length ∧ i64 v') := by
 intro r
 induction r with
 | nil =>
  intro k i v hr hk hv hi
  obtain ⟨k, rfl⟩ : ∃ q, k = q + 1 := ⟨k - 1, by omega⟩
  right
  refine ⟨i, v, by rw [hr]; rfl, ?_, Nat.le_refl _, hi, hv⟩
  rcases at_idx l i with ⟨y, e1, _⟩ | ⟨e1, e2⟩
  · rw [hr] at e1; cases e1
  · rw [F51_l1_1, e2]; rfl
 | cons y r ih =>
  intro k i v hr hk hv hi
  obtain ⟨k, rfl⟩ : ∃ q, k = q + 1 := ⟨k - 1, by omega⟩
  simp only [List.length_cons] at hk
  rcases at_idx l i with ⟨y', e1, e2, e3, e4⟩ | ⟨e1, _⟩
  · rw [hr] at e1
    injection e1 with e1 e5
    subst e1
    have hlt := lt_of_drop' hr
    have hy : i64 y.V := hs y (List.mem_of_mem_drop (by rw [hr]; exact List.mem_cons_self))
    rw [F51_l1_1, e2, e3, e4, foldI]
    simp only [cT, bS, F74_spec K p hv hy]
    cases ieq y.To x.To
    · right
      exact ⟨i, v, by rw [hr]; rfl, rfl, Nat.le_refl _, hi, hv⟩
    · rw [cT, cT]
      cases ieq (foldS p v y.V).2 0
      · left; exact ⟨_, rfl, rfl⟩
      · rw [cT, cT, wadd_nat om]
        rcases ih k (i + 1) _ e5.symm om (foldS_i64 hv hy) om with h | ⟨n, v', h1, h2, h3, h4, h5⟩
        · left; exact h
        · right; exact ⟨n, v', h1, h2, by omega, h4, h5⟩
  · rw [hr] at e1; cases e1
theorem F51_out {K : Nat} (p : Int) (l : List GMsg) (hl : l.length < 100000) (hK : l.length < K) (hs : ∀ y ∈ l, i64 y.V) : ∀ (k i : Nat) (d : List GMsg), l.length - i < k → i ≤ l.length → d.length ≤ i →
 F51_l0_0 K p l k d (i : Int) = some (foldO p (l.drop i) d) := by
 intro k
 induction k with
 | zero => intro i d h; omega
 | succ k ih =>
  intro i d hk hi hd
  rw [F51_l0_0]
  rcases at_idx l i with ⟨x, e1, e2, e3, e4⟩ | ⟨e1, e2⟩
  · have hlt := lt_of_drop' e1
    have hx : i64 x.V := hs x (List.mem_of_mem_drop (by rw [e1]; exact List.mem_cons_self))
    have ap : apok (len d) 1 16 = true := decide_eq_true ⟨by show d.length + 1 ≤ _; omega, by show (d.length + 1) * 16 ≤ _; omega⟩
    rw [e2, e3, e4, e1, foldO, show foldC p (l.drop (i + 1)) x d = foldC p (l.drop (i + 1)) (GMsg.mk x.To x.V) d from rfl, foldC_I, wadd_nat om]
    simp only [cT, bS, ap]
    rcases F51_in (K := K) p l d x hl hs _ K (i + 1) x.V rfl (by rw [List.length_drop]; omega) hx om with ⟨e, h1, h2⟩ | ⟨n, v', h1, h2, h3, h4, h5⟩
    · rw [h1, h2]; rfl
    · rw [h1, h2]
      simp only [bS, Sum.elim_inr]
      exact ih n (d ++ [GMsg.mk x.To v']) om h4 (by rw [List.length_append]; simp only [List.length_singleton]; omega)
  · rw [e2, e1]; rfl
theorem F51_spec {K : Nat} (p : Int) (l : List GMsg) (hv : ∀ x ∈ l, i64 x.V) (hK : l.length < K) (hl : l.length < 10000) : F51 K p l = some (boxS p l) := by
 have hsl := sortM_len l
 have hs : ∀ x ∈ sortM l, i64 x.V := fun x hx => hv x ((sortM_perm l).mem_iff.1 hx)
 have h := F51_out (K := K) p (sortM l) om om hs K 0 [] om om (by simp)
 have h' : F51_l0_0 K p (sortM l) K [] 0 = some (foldO p (sortM l) []) := h
 rw [F51, boxS, pbad, F77_spec l om hK, bS, h', bS]
 cases ilt p 1
 · cases ilt 5 p
   · cases foldO p (sortM l) [] <;> rfl
   · rfl
 · rfl
def atS (l : List GMsg) (v : Int) : Int × Bool := match l.find? (fun m => ieq m.To v) with
 | some m => (m.V, true)
 | none => (0, false)
def sumF : Option GMsg → Int ⊕ Unit
 | some m => .inl m.V
 | none => .inr ()
theorem at_go (l : List GMsg) (v : Int) : goL (fun (x : GMsg) (_ : Unit) c => bif ieq x.To v then some (.inl x.V) else c ()) (fun _ => some (.inr ())) l () = (some (sumF (l.find? fun m => ieq m.To v)) : Option (Int ⊕ Unit)) := by
 induction l with
 | nil => rfl
 | cons x l ih =>
  rw [goL, List.find?_cons]
  cases h : ieq x.To v
  · exact ih
  · rfl
theorem F92_spec {K : Nat} (l : List GMsg) (v : Int) (hl : l.length < 100000) (hK : l.length < K) : F92 K l v = some (atS l v) := by
 have e : F92_l0_0 K l v K 0 = _ := scanL (l := l) (L := fun k (_ : Unit) i => F92_l0_0 K l v k i) (fun x _ c => bif ieq x.To v then some (.inl x.V) else c ()) (fun _ => some (.inr ())) (fun k s i _ => rfl) om hK ()
 rw [F92, e, at_go, atS]
 cases l.find? fun m => ieq m.To v <;> rfl
theorem F49_spec {K : Nat} (l : List GMsg) (v : Int) (hl : l.length < 100000) (hK : l.length < K) : F49 K l v = some (atS l v) := by
 have e : F49_l0_0 K l v K 0 = _ := scanL (l := l) (L := fun k (_ : Unit) i => F49_l0_0 K l v k i) (fun x _ c => bif ieq x.To v then some (.inl x.V) else c ()) (fun _ => some (.inr ())) (fun k s i _ => rfl) om hK ()
 rw [F49, e, at_go, atS]
 cases l.find? fun m => ieq m.To v <;> rfl
theorem atS_i64 {l : List GMsg} {v : Int} (h : ∀ x ∈ l, i64 x.V) : i64 (atS l v).1 := by
 rw [atS]
 cases hq : l.find? fun m => ieq m.To v with
 | none => show i64 0; unfold i64; omega
 | some m => exact h m (List.mem_of_find?_eq_some hq)
def cutS (g : GGraph) (j : GJob) (s : GState) (p : Int) : GPart :=
 GPart.mk p s.Step ((vertsS g j p).map fun v => s.Vals.getD v 0) ((vertsS g j p).map fun v => s.Rest.getD v false) (s.In.filter fun m => ieq (m.To % j.Parts) p)
def splitS (g : GGraph) (j : GJob) (s : GState) : List GPart := (List.range j.Parts.toNat).map fun (p : Nat) => cutS g j s (p : Int)
def splitR (g : GGraph) (j : GJob) (s : GState) : List GPart × Int := bif ieq (jcheck g j) 0 then (bif stRight g j s then (splitS g j s, 0) else ([], 1)) else ([], jcheck g j)
theorem stRight_ok {g : GGraph} {j : GJob} {s : GState} (h : stRight g j s = true) : ieq (jcheck g j) 0 = true ∧ 0 ≤ s.Step ∧ s.Step ≤ 40 ∧ (s.Vals.length : Int) = g.N ∧ (s.Rest.length : Int) = g.N ∧ inSt g.N (-1) s.In = true := by
 simp only [stRight, Bool.and_eq_true, ile_iff, ieq_iff] at h
 obtain ⟨h1, h2, h3, h4, h5, h6⟩ := h
 exact ⟨ieq_iff.2 h1, h2, h3, h4, h5, h6⟩
theorem inSt_ok {n : Int} : ∀ {l : List GMsg} {v : Int}, inSt n v l = true → l.Pairwise (fun a b => a.To < b.To) ∧ (∀ m ∈ l, v < m.To ∧ m.To < n)
 | [], v, _ => ⟨List.Pairwise.nil, fun m h => (nomatch h)⟩
 | m :: l, v, h => by
  simp only [inSt, Bool.and_eq_true, ilt_iff] at h
  obtain ⟨h1, h2, h3⟩ := h
  obtain ⟨a, b⟩ := inSt_ok h3
  refine ⟨List.pairwise_cons.2 ⟨fun x hx => (b x hx).1, a⟩, fun x hx => ?_⟩
  rcases List.mem_cons.1 hx with e | e
  · subst e; exact ⟨h1, h2⟩
  · have := b x e; exact ⟨by omega, this.2⟩
theorem inSt_len {n : Int} : ∀ {l : List GMsg} {v : Int}, inSt n v l = true → v ≤ n → (l.length : Int) ≤ n - v
 | [], v, _, hv => by simp; omega
 | m :: l, v, h, hv => by
  simp only [inSt, Bool.and_eq_true, ilt_iff] at h
  obtain ⟨h1, h2, h3⟩ := h
  have := inSt_len h3 om
  simp only [List.length_cons]; omega
def progL : Nat → Nat → Nat → Nat → List Nat
 | 0, _, _, _ => []
 | k + 1, n, parts, v => if v < n then v :: progL k n parts (v + parts) else []
theorem prog_all : ∀ parts < 7, 0 < parts → ∀ n < 25, ∀ p < parts, progL 30 n parts p = (List.range n).filter fun v => v % parts == p := by decide +kernel
theorem prog_verts {n parts : Nat} (h1 : 0 < parts) (h2 : parts < 7) (hn : n < 25) {p : Nat} (hp : p < parts) : progL 30 n parts p = vertsN n parts (p : Int) := by
 rw [prog_all parts h2 h1 n hn p hp, vertsN]
 refine List.filter_congr fun v _ => ?_
 rw [Bool.eq_iff_iff, ieq_iff, beq_iff_eq]; omega
theorem getD_at {α : Type} {l : List α} {v : Nat} (d : α) (h : v < l.length) : inr (v : Int) (len l) = true ∧ elAt l (v : Int) = some (l.getD v d) := by
 refine ⟨decide_eq_true ⟨by omega, by show (v : Int) < (l.length : Int); omega⟩, ?_⟩
 rw [elAt_nat]; simp [h, List.getD]
theorem F48_in {K : Nat} (s : GState) (p : Int) (r : List Int) (a : List Int) (b : List Bool) (i : Nat) (x : Int) (y : Bool) (v : Int) (hi : inr (i : Int) (len r) = true) (he : elAt r (i : Int) = some v) (hl : s.In.length ≤ 1000) (hK : s.In.length < K) (acc : List GMsg) (ha : acc.length ≤ 100000) :
 F48_l1_1 K s p r a b (i : Int) x y K acc 0 = some (acc ++ s.In.filter fun m => ieq m.To v) := by
 let step : GMsg → List GMsg → (List GMsg → Option (List GMsg)) → Option (List GMsg) := fun m a c =>
  bif (inr (i : Int) (len r)) then
  (elAt r (i : Int)).bind fun z => bif (ieq m.To z) then (bif (apok (len a) 1 16) then c (appL a [m]) else none) else c a
  else none
 have h := scanL (l := s.In) (L := fun k c q => F48_l1_1 K s p r a b (i : Int) x y k c q) step (fun a => some a) (fun k s i _ => rfl) om (K := K) hK acc
 have hw : ∀ (l : List GMsg) (a : List GMsg), a.length + l.length ≤ 200000 → goL step (fun a => some a) l a = some (a ++ l.filter fun m => ieq m.To v) := by
  intro l
  induction l with
  | nil => intro a _; simp [goL]
  | cons m l ih =>
   intro a ha
   simp only [List.length_cons] at ha
   rw [goL]
   show (bif (inr (i : Int) (len r)) then
   (elAt r (i : Int)).bind fun z => bif (ieq m.To z) then (bif (apok (len a) 1 16) then goL step (fun a => some a) l (appL a [m]) else none) else goL step (fun a => some a) l a
   else none) = _
   have ap : apok (len a) 1 16 = true := decide_eq_true ⟨by show a.length + 1 ≤ _; omega, by show (a.length + 1) * 16 ≤ _; omega⟩
   rw [hi, cT, he, bS, ap, List.filter_cons]
   cases ieq m.To v
   · rw [cF, ih a om]; rfl
   · rw [cT, cT, ih _ (by simp [appL]; omega)]; simp [appL]
 rw [hw s.In acc om] at h
 exact h
theorem F48_loop {K : Nat} (s : GState) (p : Int) (vs : List Nat) (hvl : vs.length ≤ 30) (hK : 1000 ≤ K) (hv : ∀ v ∈ vs, v < s.Vals.length ∧ v < s.Rest.length) (hl : s.In.length ≤ 500) :
 F48_l0_0 K s p (vs.map Int.ofNat) K [] [] [] 0 = some (vs.map (fun v => s.Vals.getD v 0), vs.map (fun v => s.Rest.getD v false), vs.flatMap fun (v : Nat) => s.In.filter fun m => ieq m.To (v : Int)) := by
 let step : Nat → Int → List Int × List Bool × List GMsg → (List Int × List Bool × List GMsg → Option (List Int × List Bool × List GMsg)) → Option (List Int × List Bool × List GMsg) := fun i x st c =>
  bif (inr x (len s.Vals)) then
  (elAt s.Vals x).bind fun x2246 =>
  bif (apok (len st.1) 1 8) then
  bif (inr x (len s.Rest)) then
  (elAt s.Rest x).bind fun x2250 =>
  bif (apok (len st.2.1) 1 1) then
  (F48_l1_1 K s p (vs.map Int.ofNat) st.1 st.2.1 (i : Int) x2246 x2250 K st.2.2 0).bind fun w2278 =>
  c (appL st.1 [x2246], appL st.2.1 [x2250], w2278)
  else none
  else none
  else none
  else none
 have h := scanI (l := vs.map Int.ofNat) (L := fun k (st : List Int × List Bool × List GMsg) i => F48_l0_0 K s p (vs.map Int.ofNat) k st.1 st.2.1 st.2.2 i) step (fun st => some st) (fun k st i _ => rfl) (by simp; omega) K ([], [], []) 0 (by simp; omega) om
 have hw : ∀ (r : List Nat) (i : Nat) (a : List Int) (b : List Bool) (m : List GMsg), vs.drop i = r → a.length + r.length ≤ 100 → b.length + r.length ≤ 100 → m.length + 500 * r.length ≤ 50000 →
  goI step (fun st => some st) i (r.map Int.ofNat) (a, b, m) = some (a ++ r.map (fun v => s.Vals.getD v 0), b ++ r.map (fun v => s.Rest.getD v false), m ++ r.flatMap fun (v : Nat) => s.In.filter fun m => ieq m.To (v : Int)) := by
  intro r
  induction r with
  | nil => intro i a b m _ _ _ _; simp [goI]
  | cons v r ih =>
   intro i a b m hr ha hb hm
   simp only [List.length_cons] at ha hb hm
   obtain ⟨n1, n2, hi⟩ := prev_next hr
   have hvm : v ∈ vs := by
    have : v ∈ vs.drop i := by rw [hr]; exact List.mem_cons_self
    exact List.mem_of_mem_drop this
   obtain ⟨v1, v2⟩ := hv v hvm
   obtain ⟨i1, i2⟩ := getD_at (l := s.Vals) 0 v1
   obtain ⟨i3, i4⟩ := getD_at (l := s.Rest) false v2
   have a1 : apok (len a) 1 8 = true := decide_eq_true ⟨by show a.length + 1 ≤ _; omega, by show (a.length + 1) * 8 ≤ _; omega⟩
   have a2 : apok (len b) 1 1 = true := decide_eq_true ⟨by show b.length + 1 ≤ _; omega, by show (b.length + 1) * 1 ≤ _; omega⟩
   have j1 : inr (i : Int) (len (vs.map Int.ofNat)) = true := decide_eq_true ⟨by omega, by show (i : Int) < ((vs.map Int.ofNat).length : Int); simp; omega⟩
   have j2 : elAt (vs.map Int.ofNat) (i : Int) = some (v : Int) := by
    rw [elAt_nat, List.getElem?_map, show vs[i]? = some v from n1]; rfl
   rw [List.map_cons, goI]
   show (bif (inr (v : Int) (len s.Vals)) then
   (elAt s.Vals (v : Int)).bind fun x2246 =>
   bif (apok (len a) 1 8) then
   bif (inr (v : Int) (len s.Rest)) then
   (elAt s.Rest (v : Int)).bind fun x2250 =>
   bif (apok (len b) 1 1) then
   (F48_l1_1 K s p (vs.map Int.ofNat) a b (i : Int) x2246 x2250 K m 0).bind fun w2278 =>
   goI step (fun st => some st) (i + 1) (r.map Int.ofNat) (appL a [x2246], appL b [x2250], w2278)
   else none
   else none
   else none
   else none) = _
   have hfl : (s.In.filter fun m => ieq m.To (v : Int)).length ≤ 500 := Nat.le_trans (List.length_filter_le _ _) hl
   rw [i1, cT, i2, bS, a1, cT, i3, cT, i4, bS, a2, cT, F48_in (K := K) s p (vs.map Int.ofNat) a b i _ _ (v : Int) j1 j2 om om m om, bS,
    ih (i + 1) _ _ _ n2 (by simp [appL]; omega) (by simp [appL]; omega) (by simp only [List.length_append]; omega)]
   simp [appL]
 have := hw vs 0 [] [] [] rfl (by simp; omega) (by simp; omega) (by simp; omega)
 rw [List.drop_zero, this] at h
 simpa using h
theorem flat_filter {g : GGraph} {j : GJob} (hp : 1 ≤ j.Parts) {s : GState} (hs : s.In.Pairwise fun a b => a.To < b.To) (hr : ∀ m ∈ s.In, 0 ≤ m.To ∧ m.To < g.N) (p : Int) :
 ((vertsS g j p).flatMap fun (v : Nat) => s.In.filter fun m => ieq m.To (v : Int)) = s.In.filter fun m => ieq (m.To % j.Parts) p := by
 refine sorted_ext (lt := fun a b : GMsg => a.To < b.To) (fun a b h => by omega) ?_ (hs.filter _) fun m => ?_
 · refine List.pairwise_flatMap.2 ⟨fun v _ => hs.filter _, ?_⟩
   have hv : (vertsS g j p).Pairwise (· < ·) := by
    unfold vertsS vertsN
    exact List.pairwise_lt_range.filter _
   refine hv.imp fun {a b} hab x hx y hy => ?_
   have h1 := ieq_iff.1 (List.mem_filter.1 hx).2
   have h2 := ieq_iff.1 (List.mem_filter.1 hy).2
   omega
 · simp only [List.mem_flatMap, List.mem_filter, ieq_iff]
   constructor
   · rintro ⟨v, hv, hm, e⟩
     have := (mem_verts hp).1 hv
     exact ⟨hm, by rw [e]; exact this.2⟩
   · rintro ⟨hm, e⟩
     obtain ⟨h0, h1⟩ := hr m hm
     obtain ⟨v, hv⟩ := Int.eq_ofNat_of_zero_le h0
     exact ⟨v, (mem_verts hp).2 ⟨by omega, by rw [← hv]; exact e⟩, hm, hv⟩
theorem F48_spec {K : Nat} (hK : 1000 ≤ K) {g : GGraph} {j : GJob} {s : GState} (h : stRight g j s = true) (p : Int) : F48 K g j s p = some (cutS g j s p) := by
 obtain ⟨hc, s1, s2, s3, s4, s5⟩ := stRight_ok h
 obtain ⟨hg, p1, p2, p3, p4, p5, p6, p7, p8⟩ := jcheck_ok hc
 obtain ⟨g1, g2, _, _⟩ := gcheck_ok hg
 obtain ⟨q1, q2⟩ := inSt_ok s5
 have hlen := inSt_len s5 om
 have hvl := verts_len g j g2 p
 rw [F48, F39_spec om p7 p8 g2, bS, F48_loop s p (vertsS g j p) om hK (fun v hv => by have := (mem_verts p7).1 hv; omega) om, bS]
 rw [flat_filter p7 q1 (fun m hm => by have := q2 m hm; omega)]; rfl
theorem F21_loop {K : Nat} (hK : 1000 ≤ K) (g : GGraph) (j : GJob) (s : GState) (h : stRight g j s = true) : F21_l0_0 K g j s K [] 0 = some (splitS g j s) := by
 obtain ⟨hc, s1, s2, s3, s4, s5⟩ := stRight_ok h
 obtain ⟨hg, p1, p2, p3, p4, p5, p6, p7, p8⟩ := jcheck_ok hc
 let step : Nat → List GPart → (List GPart → Option (List GPart)) → Option (List GPart) := fun i out c =>
  (F48 K g j s (i : Int)).bind fun r => bif (apok (len out) 1 88) then c (appL out [r]) else none
 have hs := scanN (N := j.Parts) (L := fun k a i => F21_l0_0 K g j s k a i) step (fun a => some a) (fun k s i _ => rfl) om (K := K) om []
 have hw : ∀ (l : List Nat) (out : List GPart), out.length + l.length ≤ 100 → goL step (fun a => some a) l out = some (out ++ l.map fun (p : Nat) => cutS g j s (p : Int)) := by
  intro l
  induction l with
  | nil => intro out _; simp [goL]
  | cons p l ih =>
   intro out ho
   simp only [List.length_cons] at ho
   have ap : apok (len out) 1 88 = true := decide_eq_true ⟨by show out.length + 1 ≤ _; omega, by show (out.length + 1) * 88 ≤ _; omega⟩
   rw [goL]
   show ((F48 K g j s (p : Int)).bind fun r => bif (apok (len out) 1 88) then goL step (fun a => some a) l (appL out [r]) else none) = _
   rw [F48_spec hK h, bS, ap, cT, ih _ (by simp [appL]; omega)]
   simp [appL]
 rw [hw _ [] (by simp; omega)] at hs
 exact hs
theorem F21_spec {K : Nat} (hK : 1000 ≤ K) (g : GGraph) (j : GJob) (s : GState) (hl : s.In.length < 1000) : F21 K g j s = some (splitR g j s) := by
 rw [F21, F19_spec om, bS, splitR]
 cases hc : ieq (jcheck g j) 0
 · rfl
 · rw [cT, cT, F20_spec hK g j s om om, bS]
   cases hr : stRight g j s
   · rfl
   · rw [cT, cT, F21_loop hK g j s hr]; rfl
def noP : GPart := GPart.mk 0 0 [] [] []
def noS : GState := GState.mk 0 [] [] []
def partAt (l : List GPart) (j : GJob) (v : Nat) : GPart := l.getD (v % j.Parts.toNat) noP
def joinS (g : GGraph) (j : GJob) (l : List GPart) : GState :=
 GState.mk (l.getD 0 noP).Step ((List.range g.N.toNat).map fun v => (partAt l j v).Vals.getD (v / j.Parts.toNat) 0) ((List.range g.N.toNat).map fun v => (partAt l j v).Rest.getD (v / j.Parts.toNat) false)
  ((List.range g.N.toNat).flatMap fun (v : Nat) => (partAt l j v).In.filter fun m => ieq m.To (v : Int))
def okAll (g : GGraph) (j : GJob) (st : Int) : Nat → List GPart → Bool
 | _, [] => true
 | i, x :: r => ieq x.P (i : Int) && (ieq x.Step st && (partRight g j x && okAll g j st (i + 1) r))
def joinR (g : GGraph) (j : GJob) (l : List GPart) : GState × Int := bif ieq (jcheck g j) 0 then (bif ieq (l.length : Int) j.Parts then (bif okAll g j (l.getD 0 noP).Step 0 l then (joinS g j l, 0) else (noS, 1)) else (noS, 1)) else (noS, jcheck g j)
theorem okAll_get {g : GGraph} {j : GJob} {st : Int} : ∀ {l : List GPart} {i k : Nat}, okAll g j st i l = true → k < l.length → (l.getD k noP).P = ((i + k : Nat) : Int) ∧ (l.getD k noP).Step = st ∧ partRight g j (l.getD k noP) = true
 | [], i, k, _, hk => by simp at hk
 | x :: r, i, k, h, hk => by
  simp only [okAll, Bool.and_eq_true, ieq_iff] at h
  obtain ⟨h1, h2, h3, h4⟩ := h
  cases k with
  | zero => exact ⟨by simpa using h1, by simpa using h2, by simpa using h3⟩
  | succ k =>
   have := okAll_get (k := k) h4 (by simp only [List.length_cons] at hk; omega)
   simp only [List.getD_cons_succ]
   exact ⟨by rw [this.1]; omega, this.2⟩
theorem chk_go {K : Nat} {g : GGraph} {j : GJob} {l : List GPart} {x0 : GPart} (h0 : l.getD 0 noP = x0) (hl : 0 < l.length) (F : Nat → GGraph → GJob → GPart → Option Bool) (hF : ∀ x ∈ l, F K g j x = some (partRight g j x)) :
 ∀ (r : List GPart) (i : Nat), l.drop i = r → goI (fun i x (_ : Unit) c => bif ieq x.P (i : Int) then (bif inr 0 (len l) then (elAt l 0).bind fun y => bif ieq x.Step y.Step then ((F K g j x).bind fun q => bif q then c () else some (.inl ())) else some (.inl ()) else none) else some (.inl ())) (fun _ => some (.inr ())) i r () = some (sumU (okAll g j x0.Step i r)) := by
 intro r
 induction r with
 | nil => intro i _; rfl
 | cons x r ih =>
  intro i hr
  obtain ⟨n1, n2, hi⟩ := prev_next hr
  have hx : x ∈ l := by
   have : x ∈ l.drop i := by rw [hr]; exact List.mem_cons_self
   exact List.mem_of_mem_drop this
  have e1 : inr 0 (len l) = true := decide_eq_true ⟨by omega, by show (0 : Int) < (l.length : Int); omega⟩
  have e2 : elAt l 0 = some x0 := by
   have := (getD_at (l := l) noP hl).2
   rw [h0] at this; exact this
  rw [goI, okAll, ih (i + 1) n2, e1, e2, hF x hx, cT, bS, bS]
  cases ieq x.P (i : Int) <;> cases ieq x.Step x0.Step <;> cases partRight g j x <;> rfl
theorem slot_all : ∀ parts < 7, 0 < parts → ∀ n < 25, ∀ v < n, v / parts < (n + parts - 1 - v % parts) / parts ∧ ((List.range n).filter fun w => w % parts == v % parts)[v / parts]? = some v := by decide +kernel
theorem slot_verts {n parts : Nat} (h1 : 0 < parts) (h2 : parts < 7) (hn : n < 25) {v : Nat} (hv : v < n) : v / parts < (vertsN n parts ((v % parts : Nat) : Int)).length ∧ (vertsN n parts ((v % parts : Nat) : Int))[v / parts]? = some v := by
 obtain ⟨a, b⟩ := slot_all parts h2 h1 n hn v hv
 have e : vertsN n parts ((v % parts : Nat) : Int) = (List.range n).filter fun w => w % parts == v % parts := by
  rw [vertsN]
  refine List.filter_congr fun w _ => ?_
  rw [Bool.eq_iff_iff, ieq_iff, beq_iff_eq]; omega
 exact ⟨by rw [vertsN_len h1 h2 hn (Nat.mod_lt _ h1)]; exact a, by rw [e]; exact b⟩
theorem partRight_ok {g : GGraph} {j : GJob} {x : GPart} (h : partRight g j x = true) : ieq (jcheck g j) 0 = true ∧ 0 ≤ x.P ∧ x.P < j.Parts ∧ 0 ≤ x.Step ∧ x.Step ≤ 40 ∧ (x.Vals.length : Int) = countS g j x.P ∧ (x.Rest.length : Int) = countS g j x.P ∧ inOkS g.N j.Parts x.P (-1) x.In = true := by
 simp only [partRight, Bool.and_eq_true, ile_iff, ilt_iff, ieq_iff] at h
 obtain ⟨h1, h2, h3, h4, h5, h6, h7, h8⟩ := h
 exact ⟨ieq_iff.2 h1, h2, h3, h4, h5, h6, h7, h8⟩
theorem inOkS_ok {n parts p : Int} : ∀ {l : List GMsg} {v : Int}, inOkS n parts p v l = true → l.Pairwise (fun a b => a.To < b.To) ∧ (∀ m ∈ l, v < m.To ∧ m.To < n ∧ m.To % parts = p)
 | [], v, _ => ⟨List.Pairwise.nil, fun m h => (nomatch h)⟩
 | m :: l, v, h => by
  simp only [inOkS, Bool.and_eq_true, ilt_iff, ieq_iff] at h
  obtain ⟨h1, h2, h3, h4⟩ := h
  obtain ⟨a, b⟩ := inOkS_ok h4
  refine ⟨List.pairwise_cons.2 ⟨fun x hx => (b x hx).1, a⟩, fun x hx => ?_⟩
  rcases List.mem_cons.1 hx with e | e
  · subst e; exact ⟨h1, h2, h3⟩
  · have := b x e; exact ⟨by omega, this.2⟩
theorem inOkS_mk {n parts p : Int} : ∀ {l : List GMsg} {v : Int}, l.Pairwise (fun a b => a.To < b.To) → (∀ m ∈ l, v < m.To ∧ m.To < n ∧ m.To % parts = p) → inOkS n parts p v l = true
 | [], _, _, _ => rfl
 | m :: l, v, h, hm => by
  obtain ⟨a, b⟩ := List.pairwise_cons.1 h
  have h1 := hm m List.mem_cons_self
  rw [inOkS, ilt_iff.2 h1.1, ilt_iff.2 h1.2.1, ieq_iff.2 h1.2.2]
  exact inOkS_mk b fun x hx => ⟨a x hx, (hm x (List.mem_cons_of_mem _ hx)).2⟩
theorem inOkS_inSt {n parts p : Int} : ∀ {l : List GMsg} {v : Int}, inOkS n parts p v l = true → inSt n v l = true
 | [], _, _ => rfl
 | m :: l, v, h => by
  simp only [inOkS, Bool.and_eq_true] at h
  simp only [inSt, Bool.and_eq_true]
  exact ⟨h.1, h.2.1, inOkS_inSt h.2.2.2⟩
structure JoinAt (g : GGraph) (j : GJob) (l : List GPart) (v : Nat) : Prop where
 z : izero j.Parts = false
 r : wrem (v : Int) j.Parts = ((v % j.Parts.toNat : Nat) : Int)
 q : wquo .i64 (v : Int) j.Parts = ((v / j.Parts.toNat : Nat) : Int)
 i1 : inr ((v % j.Parts.toNat : Nat) : Int) (len l) = true
 e1 : elAt l ((v % j.Parts.toNat : Nat) : Int) = some (partAt l j v)
 i2 : inr ((v / j.Parts.toNat : Nat) : Int) (len (partAt l j v).Vals) = true
 e2 : elAt (partAt l j v).Vals ((v / j.Parts.toNat : Nat) : Int) = some ((partAt l j v).Vals.getD (v / j.Parts.toNat) 0)
 i3 : inr ((v / j.Parts.toNat : Nat) : Int) (len (partAt l j v).Rest) = true
 e3 : elAt (partAt l j v).Rest ((v / j.Parts.toNat : Nat) : Int) = some ((partAt l j v).Rest.getD (v / j.Parts.toNat) false)
 pr : partRight g j (partAt l j v) = true
 pp : (partAt l j v).P = ((v % j.Parts.toNat : Nat) : Int)
theorem joinAt {g : GGraph} {j : GJob} {l : List GPart} {st : Int} (hc : ieq (jcheck g j) 0 = true) (hl : (l.length : Int) = j.Parts) (h : okAll g j st 0 l = true) {v : Nat} (hv : (v : Int) < g.N) : JoinAt g j l v := by
 obtain ⟨hg, p1, p2, p3, p4, p5, p6, p7, p8⟩ := jcheck_ok hc
 obtain ⟨g1, g2, _, _⟩ := gcheck_ok hg
 obtain ⟨m, hm⟩ := Int.eq_ofNat_of_zero_le (show 0 ≤ j.Parts by omega)
 obtain ⟨n, hn⟩ := Int.eq_ofNat_of_zero_le (show 0 ≤ g.N by omega)
 have hmt : j.Parts.toNat = m := by omega
 have hnt : g.N.toNat = n := by omega
 have hlt : v % m < l.length := by have := Nat.mod_lt v (show 0 < m by omega); omega
 obtain ⟨o1, o2, o3⟩ := okAll_get (k := v % m) h hlt
 obtain ⟨_, r1, r2, r3, r4, r5, r6, r7⟩ := partRight_ok o3
 obtain ⟨s1, s2⟩ := slot_verts (n := n) (parts := m) om om om (v := v) om
 have hcnt : countS g j (l.getD (v % m) noP).P = ((vertsN n m ((v % m : Nat) : Int)).length : Int) := by
  rw [o1, Nat.zero_add, countS, vertsS, hmt, hnt]
 obtain ⟨a1, a2⟩ := getD_at (l := l) noP hlt
 obtain ⟨b1, b2⟩ := getD_at (l := (l.getD (v % m) noP).Vals) 0 (show v / m < _ by omega)
 obtain ⟨c1, c2⟩ := getD_at (l := (l.getD (v % m) noP).Rest) false (show v / m < _ by omega)
 refine ⟨decide_eq_false om, ?_, ?_, ?_, ?_, ?_, ?_, ?_, ?_, ?_, ?_⟩
 · rw [wrem_emod om, hm]; simp
 · show IntKind.i64.wrap ((v : Int).tdiv j.Parts) = _
   have hle : v / m ≤ v := Nat.div_le_self _ _
   have : (v : Int).tdiv j.Parts = ((v / m : Nat) : Int) := by rw [hm, Int.tdiv_eq_ediv_of_nonneg om]; rfl
   rw [this, hmt, IntKind.wrap_i64]
   generalize v / m = d at *
   omega
 · rw [hmt]; exact a1
 all_goals (unfold partAt; rw [hmt]; first | exact a2 | exact b1 | exact b2 | exact c1 | exact c2 | exact o3 | (rw [o1, Nat.zero_add]))
theorem app_ok8 {a : List Int} (h : a.length ≤ 1000) : apok (len a) 1 8 = true := decide_eq_true ⟨by show a.length + 1 ≤ _; omega, by show (a.length + 1) * 8 ≤ _; omega⟩
theorem app_ok1 {a : List Bool} (h : a.length ≤ 1000) : apok (len a) 1 1 = true := decide_eq_true ⟨by show a.length + 1 ≤ _; omega, by show (a.length + 1) * 1 ≤ _; omega⟩
theorem app_ok16 {a : List GMsg} (h : a.length ≤ 1000000) : apok (len a) 1 16 = true := decide_eq_true ⟨by show a.length + 1 ≤ _; omega, by show (a.length + 1) * 16 ≤ _; omega⟩
theorem F24_in {K : Nat} (g : GGraph) (j : GJob) (l : List GPart) (x0 : GPart) (a : List Int) (b : List Bool) (v : Int) (x : GPart) (y : Int) (z : Bool) (hl : x.In.length ≤ 1000) (hK : x.In.length < K) (acc : List GMsg) (ha : acc.length ≤ 100000) :
 F24_l2_2 K g j l x0 a b v x y z K acc 0 = some (acc ++ x.In.filter fun m => ieq m.To v) := by
 let step : GMsg → List GMsg → (List GMsg → Option (List GMsg)) → Option (List GMsg) := fun m a c => bif (ieq m.To v) then (bif (apok (len a) 1 16) then c (appL a [m]) else none) else c a
 have h := scanL (l := x.In) (L := fun k c q => F24_l2_2 K g j l x0 a b v x y z k c q) step (fun a => some a) (fun k s i _ => rfl) om (K := K) hK acc
 have hw : ∀ (l : List GMsg) (a : List GMsg), a.length + l.length ≤ 200000 → goL step (fun a => some a) l a = some (a ++ l.filter fun m => ieq m.To v) := by
  intro l
  induction l with
  | nil => intro a _; simp [goL]
  | cons m l ih =>
   intro a ha
   simp only [List.length_cons] at ha
   rw [goL]
   show (bif (ieq m.To v) then (bif (apok (len a) 1 16) then goL step (fun a => some a) l (appL a [m]) else none) else goL step (fun a => some a) l a) = _
   rw [app_ok16 om, List.filter_cons]
   cases ieq m.To v
   · rw [cF, ih a om]; rfl
   · rw [cT, cT, ih _ (by simp [appL]; omega)]; simp [appL]
 rw [hw x.In acc om] at h
 exact h
theorem F24_loop {K : Nat} (hK : 1000 ≤ K) (g : GGraph) (j : GJob) (l : List GPart) (x0 : GPart) {st : Int} (hc : ieq (jcheck g j) 0 = true) (hl : (l.length : Int) = j.Parts) (h : okAll g j st 0 l = true) :
 F24_l1_1 K g j l x0 K [] [] [] 0 = some ((joinS g j l).Vals, (joinS g j l).Rest, (joinS g j l).In) := by
 obtain ⟨hg, p1, p2, p3, p4, p5, p6, p7, p8⟩ := jcheck_ok hc
 obtain ⟨g1, g2, _, _⟩ := gcheck_ok hg
 let step : Nat → List Int × List Bool × List GMsg → (List Int × List Bool × List GMsg → Option (List Int × List Bool × List GMsg)) → Option (List Int × List Bool × List GMsg) := fun v s c =>
  bif (izero j.Parts) then none else
  bif (inr (wrem (v : Int) j.Parts) (len l)) then
  (elAt l (wrem (v : Int) j.Parts)).bind fun x3822 =>
  bif (inr (wquo .i64 (v : Int) j.Parts) (len x3822.Vals)) then
  (elAt x3822.Vals (wquo .i64 (v : Int) j.Parts)).bind fun x3825 =>
  bif (apok (len s.1) 1 8) then
  bif (inr (wquo .i64 (v : Int) j.Parts) (len x3822.Rest)) then
  (elAt x3822.Rest (wquo .i64 (v : Int) j.Parts)).bind fun x3829 =>
  bif (apok (len s.2.1) 1 1) then
  (F24_l2_2 K g j l x0 s.1 s.2.1 (v : Int) x3822 x3825 x3829 K s.2.2 0).bind fun w3851 => c (appL s.1 [x3825], appL s.2.1 [x3829], w3851)
  else none
  else none
  else none
  else none
  else none
 have hs := scanN (N := g.N) (L := fun k (s : List Int × List Bool × List GMsg) i => F24_l1_1 K g j l x0 k s.1 s.2.1 s.2.2 i) step (fun s => some s) (fun k s i _ => rfl) om (K := K) om ([], [], [])
 have hw : ∀ (r : List Nat) (a : List Int) (b : List Bool) (m : List GMsg), (∀ v ∈ r, (v : Int) < g.N) → a.length + r.length ≤ 100 → b.length + r.length ≤ 100 → m.length + 100 * r.length ≤ 10000 →
  goL step (fun s => some s) r (a, b, m) = some (a ++ r.map (fun v => (partAt l j v).Vals.getD (v / j.Parts.toNat) 0), b ++ r.map (fun v => (partAt l j v).Rest.getD (v / j.Parts.toNat) false), m ++ r.flatMap fun (v : Nat) => (partAt l j v).In.filter fun m => ieq m.To (v : Int)) := by
  intro r
  induction r with
  | nil => intro a b m _ _ _ _; simp [goL]
  | cons v r ih =>
   intro a b m hv ha hb hm
   simp only [List.length_cons] at ha hb hm
   have ja := joinAt hc hl h (hv v List.mem_cons_self)
   obtain ⟨_, r1, r2, r3, r4, r5, r6, r7⟩ := partRight_ok ja.pr
   obtain ⟨q1, q2⟩ := inOkS_ok r7
   have hlen : (partAt l j v).In.length ≤ 25 := by
    have := inSt_len (n := g.N) (v := -1) (l := (partAt l j v).In) (inOkS_inSt r7) om
    omega
   have hfl : ((partAt l j v).In.filter fun m => ieq m.To (v : Int)).length ≤ 25 := Nat.le_trans (List.length_filter_le _ _) hlen
   rw [goL]
   show (bif (izero j.Parts) then none else
   bif (inr (wrem (v : Int) j.Parts) (len l)) then
   (elAt l (wrem (v : Int) j.Parts)).bind fun x3822 =>
   bif (inr (wquo .i64 (v : Int) j.Parts) (len x3822.Vals)) then
   (elAt x3822.Vals (wquo .i64 (v : Int) j.Parts)).bind fun x3825 =>
   bif (apok (len a) 1 8) then
   bif (inr (wquo .i64 (v : Int) j.Parts) (len x3822.Rest)) then
   (elAt x3822.Rest (wquo .i64 (v : Int) j.Parts)).bind fun x3829 =>
   bif (apok (len b) 1 1) then
   (F24_l2_2 K g j l x0 a b (v : Int) x3822 x3825 x3829 K m 0).bind fun w3851 => goL step (fun s => some s) r (appL a [x3825], appL b [x3829], w3851)
   else none
   else none
   else none
   else none
   else none) = _
   rw [ja.z, cF, ja.r, ja.q, ja.i1, cT, ja.e1, bS, ja.i2, cT, ja.e2, bS, app_ok8 om, cT, ja.i3, cT, ja.e3, bS, app_ok1 om, cT,
    F24_in g j l x0 a b (v : Int) (partAt l j v) _ _ om om m om, bS, ih _ _ _ (fun x hx => hv x (List.mem_cons_of_mem _ hx)) (by simp [appL]; omega) (by simp [appL]; omega) (by simp only [List.length_append]; omega)]
   simp [appL]
 rw [hw _ [] [] [] (fun v hv => by have := List.mem_range.1 hv; omega) (by simp; omega) (by simp; omega) (by simp; omega)] at hs
 simpa [joinS] using hs
def zeroP : GPart := GPart.mk 0 0 [] [] []
def takeOk (n parts p : Int) (l : List GMsg) : Bool := l.all fun m => ile 0 m.To && (ilt m.To n && ieq (m.To % parts) p)
def takeB (j : GJob) (x : GPart) (l : List GMsg) : GPart × Int := bif ieq (boxS j.Prog l).2 0 then (GPart.mk x.P x.Step x.Vals x.Rest (boxS j.Prog l).1, 0) else (zeroP, (boxS j.Prog l).2)
def takeS (g : GGraph) (j : GJob) (x : GPart) (l : List GMsg) : GPart × Int :=
 bif ieq (jcheck g j) 0 then (bif partRight g j x then (bif ieq (nlen (len x.In)) 0 then (bif takeOk g.N j.Parts x.P l then takeB j x l else (zeroP, 1)) else (zeroP, 1)) else (zeroP, 1)) else (zeroP, jcheck g j)
theorem takeOk_perm {n parts p : Int} {l l' : List GMsg} (h : l.Perm l') : takeOk n parts p l = takeOk n parts p l' := by
 rw [Bool.eq_iff_iff]
 simp only [takeOk, List.all_eq_true]
 exact ⟨fun q m hm => q m (h.mem_iff.2 hm), fun q m hm => q m (h.mem_iff.1 hm)⟩
theorem boxS_perm {p : Int} {l l' : List GMsg} (h : l.Perm l') : boxS p l = boxS p l' := by
 rw [boxS, boxS, sortM_congr h]
theorem F98_spec {K : Nat} (ls : List (List GMsg)) (h1 : ls.length < 10000) (h2 : ls.length < K) (h3 : (ls.flatten).length < 10000) (h4 : (ls.flatten).length < K) : F98 K ls = some (sortM ls.flatten) := by
 let step : List GMsg → List GMsg → (List GMsg → Option (List GMsg)) → Option (List GMsg) := fun x a c => bif (apok (len a) (len x) 16) then c (appL a x) else none
 have h := scanL (l := ls) (L := fun k s i => F98_l0_0 K ls k s i) step (fun s => some s) (fun k s i _ => rfl) om h2 []
 have hw : ∀ (r : List (List GMsg)) (a : List GMsg), a.length + r.flatten.length < 100000 → goL step (fun s => some s) r a = some (a ++ r.flatten) := by
  intro r
  induction r with
  | nil => intro a _; simp [goL]
  | cons x r ih =>
   intro a ha
   rw [List.flatten_cons, List.length_append] at ha
   rw [goL]
   show (bif (apok (len a) (len x) 16) then goL step (fun s => some s) r (appL a x) else none) = _
   have ap : apok (len a) (len x) 16 = true := decide_eq_true ⟨by show a.length + x.length ≤ _; omega, by show (a.length + x.length) * 16 ≤ _; omega⟩
   rw [ap, cT, ih _ (by simp only [appL, List.length_append]; omega)]; simp [appL]
 rw [hw ls [] (by simp only [List.length_nil]; omega), List.nil_append] at h
 have h' : F98_l0_0 K ls K [] 0 = some ls.flatten := h
 rw [F98, h', bS, F107_spec _ h4 h3]; rfl
theorem F62_loop {K : Nat} (g : GGraph) (j : GJob) (x : GPart) (l : List GMsg) (hp : 1 ≤ j.Parts) (h6 : j.Parts ≤ 6) (h0 : 0 ≤ x.P) (hl : l.length < 1000000) (hK : l.length < K) : F62_l0_0 K g j x l K 0 = some (sumU (takeOk g.N j.Parts x.P l)) := by
 let step : GMsg → Unit → (Unit → Option (Unit ⊕ Unit)) → Option (Unit ⊕ Unit) := fun m _ c =>
  bif (ile g.N m.To) then (some (.inl ())) else (F94 K j m.To).bind fun r => bif (ieq r x.P) then c () else some (.inl ())
 have h := scanL (l := l) (L := fun k (_ : Unit) i => F62_l0_0 K g j x l k i) step (fun _ => some (.inr ())) (fun k s i _ => rfl) om (K := K) hK ()
 have hw : ∀ (r : List GMsg), goL step (fun _ => some (.inr ())) r () = some (sumU (takeOk g.N j.Parts x.P r)) := by
  intro r
  induction r with
  | nil => rfl
  | cons m r ih =>
   rw [goL]
   show (bif (ile g.N m.To) then (some (.inl ())) else (F94 K j m.To).bind fun r' => bif (ieq r' x.P) then goL step (fun _ => some (.inr ())) r () else some (.inl ())) = _
   rw [F94_spec, ih, bS, not_ile, homeS, ilt_f.2 hp, ilt_f.2 h6, takeOk, takeOk, List.all_cons, ilt_not' m.To 0]
   cases h1 : ilt m.To g.N
   · cases ile 0 m.To <;> rfl
   · cases h2 : ile 0 m.To
     · rw [Bool.not_false, Bool.true_or, cT, ieq_f.2 (by omega : (-1 : Int) ≠ x.P)]; rfl
     · simp only [Bool.not_true, Bool.false_or, cF, Bool.true_and]
       cases ieq (m.To % j.Parts) x.P <;> rfl
 rw [hw] at h
 exact h
theorem sumU_bind {α : Type} (b : Bool) (x : Option α) (y : Option α) : (some (sumU b)).bind (fun z => Sum.elim (fun _ => x) (fun _ => y) z) = bif b then y else x := by cases b <;> rfl
theorem F62_spec {K : Nat} (hK : 1000 ≤ K) (g : GGraph) (j : GJob) (x : GPart) (ls : List (List GMsg)) (hp : i64 x.P) (hx : x.In.length ≤ 300) (hv : x.Vals.length ≤ 100) (hr : x.Rest.length ≤ 100)
 (h1 : ls.length < 1000) (h3 : (ls.flatten).length < 10000) (h4 : (ls.flatten).length < K) (hs : ∀ m ∈ ls.flatten, i64 m.V) : F62 K g j x ls = some (takeS g j x ls.flatten) := by
 rw [F62, F31_spec om, F91_spec hK g j x om om hp, bS, bS, takeS]
 cases hc : ieq (jcheck g j) 0
 · rfl
 · cases hR : partRight g j x
   · rfl
   · obtain ⟨_, p1, p2, _⟩ := partRight_ok hR
     obtain ⟨hg, _, _, _, _, _, _, p7, p8⟩ := jcheck_ok hc
     have hsl := sortM_len ls.flatten
     have e1 : ilt 0 (nlen (len x.In)) = !(ieq (nlen (len x.In)) 0) := by
      show ilt 0 (x.In.length : Int) = !(ieq (x.In.length : Int) 0)
      cases x.In.length with
      | zero => rfl
      | succ n => rw [ilt_iff.2 om, ieq_f.2 om]; rfl
     have ap1 : apok 0 (len x.Vals) 8 = true := decide_eq_true ⟨by show 0 + x.Vals.length ≤ _; omega, by show (0 + x.Vals.length) * 8 ≤ _; omega⟩
     have ap2 : apok 0 (len x.Rest) 1 = true := decide_eq_true ⟨by show 0 + x.Rest.length ≤ _; omega, by show (0 + x.Rest.length) * 1 ≤ _; omega⟩
     have hso : ∀ m ∈ sortM ls.flatten, i64 m.V := fun m hm => hs m ((sortM_perm _).mem_iff.1 hm)
     simp only [cT, e1, F98_spec ls (show ls.length < 10000 by omega) (show ls.length < K by omega) h3 h4, bS]
     rw [F62_loop g j x _ p7 p8 p1 om om, F95_spec j.Prog (sortM ls.flatten) hso om om, sumU_bind, F99, ap1, ap2, takeOk_perm (sortM_perm ls.flatten), boxS_perm (sortM_perm ls.flatten)]
     cases ieq (nlen (len x.In)) 0
     · rfl
     · cases takeOk g.N j.Parts x.P ls.flatten
       · rfl
       · rw [takeB]
         simp only [cT, bS, Bool.not_true, cF]
         cases ieq (boxS j.Prog ls.flatten).2 0 <;> rfl
theorem u_add {a b : Int} (h : 0 ≤ a + b) (h2 : a + b < 18446744073709551616) : wadd .u64 a b = a + b := by
 show IntKind.u64.wrap (a + b) = _
 simp [IntKind.wrap, IntKind.signed, IntKind.bits]; omega
theorem u_mul {a b : Int} (h : 0 ≤ a * b) (h2 : a * b < 18446744073709551616) : wmul .u64 a b = a * b := by
 show IntKind.u64.wrap (a * b) = _
 simp only [IntKind.wrap, IntKind.signed, IntKind.bits, Bool.false_and]
 generalize a * b = t at *
 simp; omega
theorem u_quo {a : Int} (h : 0 ≤ a) (h2 : a < 18446744073709551616) : wquo .u64 a 4294967296 = a / 4294967296 := by
 show IntKind.u64.wrap (a.tdiv 4294967296) = _
 rw [Int.tdiv_eq_ediv_of_nonneg h]
 simp [IntKind.wrap, IntKind.signed, IntKind.bits]; omega
theorem u_rem {a : Int} (h : 0 ≤ a) : wrem a 4294967296 = a % 4294967296 := by
 show a.tmod 4294967296 = _
 exact Int.tmod_eq_emod_of_nonneg h
theorem F115_spec (K : Nat) {x b : Int} (hx : 0 ≤ x) (hx2 : x ≤ 9223372036854775808) (hb : 1 ≤ b) (hb2 : b ≤ 1000) :
 ∃ hi lo, F115 K x b = some (GA193.mk hi lo) ∧ hi * 18446744073709551616 + lo = x * b ∧ 0 ≤ lo ∧ lo < 18446744073709551616 ∧ 0 ≤ hi := by
 obtain ⟨u, hu⟩ : ∃ u, x / 4294967296 = u := ⟨_, rfl⟩
 obtain ⟨v, hv⟩ : ∃ v, x % 4294967296 = v := ⟨_, rfl⟩
 have hu0 : 0 ≤ u ∧ u ≤ 2147483648 := by omega
 have hv0 : 0 ≤ v ∧ v < 4294967296 := by omega
 have hxu : x = u * 4294967296 + v := by omega
 obtain ⟨P, hP⟩ : ∃ P, u * b = P := ⟨_, rfl⟩
 obtain ⟨Q, hQ⟩ : ∃ Q, v * b = Q := ⟨_, rfl⟩
 have hP0 : 0 ≤ P := hP ▸ Int.mul_nonneg hu0.1 om
 have hQ0 : 0 ≤ Q := hQ ▸ Int.mul_nonneg hv0.1 om
 have hP1 : P ≤ 2147483648 * 1000 := hP ▸ Int.mul_le_mul hu0.2 hb2 om om
 have hQ1 : Q ≤ 4294967296 * 1000 := hQ ▸ Int.mul_le_mul om hb2 om om
 have hxb : x * b = P * 4294967296 + Q := by rw [hxu, Int.add_mul, hQ, ← hP, Int.mul_right_comm]
 have a1 : wquo .u64 x 4294967296 = u := by rw [u_quo hx om, hu]
 have a2 : wquo .u64 b 4294967296 = 0 := by rw [u_quo om om]; omega
 have a3 : wrem x 4294967296 = v := by rw [u_rem hx, hv]
 have a4 : wrem b 4294967296 = b := by rw [u_rem om]; omega
 have b1 : wmul .u64 u 0 = 0 := by rw [u_mul om om]; omega
 have b2 : wmul .u64 u b = P := by rw [u_mul om om, hP]
 have b3 : wmul .u64 v 0 = 0 := by rw [u_mul om om]; omega
 have b4 : wmul .u64 v b = Q := by rw [u_mul om om, hQ]
 have c1 : wquo .u64 P 4294967296 = P / 4294967296 := u_quo hP0 om
 have c2 : wquo .u64 0 4294967296 = 0 := by rw [u_quo om om]; omega
 have c3 : wquo .u64 Q 4294967296 = Q / 4294967296 := u_quo hQ0 om
 have c4 : wrem P 4294967296 = P % 4294967296 := u_rem hP0
 have c5 : wrem 0 4294967296 = 0 := by rw [u_rem om]; omega
 have c6 : wrem Q 4294967296 = Q % 4294967296 := u_rem hQ0
 have d1 : wadd .u64 (Q / 4294967296) (P % 4294967296) = Q / 4294967296 + P % 4294967296 := u_add om om
 have d2 : wadd .u64 (Q / 4294967296 + P % 4294967296) 0 = Q / 4294967296 + P % 4294967296 := by rw [u_add om om]; omega
 have d3 : wquo .u64 (Q / 4294967296 + P % 4294967296) 4294967296 = (Q / 4294967296 + P % 4294967296) / 4294967296 := u_quo om om
 have d4 : wrem (Q / 4294967296 + P % 4294967296) 4294967296 = (Q / 4294967296 + P % 4294967296) % 4294967296 := u_rem om
 have d5 : wadd .u64 0 (P / 4294967296) = P / 4294967296 := by rw [u_add om om]; omega
 have d6 : wadd .u64 (P / 4294967296) 0 = P / 4294967296 := by rw [u_add om om]; omega
 have d7 : wadd .u64 (P / 4294967296) ((Q / 4294967296 + P % 4294967296) / 4294967296) = P / 4294967296 + (Q / 4294967296 + P % 4294967296) / 4294967296 := u_add om om
 have d8 : wmul .u64 ((Q / 4294967296 + P % 4294967296) % 4294967296) 4294967296 = (Q / 4294967296 + P % 4294967296) % 4294967296 * 4294967296 := u_mul om om
 have d9 : wadd .u64 ((Q / 4294967296 + P % 4294967296) % 4294967296 * 4294967296) (Q % 4294967296) = (Q / 4294967296 + P % 4294967296) % 4294967296 * 4294967296 + Q % 4294967296 := u_add om om
 refine ⟨P / 4294967296 + (Q / 4294967296 + P % 4294967296) / 4294967296, (Q / 4294967296 + P % 4294967296) % 4294967296 * 4294967296 + Q % 4294967296, ?_, ?_, by omega, by omega, by omega⟩
 · rw [F115, a1, a2, a3, a4, b1, b2, b3, b4, c1, c2, c3, c4, c5, c6, d1, d2, d3, d4, d5, d6, d7, d8, d9]
 · rw [hxb]; omega
theorem F116_spec (K : Nat) {a : Int} (ha : i64 a) : F116 K a = some (bif ilt a 0 then -a else a) := by
 unfold i64 at ha
 rw [F116]
 cases h : ilt a 0
 · have := ilt_f.1 h
   have e : wconv .u64 a = a := by
    show IntKind.u64.wrap a = _
    simp [IntKind.wrap, IntKind.signed, IntKind.bits]; omega
   rw [e]; rfl
 · have := ilt_iff.1 h
   have e1 : wadd .i64 a 1 = a + 1 := wadd_i64 (by unfold i64; omega)
   have e2 : wneg .i64 (a + 1) = -(a + 1) := by
    show IntKind.i64.wrap (0 - (a + 1)) = _
    rw [IntKind.wrap_i64]; omega
   have e3 : wconv .u64 (-(a + 1)) = -(a + 1) := by
    show IntKind.u64.wrap _ = _
    simp [IntKind.wrap, IntKind.signed, IntKind.bits]; omega
   have e4 : wadd .u64 (-(a + 1)) 1 = -a := by rw [u_add om om]; omega
   rw [e1, e2, e3, e4]; rfl
def mulS (a b : Int) : Int × Bool := bif fitsB (a * b) then (a * b, true) else (0, false)
theorem F114_spec (K : Nat) {a b : Int} (ha : i64 a) (hb : 1 ≤ b) (hb2 : b ≤ 1000) : F114 K a b = some (mulS a b) := by
 have hb0 : ilt b 0 = false := ilt_f.2 om
 have h175 : F116 K b = some b := by rw [F116_spec K (by unfold i64; omega), hb0]; rfl
 have hconv : ∀ n : Int, 0 ≤ n → n ≤ 9223372036854775807 → wconv .i64 n = n := fun n h1 h2 => by
  show IntKind.i64.wrap n = _
  rw [IntKind.wrap_i64]; omega
 rw [F114, F116_spec K ha, h175, mulS, hb0]
 unfold i64 at ha
 cases h : ilt a 0
 · have hn := ilt_f.1 h
   obtain ⟨hi, lo, e, h1, h2, h3, h4⟩ := F115_spec K hn om hb hb2
   simp only [bS, cF, e]
   cases c1 : ilt 0 hi
   · have c1' := ilt_f.1 c1
     cases c2 : ilt 9223372036854775808 lo
     · have c2' := ilt_f.1 c2
       cases c3 : ieq lo 9223372036854775808
       · have c3' := ieq_f.1 c3
         have hf : fitsB (a * b) = true := fitsB_iff.2 (by unfold i64; omega)
         have : lo = a * b := by omega
         rw [hf, hconv lo h2 om, this]; rfl
       · have c3' := ieq_iff.1 c3
         have hf : fitsB (a * b) = false := fitsB_f.2 om
         rw [hf]; rfl
     · have c2' := ilt_iff.1 c2
       have hf : fitsB (a * b) = false := fitsB_f.2 om
       rw [hf]; rfl
   · have c1' := ilt_iff.1 c1
     have hf : fitsB (a * b) = false := fitsB_f.2 om
     rw [hf]; rfl
 · have hn := ilt_iff.1 h
   obtain ⟨hi, lo, e, h1, h2, h3, h4⟩ := F115_spec K (x := -a) om om hb hb2
   rw [Int.neg_mul] at h1
   simp only [bS, cT, e]
   cases c1 : ilt 0 hi
   · have c1' := ilt_f.1 c1
     cases c2 : ilt 9223372036854775808 lo
     · have c2' := ilt_f.1 c2
       cases c3 : ieq lo 9223372036854775808
       · have c3' := ieq_f.1 c3
         have hf : fitsB (a * b) = true := fitsB_iff.2 (by unfold i64; omega)
         have hw : wneg .i64 lo = a * b := by
          show IntKind.i64.wrap (0 - lo) = _
          rw [IntKind.wrap_i64]; omega
         rw [hf, hconv lo h2 om, hw]; rfl
       · have c3' := ieq_iff.1 c3
         have hf : fitsB (a * b) = true := fitsB_iff.2 (by unfold i64; omega)
         have : a * b = -9223372036854775808 := by omega
         rw [hf, this]; rfl
     · have c2' := ilt_iff.1 c2
       have hf : fitsB (a * b) = false := fitsB_f.2 om
       rw [hf]; rfl
   · have c1' := ilt_iff.1 c1
     have hf : fitsB (a * b) = false := fitsB_f.2 om
     rw [hf]; rfl
theorem tdiv_i64 {a d : Int} (ha : i64 a) (hd : 1 ≤ d) : wquo .i64 a d = a.tdiv d ∧ i64 (a.tdiv d) := by
 unfold i64 at ha
 have h1 : (a.tdiv d).natAbs ≤ a.natAbs := Int.natAbs_tdiv_le_natAbs a d
 have h2 : -9223372036854775808 ≤ a.tdiv d ∧ a.tdiv d ≤ 9223372036854775808 := by omega
 have h3 : 0 ≤ a → 0 ≤ a.tdiv d := fun h => Int.tdiv_nonneg h om
 have h4 : a ≤ 0 → a.tdiv d ≤ 0 := fun h => by
  have := Int.tdiv_nonneg (show 0 ≤ -a by omega) (show 0 ≤ d by omega)
  rw [Int.neg_tdiv] at this; omega
 have h5 : i64 (a.tdiv d) := by
  unfold i64
  rcases Int.le_total 0 a with h | h
  · have := h3 h; omega
  · have := h4 h; omega
 refine ⟨?_, h5⟩
 unfold i64 at h5
 show IntKind.i64.wrap (a.tdiv d) = _
 rw [IntKind.wrap_i64]; omega
theorem F109_spec (K : Nat) {a b : Int} (ha : i64 a) (hb : 1 ≤ b) (hb2 : b ≤ 1000) : F109 K a b = some (mulS a b) := by
 unfold i64 at ha
 rw [F109, mulS, ieq_f.2 (by omega : b ≠ 0), ieq_f.2 (by omega : b ≠ -1)]
 cases h0 : ieq a 0
 · have h0' := ieq_f.1 h0
   cases h1 : ieq a (-1)
   · have hz : izero b = false := decide_eq_false om
     simp only [cF, hz]
     obtain ⟨t, ht⟩ : ∃ t, a * b = t := ⟨_, rfl⟩
     obtain ⟨p, hp⟩ : ∃ p, wmul .i64 a b = p := ⟨_, rfl⟩
     have hp' : p = if 9223372036854775808 ≤ t % 18446744073709551616 then t % 18446744073709551616 - 18446744073709551616 else t % 18446744073709551616 := by
      rw [← hp, ← ht]
      show IntKind.i64.wrap (a * b) = _
      rw [IntKind.wrap_i64, ht]
      split <;> omega
     have hpr : -9223372036854775808 ≤ p ∧ p ≤ 9223372036854775807 := by rw [hp']; split <;> omega
     obtain ⟨q, hq⟩ : ∃ q, p.tdiv b = q := ⟨_, rfl⟩
     obtain ⟨r, hr⟩ : ∃ r, p.tmod b = r := ⟨_, rfl⟩
     have hdiv : b * q + r = p := by rw [← hq, ← hr]; exact Int.mul_tdiv_add_tmod p b
     have hrb : -1000 < r ∧ r < 1000 := by
      have h1 := Int.tmod_lt_of_pos p (show 0 < b by omega)
      have h2 := Int.lt_tmod_of_pos p (show 0 < b by omega)
      omega
     have hqr : -9223372036854775808 ≤ q ∧ q ≤ 9223372036854775807 := by
      have : i64 (p.tdiv b) := (tdiv_i64 (show i64 p from hpr) hb).2
      unfold i64 at this
      rw [hq] at this; exact this
     have hw : wquo .i64 p b = q := by rw [(tdiv_i64 (show i64 p from hpr) hb).1, hq]
     rw [hp, hw, ht]
     cases hf : fitsB t
     · have hf' := fitsB_f.1 hf
       have hne : ieq q a = false := ieq_f.2 fun hc => by
        have hba : b * q = t := by rw [hc, Int.mul_comm]; exact ht
        rw [hba] at hdiv
        have := hp'
        split at this <;> omega
       rw [hne]; rfl
     · have hf' := fitsB_iff.1 hf
       unfold i64 at hf'
       have hpt : p = t := by rw [hp']; split <;> omega
       have hqa : q = a := by
        rw [← hq, hpt, ← ht]
        exact Int.mul_tdiv_cancel a om
       rw [hqa, ieq_refl, hpt]; rfl
   · have h1' := ieq_iff.1 h1
     subst h1'
     have e1 : ieq (-1) (-9223372036854775808) = false := rfl
     have e2 : ieq b (-9223372036854775808) = false := ieq_f.2 om
     have e3 : fitsB (-1 * b) = true := fitsB_iff.2 (by unfold i64; omega)
     have e4 : wmul .i64 (-1) b = -1 * b := wmul_ok (by unfold i64; omega)
     rw [e1, e2, e3, e4]; rfl
 · have h0' := ieq_iff.1 h0
   subst h0'
   have e3 : fitsB (0 * b) = true := fitsB_iff.2 (by unfold i64; omega)
   rw [e3, Int.zero_mul]; rfl
def ratioS (v n d : Int) : Int × Bool := bif ilt d 1 then (0, false) else bif (mulS v n).2 then ((mulS v n).1.tdiv d, true) else (0, false)
theorem mulS_i64 {a b : Int} : i64 (mulS a b).1 := by
 rw [mulS]
 cases h : fitsB (a * b)
 · unfold i64; simp
 · exact fitsB_iff.1 h
theorem ratioS_i64 {v n d : Int} : i64 (ratioS v n d).1 := by
 have h0 : i64 0 := by unfold i64; omega
 rw [ratioS]
 cases hd : ilt d 1
 · cases (mulS v n).2
   · exact h0
   · exact (tdiv_i64 mulS_i64 (ilt_f.1 hd)).2
 · exact h0
theorem F111_spec (K : Nat) {v n : Int} (d : Int) (hv : i64 v) (hn : 1 ≤ n) (hn2 : n ≤ 1000) : F111 K v n d = some (ratioS v n d) := by
 rw [F111, F114_spec K hv hn hn2, bS, ratioS]
 cases hd : ilt d 1
 · have hd' := ilt_f.1 hd
   have hz : izero d = false := decide_eq_false om
   rw [(tdiv_i64 (mulS_i64 (a := v) (b := n)) hd').1, hz]
   cases (mulS v n).2 <;> rfl
 · cases (mulS v n).2 <;> rfl
theorem F101_spec (K : Nat) {v n : Int} (d : Int) (hv : i64 v) (hn : 1 ≤ n) (hn2 : n ≤ 1000) : F101 K v n d = some (ratioS v n d) := by
 rw [F101, F109_spec K hv hn hn2, ratioS]
 cases hd : ilt d 1
 · have hd' := ilt_f.1 hd
   have hz : izero d = false := decide_eq_false om
   rw [cF, cF, bS, (tdiv_i64 (mulS_i64 (a := v) (b := n)) hd').1, hz]
   cases (mulS v n).2 <;> rfl
 · rfl
def sumS (got : Int) : Int × Bool := bif (ratioS got 85 100).2 then addS 150000 (ratioS got 85 100).1 else (0, false)
theorem F73_spec (K : Nat) {got : Int} (hg : i64 got) : F73 K got = some (sumS got) := by
 rw [F73, F101_spec K 100 hg om om, bS, sumS]
 cases (ratioS got 85 100).2
 · rfl
 · rw [cT, cT, F102_spec K (by unfold i64; omega) ratioS_i64]; rfl
theorem addS_i64 {a b : Int} : i64 (addS a b).1 := by
 rw [addS]
 cases h : fitsB (a + b)
 · unfold i64; simp
 · exact fitsB_iff.1 h
theorem sumS_i64 {got : Int} : i64 (sumS got).1 := by
 rw [sumS]
 cases (ratioS got 85 100).2
 · unfold i64; simp
 · exact addS_i64
def outs (g : GGraph) (v : Int) : List GEdge := bif ieq (gcheck g) 0 then g.Edges.filter (fun e => ieq e.From v) else []
theorem out_go (l : List GEdge) (v : Int) : ∀ (s : List GEdge), s.length + l.length ≤ 80 →
 goL (fun x (s : List GEdge) c => bif (ieq x.From v) then (bif (apok (len s) 1 24) then c (appL s [x]) else none) else c s) (fun s => some s) l s = some (s ++ l.filter (fun e => ieq e.From v)) := by
 induction l with
 | nil => intro s _; simp [goL]
 | cons x l ih =>
  intro s hs
  simp only [List.length_cons] at hs
  rw [goL]
  cases hx : ieq x.From v
  · rw [cF, ih s om, List.filter_cons, hx]; rfl
  · have ha : apok (len s) 1 24 = true := decide_eq_true ⟨by show s.length + 1 ≤ _; omega, by show (s.length + 1) * 24 ≤ _; omega⟩
    rw [cT, ha, cT, ih _ (by simp [appL]; omega), List.filter_cons, hx]
    simp [appL]
theorem F104_spec {K : Nat} (hK : 100 ≤ K) (g : GGraph) (v : Int) : F104 K g v = some (outs g v) := by
 rw [F104, F56_spec hK, bS, outs]
 cases hc : ieq (gcheck g) 0
 · rfl
 · obtain ⟨h1, h2, h3, h4⟩ := gcheck_ok hc
   have e : F104_l0_0 K g v K [] 0 = _ := scanL (l := g.Edges) (L := fun k s i => F104_l0_0 K g v k s i) (fun x (s : List GEdge) c => bif (ieq x.From v) then (bif (apok (len s) 1 24) then c (appL s [x]) else none) else c s) (fun s => some s) (fun k s i _ => rfl) om om []
   rw [cT, cT, e, out_go _ _ _ (by simpa using h3)]; rfl
theorem F75_spec {K : Nat} (hK : 100 ≤ K) (g : GGraph) (v : Int) : F75 K g v = some (outs g v) := by
 rw [F75, F47_spec hK, bS, outs]
 cases hc : ieq (gcheck g) 0
 · rfl
 · obtain ⟨h1, h2, h3, h4⟩ := gcheck_ok hc
   have e : F75_l0_0 K g v K [] 0 = _ := scanL (l := g.Edges) (L := fun k s i => F75_l0_0 K g v k s i) (fun x (s : List GEdge) c => bif (ieq x.From v) then (bif (apok (len s) 1 24) then c (appL s [x]) else none) else c s) (fun s => some s) (fun k s i _ => rfl) om om []
   rw [cT, cT, e, out_go _ _ _ (by simpa using h3)]; rfl
theorem outs_len {g : GGraph} {v : Int} : (outs g v).length ≤ 80 := by
 rw [outs]
 cases hc : ieq (gcheck g) 0
 · simp
 · obtain ⟨h1, h2, h3, h4⟩ := gcheck_ok hc
   exact Nat.le_trans (List.length_filter_le _ _) h3
def sendS (p val : Int) (e : GEdge) (many : Int) : Int × Bool := bif ieq p 1 then addS val e.W else bif ieq p 3 then addS val 1 else bif ieq p 5 then ratioS val 1 many else (val, true)
def sendA (p val many : Int) : List GEdge → List GMsg → Option (List GMsg)
 | [], s => some s
 | e :: l, s => bif (sendS p val e many).2 then sendA p val many l (s ++ [GMsg.mk e.To (sendS p val e many).1]) else none
def sumO {α : Type} : Option α → Unit ⊕ α
 | none => .inl ()
 | some s => .inr s
def sendO (rest : Bool) (val : Int) : Option (List GMsg) → Int × List GMsg × Bool × Int
 | none => (0, [], false, 8)
 | some s => (val, s, rest, 0)
theorem sum_elim (rest : Bool) (val : Int) (o : Option (List GMsg)) : (some (sumO o)).bind (fun y => Sum.elim (fun w => some ((0, ([], (false, 8))) : Int × List GMsg × Bool × Int)) (fun w => some (val, (w, (rest, 0)))) y) = some (sendO rest val o) := by
 cases o <;> rfl
theorem sum_elim' (rest : Bool) (val : Int) (o : Option (List GMsg)) : Sum.elim (fun w => some ((0, ([], (false, 8))) : Int × List GMsg × Bool × Int)) (fun w => some (val, (w, (rest, 0)))) (sumO o) = some (sendO rest val o) := by
 cases o <;> rfl
theorem send_go (p val many : Int) (f : GEdge → Option (Int × Bool)) (l : List GEdge) (hf : ∀ e ∈ l, f e = some (sendS p val e many)) : ∀ (s : List GMsg), s.length + l.length ≤ 80 →
 goL (fun e (s : List GMsg) c => (f e).bind fun r => bif r.2 then (bif (apok (len s) 1 16) then c (appL s [(GMsg.mk e.To r.1)]) else none) else some (.inl ())) (fun s => some (.inr s)) l s = some (sumO (sendA p val many l s)) := by
 induction l with
 | nil => intro s _; rfl
 | cons x l ih =>
  intro s hs
  simp only [List.length_cons] at hs
  rw [goL, hf x List.mem_cons_self, bS, sendA]
  cases (sendS p val x many).2
  · rfl
  · have ha : apok (len s) 1 16 = true := decide_eq_true ⟨by show s.length + 1 ≤ _; omega, by show (s.length + 1) * 16 ≤ _; omega⟩
    rw [cT, ha, cT, ih (fun e he => hf e (List.mem_cons_of_mem _ he)) _ (by simp [appL]; omega), cT]; rfl
theorem outs_W {g : GGraph} {v : Int} {e : GEdge} (h : e ∈ outs g v) : 0 ≤ e.W ∧ e.W ≤ 4611686018427387904 := by
 rw [outs] at h
 cases hc : ieq (gcheck g) 0
 · rw [hc] at h; cases h
 · obtain ⟨h1, h2, h3, h4⟩ := gcheck_ok hc
   rw [hc] at h
   have := badE_ok (gchk_mem h4 e (List.mem_filter.1 h).1)
   omega
theorem F83_spec (K : Nat) {val : Int} {e : GEdge} (many : Int) (hv : i64 val) (he : i64 e.W) : F83 K val e = some (sendS 1 val e many) := by
 rw [F83, F84_spec K hv he]; rfl
theorem F85_spec (K : Nat) {val : Int} (e : GEdge) (many : Int) (hv : i64 val) : F85 K val e = some (sendS 3 val e many) := by
 rw [F85, F84_spec K hv (by unfold i64; omega)]; rfl
theorem F76_spec (K : Nat) (p : Int) {val many : Int} {e : GEdge} (hv : i64 val) (he : i64 e.W) : F76 K p val e many = some (sendS p val e many) := by
 rw [F76, sendS, F102_spec K hv he, F102_spec K hv (show i64 1 by unfold i64; omega), F101_spec K many hv (show (1 : Int) ≤ 1 by omega) (show (1 : Int) ≤ 1000 by omega)]
 cases ieq p 1 <;> cases ieq p 3 <;> cases ieq p 5 <;> rfl
def manyO (g : GGraph) (v : Int) : Int := nlen (len (outs g v))
section loops
variable {K : Nat} (hK : 100 ≤ K) (g : GGraph) (v : Int) {val : Int} (hv : i64 val)
include hK hv
theorem loop99_0 (b : Bool) : F93_l0_0 K val b (outs g v) K [] 0 = some (sumO (sendA 1 val (manyO g v) (outs g v) [])) := by
 have hl := outs_len (g := g) (v := v)
 have e := scanL (l := outs g v) (L := fun k s i => F93_l0_0 K val b (outs g v) k s i) (fun e (s : List GMsg) c => (F83 K val e).bind fun r => bif r.2 then (bif (apok (len s) 1 16) then c (appL s [(GMsg.mk e.To r.1)]) else none) else some (.inl ())) (fun s => some (.inr s)) (fun k s i _ => rfl) (K := K) om om []
 exact e.trans (send_go 1 val (manyO g v) (F83 K val) _ (fun e he => F83_spec K _ hv (by have := outs_W he; unfold i64; omega)) [] (by simpa using hl))
theorem loop99_1 (b : Bool) : F93_l0_1 K val b (outs g v) K [] 0 = some (sumO (sendA 3 val (manyO g v) (outs g v) [])) := by
 have hl := outs_len (g := g) (v := v)
 have e := scanL (l := outs g v) (L := fun k s i => F93_l0_1 K val b (outs g v) k s i) (fun e (s : List GMsg) c => (F85 K val e).bind fun r => bif r.2 then (bif (apok (len s) 1 16) then c (appL s [(GMsg.mk e.To r.1)]) else none) else some (.inl ())) (fun s => some (.inr s)) (fun k s i _ => rfl) (K := K) om om []
 exact e.trans (send_go 3 val (manyO g v) (F85 K val) _ (fun e he => F85_spec K e _ hv) [] (by simpa using hl))
omit hv in
theorem loop99_2 (val : Int) (b : Bool) : F93_l0_2 K val b (outs g v) K [] 0 = some (sumO (sendA 2 val (manyO g v) (outs g v) [])) := by
 have hl := outs_len (g := g) (v := v)
 have e := scanL (l := outs g v) (L := fun k s i => F93_l0_2 K val b (outs g v) k s i) (fun e (s : List GMsg) c => (F87 K val e).bind fun r => bif r.2 then (bif (apok (len s) 1 16) then c (appL s [(GMsg.mk e.To r.1)]) else none) else some (.inl ())) (fun s => some (.inr s)) (fun k s i _ => rfl) (K := K) om om []
 exact e.trans (send_go 2 val (manyO g v) (F87 K val) _ (fun e he => rfl) [] (by simpa using hl))
omit hv in
theorem loop99_3 (val : Int) (b : Bool) : F93_l0_3 K val b (outs g v) K [] 0 = some (sumO (sendA 4 val (manyO g v) (outs g v) [])) := by
 have hl := outs_len (g := g) (v := v)
 have e := scanL (l := outs g v) (L := fun k s i => F93_l0_3 K val b (outs g v) k s i) (fun e (s : List GMsg) c => (F87 K val e).bind fun r => bif r.2 then (bif (apok (len s) 1 16) then c (appL s [(GMsg.mk e.To r.1)]) else none) else some (.inl ())) (fun s => some (.inr s)) (fun k s i _ => rfl) (K := K) om om []
 exact e.trans (send_go 4 val (manyO g v) (F87 K val) _ (fun e he => rfl) [] (by simpa using hl))
theorem loop146 : F105_l0_0 K (outs g v) val K [] 0 = some (sumO (sendA 5 val (manyO g v) (outs g v) [])) := by
 have hl := outs_len (g := g) (v := v)
 have e := scanL (l := outs g v) (L := fun k s i => F105_l0_0 K (outs g v) val k s i) (fun e (s : List GMsg) c => (F111 K val 1 (nlen (len (outs g v)))).bind fun r => bif r.2 then (bif (apok (len s) 1 16) then c (appL s [(GMsg.mk e.To r.1)]) else none) else some (.inl ())) (fun s => some (.inr s)) (fun k s i _ => rfl) (K := K) om om []
 exact e.trans (send_go 5 val (manyO g v) (fun _ => F111 K val 1 (nlen (len (outs g v)))) _ (fun e he => F111_spec K _ hv om om) [] (by simpa using hl))
theorem loop100_1 (p a b c : Int) : F50_l0_1 K val p a b c (outs g v) K [] 0 = some (sumO (sendA p val (manyO g v) (outs g v) [])) := by
 have hl := outs_len (g := g) (v := v)
 have e := scanL (l := outs g v) (L := fun k s i => F50_l0_1 K val p a b c (outs g v) k s i) (fun e (s : List GMsg) c => (F76 K p val e (nlen (len (outs g v)))).bind fun r => bif r.2 then (bif (apok (len s) 1 16) then c (appL s [(GMsg.mk e.To r.1)]) else none) else some (.inl ())) (fun s => some (.inr s)) (fun k s i _ => rfl) (K := K) om om []
 exact e.trans (send_go p val (manyO g v) (fun e => F76 K p val e (nlen (len (outs g v)))) _ (fun e he => F76_spec K p hv (by have := outs_W he; unfold i64; omega)) [] (by simpa using hl))
theorem loop100_0 (p a b c : Int) (m : Bool) : F50_l0_0 K val p a b c m (outs g v) K [] 0 = some (bif m then sumO (sendA p val (manyO g v) (outs g v) []) else .inr []) := by
 have hl := outs_len (g := g) (v := v)
 cases m
 · obtain ⟨k, rfl⟩ : ∃ k, K = k + 1 := ⟨K - 1, by omega⟩
   rw [F50_l0_0]
   cases ilt 0 (nlen (len (outs g v))) <;> rfl
 · have e := scanL (l := outs g v) (L := fun k s i => F50_l0_0 K val p a b c true (outs g v) k s i) (fun e (s : List GMsg) c => (F76 K p val e (nlen (len (outs g v)))).bind fun r => bif r.2 then (bif (apok (len s) 1 16) then c (appL s [(GMsg.mk e.To r.1)]) else none) else some (.inl ())) (fun s => some (.inr s)) (fun k s i _ => rfl) (K := K) om om []
   exact e.trans (send_go p val (manyO g v) (fun e => F76 K p val e (nlen (len (outs g v)))) _ (fun e he => F76_spec K p hv (by have := outs_W he; unfold i64; omega)) [] (by simpa using hl))
theorem loop100_2 (p a b c : Int) (m : Bool) : F50_l0_2 K val p a b c m (outs g v) K [] 0 = some (bif m then sumO (sendA p val (manyO g v) (outs g v) []) else .inr []) := by
 have hl := outs_len (g := g) (v := v)
 cases m
 · obtain ⟨k, rfl⟩ : ∃ k, K = k + 1 := ⟨K - 1, by omega⟩
   rw [F50_l0_2]
   cases ilt 0 (nlen (len (outs g v))) <;> rfl
 · have e := scanL (l := outs g v) (L := fun k s i => F50_l0_2 K val p a b c true (outs g v) k s i) (fun e (s : List GMsg) c => (F76 K p val e (nlen (len (outs g v)))).bind fun r => bif r.2 then (bif (apok (len s) 1 16) then c (appL s [(GMsg.mk e.To r.1)]) else none) else some (.inl ())) (fun s => some (.inr s)) (fun k s i _ => rfl) (K := K) om om []
   exact e.trans (send_go p val (manyO g v) (fun e => F76 K p val e (nlen (len (outs g v)))) _ (fun e he => F76_spec K p hv (by have := outs_W he; unfold i64; omega)) [] (by simpa using hl))
omit hv in
theorem loop100_3 (val p a b c : Int) : F50_l0_3 K val p a b c (outs g v) K [] 0 = some (.inl []) := by
 obtain ⟨k, rfl⟩ : ∃ k, K = k + 1 := ⟨K - 1, by omega⟩
 rw [F50_l0_3, ieq_refl]
 cases ilt 0 (nlen (len (outs g v))) <;> rfl
end loops
def rankW (step val got : Int) (sm : Bool) : Int × Bool := bif ilt 0 step then sumS (bif sm then got else 0) else (val, true)
def rankS (step : Int) (w : Int × Bool) (many : Int) (l : List GEdge) : Int × List GMsg × Bool × Int :=
 bif w.2 then (bif ile 10 step then (w.1, [], true, 0) else sendO false w.1 (sendA 5 w.1 many l [])) else (0, [], false, 8)
def turnV (p val got : Int) (sm : Bool) : Int := bif sm then (foldS p val got).1 else val
def turnM (p src step v val w : Int) : Bool := bif ieq step 0 && (bif ieq p 1 || ieq p 3 then ieq v src else true) then true else ine w val
def moveS (p : Int) (m : Bool) (w many : Int) (l : List GEdge) : Int × List GMsg × Bool × Int :=
 bif m then sendO true w (sendA p w many l []) else (w, [], true, 0)
def turnS (g : GGraph) (j : GJob) (step v val got : Int) (sm : Bool) : Int × List GMsg × Bool × Int :=
 bif ieq (jcheck g j) 0 then
  (bif ilt v 0 then (0, [], false, 4) else bif ile g.N v then (0, [], false, 4)
   else bif ilt step 0 then (0, [], false, 1) else bif ilt 40 step then (0, [], false, 1)
   else bif ieq j.Prog 5 then rankS step (rankW step val got sm) (manyO g v) (outs g v)
   else moveS j.Prog (turnM j.Prog j.Source step v val (turnV j.Prog val got sm)) (turnV j.Prog val got sm) (manyO g v) (outs g v))
 else (0, [], false, jcheck g j)
theorem F105_spec {K : Nat} (hK : 100 ≤ K) (g : GGraph) (v step : Int) {val got : Int} (hv : i64 val) (hg : i64 got) : F105 K (outs g v) step val got = some (rankS step (rankW step val got true) (manyO g v) (outs g v)) := by
 rw [F105, F111_spec K 100 hg om om, bS, F84_spec K (by unfold i64; omega) ratioS_i64, rankW, rankS]
 cases hs : ilt 0 step
 · rw [loop146 hK g v hv, sum_elim]
   cases ile 10 step <;> rfl
 · rw [cT, cT, bS, cT, sumS]
   cases (ratioS got 85 100).2
   · rfl
   · cases h2 : (addS 150000 (ratioS got 85 100).1).2
     · rw [cT, cT, h2]; rfl
     · rw [cT, cT, cT, h2, cT, loop146 hK g v addS_i64, sum_elim]
       cases ile 10 step <;> rfl
theorem F93_spec {K : Nat} (hK : 100 ≤ K) (g : GGraph) (j : GJob) (step v : Int) {val got : Int} (sm : Bool) (hv : i64 val) (hg : i64 got) : F93 K g j step v val got sm = some (turnS g j step v val got sm) := by
 rw [F93, F31_spec hK, bS, turnS]
 cases hc : ieq (jcheck g j) 0
 · rfl
 · obtain ⟨hgc, p1, p2, p3, p4, p5, p6, p7, p8⟩ := jcheck_ok hc
   rw [cT, cT]
   cases h1 : ilt v 0
   · cases h2 : ile g.N v
     · cases h3 : ilt step 0
       · cases h4 : ilt 40 step
         · simp only [cF]
           rcases prog_cases j.Prog with q | q | q | q | q | q
           · have e5 : ieq 1 5 = false := rfl
             have e4 : ieq 1 4 = false := rfl
             have e1 : ieq 1 1 = true := rfl
             have e3 : ieq 1 3 = false := rfl
             have eb : pbad 1 = false := rfl
             rw [F104_spec hK, q, F143_1, turnM, turnV, foldS, e5, e4, e1, e3, eb, moveS]
             simp only [bS, cT, cF, af_1_1, af_1_3, af_1_2, af_1_4, af_1_5, af_1_0, af_3_1, af_3_3, af_3_2, af_3_4, af_3_5, af_3_0, af_2_1, af_2_3, af_2_2, af_2_4, af_2_5, af_2_0, af_4_1, af_4_3, af_4_2, af_4_4, af_4_5, af_4_0, af_5_1, af_5_3, af_5_2, af_5_4, af_5_5, af_5_0, af_0_1, af_0_3, af_0_2, af_0_4, af_0_5, af_0_0, loop99_0 hK g v hv, loop99_0 hK g v hg, F82, sum_elim', Bool.or_true, Bool.true_or, Bool.or_false, Bool.and_true]
             cases sm
             · have : ine val val = false := ine_t (ieq_refl val)
               simp only [cF, this]
               cases ieq step 0 <;> cases ieq v j.Source <;> rfl
             · cases hb : ilt got val
               · have : ine val val = false := ine_t (ieq_refl val)
                 simp only [cT, cF, this]
                 cases ieq step 0 <;> cases ieq v j.Source <;> rfl
               · have : ine got val = true := ine_f (ieq_f.2 (by have := ilt_iff.1 hb; omega))
                 simp only [cT, cF, this]
                 cases ieq step 0 <;> cases ieq v j.Source <;> rfl
           · have e5 : ieq 2 5 = false := rfl
             have e4 : ieq 2 4 = false := rfl
             have e1 : ieq 2 1 = false := rfl
             have e3 : ieq 2 3 = false := rfl
             have eb : pbad 2 = false := rfl
             rw [F104_spec hK, q, F143_2, turnM, turnV, foldS, e5, e4, e1, e3, eb, moveS]
             simp only [bS, cT, cF, af_1_1, af_1_3, af_1_2, af_1_4, af_1_5, af_1_0, af_3_1, af_3_3, af_3_2, af_3_4, af_3_5, af_3_0, af_2_1, af_2_3, af_2_2, af_2_4, af_2_5, af_2_0, af_4_1, af_4_3, af_4_2, af_4_4, af_4_5, af_4_0, af_5_1, af_5_3, af_5_2, af_5_4, af_5_5, af_5_0, af_0_1, af_0_3, af_0_2, af_0_4, af_0_5, af_0_0, loop99_2 hK g v val, loop99_2 hK g v got, F82, sum_elim', Bool.or_true, Bool.true_or, Bool.or_false, Bool.and_true]
             cases sm
             · have : ine val val = false := ine_t (ieq_refl val)
               simp only [cF, this]
               cases ieq step 0 <;> rfl
             · cases hb : ilt got val
               · have : ine val val = false := ine_t (ieq_refl val)
                 simp only [cT, cF, this]
                 cases ieq step 0 <;> rfl
               · have : ine got val = true := ine_f (ieq_f.2 (by have := ilt_iff.1 hb; omega))
                 simp only [cT, cF, this]
                 cases ieq step 0 <;> rfl
           · have e5 : ieq 3 5 = false := rfl
             have e4 : ieq 3 4 = false := rfl
             have e1 : ieq 3 1 = false := rfl
             have e3 : ieq 3 3 = true := rfl
             have eb : pbad 3 = false := rfl
             rw [F104_spec hK, q, F143_3, turnM, turnV, foldS, e5, e4, e1, e3, eb, moveS]
             simp only [bS, cT, cF, af_1_1, af_1_3, af_1_2, af_1_4, af_1_5, af_1_0, af_3_1, af_3_3, af_3_2, af_3_4, af_3_5, af_3_0, af_2_1, af_2_3, af_2_2, af_2_4, af_2_5, af_2_0, af_4_1, af_4_3, af_4_2, af_4_4, af_4_5, af_4_0, af_5_1, af_5_3, af_5_2, af_5_4, af_5_5, af_5_0, af_0_1, af_0_3, af_0_2, af_0_4, af_0_5, af_0_0, loop99_1 hK g v hv, loop99_1 hK g v hg, F82, sum_elim', Bool.or_true, Bool.true_or, Bool.or_false, Bool.and_true]
             cases sm
             · have : ine val val = false := ine_t (ieq_refl val)
               simp only [cF, this]
               cases ieq step 0 <;> cases ieq v j.Source <;> rfl
             · cases hb : ilt got val
               · have : ine val val = false := ine_t (ieq_refl val)
                 simp only [cT, cF, this]
                 cases ieq step 0 <;> cases ieq v j.Source <;> rfl
               · have : ine got val = true := ine_f (ieq_f.2 (by have := ilt_iff.1 hb; omega))
                 simp only [cT, cF, this]
                 cases ieq step 0 <;> cases ieq v j.Source <;> rfl
           · have e5 : ieq 4 5 = false := rfl
             have e4 : ieq 4 4 = true := rfl
             have e1 : ieq 4 1 = false := rfl
             have e3 : ieq 4 3 = false := rfl
             have eb : pbad 4 = false := rfl
             rw [F104_spec hK, q, F143_4, turnM, turnV, foldS, e5, e4, e1, e3, eb, moveS]
             simp only [bS, cT, cF, af_1_1, af_1_3, af_1_2, af_1_4, af_1_5, af_1_0, af_3_1, af_3_3, af_3_2, af_3_4, af_3_5, af_3_0, af_2_1, af_2_3, af_2_2, af_2_4, af_2_5, af_2_0, af_4_1, af_4_3, af_4_2, af_4_4, af_4_5, af_4_0, af_5_1, af_5_3, af_5_2, af_5_4, af_5_5, af_5_0, af_0_1, af_0_3, af_0_2, af_0_4, af_0_5, af_0_0, loop99_3 hK g v val, loop99_3 hK g v got, F89, igt, sum_elim', Bool.or_true, Bool.true_or, Bool.or_false, Bool.and_true]
             have hd : decide (got > val) = ilt val got := rfl
             rw [hd]
             cases sm
             · have : ine val val = false := ine_t (ieq_refl val)
               simp only [cF, this]
               cases ieq step 0 <;> rfl
             · cases hb : ilt val got
               · have : ine val val = false := ine_t (ieq_refl val)
                 simp only [cT, cF, this]
                 cases ieq step 0 <;> rfl
               · have : ine got val = true := ine_f (ieq_f.2 (by have := ilt_iff.1 hb; omega))
                 simp only [cT, cF, this]
                 cases ieq step 0 <;> rfl
           · have e5 : ieq 5 5 = true := rfl
             rw [F104_spec hK, q, F143_5, e5]
             simp only [bS, cT, cF, af_1_1, af_1_3, af_1_2, af_1_4, af_1_5, af_1_0, af_3_1, af_3_3, af_3_2, af_3_4, af_3_5, af_3_0, af_2_1, af_2_3, af_2_2, af_2_4, af_2_5, af_2_0, af_4_1, af_4_3, af_4_2, af_4_4, af_4_5, af_4_0, af_5_1, af_5_3, af_5_2, af_5_4, af_5_5, af_5_0, af_0_1, af_0_3, af_0_2, af_0_4, af_0_5, af_0_0, F105_spec hK g v step hv hg, F105_spec hK g v step hv (show i64 0 by unfold i64; omega)]
             cases sm <;> rfl
           · omega
         · rfl
       · rfl
     · rfl
   · rfl
def turned (t : Int × List GMsg × Bool × Int) : GTurned := GTurned.mk t.1 t.2.1 t.2.2.1 t.2.2.2
theorem tsum (rest : Bool) (val : Int) (o : Option (List GMsg)) : Sum.elim (fun w => some (GTurned.mk 0 [] false 8)) (fun w => some (GTurned.mk val w rest 0)) (sumO o) = some (turned (sendO rest val o)) := by
 cases o <;> rfl
theorem tcond (rest : Bool) (val : Int) (m : Bool) (x y : Unit ⊕ List GMsg) : Sum.elim (fun w => some (GTurned.mk 0 [] false 8)) (fun w => some (GTurned.mk val w rest 0)) (bif m then x else y) = bif m then Sum.elim (fun w => some (GTurned.mk 0 [] false 8)) (fun w => some (GTurned.mk val w rest 0)) x else Sum.elim (fun w => some (GTurned.mk 0 [] false 8)) (fun w => some (GTurned.mk val w rest 0)) y := by
 cases m <;> rfl
theorem F50_spec {K : Nat} (hK : 100 ≤ K) (g : GGraph) (j : GJob) (step v : Int) {val got : Int} (sm : Bool) (hv : i64 val) (hg : i64 got) : F50 K g j step v val got sm = some (turned (turnS g j step v val got sm)) := by
 rw [F50, F19_spec hK, bS, turnS]
 cases hc : ieq (jcheck g j) 0
 · rfl
 · obtain ⟨hgc, p1, p2, p3, p4, p5, p6, p7, p8⟩ := jcheck_ok hc
   rw [cT, cT]
   cases h1 : ilt v 0
   · cases h2 : ile g.N v
     · cases h3 : ilt step 0
       · cases h4 : ilt 40 step
         · have i0 : i64 0 := by unfold i64; omega
           have hf : i64 (foldS j.Prog val got).1 := foldS_i64 hv hg
           have fl : ine val val = false := ine_t (ieq_refl val)
           simp only [cF, F75_spec hK, bS, F73_spec K hg, F73_spec K i0, F74_spec K j.Prog hv hg]
           cases q5 : ieq j.Prog 5
           · simp only [cF, loop100_1 hK g v hv, loop100_1 hK g v hf, loop100_2 hK g v hv, loop100_2 hK g v hf, loop100_3 hK g v, bS, tsum, Sum.elim_inl, tcond, Sum.elim_inr, moveS, turnM, turnV]
             cases sm
             · simp only [cF, fl]
               cases ieq j.Prog 1 <;> cases ieq j.Prog 3 <;> cases ieq v j.Source <;> cases ieq step 0 <;> rfl
             · simp only [cT]
               cases ieq j.Prog 1 <;> cases ieq j.Prog 3 <;> cases ieq v j.Source <;> cases ieq step 0 <;> simp only [cT, cF, Bool.and_true, Bool.and_false, Bool.true_and, Bool.false_and, Bool.or_true, Bool.or_false] <;> first | rfl | (cases ine (foldS j.Prog val got).1 val <;> rfl)
           · have q := ieq_iff.1 q5
             rw [q]
             simp only [cT, loop100_0 hK g v hv, loop100_0 hK g v sumS_i64, bS, tsum, Sum.elim_inl, tcond, Sum.elim_inr, rankS, rankW]
             have hm : ilt step 10 = !(ile 10 step) := by
              cases h : ile 10 step
              · have := ile_f.1 h; exact ilt_iff.2 om
              · have := ile_iff.1 h; exact ilt_f.2 om
             simp only [hm]
             cases sm <;> cases ilt 0 step <;> cases ile 10 step <;> simp only [cT, cF, Bool.not_true, Bool.not_false] <;> first | rfl | (cases (sumS got).2 <;> rfl) | (cases (sumS 0).2 <;> rfl)
         · rfl
       · rfl
     · rfl
   · rfl
theorem sendA_To {p val many : Int} : ∀ {l : List GEdge} {s r : List GMsg}, sendA p val many l s = some r → r.map (·.To) = s.map (·.To) ++ l.map (·.To)
 | [], s, r, h => by injection h with h; subst h; simp
 | e :: l, s, r, h => by
  rw [sendA] at h
  cases hq : (sendS p val e many).2
  · rw [hq] at h; cases h
  · rw [hq, cT] at h
    rw [sendA_To h]; simp
theorem turn_out {g : GGraph} {j : GJob} {step v val got : Int} {sm : Bool} (h : ieq (turnS g j step v val got sm).2.2.2 0 = true) :
 (turnS g j step v val got sm).2.1 = [] ∨ ((turnS g j step v val got sm).2.1.map (·.To) = (outs g v).map (·.To)) := by
 have hs : ∀ (b : Bool) (w : Int) (p : Int), (sendO b w (sendA p w (manyO g v) (outs g v) [])).2.1 = [] ∨ (sendO b w (sendA p w (manyO g v) (outs g v) [])).2.1.map (·.To) = (outs g v).map (·.To) := fun b w p => by
  cases hq : sendA p w (manyO g v) (outs g v) []
  · left; rfl
  · right; have := sendA_To hq; simpa [sendO] using this
 rw [turnS]
 cases ieq (jcheck g j) 0
 · left; rfl
 · cases ilt v 0
   · cases ile g.N v
     · cases ilt step 0
       · cases ilt 40 step
         · simp only [cT, cF]
           cases ieq j.Prog 5
           · rw [cF, moveS]
             cases turnM j.Prog j.Source step v val (turnV j.Prog val got sm)
             · left; rfl
             · exact hs _ _ _
           · rw [cT, rankS]
             cases (rankW step val got sm).2
             · left; rfl
             · cases ile 10 step
               · exact hs _ _ _
               · left; rfl
         · left; rfl
       · left; rfl
     · left; rfl
   · left; rfl
theorem turn_bad {g : GGraph} {j : GJob} {step v val got : Int} {sm : Bool} (h : ieq (turnS g j step v val got sm).2.2.2 0 = false) : (turnS g j step v val got sm).1 = 0 ∧ (turnS g j step v val got sm).2.1 = [] := by
 have hs : ∀ (b : Bool) (w : Int) (o : Option (List GMsg)), ieq (sendO b w o).2.2.2 0 = false → (sendO b w o).1 = 0 ∧ (sendO b w o).2.1 = [] := fun b w o => by
  cases o
  · intro _; exact ⟨rfl, rfl⟩
  · intro h; cases h
 rw [turnS] at h ⊢
 cases hc : ieq (jcheck g j) 0
 · exact ⟨rfl, rfl⟩
 · rw [hc] at h
   cases h1 : ilt v 0
   · cases h2 : ile g.N v
     · cases h3 : ilt step 0
       · cases h4 : ilt 40 step
         · rw [h1, h2, h3, h4] at h
           simp only [cT, cF] at h ⊢
           cases h5 : ieq j.Prog 5
           · rw [h5, cF, moveS] at h
             rw [cF, moveS]
             cases hm : turnM j.Prog j.Source step v val (turnV j.Prog val got sm)
             · rw [hm] at h; cases h
             · rw [hm] at h; exact hs _ _ _ h
           · rw [h5, cT, rankS] at h
             rw [cT, rankS]
             cases hw : (rankW step val got sm).2
             · exact ⟨rfl, rfl⟩
             · rw [hw] at h
               cases h10 : ile 10 step
               · rw [h10] at h; exact hs _ _ _ h
               · rw [h10] at h; cases h
         · exact ⟨rfl, rfl⟩
       · exact ⟨rfl, rfl⟩
     · exact ⟨rfl, rfl⟩
   · exact ⟨rfl, rfl⟩
theorem turn_len {g : GGraph} {j : GJob} {step v val got : Int} {sm : Bool} : (turnS g j step v val got sm).2.1.length ≤ 80 := by
 have ho := outs_len (g := g) (v := v)
 cases h : ieq (turnS g j step v val got sm).2.2.2 0
 · rw [(turn_bad h).2]; simp
 · rcases turn_out h with hz | hz
   · rw [hz]; simp
   · have := congrArg List.length hz
     simp only [List.length_map] at this
     omega
abbrev Tri := List Int × List Bool × List GMsg
def oneS (g : GGraph) (j : GJob) (s : GState) (v : Nat) : Int × List GMsg × Bool × Int :=
 bif s.Rest.getD v false && !(atS s.In (v : Int)).2 then (s.Vals.getD v 0, [], true, 0)
 else turnS g j s.Step (v : Int) (s.Vals.getD v 0) (atS s.In (v : Int)).1 (atS s.In (v : Int)).2
def stepA (g : GGraph) (j : GJob) (s : GState) : List Nat → List Int → List Bool → List GMsg → Int ⊕ Tri
 | [], a, b, c => .inr (a, b, c)
 | v :: l, a, b, c => bif ieq (oneS g j s v).2.2.2 0 then stepA g j s l (a ++ [(oneS g j s v).1]) (b ++ [(oneS g j s v).2.2.1]) (c ++ (oneS g j s v).2.1) else .inl (oneS g j s v).2.2.2
def zeroS : GState := GState.mk 0 [] [] []
def stepB (g : GGraph) (j : GJob) (s : GState) : Int ⊕ Tri → GState × Int
 | .inl e => (zeroS, e)
 | .inr w => bif ieq (boxS j.Prog w.2.2).2 0 then (GState.mk (s.Step + 1) w.1 w.2.1 (boxS j.Prog w.2.2).1, 0) else (zeroS, (boxS j.Prog w.2.2).2)
def stepS (g : GGraph) (j : GJob) (s : GState) : GState × Int :=
 bif ieq (jcheck g j) 0 then (bif stRight g j s then (bif ieq s.Step 40 then (zeroS, 6) else stepB g j s (stepA g j s (List.range g.N.toNat) [] [] [])) else (zeroS, 1)) else (zeroS, jcheck g j)
def niceS (s : GState) : Prop := (∀ v ∈ s.Vals, i64 v) ∧ (∀ m ∈ s.In, i64 m.V)
theorem wf_nice {s : GState} (h : WGState s) : niceS s := ⟨fun v hv => i64_wf (h.2.1.2 v hv), fun m hm => i64_wf ((h.2.2.2.1).2 m hm).2.1⟩
theorem sendS_i64 {p val many : Int} {e : GEdge} (hv : i64 val) : i64 (sendS p val e many).1 := by
 rw [sendS]
 cases ieq p 1
 · cases ieq p 3
   · cases ieq p 5
     · exact hv
     · exact ratioS_i64
   · exact addS_i64
 · exact addS_i64
theorem sendA_i64 {p val many : Int} (hv : i64 val) : ∀ {l : List GEdge} {s r : List GMsg}, (∀ m ∈ s, i64 m.V) → sendA p val many l s = some r → ∀ m ∈ r, i64 m.V
 | [], s, r, hs, h => by injection h with h; subst h; exact hs
 | e :: l, s, r, hs, h => by
  rw [sendA] at h
  cases hq : (sendS p val e many).2
  · rw [hq] at h; cases h
  · rw [hq, cT] at h
    refine sendA_i64 hv (fun m hm => ?_) h
    rcases List.mem_append.1 hm with hm | hm
    · exact hs m hm
    · rw [List.mem_singleton.1 hm]; exact sendS_i64 hv
theorem sendO_i64 {p w many : Int} {b : Bool} {l : List GEdge} (hw : i64 w) : i64 (sendO b w (sendA p w many l [])).1 ∧ ∀ m ∈ (sendO b w (sendA p w many l [])).2.1, i64 m.V := by
 have h0 : i64 0 := by unfold i64; omega
 cases hq : sendA p w many l []
 · exact ⟨h0, fun m hm => absurd hm (List.not_mem_nil)⟩
 · exact ⟨hw, sendA_i64 hw (fun m hm => absurd hm (List.not_mem_nil)) hq⟩
theorem turn_i64 {g : GGraph} {j : GJob} {step v val got : Int} {sm : Bool} (hv : i64 val) (hg : i64 got) : i64 (turnS g j step v val got sm).1 ∧ ∀ m ∈ (turnS g j step v val got sm).2.1, i64 m.V := by
 have h0 : i64 0 := by unfold i64; omega
 have hn : ∀ m ∈ ([] : List GMsg), i64 m.V := fun m hm => absurd hm (List.not_mem_nil)
 rw [turnS]
 cases ieq (jcheck g j) 0
 · exact ⟨h0, hn⟩
 · cases ilt v 0
   · cases ile g.N v
     · cases ilt step 0
       · cases ilt 40 step
         · simp only [cT, cF]
           cases ieq j.Prog 5
           · have hw : i64 (turnV j.Prog val got sm) := by
              rw [turnV]
              cases sm
              · exact hv
              · exact foldS_i64 hv hg
             rw [cF, moveS]
             cases turnM j.Prog j.Source step v val (turnV j.Prog val got sm)
             · exact ⟨hw, hn⟩
             · exact sendO_i64 hw
           · have hw : i64 (rankW step val got sm).1 := by
              rw [rankW]
              cases ilt 0 step
              · exact hv
              · exact sumS_i64
             rw [cT, rankS]
             cases (rankW step val got sm).2
             · exact ⟨h0, hn⟩
             · cases ile 10 step
               · exact sendO_i64 hw
               · exact ⟨hw, hn⟩
         · exact ⟨h0, hn⟩
       · exact ⟨h0, hn⟩
     · exact ⟨h0, hn⟩
   · exact ⟨h0, hn⟩
theorem turn_outs {g : GGraph} {j : GJob} {step v val got : Int} {sm : Bool} : (turnS g j step v val got sm).2.1.length ≤ (g.Edges.filter fun e => ieq e.From v).length := by
 have ho : (outs g v).length ≤ (g.Edges.filter fun e => ieq e.From v).length := by
  rw [outs]
  cases ieq (gcheck g) 0
  · exact Nat.zero_le _
  · exact Nat.le_refl _
 cases h : ieq (turnS g j step v val got sm).2.2.2 0
 · rw [(turn_bad h).2]; exact Nat.zero_le _
 · rcases turn_out h with hz | hz
   · rw [hz]; exact Nat.zero_le _
   · have := congrArg List.length hz
     simp only [List.length_map] at this
     omega
theorem from_add (E : List GEdge) (v : Int) : (E.filter fun e => ilt e.From v).length + (E.filter fun e => ieq e.From v).length = (E.filter fun e => ilt e.From (v + 1)).length := by
 induction E with
 | nil => rfl
 | cons e E ih =>
  simp only [List.filter_cons]
  cases h1 : ilt e.From v
  · have h1' := ilt_f.1 h1
    cases h2 : ieq e.From v
    · have h2' := ieq_f.1 h2
      rw [ilt_f.2 (by omega : v + 1 ≤ e.From)]
      simpa using ih
    · have h2' := ieq_iff.1 h2
      rw [ilt_iff.2 (by omega : e.From < v + 1)]
      simp; omega
  · have h1' := ilt_iff.1 h1
    rw [ieq_f.2 (by omega : e.From ≠ v), ilt_iff.2 (by omega : e.From < v + 1)]
    simp; omega
theorem one_i64 {g : GGraph} {j : GJob} {s : GState} (hn : niceS s) {v : Nat} : i64 (oneS g j s v).1 ∧ ∀ m ∈ (oneS g j s v).2.1, i64 m.V := by
 have h0 : i64 0 := by unfold i64; omega
 have hx : i64 (s.Vals.getD v 0) := by
  rw [List.getD_eq_getElem?_getD]
  cases hq : s.Vals[v]? with
  | none => exact h0
  | some x => exact hn.1 x (List.mem_of_getElem? hq)
 rw [oneS]
 cases s.Rest.getD v false && !(atS s.In (v : Int)).2
 · exact turn_i64 hx (atS_i64 hn.2)
 · exact ⟨hx, fun m hm => absurd hm (List.not_mem_nil)⟩
theorem one_outs {g : GGraph} {j : GJob} {s : GState} {v : Nat} : (oneS g j s v).2.1.length ≤ (g.Edges.filter fun e => ieq e.From (v : Int)).length := by
 rw [oneS]
 cases s.Rest.getD v false && !(atS s.In (v : Int)).2
 · exact turn_outs
 · exact Nat.zero_le _
structure keepS (g : GGraph) (i : Nat) (a : List Int) (b : List Bool) (c : List GMsg) : Prop where
 la : a.length = i
 lb : b.length = i
 lc : c.length ≤ (g.Edges.filter fun e => ilt e.From (i : Int)).length
 va : ∀ v ∈ a, i64 v
 vc : ∀ m ∈ c, i64 m.V
theorem keep_next {g : GGraph} {j : GJob} {s : GState} (hn : niceS s) {i : Nat} {a : List Int} {b : List Bool} {c : List GMsg} (h : keepS g i a b c) :
 keepS g (i + 1) (a ++ [(oneS g j s i).1]) (b ++ [(oneS g j s i).2.2.1]) (c ++ (oneS g j s i).2.1) := by
 obtain ⟨o1, o2⟩ := one_i64 (g := g) (j := j) hn (v := i)
 refine ⟨by simp [h.la], by simp [h.lb], ?_, fun v hv => ?_, fun m hm => ?_⟩
 · have h1 := one_outs (g := g) (j := j) (s := s) (v := i)
   have h2 := from_add g.Edges (i : Int)
   have h3 := h.lc
   rw [List.length_append]
   show _ ≤ (g.Edges.filter fun e => ilt e.From ((i + 1 : Nat) : Int)).length
   have : ((i + 1 : Nat) : Int) = (i : Int) + 1 := by omega
   rw [this]; omega
 · rcases List.mem_append.1 hv with hv | hv
   · exact h.va v hv
   · rw [List.mem_singleton.1 hv]; exact o1
 · rcases List.mem_append.1 hm with hm | hm
   · exact h.vc m hm
   · exact o2 m hm
theorem keep_len {g : GGraph} {i : Nat} {a : List Int} {b : List Bool} {c : List GMsg} (h : keepS g i a b c) (he : g.Edges.length ≤ 80) : c.length ≤ 80 :=
 Nat.le_trans h.lc (Nat.le_trans (List.length_filter_le _ _) he)
theorem stepA_keep {g : GGraph} {j : GJob} {s : GState} (hn : niceS s) : ∀ (n i : Nat) (a : List Int) (b : List Bool) (c : List GMsg), keepS g i a b c → ∀ w, stepA g j s (List.range' i n) a b c = .inr w → keepS g (i + n) w.1 w.2.1 w.2.2 := by
 intro n
 induction n with
 | zero => intro i a b c h w hw; injection hw with hw; subst hw; exact h
 | succ n ih =>
  intro i a b c h w hw
  rw [List.range'_succ, stepA] at hw
  cases hq : ieq (oneS g j s i).2.2.2 0
  · rw [hq] at hw; cases hw
  · rw [hq] at hw
    have := ih (i + 1) _ _ _ (keep_next hn h) w hw
    rwa [show i + 1 + n = i + (n + 1) by omega] at this
def st130 (K : Nat) (g : GGraph) (j : GJob) (s : GState) (i : Nat) (w : Tri) (c : Tri → Option (Int ⊕ Tri)) : Option (Int ⊕ Tri) :=
 (F49 K s.In (i : Int)).bind fun r1873 =>
 bif (inr (i : Int) (len s.Vals)) then
 (elAt s.Vals (i : Int)).bind fun x1876 =>
 bif r1873.2 then
  ((F50 K g j s.Step (i : Int) x1876 r1873.1 r1873.2).bind fun r1879 =>
  bif (ieq r1879.E 0) then
   (bif (apok (len w.1) 1 8) then
   bif (apok (len w.2.1) 1 1) then
   bif (apok (len w.2.2) (len r1879.Out) 16) then
   c (appL w.1 [r1879.Val], appL w.2.1 [r1879.Rest], appL w.2.2 r1879.Out)
   else none
   else none
   else none)
  else
  some (.inl r1879.E))
 else
 bif (inr (i : Int) (len s.Rest)) then
 (elAt s.Rest (i : Int)).bind fun x1886 =>
 bif x1886 then
  (bif (apok (len w.1) 1 8) then
  bif (apok (len w.2.1) 1 1) then
  bif (apok (len w.2.2) 0 16) then
  c (appL w.1 [x1876], appL w.2.1 [true], appL w.2.2 [])
  else none
  else none
  else none)
 else
 (F50 K g j s.Step (i : Int) x1876 r1873.1 r1873.2).bind fun r1892 =>
 bif (ieq r1892.E 0) then
  (bif (apok (len w.1) 1 8) then
  bif (apok (len w.2.1) 1 1) then
  bif (apok (len w.2.2) (len r1892.Out) 16) then
  c (appL w.1 [r1892.Val], appL w.2.1 [r1892.Rest], appL w.2.2 r1892.Out)
  else none
  else none
  else none)
 else
 some (.inl r1892.E)
 else none
 else none
theorem elAt_get {α : Type} {l : List α} {i : Nat} (h : i < l.length) (d : α) : inr (i : Int) (len l) = true ∧ elAt l (i : Int) = some (l.getD i d) := by
 refine ⟨decide_eq_true ⟨by omega, by show (i : Int) < (l.length : Int); omega⟩, ?_⟩
 rw [elAt_nat, List.getElem?_eq_getElem h, List.getD_eq_getElem?_getD, List.getElem?_eq_getElem h]; rfl
theorem go130 {K : Nat} (hK : 1000 ≤ K) (g : GGraph) (j : GJob) (s : GState) (hr : stRight g j s = true) (hn : niceS s) : ∀ (n i : Nat) (a : List Int) (b : List Bool) (c : List GMsg), i + n = g.N.toNat → keepS g i a b c →
 goL (st130 K g j s) (fun w => some (.inr w)) (List.range' i n) (a, b, c) = some (stepA g j s (List.range' i n) a b c) := by
 obtain ⟨hc, s1, s2, s3, s4, s5⟩ := stRight_ok hr
 obtain ⟨hg, _⟩ := jcheck_ok hc
 obtain ⟨g1, g2, g3, _⟩ := gcheck_ok hg
 have hil := inSt_len s5 om
 intro n
 induction n with
 | zero => intro i a b c _ _; rfl
 | succ n ih =>
  intro i a b c hin h
  have hlc := keep_len h g3
  have hnx := keep_next (j := j) hn h
  have hlc2 := keep_len hnx g3
  rw [List.length_append] at hlc2
  obtain ⟨la, lb, _, _, _⟩ := h
  obtain ⟨v1, v2⟩ := elAt_get (l := s.Vals) (i := i) om 0
  obtain ⟨r1, r2⟩ := elAt_get (l := s.Rest) (i := i) om false
  have a1 : apok (len a) 1 8 = true := decide_eq_true ⟨by show a.length + 1 ≤ _; omega, by show (a.length + 1) * 8 ≤ _; omega⟩
  have a2 : apok (len b) 1 1 = true := decide_eq_true ⟨by show b.length + 1 ≤ _; omega, by show (b.length + 1) * 1 ≤ _; omega⟩
  have a3 : apok (len c) 0 16 = true := decide_eq_true ⟨by show c.length + 0 ≤ _; omega, by show (c.length + 0) * 16 ≤ _; omega⟩
  have a4 : apok (len c) (len (oneS g j s i).2.1) 16 = true := decide_eq_true ⟨by show c.length + (oneS g j s i).2.1.length ≤ _; omega, by show (c.length + (oneS g j s i).2.1.length) * 16 ≤ _; omega⟩
  have hx : i64 (s.Vals.getD i 0) := by
   rw [List.getD_eq_getElem?_getD]
   cases hq : s.Vals[i]? with
   | none => show i64 0; unfold i64; omega
   | some x => exact hn.1 x (List.mem_of_getElem? hq)
  have hat := atS_i64 (l := s.In) (v := (i : Int)) hn.2
  have nx := ih (i + 1) _ _ _ om hnx
  rw [List.range'_succ, goL, st130, stepA, F49_spec s.In (i : Int) om om, v1, v2, r1, r2]
  have f100 := F50_spec (K := K) om g j s.Step (i : Int) (atS s.In (i : Int)).2 hx hat
  simp only [cT, bS, f100, turned, a1, a2, a3]
  cases hs : (atS s.In (i : Int)).2
  · cases hy : s.Rest.getD i false
    · have hT : oneS g j s i = turnS g j s.Step (i : Int) (s.Vals.getD i 0) (atS s.In (i : Int)).1 false := by rw [oneS, hy, hs]; rfl
      rw [hT] at a4 nx ⊢
      simp only [cF, a4, cT]
      cases ieq (turnS g j s.Step (i : Int) (s.Vals.getD i 0) (atS s.In (i : Int)).1 false).2.2.2 0
      · rfl
      · exact nx
    · have hT : oneS g j s i = (s.Vals.getD i 0, [], true, 0) := by rw [oneS, hy, hs]; rfl
      rw [hT] at nx ⊢
      exact nx
  · have hT : oneS g j s i = turnS g j s.Step (i : Int) (s.Vals.getD i 0) (atS s.In (i : Int)).1 true := by rw [oneS, hs, Bool.not_true, Bool.and_false]; rfl
    rw [hT] at a4 nx ⊢
    simp only [cF, a4, cT]
    cases ieq (turnS g j s.Step (i : Int) (s.Vals.getD i 0) (atS s.In (i : Int)).1 true).2.2.2 0
    · rfl
    · exact nx
theorem keep0 (g : GGraph) : keepS g 0 [] [] [] := ⟨rfl, rfl, Nat.zero_le _, fun v hv => absurd hv (List.not_mem_nil), fun m hm => absurd hm (List.not_mem_nil)⟩
theorem F23_spec {K : Nat} (hK : 1000 ≤ K) (g : GGraph) (j : GJob) (s : GState) (hn : niceS s) (hl : s.In.length < 1000000) (hk : s.In.length < K) : F23 K g j s = some (stepS g j s) := by
 rw [F23, F19_spec om, F20_spec hK g j s hl hk, bS, bS, stepS]
 cases hc : ieq (jcheck g j) 0
 · rfl
 · cases hr : stRight g j s
   · rfl
   · cases h40 : ieq s.Step 40
     · obtain ⟨_, s1, s2, s3, s4, s5⟩ := stRight_ok hr
       obtain ⟨hg, _⟩ := jcheck_ok hc
       obtain ⟨g1, g2, g3, _⟩ := gcheck_ok hg
       have h := scanN (N := g.N) (L := fun k (w : Tri) i => F23_l0_0 K g j s k w.1 w.2.1 w.2.2 i) (st130 K g j s) (fun w => some (.inr w)) (fun k w i _ => rfl) om (K := K) om ([], [], [])
       have h' : F23_l0_0 K g j s K [] [] [] 0 = some (stepA g j s (List.range g.N.toNat) [] [] []) := by
        rw [show F23_l0_0 K g j s K [] [] [] 0 = _ from h, List.range_eq_range']
        exact go130 hK g j s hr hn g.N.toNat 0 [] [] [] om (keep0 g)
       simp only [cT, cF, h', bS]
       cases hA : stepA g j s (List.range g.N.toNat) [] [] [] with
       | inl e => rfl
       | inr w =>
        rw [List.range_eq_range'] at hA
        have kw := stepA_keep hn g.N.toNat 0 [] [] [] (keep0 g) w hA
        have hwl := keep_len kw g3
        have hw : wadd .i64 s.Step 1 = s.Step + 1 := wadd_i64 (by unfold i64; omega)
        simp only [Sum.elim_inr, F51_spec j.Prog w.2.2 kw.vc (show w.2.2.length < K by omega) om, bS, stepB, hw]
        cases ieq (boxS j.Prog w.2.2).2 0 <;> rfl
     · rfl
theorem foldC_rise (p : Int) : ∀ (r : List GMsg) (c : GMsg) (d w : List GMsg), foldC p r c d = .inr w → (∀ x ∈ r, c.To ≤ x.To) → r.Pairwise (fun a b => a.To ≤ b.To) → (d ++ [c]).Pairwise (fun a b => a.To < b.To) →
 w.Pairwise (fun a b => a.To < b.To) ∧ ∀ t ∈ w, ∃ s ∈ d ++ c :: r, s.To = t.To
 | [], c, d, w, h, _, _, hd => by
  injection h with h
  subst h
  exact ⟨hd, fun t ht => ⟨t, ht, rfl⟩⟩
 | x :: r, c, d, w, h, hc, hr, hd => by
  rw [foldC] at h
  obtain ⟨hx, hr'⟩ := List.pairwise_cons.1 hr
  cases h1 : ieq c.To x.To
  · rw [h1, cF] at h
    have hne := ieq_f.1 h1
    have hlt := hc x List.mem_cons_self
    obtain ⟨q1, q2⟩ := foldC_rise p r x (d ++ [c]) w h hx hr' (by
     refine List.pairwise_append.2 ⟨hd, List.pairwise_singleton _ _, fun u hu v hv => ?_⟩
     rw [List.mem_singleton.1 hv]
     rcases List.mem_append.1 hu with hu | hu
     · have := (List.pairwise_append.1 hd).2.2 u hu c (List.mem_singleton.2 rfl); omega
     · rw [List.mem_singleton.1 hu]; omega)
    exact ⟨q1, fun t ht => by
     obtain ⟨s, hs, e⟩ := q2 t ht
     exact ⟨s, by simpa using hs, e⟩⟩
  · rw [h1, cT] at h
    cases h2 : ieq (foldS p c.V x.V).2 0
    · rw [h2] at h; cases h
    · rw [h2, cT] at h
      obtain ⟨q1, q2⟩ := foldC_rise p r (GMsg.mk c.To (foldS p c.V x.V).1) d w h (fun y hy => hc y (List.mem_cons_of_mem _ hy)) hr' (by
       obtain ⟨a, b, e⟩ := List.pairwise_append.1 hd
       exact List.pairwise_append.2 ⟨a, List.pairwise_singleton _ _, fun u hu v hv => by rw [List.mem_singleton.1 hv]; exact e u hu c (List.mem_singleton.2 rfl)⟩)
      refine ⟨q1, fun t ht => ?_⟩
      obtain ⟨s, hs, e⟩ := q2 t ht
      rcases List.mem_append.1 hs with hs | hs
      · exact ⟨s, List.mem_append_left _ hs, e⟩
      · rcases List.mem_cons.1 hs with rfl | hs
        · exact ⟨c, List.mem_append_right _ List.mem_cons_self, e⟩
        · exact ⟨s, List.mem_append_right _ (List.mem_cons_of_mem _ (List.mem_cons_of_mem _ hs)), e⟩
theorem boxS_rise {p : Int} {l : List GMsg} : (boxS p l).1.Pairwise (fun a b => a.To < b.To) ∧ ∀ t ∈ (boxS p l).1, ∃ s ∈ l, s.To = t.To := by
 have hn : (([] : List GMsg).Pairwise (fun a b => a.To < b.To)) ∧ ∀ t ∈ ([] : List GMsg), ∃ s ∈ l, s.To = t.To := ⟨List.Pairwise.nil, fun t ht => absurd ht List.not_mem_nil⟩
 have hp := sortM_perm l
 have hs : (sortM l).Pairwise (fun a b => a.To ≤ b.To) := (sortM_srt l).imp fun {a b} h => by have := leM_iff.1 h; omega
 rw [boxS]
 cases pbad p
 · rw [cF]
   generalize sortM l = m at *
   cases m with
   | nil => exact hn
   | cons x r =>
    rw [foldO]
    cases hq : foldC p r x [] with
    | inl e => exact hn
    | inr w =>
     obtain ⟨h1, h2⟩ := List.pairwise_cons.1 hs
     obtain ⟨q1, q2⟩ := foldC_rise p r x [] w hq h1 h2 (List.pairwise_singleton _ _)
     exact ⟨q1, fun t ht => by
      obtain ⟨s, hs, e⟩ := q2 t ht
      exact ⟨s, hp.mem_iff.1 hs, e⟩⟩
 · exact hn
theorem outs_To {g : GGraph} {v : Int} {e : GEdge} (h : e ∈ outs g v) : 0 ≤ e.To ∧ e.To < g.N := by
 rw [outs] at h
 cases hc : ieq (gcheck g) 0
 · rw [hc] at h; cases h
 · obtain ⟨h1, h2, h3, h4⟩ := gcheck_ok hc
   rw [hc] at h
   have := badE_ok (gchk_mem h4 e (List.mem_filter.1 h).1)
   omega
theorem turn_To {g : GGraph} {j : GJob} {step v val got : Int} {sm : Bool} : ∀ m ∈ (turnS g j step v val got sm).2.1, 0 ≤ m.To ∧ m.To < g.N := by
 intro m hm
 cases h : ieq (turnS g j step v val got sm).2.2.2 0
 · rw [(turn_bad h).2] at hm; exact absurd hm List.not_mem_nil
 · rcases turn_out h with hz | hz
   · rw [hz] at hm; exact absurd hm List.not_mem_nil
   · have : m.To ∈ (turnS g j step v val got sm).2.1.map (·.To) := List.mem_map.2 ⟨m, hm, rfl⟩
     rw [hz] at this
     obtain ⟨e, he, q⟩ := List.mem_map.1 this
     rw [← q]; exact outs_To he
def oneP (g : GGraph) (j : GJob) (x : GPart) (i v : Nat) : Int × List GMsg × Bool × Int :=
 bif x.Rest.getD i false && !(atS x.In (v : Int)).2 then (x.Vals.getD i 0, [], true, 0)
 else turnS g j x.Step (v : Int) (x.Vals.getD i 0) (atS x.In (v : Int)).1 (atS x.In (v : Int)).2
def doA (g : GGraph) (j : GJob) (x : GPart) : List Nat → Nat → List Int → List Bool → List GMsg → Int ⊕ Tri
 | [], _, a, b, c => .inr (a, b, c)
 | v :: l, i, a, b, c => bif ieq (oneP g j x i v).2.2.2 0 then doA g j x l (i + 1) (a ++ [(oneP g j x i v).1]) (b ++ [(oneP g j x i v).2.2.1]) (c ++ (oneP g j x i v).2.1) else .inl (oneP g j x i v).2.2.2
def toS (j : GJob) (c : List GMsg) (q : Int) : List GMsg := c.filter fun m => ieq (homeS j m.To) q
def tellS (j : GJob) (c : List GMsg) : List Nat → List (List GMsg) → Int ⊕ List (List GMsg)
 | [], d => .inr d
 | q :: l, d => bif ieq (boxS j.Prog (toS j c (q : Int))).2 0 then tellS j c l (d ++ [(boxS j.Prog (toS j c (q : Int))).1]) else .inl (boxS j.Prog (toS j c (q : Int))).2
abbrev Did := GPart × List (List GMsg) × Int
def doC (x : GPart) (w : Tri) : Int ⊕ List (List GMsg) → Did
 | .inl e => (zeroP, [], e)
 | .inr t => (GPart.mk x.P (x.Step + 1) w.1 w.2.1 [], t, 0)
def doB (j : GJob) (x : GPart) : Int ⊕ Tri → Did
 | .inl e => (zeroP, [], e)
 | .inr w => doC x w (tellS j w.2.2 (List.range j.Parts.toNat) [])
def doS (g : GGraph) (j : GJob) (x : GPart) : Did :=
 bif ieq (jcheck g j) 0 then (bif partRight g j x then (bif ieq x.Step 40 then (zeroP, [], 6) else doB j x (doA g j x (vertsS g j x.P) 0 [] [] [])) else (zeroP, [], 1)) else (zeroP, [], jcheck g j)
def niceP (x : GPart) : Prop := (∀ v ∈ x.Vals, i64 v) ∧ (∀ m ∈ x.In, i64 m.V)
theorem onep_i64 {g : GGraph} {j : GJob} {x : GPart} (hn : niceP x) {i v : Nat} : i64 (oneP g j x i v).1 ∧ ∀ m ∈ (oneP g j x i v).2.1, i64 m.V := by
 have h0 : i64 0 := by unfold i64; omega
 have hx : i64 (x.Vals.getD i 0) := by
  rw [List.getD_eq_getElem?_getD]
  cases hq : x.Vals[i]? with
  | none => exact h0
  | some y => exact hn.1 y (List.mem_of_getElem? hq)
 rw [oneP]
 cases x.Rest.getD i false && !(atS x.In (v : Int)).2
 · exact turn_i64 hx (atS_i64 hn.2)
 · exact ⟨hx, fun m hm => absurd hm (List.not_mem_nil)⟩
theorem onep_outs {g : GGraph} {j : GJob} {x : GPart} {i v : Nat} : (oneP g j x i v).2.1.length ≤ 80 ∧ ∀ m ∈ (oneP g j x i v).2.1, 0 ≤ m.To ∧ m.To < g.N := by
 rw [oneP]
 cases x.Rest.getD i false && !(atS x.In (v : Int)).2
 · exact ⟨turn_len, turn_To⟩
 · exact ⟨Nat.zero_le _, fun m hm => absurd hm (List.not_mem_nil)⟩
structure keepP (g : GGraph) (i : Nat) (a : List Int) (b : List Bool) (c : List GMsg) : Prop where
 la : a.length = i
 lb : b.length = i
 lc : c.length ≤ 80 * i
 va : ∀ v ∈ a, i64 v
 vc : ∀ m ∈ c, i64 m.V
 vt : ∀ m ∈ c, 0 ≤ m.To ∧ m.To < g.N
end
end Go.Proofs.Ytbaihlhoedbpkaa.Tm

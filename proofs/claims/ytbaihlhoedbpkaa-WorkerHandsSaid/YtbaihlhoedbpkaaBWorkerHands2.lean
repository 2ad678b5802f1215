/- What the row of WorkerHands leans on: printed functions and plain laws. Conditions: none. -/
import Derived.Test.YtbaihlhoedbpkaaTy
import Derived.Test.YtbaihlhoedbpkaaTab
import Derived.Test.YtbaihlhoedbpkaaKn
import Derived.Test.YtbaihlhoedbpkaaWf
import Derived.IntWalk
import Derived.KernelRfl
import Derived.OpenShut
import Derived.Test.YtbaihlhoedbpkaaBWorkerHands1
set_option linter.unusedVariables false
set_option linter.unusedSimpArgs false
namespace Go.Proofs.Ytbaihlhoedbpkaa.Tm
open Go
noncomputable section
theorem F37_l0_0_ok (K : Nat) (a1 : List GMsg) (a2 : List GMsg) : ∀ (k : Nat) (v3 : Int) (r : (Unit) ⊕ (Unit)), F37_l0_0 K a1 a2 k v3 = some r → (Sum.elim (fun w => LoopEv E H hn37 0 c37_0 (F37_l0_0_S a1 a2 v3) .ret (F37_l0_0_X0 a1 a2 w)) (fun w => LoopEv E H hn37 0 c37_0 (F37_l0_0_S a1 a2 v3) (.exit 0) (F37_l0_0_X1 a1 a2 w))) r := by
 intro k
 induction k with
 | zero => intro v3 r F; cases F
 | succ k ih =>
  intro v3 r F
  rw [F37_l0_0] at F
  apply jc F <;> intro h4 F
  ·
   apply jn F; intro h5 F
   apply jb F; intro x6 h7 F
   apply jn F; intro h8 F
   apply jb F; intro x9 h10 F
   have q13 {l} (z : HA hn37 l) := zi (nl a1) <| zT h4 <| zT h5 <| zS eGMsg_len h7 2 <| zT h8 <| zS eGMsg_len h10 2 <| z
   apply jc F <;> intro h11 F
   ·
    apply jc F <;> intro h12 F
    ·
     exact lN2 (q13 <| zX (ff (bnot (band (ieq x6.To x9.To) (band (ieq x6.V x9.V) true)))) (bnot_t (band_tt h11 (band_tt h12 rfl))) <| zi (wadd .i64 v3 1) <| z0) (ih _ _ F)
    apply jr F
    exact lE <| q13 <| zX (tt (bnot (band (ieq x6.To x9.To) (band (ieq x6.V x9.V) true)))) (bnot_f (band_f2 h11 (band_f1 h12))) <| z0
   apply jr F
   exact lE <| q13 <| zX (tt (bnot (band (ieq x6.To x9.To) (band (ieq x6.V x9.V) true)))) (bnot_f (band_f1 h11)) <| z0
  apply jr F
  exact lE <| zi (nl a1) <| zF h4 <| z0
def F37 (K : Nat) (a1 : List GMsg) (a2 : List GMsg) : Option (Bool) :=
 bif (ieq (nlen (len a1)) (nlen (len a2))) then
  ((F37_l0_0 K a1 a2 K 0).bind fun y3 =>
  Sum.elim (fun w4 =>
   some false)
   (fun w5 =>
   some true) y3)
 else
 some false
theorem F37_ok (K : Nat) (a1 : List GMsg) (a2 : List GMsg) (r : Bool) (F : F37 K a1 a2 = some r) : Evt E H 37 [.one (sE eGMsg a1), .one (sE eGMsg a2)] (F37_res r) := by
 rw [F37] at F
 apply jc F <;> intro h3 F
 ·
  have q8 {l} (z : HA hn37 l) := zi (nl a1) <| zi (nl a2) <| zF (ine_t h3) <| z
  apply jb F; intro y5 h4 F
  refine js F (fun w6 hx F => ?_) fun w7 hx F => ?_
  ·
   subst hx
   apply jr F
   exact fpC hn37 <| q8 <| zo (F37_l0_0_ok K a1 a2 K 0 _ h4) <| z0
  subst hx
  apply jr F
  exact fpC hn37 <| q8 <| zo (F37_l0_0_ok K a1 a2 K 0 _ h4) <| z0
 apply jr F
 exact fpC hn37 <| zi (nl a1) <| zi (nl a2) <| zT (ine_f h3) <| z0
def hn28 : Hint := { H 28 with nt := 38, prot := 0, kp := 0 }
def F28_res (r1 : Bool) : Res := ⟨[(.one (mB r1))], []⟩
def F28 (K : Nat) (a1 : GPart) (a2 : GPart) : Option (Bool) :=
 bif (ieq a1.P a2.P) then
  (bif (ieq a1.Step a2.Step) then
   ((F52 K a1.Vals a2.Vals).bind fun r3 =>
   bif r3 then
    ((F53 K a1.Rest a2.Rest).bind fun r4 =>
    bif r4 then
     ((F37 K a1.In a2.In).bind fun r5 =>
     some r5)
    else
    some false)
   else
   some false)
  else
  some false)
 else
 some false
theorem F28_ok (K : Nat) (a1 : GPart) (a2 : GPart) (r : Bool) (F : F28 K a1 a2 = some r) : Evt E H 28 [.agg (eGPart a1), .agg (eGPart a2)] (F28_res r) := by
 rw [F28] at F
 apply jc F <;> intro h3 F
 ·
  have q13 {l} (z : HA hn28 l) := zC5x h3 <| z
  apply jc F <;> intro h4 F
  ·
   apply jb F; intro r5 h6 F
   have q14 {l} (z : HA hn28 l) := zC5 h4 <| zl (F52_ok K a1.Vals a2.Vals _ h6) <| zT h4 <| z
   apply jc F <;> intro h7 F
   ·
    apply jb F; intro r8 h9 F
    have q15 {l} (z : HA hn28 l) := zC5 h7 <| zl (F53_ok K a1.Rest a2.Rest _ h9) <| zT h7 <| z
    apply jc F <;> intro h10 F
    ·
     apply jb F; intro r11 h12 F
     apply jr F
     exact fpC hn28 <| q13 <| q14 <| q15 <| zC5 h10 <| zl (F37_ok K a1.In a2.In _ h12) <| zT h10 <| z0
    apply jr F
    exact fpC hn28 <| q13 <| q14 <| q15 <| zD5x h10 <| z0
   apply jr F
   exact fpC hn28 <| q13 <| q14 <| zD5x h7 <| zk5 <| zf1 <| z0
  apply jr F
  exact fpC hn28 <| q13 <| zD5x h4 <| zk5 <| zf1 <| zk5 <| zf1 <| z0
 apply jr F
 exact fpC hn28 <| zD5x h3 <| zk5 <| zf1 <| zk5 <| zf1 <| zk5 <| zf1 <| z0
def hn47 : Hint := { H 47 with nt := 99, prot := 0, kp := 0 }
def c47_0 : Code := loopOf E 47 0
def F47_res (r1 : Int) : Res := ⟨[(.one (mI r1))], []⟩
def F47_l0_0 (K : Nat) (a1 : GGraph) : Nat → Int → Option ((Int) ⊕ (Unit))
 | 0, _ => none
 | k + 1, v2 =>
  bif (ilt v2 (nlen (len a1.Edges))) then
   (bif (inr v2 (len a1.Edges)) then
   (elAt a1.Edges v2).bind fun x3 =>
   bif (ilt x3.From 0) then
    (some (.inl 4))
   else
   bif (ilt x3.To 0) then
    (some (.inl 4))
   else
   bif (ile a1.N x3.From) then
    (some (.inl 4))
   else
   bif (ile a1.N x3.To) then
    (some (.inl 4))
   else
   bif (ilt x3.W 0) then
    (some (.inl 1))
   else
   bif (ilt 4611686018427387904 x3.W) then
    (some (.inl 1))
   else
   bif (ilt 0 v2) then
    (bif (inr (wsub .i64 v2 1) (len a1.Edges)) then
    (elAt a1.Edges (wsub .i64 v2 1)).bind fun x4 =>
    bif (ieq x4.From x3.From) then
     (bif (ieq x4.To x3.To) then
      (some (.inl 5))
     else
     bif (ilt x3.From x4.From) then
      (some (.inl 6))
     else
     bif (ilt x3.To x4.To) then
      (some (.inl 6))
     else
     F47_l0_0 K a1 k (wadd .i64 v2 1))
    else
    bif (ilt x3.From x4.From) then
     (some (.inl 6))
    else
    F47_l0_0 K a1 k (wadd .i64 v2 1)
    else none)
   else
   F47_l0_0 K a1 k (wadd .i64 v2 1)
   else none)
  else
  some (.inr ())
def F47_l0_0_S (a1 : GGraph) (v2 : Int) : TS := .on (kq 64 3 <| kq 192 2 <| []) <| b0 64 a1 <| sq 192 [u0, (uI v2)] []
def F47_l0_0_X0 (a1 : GGraph) (w2 : Int) : TS := .on (kq 128 2 <| []) <| sq 128 [u0, (uI w2)] []
def F47_l0_0_X1 (a1 : GGraph) (w2 : Unit) : TS := .on [] []
theorem F47_l0_0_ok (K : Nat) (a1 : GGraph) : ∀ (k : Nat) (v2 : Int) (r : (Int) ⊕ (Unit)), F47_l0_0 K a1 k v2 = some r → (Sum.elim (fun w => LoopEv E H hn47 0 c47_0 (F47_l0_0_S a1 v2) .ret (F47_l0_0_X0 a1 w)) (fun w => LoopEv E H hn47 0 c47_0 (F47_l0_0_S a1 v2) (.exit 0) (F47_l0_0_X1 a1 w))) r := by
 intro k
 induction k with
 | zero => intro v2 r F; cases F
 | succ k ih =>
  intro v2 r F
  rw [F47_l0_0] at F
  apply jc F <;> intro h3 F
  ·
   apply jn F; intro h4 F
   apply jb F; intro x5 h6 F
   have q22 {l} (z : HA hn47 l) := zi (nl a1.Edges) <| zT h3 <| zT h4 <| zS eGEdge_len h6 3 <| z
   apply jc F <;> intro h7 F
   ·
    apply jr F
    exact lE <| q22 <| zA3x h7 <| zt5 <| zr1 <| zt5 <| zr2 <| z0
   have q23 {l} (z : HA hn47 l) := zB3x h7 <| z
   apply jc F <;> intro h8 F
   ·
    apply jr F
    exact lE <| q22 <| q23 <| zA5x h8 <| zt5 <| zr2 <| z0
   have q24 {l} (z : HA hn47 l) := zB5x h8 <| z
   apply jc F <;> intro h9 F
   ·
    apply jr F
    exact lE <| q22 <| q23 <| q24 <| zA5x (ige_eq h9) <| zr1 <| z0
   have q25 {l} (z : HA hn47 l) := zB5x (ige_eq h9) <| z
   apply jc F <;> intro h10 F
   ·
    apply jr F
    exact lE <| q22 <| q23 <| q24 <| q25 <| zT (ige_eq h10) <| z0
   apply jc F <;> intro h11 F
   ·
    apply jr F
    exact lE <| q22 <| q23 <| q24 <| q25 <| zF (ige_eq h10) <| zA3x h11 <| zr1 <| z0
   have q26 {l} (z : HA hn47 l) := zF (ige_eq h10) <| zB3x h11 <| z
   apply jc F <;> intro h12 F
   ·
    apply jr F
    exact lE <| q22 <| q23 <| q24 <| q25 <| q26 <| zT (igt_eq h12) <| z0
   apply jc F <;> intro h13 F
   ·
    apply jn F; intro h14 F
    apply jb F; intro x15 h16 F
    have q27 {l} (z : HA hn47 l) := zF (igt_eq h12) <| zT (igt_eq h13) <| zi (wsub .i64 v2 1) <| zT h14 <| zS eGEdge_len h16 3 <| z
    apply jc F <;> intro h17 F
    ·
     have q28 {l} (z : HA hn47 l) := zC5x h17 <| z
     apply jc F <;> intro h18 F
     ·
      apply jr F
      exact lE <| q22 <| q23 <| q24 <| q25 <| q26 <| q27 <| q28 <| zT h18 <| z0
     apply jc F <;> intro h19 F
     ·
      apply jr F
      exact lE <| q22 <| q23 <| q24 <| q25 <| q26 <| q27 <| q28 <| zF h18 <| zA6 (igt_eq h19) <| zA1x (igt_eq h19) <| zr1 <| z0
     have q29 {l} (z : HA hn47 l) := zF h18 <| zB6 (igt_eq h19) <| zC5 h17 <| zB1 (igt_eq h19) <| zT h17 <| zF (igt_eq h19) <| z
     apply jc F <;> intro h20 F
     ·
      apply jr F
      exact lE <| q22 <| q23 <| q24 <| q25 <| q26 <| q27 <| q28 <| q29 <| zT (igt_eq h20) <| z0
     exact lN2 (q22 <| q23 <| q24 <| q25 <| q26 <| q27 <| q28 <| q29 <| zF (igt_eq h20) <| zi (wadd .i64 v2 1) <| z0) (ih _ _ F)
    have q30 {l} (z : HA hn47 l) := zD5x h17 <| zf1 <| z
    apply jc F <;> intro h21 F
    ·
     apply jr F
     exact lE <| q22 <| q23 <| q24 <| q25 <| q26 <| q27 <| q30 <| zA6 (igt_eq h21) <| zA1x (igt_eq h21) <| zr1 <| z0
    exact lN2 (q22 <| q23 <| q24 <| q25 <| q26 <| q27 <| q30 <| zB6 (igt_eq h21) <| zD5 h17 <| zB1 (igt_eq h21) <| zF h17 <| zF (igt_eq h21) <| zf1 <| zi (wadd .i64 v2 1) <| z0) (ih _ _ F)
   exact lN2 (q22 <| q23 <| q24 <| q25 <| q26 <| zF (igt_eq h12) <| zF (igt_eq h13) <| zi (wadd .i64 v2 1) <| z0) (ih _ _ F)
  apply jr F
  exact lE <| zi (nl a1.Edges) <| zF h3 <| z0
def F47 (K : Nat) (a1 : GGraph) : Option (Int) :=
 bif (ilt a1.N 1) then
  (some 1)
 else
 bif (ilt 24 a1.N) then
  (some 1)
 else
 bif (ilt 80 (nlen (len a1.Edges))) then
  (some 3)
 else
 (F47_l0_0 K a1 K 0).bind fun y2 =>
 Sum.elim (fun w3 =>
  some w3)
  (fun w4 =>
  some 0) y2
theorem F47_ok (K : Nat) (a1 : GGraph) (r : Int) (F : F47 K a1 = some r) : Evt E H 47 [.agg (eGGraph a1)] (F47_res r) := by
 rw [F47] at F
 apply jc F <;> intro h2 F
 ·
  apply jr F
  exact fpC hn47 <| zA3x h2 <| zr1 <| z0
 have q9 {l} (z : HA hn47 l) := zB3x h2 <| z
 apply jc F <;> intro h3 F
 ·
  apply jr F
  exact fpC hn47 <| q9 <| zT (igt_eq h3) <| z0
 apply jc F <;> intro h4 F
 ·
  apply jr F
  exact fpC hn47 <| q9 <| zF (igt_eq h3) <| zi (nl a1.Edges) <| zT (igt_eq h4) <| z0
 have q10 {l} (z : HA hn47 l) := zF (igt_eq h3) <| zi (nl a1.Edges) <| zF (igt_eq h4) <| z
 apply jb F; intro y6 h5 F
 refine js F (fun w7 hx F => ?_) fun w8 hx F => ?_
 ·
  subst hx
  apply jr F
  exact fpC hn47 <| q9 <| q10 <| zo (F47_l0_0_ok K a1 K 0 _ h5) <| z0
 subst hx
 apply jr F
 exact fpC hn47 <| q9 <| q10 <| zo (F47_l0_0_ok K a1 K 0 _ h5) <| z0
def hn19 : Hint := { H 19 with nt := 51, prot := 0, kp := 0 }
def F19_res (r1 : Int) : Res := ⟨[(.one (mI r1))], []⟩
def F19 (K : Nat) (a1 : GGraph) (a2 : GJob) : Option (Int) :=
 (F47 K a1).bind fun r3 =>
 bif (ieq r3 0) then
  (bif (ilt a2.Prog 1) then
   (some 1)
  else
  bif (ilt 5 a2.Prog) then
   (some 1)
  else
  bif (ilt a2.Source 0) then
   (some 1)
  else
  bif (ile a1.N a2.Source) then
   (some 1)
  else
  bif (ilt a2.Limit 0) then
   (some 1)
  else
  bif (ilt 40 a2.Limit) then
   (some 1)
  else
  bif (ilt a2.Parts 1) then
   (some 1)
  else
  bif (ilt 6 a2.Parts) then
   (some 1)
  else
  some 0)
 else
 some r3
theorem F19_ok (K : Nat) (a1 : GGraph) (a2 : GJob) (r : Int) (F : F19 K a1 a2 = some r) : Evt E H 19 [.agg (eGGraph a1), .agg (eGJob a2)] (F19_res r) := by
 rw [F19] at F
 apply jb F; intro r3 h4 F
 apply jc F <;> intro h5 F
 ·
  have q14 {l} (z : HA hn19 l) := zl (F47_ok K a1 _ h4) <| zF (ine_t h5) <| z
  apply jc F <;> intro h6 F
  ·
   apply jr F
   exact fpC hn19 <| q14 <| zA3x h6 <| zt3 <| zr1 <| zt5 <| zr1 <| zt3 <| zr1 <| zt3 <| zr1 <| zt3 <| zr1 <| zt3 <| zr2 <| z0
  have q15 {l} (z : HA hn19 l) := zB3x h6 <| z
  apply jc F <;> intro h7 F
  ·
   apply jr F
   exact fpC hn19 <| q14 <| q15 <| zA3x (igt_eq h7) <| zt5 <| zr1 <| zt3 <| zr1 <| zt3 <| zr1 <| zt3 <| zr1 <| zt3 <| zr2 <| z0
  have q16 {l} (z : HA hn19 l) := zB3x (igt_eq h7) <| z
  apply jc F <;> intro h8 F
  ·
   apply jr F
   exact fpC hn19 <| q14 <| q15 <| q16 <| zA5x h8 <| zt3 <| zr1 <| zt3 <| zr1 <| zt3 <| zr1 <| zt3 <| zr2 <| z0
  have q17 {l} (z : HA hn19 l) := zB5x h8 <| z
  apply jc F <;> intro h9 F
  ·
   apply jr F
   exact fpC hn19 <| q14 <| q15 <| q16 <| q17 <| zA3x (ige_eq h9) <| zt3 <| zr1 <| zt3 <| zr1 <| zt3 <| zr2 <| z0
  have q18 {l} (z : HA hn19 l) := zB3x (ige_eq h9) <| z
  apply jc F <;> intro h10 F
  ·
   apply jr F
   exact fpC hn19 <| q14 <| q15 <| q16 <| q17 <| q18 <| zA3x h10 <| zt3 <| zr1 <| zt3 <| zr2 <| z0
  have q19 {l} (z : HA hn19 l) := zB3x h10 <| z
  apply jc F <;> intro h11 F
  ·
   apply jr F
   exact fpC hn19 <| q14 <| q15 <| q16 <| q17 <| q18 <| q19 <| zA3x (igt_eq h11) <| zt3 <| zr2 <| z0
  have q20 {l} (z : HA hn19 l) := zB3x (igt_eq h11) <| z
  apply jc F <;> intro h12 F
  ·
   apply jr F
   exact fpC hn19 <| q14 <| q15 <| q16 <| q17 <| q18 <| q19 <| q20 <| zA3x h12 <| zr1 <| z0
  have q21 {l} (z : HA hn19 l) := zB3x h12 <| z
  apply jc F <;> intro h13 F
  ·
   apply jr F
   exact fpC hn19 <| q14 <| q15 <| q16 <| q17 <| q18 <| q19 <| q20 <| q21 <| zT (igt_eq h13) <| z0
  apply jr F
  exact fpC hn19 <| q14 <| q15 <| q16 <| q17 <| q18 <| q19 <| q20 <| q21 <| zF (igt_eq h13) <| z0
 apply jr F
 exact fpC hn19 <| zl (F47_ok K a1 _ h4) <| zT (ine_f h5) <| z0
def hn39 : Hint := { H 39 with nt := 26, prot := 0, kp := 0 }
def c39_0 : Code := loopOf E 39 0
def F39_res (r1 : List Int) : Res := ⟨[(.one (.own 3 (sE e6 r1)))], []⟩
def F39_l0_0 (K : Nat) (a1 : GGraph) (a2 : GJob) (a3 : Int) : Nat → List Int → Int → Option (List Int)
 | 0, _, _ => none
 | k + 1, v4, v5 =>
  bif (ilt v5 a1.N) then
   (bif (izero a2.Parts) then none else
   bif (ieq (wrem v5 a2.Parts) a3) then
    (bif (apok (len v4) 1 8) then
    F39_l0_0 K a1 a2 a3 k (appL v4 [v5]) (wadd .i64 v5 1)
    else none)
   else
   F39_l0_0 K a1 a2 a3 k v4 (wadd .i64 v5 1))
  else
  some v4
def F39_l0_0_S (a1 : GGraph) (a2 : GJob) (a3 : Int) (v4 : List Int) (v5 : Int) : TS := .on (kq 128 2 <| kq 192 3 <| kq 256 5 <| kq 448 2 <| kq 512 2 <| []) <| sq 128 [u0, (uI a3)] <| b0 192 a1 <| b1 256 a2 <| sq 448 [u0, (uO 3 e6 v4)] <| sq 512 [u0, (uI v5)] []
def F39_l0_0_X0 (a1 : GGraph) (a2 : GJob) (a3 : Int) (w4 : List Int) : TS := .on (kq 448 2 <| []) <| sq 448 [u0, (uO 3 e6 w4)] []
theorem F39_l0_0_ok (K : Nat) (a1 : GGraph) (a2 : GJob) (a3 : Int) : ∀ (k : Nat) (v4 : List Int) (v5 : Int) (r : List Int), F39_l0_0 K a1 a2 a3 k v4 v5 = some r → LoopEv E H hn39 0 c39_0 (F39_l0_0_S a1 a2 a3 v4 v5) (.exit 0) (F39_l0_0_X0 a1 a2 a3 r) := by
 intro k
 induction k with
 | zero => intro v4 v5 r F; cases F
 | succ k ih =>
  intro v4 v5 r F
  rw [F39_l0_0] at F
  apply jc F <;> intro h6 F
  ·
   refine cond_some F (fun _ F => nomatch F) (fun h7 F => ?_)
   have q10 {l} (z : HA hn39 l) := zT h6 <| zF h7 <| zi (wrem v5 a2.Parts) <| z
   apply jc F <;> intro h8 F
   ·
    apply jn F; intro h9 F
    exact lN1 (q10 <| zT h8 <| zX (tt (leqm [(i6 v5)] 1 1)) rfl <| zT h9 <| zV (app_ok (enc := e6) (v4 : List Int) [v5]) <| zi (wadd .i64 v5 1) <| z0) (ih _ _ _ F)
   exact lN1 (q10 <| zF h8 <| zi (wadd .i64 v5 1) <| z0) (ih _ _ _ F)
  apply jr F
  exact lE <| zF h6 <| z0
def F39 (K : Nat) (a1 : GGraph) (a2 : GJob) (a3 : Int) : Option (List Int) :=
 (F39_l0_0 K a1 a2 a3 K [] 0).bind fun w4 =>
 some w4
theorem F39_ok (K : Nat) (a1 : GGraph) (a2 : GJob) (a3 : Int) (r : List Int) (F : F39 K a1 a2 a3 = some r) : Evt E H 39 [.agg (eGGraph a1), .agg (eGJob a2), .one (i6 a3)] (F39_res r) := by
 rw [F39] at F
 apply jb F; intro w5 h4 F
 apply jr F
 exact fpC hn39 <| zo (F39_l0_0_ok K a1 a2 a3 K [] 0 _ h4) <| z0
def hn20 : Hint := { H 20 with nt := 75, prot := 0, kp := 0 }
def c20_0 : Code := loopOf E 20 0
def F20_res (r1 : Bool) : Res := ⟨[(.one (mB r1))], []⟩
def F20_l0_0 (K : Nat) (a1 : GGraph) (a2 : GState) : Nat → Int → Option ((Unit) ⊕ (Unit))
 | 0, _ => none
 | k + 1, v3 =>
  bif (ilt v3 (nlen (len a2.In))) then
   (bif (inr v3 (len a2.In)) then
   (elAt a2.In v3).bind fun x4 =>
   bif (ilt x4.To 0) then
    (some (.inl ()))
   else
   bif (ile a1.N x4.To) then
    (some (.inl ()))
   else
   bif (ilt 0 v3) then
    (bif (inr (wsub .i64 v3 1) (len a2.In)) then
    (elAt a2.In (wsub .i64 v3 1)).bind fun x5 =>
    bif (ile x4.To x5.To) then
     (some (.inl ()))
    else
    F20_l0_0 K a1 a2 k (wadd .i64 v3 1)
    else none)
   else
   F20_l0_0 K a1 a2 k (wadd .i64 v3 1)
   else none)
  else
  some (.inr ())
def F20_l0_0_S (a1 : GGraph) (a2 : GState) (v3 : Int) : TS := .on (kq 192 3 <| kq 320 5 <| kq 448 2 <| []) <| b0 192 a1 <| b10 320 a2 <| sq 448 [u0, (uI v3)] []
def F20_l0_0_X0 (a1 : GGraph) (a2 : GState) (w3 : Unit) : TS := .on (kq 384 2 <| []) <| sq 384 [u0, (uB false)] []
def F20_l0_0_X1 (a1 : GGraph) (a2 : GState) (w3 : Unit) : TS := .on [] []
theorem F20_l0_0_ok (K : Nat) (a1 : GGraph) (a2 : GState) : ∀ (k : Nat) (v3 : Int) (r : (Unit) ⊕ (Unit)), F20_l0_0 K a1 a2 k v3 = some r → (Sum.elim (fun w => LoopEv E H hn20 0 c20_0 (F20_l0_0_S a1 a2 v3) .ret (F20_l0_0_X0 a1 a2 w)) (fun w => LoopEv E H hn20 0 c20_0 (F20_l0_0_S a1 a2 v3) (.exit 0) (F20_l0_0_X1 a1 a2 w))) r := by
 intro k
 induction k with
 | zero => intro v3 r F; cases F
 | succ k ih =>
  intro v3 r F
  rw [F20_l0_0] at F
  apply jc F <;> intro h4 F
  ·
   apply jn F; intro h5 F
   apply jb F; intro x6 h7 F
   have q15 {l} (z : HA hn20 l) := zi (nl a2.In) <| zT h4 <| zT h5 <| zU eGMsg_len h7 0 1 <| z
   apply jc F <;> intro h8 F
   ·
    apply jr F
    exact lE <| q15 <| zA4x h8 <| zt4 <| zr2 <| z0
   have q16 {l} (z : HA hn20 l) := zB4x h8 <| z
   apply jc F <;> intro h9 F
   ·
    apply jr F
    exact lE <| q15 <| q16 <| zA4x (ige_eq h9) <| zr1 <| z0
   have q17 {l} (z : HA hn20 l) := zB3 (ige_eq h9) <| z
   apply jc F <;> intro h10 F
   ·
    apply jn F; intro h11 F
    apply jb F; intro x12 h13 F
    have q18 {l} (z : HA hn20 l) := zC4 (igt_eq h10) <| zi (wsub .i64 v3 1) <| zC1 (igt_eq h10) <| zT h11 <| zC2 (igt_eq h10) <| zU eGMsg_len h13 0 1 <| zC2 (igt_eq h10) <| zB1 (ige_eq h9) <| zT (igt_eq h10) <| zF (ige_eq h9) <| z
    apply jc F <;> intro h14 F
    ·
     apply jr F
     exact lE <| q15 <| q16 <| q17 <| q18 <| zT (ige_eq h14) <| z0
    exact lN2 (q15 <| q16 <| q17 <| q18 <| zF (ige_eq h14) <| zi (wadd .i64 v3 1) <| z0) (ih _ _ F)
   exact lN2 (q15 <| q16 <| q17 <| zD6 (igt_eq h10) <| zD3 (igt_eq h10) <| zB1 (ige_eq h9) <| zF (igt_eq h10) <| zF (ige_eq h9) <| zf1 <| zi (wadd .i64 v3 1) <| z0) (ih _ _ F)
  apply jr F
  exact lE <| zi (nl a2.In) <| zF h4 <| z0
def F20 (K : Nat) (a1 : GGraph) (a2 : GJob) (a3 : GState) : Option (Bool) :=
 (F19 K a1 a2).bind fun r4 =>
 bif (ieq r4 0) then
  (bif (ilt a3.Step 0) then
   (some false)
  else
  bif (ilt 40 a3.Step) then
   (some false)
  else
  bif (ieq (nlen (len a3.Vals)) a1.N) then
   (bif (ieq (nlen (len a3.Rest)) a1.N) then
    ((F20_l0_0 K a1 a3 K 0).bind fun y5 =>
    Sum.elim (fun w6 =>
     some false)
     (fun w7 =>
     some true) y5)
   else
   some false)
  else
  some false)
 else
 some false
theorem F20_ok (K : Nat) (a1 : GGraph) (a2 : GJob) (a3 : GState) (r : Bool) (F : F20 K a1 a2 a3 = some r) : Evt E H 20 [.agg (eGGraph a1), .agg (eGJob a2), .agg (eGState a3)] (F20_res r) := by
 rw [F20] at F
 apply jb F; intro r4 h5 F
 apply jc F <;> intro h6 F
 ·
  have q15 {l} (z : HA hn20 l) := zl (F19_ok K a1 a2 _ h5) <| zB3x (ine_t h6) <| z
  apply jc F <;> intro h7 F
  ·
   apply jr F
   exact fpC hn20 <| q15 <| zA3x h7 <| zt6 <| zr1 <| zt6 <| zr2 <| z0
  have q16 {l} (z : HA hn20 l) := zB3x h7 <| z
  apply jc F <;> intro h8 F
  ·
   apply jr F
   exact fpC hn20 <| q15 <| q16 <| zA6x (igt_eq h8) <| zt6 <| zr2 <| z0
  have q17 {l} (z : HA hn20 l) := zB3 (igt_eq h8) <| zi (nl a3.Vals) <| zB3x (igt_eq h8) <| z
  apply jc F <;> intro h9 F
  ·
   have q18 {l} (z : HA hn20 l) := zB3 (ine_t h9) <| zi (nl a3.Rest) <| zB3x (ine_t h9) <| z
   apply jc F <;> intro h10 F
   ·
    apply jb F; intro y12 h11 F
    refine js F (fun w13 hx F => ?_) fun w14 hx F => ?_
    ·
     subst hx
     apply jr F
     exact fpC hn20 <| q15 <| q16 <| q17 <| q18 <| zF (ine_t h10) <| zo (F20_l0_0_ok K a1 a3 K 0 _ h11) <| z0
    subst hx
    apply jr F
    exact fpC hn20 <| q15 <| q16 <| q17 <| q18 <| zF (ine_t h10) <| zo (F20_l0_0_ok K a1 a3 K 0 _ h11) <| z0
   apply jr F
   exact fpC hn20 <| q15 <| q16 <| q17 <| q18 <| zT (ine_f h10) <| z0
  apply jr F
  exact fpC hn20 <| q15 <| q16 <| q17 <| zA6x (ine_f h9) <| zr1 <| z0
 apply jr F
 exact fpC hn20 <| zl (F19_ok K a1 a2 _ h5) <| zA3x (ine_f h6) <| zt3 <| zr1 <| zt6 <| zr1 <| zt6 <| zr2 <| z0
def hn48 : Hint := { H 48 with nt := 82, prot := 0, kp := 0 }
def c48_0 : Code := loopOf E 48 0
def c48_1 : Code := loopOf E 48 1
def F48_res (r1 : GPart) : Res := ⟨[(.agg [(mI r1.P), (mI r1.Step), (.own 2 (sE e6 r1.Vals)), (.own 4 (sE eBool r1.Rest)), (.own 78 (sE eGMsg r1.In))])], []⟩
def F48_l1_1 (K : Nat) (a1 : GState) (a2 : Int) (r3 : List Int) (v4 : List Int) (v5 : List Bool) (v6 : Int) (x7 : Int) (x8 : Bool) : Nat → List GMsg → Int → Option (List GMsg)
 | 0, _, _ => none
 | k + 1, v9, v10 =>
  bif (ilt v10 (nlen (len a1.In))) then
   (bif (inr v10 (len a1.In)) then
   (elAt a1.In v10).bind fun x11 =>
   bif (inr v6 (len r3)) then
   (elAt r3 v6).bind fun x12 =>
   bif (ieq x11.To x12) then
    (bif (apok (len v9) 1 16) then
    F48_l1_1 K a1 a2 r3 v4 v5 v6 x7 x8 k (appL v9 [x11]) (wadd .i64 v10 1)
    else none)
   else
   F48_l1_1 K a1 a2 r3 v4 v5 v6 x7 x8 k v9 (wadd .i64 v10 1)
   else none
   else none)
  else
  some v9
def F48_l1_1_S (a1 : GState) (a2 : Int) (r3 : List Int) (v4 : List Int) (v5 : List Bool) (v6 : Int) (x7 : Int) (x8 : Bool) (v9 : List GMsg) (v10 : Int) : TS := .on (kq 384 5 <| kq 512 6 <| kq 576 6 <| kq 640 2 <| kq 704 2 <| kq 768 2 <| []) <| b10 384 a1 <| b4 512 <| sq 576 [(uX 45 5), (uI a2), (uI a1.Step), (uO 2 e6 (appL v4 [x7])), (uO 4 eBool (appL v5 [x8])), (uO 78 eGMsg v9)] <| sq 640 [u0, (uO 3 e6 r3)] <| sq 704 [u0, (uI v6)] <| sq 768 [u0, (uI v10)] []
def F48_l1_1_X0 (a1 : GState) (a2 : Int) (r3 : List Int) (v4 : List Int) (v5 : List Bool) (v6 : Int) (x7 : Int) (x8 : Bool) (w9 : List GMsg) : TS := .on (kq 384 5 <| kq 512 6 <| kq 576 6 <| kq 640 2 <| kq 704 2 <| []) <| b10 384 a1 <| b4 512 <| sq 576 [(uX 45 5), (uI a2), (uI a1.Step), (uO 2 e6 (appL v4 [x7])), (uO 4 eBool (appL v5 [x8])), (uO 78 eGMsg w9)] <| sq 640 [u0, (uO 3 e6 r3)] <| sq 704 [u0, (uI v6)] []
theorem F48_l1_1_ok (K : Nat) (a1 : GState) (a2 : Int) (r3 : List Int) (v4 : List Int) (v5 : List Bool) (v6 : Int) (x7 : Int) (x8 : Bool) : ∀ (k : Nat) (v9 : List GMsg) (v10 : Int) (r : List GMsg), F48_l1_1 K a1 a2 r3 v4 v5 v6 x7 x8 k v9 v10 = some r → LoopEv E H hn48 2 c48_1 (F48_l1_1_S a1 a2 r3 v4 v5 v6 x7 x8 v9 v10) (.exit 2) (F48_l1_1_X0 a1 a2 r3 v4 v5 v6 x7 x8 r) := by
 intro k
 induction k with
 | zero => intro v9 v10 r F; cases F
 | succ k ih =>
  intro v9 v10 r F
  rw [F48_l1_1] at F
  apply jc F <;> intro h11 F
  ·
   apply jn F; intro h12 F
   apply jb F; intro x13 h14 F
   apply jn F; intro h15 F
   apply jb F; intro x16 h17 F
   have q20 {l} (z : HA hn48 l) := zi (nl a1.In) <| zT h11 <| zT h12 <| zU eGMsg_len h14 0 1 <| zT h15 <| zX (.sub (flat e6 r3) (nidx v6 1) 1 [(i6 x16)]) ⟨rfl, sub_flat0 (eInt_len _) h17 1 (by decide)⟩ <| z
   apply jc F <;> intro h18 F
   ·
    apply jn F; intro h19 F
    exact lN1 (q20 <| zT h18 <| zT h12 <| zS eGMsg_len h14 2 <| zX (tt (leqm [(i6 x13.To), (i6 x13.V)] 1 2)) rfl <| zT h19 <| zV (app_ok (enc := eGMsg) (v9 : List GMsg) [x13]) <| zi (wadd .i64 v10 1) <| z0) (ih _ _ _ F)
   exact lN1 (q20 <| zF h18 <| zi (wadd .i64 v10 1) <| z0) (ih _ _ _ F)
  apply jr F
  exact lE <| zi (nl a1.In) <| zF h11 <| z0
def F48_l0_0 (K : Nat) (a1 : GState) (a2 : Int) (r3 : List Int) : Nat → List Int → List Bool → List GMsg → Int → Option (List Int × List Bool × List GMsg)
 | 0, _, _, _, _ => none
 | k + 1, v4, v5, v6, v7 =>
  bif (ilt v7 (nlen (len r3))) then
   (bif (inr v7 (len r3)) then
   (elAt r3 v7).bind fun x8 =>
   bif (inr x8 (len a1.Vals)) then
   (elAt a1.Vals x8).bind fun x9 =>
   bif (apok (len v4) 1 8) then
   bif (inr x8 (len a1.Rest)) then
   (elAt a1.Rest x8).bind fun x10 =>
   bif (apok (len v5) 1 1) then
   (F48_l1_1 K a1 a2 r3 v4 v5 v7 x9 x10 K v6 0).bind fun w11 =>
   F48_l0_0 K a1 a2 r3 k (appL v4 [x9]) (appL v5 [x10]) w11 (wadd .i64 v7 1)
   else none
   else none
   else none
   else none
   else none)
  else
  some (v4, (v5, v6))
def F48_l0_0_S (a1 : GState) (a2 : Int) (r3 : List Int) (v4 : List Int) (v5 : List Bool) (v6 : List GMsg) (v7 : Int) : TS := .on (kq 384 5 <| kq 512 6 <| kq 576 6 <| kq 640 2 <| kq 704 2 <| []) <| b10 384 a1 <| b4 512 <| sq 576 [(uX 45 5), (uI a2), (uI a1.Step), (uO 2 e6 v4), (uO 4 eBool v5), (uO 78 eGMsg v6)] <| sq 640 [u0, (uO 3 e6 r3)] <| sq 704 [u0, (uI v7)] []
def F48_l0_0_X0 (a1 : GState) (a2 : Int) (r3 : List Int) (w4 : List Int × List Bool × List GMsg) : TS := .on (kq 512 6 <| kq 576 6 <| []) <| b4 512 <| sq 576 [(uX 45 5), (uI a2), (uI a1.Step), (uO 2 e6 w4.1), (uO 4 eBool w4.2.1), (uO 78 eGMsg w4.2.2)] []
theorem F48_l0_0_ok (K : Nat) (a1 : GState) (a2 : Int) (r3 : List Int) : ∀ (k : Nat) (v4 : List Int) (v5 : List Bool) (v6 : List GMsg) (v7 : Int) (r : List Int × List Bool × List GMsg), F48_l0_0 K a1 a2 r3 k v4 v5 v6 v7 = some r → LoopEv E H hn48 0 c48_0 (F48_l0_0_S a1 a2 r3 v4 v5 v6 v7) (.exit 0) (F48_l0_0_X0 a1 a2 r3 r) := by
 intro k
 induction k with
 | zero => intro v4 v5 v6 v7 r F; cases F
 | succ k ih =>
  intro v4 v5 v6 v7 r F
  rw [F48_l0_0] at F
  apply jc F <;> intro h8 F
  ·
   apply jn F; intro h9 F
   apply jb F; intro x10 h11 F
   apply jn F; intro h12 F
   apply jb F; intro x13 h14 F
   apply jn F; intro h15 F
   apply jn F; intro h16 F
   apply jb F; intro x17 h18 F
   apply jn F; intro h19 F
   apply jb F; intro w21 h20 F
   exact lN1 (zi (nl r3) <| zT h8 <| zT h9 <| zX (.sub (flat e6 r3) (nidx v7 1) 1 [(i6 x10)]) ⟨rfl, sub_flat0 (eInt_len _) h11 1 (by decide)⟩ <| zT h12 <| zX (.sub (flat e6 a1.Vals) (nidx x10 1) 1 [(i6 x13)]) ⟨rfl, sub_flat0 (eInt_len _) h14 1 (by decide)⟩ <| zX (tt (leqm [(i6 x13)] 1 1)) rfl <| zT h15 <| zV (app_ok (enc := e6) (v4 : List Int) [x13]) <| zT h9 <| zX (.sub (flat e6 r3) (nidx v7 1) 1 [(i6 x10)]) ⟨rfl, sub_flat0 (eInt_len _) h11 1 (by decide)⟩ <| zT h16 <| zS eBool_len h18 1 <| zX (tt (leqm [(.lit (.bool x17))] 1 1)) rfl <| zT h19 <| zV (app_ok (enc := eBool) (v5 : List Bool) [x17]) <| zo (F48_l1_1_ok K a1 a2 r3 v4 v5 v7 x13 x17 K v6 0 _ h20) <| zi (wadd .i64 v7 1) <| z0) (ih _ _ _ _ _ F)
  apply jr F
  exact lE <| zi (nl r3) <| zF h8 <| z0
def F48 (K : Nat) (a1 : GGraph) (a2 : GJob) (a3 : GState) (a4 : Int) : Option (GPart) :=
 (F39 K a1 a2 a4).bind fun r5 =>
 (F48_l0_0 K a3 a4 r5 K [] [] [] 0).bind fun w6 =>
 some (GPart.mk a4 a3.Step w6.1 w6.2.1 w6.2.2)
theorem F48_ok (K : Nat) (a1 : GGraph) (a2 : GJob) (a3 : GState) (a4 : Int) (r : GPart) (F : F48 K a1 a2 a3 a4 = some r) : Evt E H 48 [.agg (eGGraph a1), .agg (eGJob a2), .agg (eGState a3), .one (i6 a4)] (F48_res r) := by
 rw [F48] at F
 apply jb F; intro r5 h6 F
 apply jb F; intro w8 h7 F
 apply jr F
 exact fpC hn48 <| zl (F39_ok K a1 a2 a4 _ h6) <| zo (F48_l0_0_ok K a3 a4 r5 K [] [] [] 0 _ h7) <| z0
def hn21 : Hint := { H 21 with nt := 37, prot := 0, kp := 0 }
def c21_0 : Code := loopOf E 21 0
def F21_res (r1 : List GPart × Int) : Res := ⟨[(.one (.own 45 (sE eGPart r1.1))), (.one (mI r1.2))], []⟩
def F21_l0_0 (K : Nat) (a1 : GGraph) (a2 : GJob) (a3 : GState) : Nat → List GPart → Int → Option (List GPart)
 | 0, _, _ => none
 | k + 1, v4, v5 =>
  bif (ilt v5 a2.Parts) then
   ((F48 K a1 a2 a3 v5).bind fun r6 =>
   bif (apok (len v4) 1 88) then
   F21_l0_0 K a1 a2 a3 k (appL v4 [r6]) (wadd .i64 v5 1)
   else none)
  else
  some v4
def F21_l0_0_S (a1 : GGraph) (a2 : GJob) (a3 : GState) (v4 : List GPart) (v5 : Int) : TS := .on (kq 192 3 <| kq 256 5 <| kq 320 5 <| kq 576 2 <| kq 640 2 <| []) <| b0 192 a1 <| b1 256 a2 <| b10 320 a3 <| sq 576 [u0, (uO 45 eGPart v4)] <| sq 640 [u0, (uI v5)] []
def F21_l0_0_X0 (a1 : GGraph) (a2 : GJob) (a3 : GState) (w4 : List GPart) : TS := .on (kq 576 2 <| []) <| sq 576 [u0, (uO 45 eGPart w4)] []
theorem F21_l0_0_ok (K : Nat) (a1 : GGraph) (a2 : GJob) (a3 : GState) : ∀ (k : Nat) (v4 : List GPart) (v5 : Int) (r : List GPart), F21_l0_0 K a1 a2 a3 k v4 v5 = some r → LoopEv E H hn21 0 c21_0 (F21_l0_0_S a1 a2 a3 v4 v5) (.exit 0) (F21_l0_0_X0 a1 a2 a3 r) := by
 intro k
 induction k with
 | zero => intro v4 v5 r F; cases F
 | succ k ih =>
  intro v4 v5 r F
  rw [F21_l0_0] at F
  apply jc F <;> intro h6 F
  ·
   apply jb F; intro r7 h8 F
   apply jn F; intro h9 F
   exact lN1 (zT h6 <| zl (F48_ok K a1 a2 a3 v5 _ h8) <| zX (tt (leqm [(i6 r7.P), (i6 r7.Step), (sE e6 r7.Vals), (sE eBool r7.Rest), (sE eGMsg r7.In)] 1 5)) rfl <| zT h9 <| zV (app_ok (enc := eGPart) (v4 : List GPart) [r7]) <| zi (wadd .i64 v5 1) <| z0) (ih _ _ _ F)
  apply jr F
  exact lE <| zF h6 <| z0
def F21 (K : Nat) (a1 : GGraph) (a2 : GJob) (a3 : GState) : Option (List GPart × Int) :=
 (F19 K a1 a2).bind fun r4 =>
 bif (ieq r4 0) then
  ((F20 K a1 a2 a3).bind fun r5 =>
  bif r5 then
   ((F21_l0_0 K a1 a2 a3 K [] 0).bind fun w6 =>
   some (w6, 0))
  else
  some ([], 1))
 else
 some ([], r4)
theorem F21_ok (K : Nat) (a1 : GGraph) (a2 : GJob) (a3 : GState) (r : List GPart × Int) (F : F21 K a1 a2 a3 = some r) : Evt E H 21 [.agg (eGGraph a1), .agg (eGJob a2), .agg (eGState a3)] (F21_res r) := by
 rw [F21] at F
 apply jb F; intro r4 h5 F
 apply jc F <;> intro h6 F
 ·
  apply jb F; intro r7 h8 F
  have q12 {l} (z : HA hn21 l) := zl (F19_ok K a1 a2 _ h5) <| zF (ine_t h6) <| zl (F20_ok K a1 a2 a3 _ h8) <| z
  apply jc F <;> intro h9 F
  ·
   apply jb F; intro w11 h10 F
   apply jr F
   exact fpC hn21 <| q12 <| zF (bnot_t h9) <| zo (F21_l0_0_ok K a1 a2 a3 K [] 0 _ h10) <| z0
  apply jr F
  exact fpC hn21 <| q12 <| zT (bnot_f h9) <| z0
 apply jr F
 exact fpC hn21 <| zl (F19_ok K a1 a2 _ h5) <| zT (ine_f h6) <| z0
def F109 (K : Nat) (a1 : Int) (a2 : Int) : Option (Int × Bool) :=
 bif (ieq a1 0) then
  (some (0, true))
 else
 bif (ieq a2 0) then
  (some (0, true))
 else
 bif (ieq a1 (-1)) then
  (bif (ieq a1 (-9223372036854775808)) then
   (some (0, false))
  else
  bif (ieq a2 (-9223372036854775808)) then
   (some (0, false))
  else
  some ((wmul .i64 a1 a2), true))
 else
 bif (ieq a2 (-1)) then
  (bif (ieq a1 (-9223372036854775808)) then
   (some (0, false))
  else
  bif (ieq a2 (-9223372036854775808)) then
   (some (0, false))
  else
  some ((wmul .i64 a1 a2), true))
 else
 bif (izero a2) then none else
 bif (ieq (wquo .i64 (wmul .i64 a1 a2) a2) a1) then
  (some ((wmul .i64 a1 a2), true))
 else
 some (0, false)
def F101 (K : Nat) (a1 : Int) (a2 : Int) (a3 : Int) : Option (Int × Bool) :=
 bif (ilt a3 1) then
  (some (0, false))
 else
 (F109 K a1 a2).bind fun r4 =>
 bif r4.2 then
  (bif (izero a3) then none else
  some ((wquo .i64 r4.1 a3), true))
 else
 some (0, false)
def F102 (K : Nat) (a1 : Int) (a2 : Int) : Option (Int × Bool) :=
 bif (ilt 0 a2) then
  (bif (ilt (wsub .i64 9223372036854775807 a2) a1) then
   (some (0, false))
  else
  bif (ilt a2 0) then
   (bif (ilt a1 (wsub .i64 (-9223372036854775808) a2)) then
    (some (0, false))
   else
   some ((wadd .i64 a1 a2), true))
  else
  some ((wadd .i64 a1 a2), true))
 else
 bif (ilt a2 0) then
  (bif (ilt a1 (wsub .i64 (-9223372036854775808) a2)) then
   (some (0, false))
  else
  some ((wadd .i64 a1 a2), true))
 else
 some ((wadd .i64 a1 a2), true)
def F76 (K : Nat) (a1 : Int) (a2 : Int) (a3 : GEdge) (a4 : Int) : Option (Int × Bool) :=
 bif (ieq a1 1) then
  ((F102 K a2 a3.W).bind fun r5 =>
  some (r5.1, r5.2))
 else
 bif (ieq a1 3) then
  ((F102 K a2 1).bind fun r6 =>
  some (r6.1, r6.2))
 else
 bif (ieq a1 5) then
  ((F101 K a2 1 a4).bind fun r7 =>
  some (r7.1, r7.2))
 else
 some (a2, true)
def F50_l0_0 (K : Nat) (v1 : Int) (v2 : Int) (v3 : Int) (v4 : Int) (v5 : Int) (v6 : Bool) (v7 : List GEdge) : Nat → List GMsg → Int → Option ((Unit) ⊕ (List GMsg))
 | 0, _, _ => none
 | k + 1, v8, v9 =>
  bif (ilt v9 (nlen (len v7))) then
   (bif v6 then
    (bif (inr v9 (len v7)) then
    (elAt v7 v9).bind fun x10 =>
    (F76 K v2 v1 x10 (nlen (len v7))).bind fun r11 =>
    bif r11.2 then
     (bif (apok (len v8) 1 16) then
     F50_l0_0 K v1 v2 v3 v4 v5 v6 v7 k (appL v8 [(GMsg.mk x10.To r11.1)]) (wadd .i64 v9 1)
     else none)
    else
    some (.inl ())
    else none)
   else
   some (.inr v8))
  else
  some (.inr v8)
def F50_l0_1 (K : Nat) (v1 : Int) (v2 : Int) (v3 : Int) (v4 : Int) (v5 : Int) (v6 : List GEdge) : Nat → List GMsg → Int → Option ((Unit) ⊕ (List GMsg))
 | 0, _, _ => none
 | k + 1, v7, v8 =>
  bif (ilt v8 (nlen (len v6))) then
   (bif (inr v8 (len v6)) then
   (elAt v6 v8).bind fun x9 =>
   (F76 K v2 v1 x9 (nlen (len v6))).bind fun r10 =>
   bif r10.2 then
    (bif (apok (len v7) 1 16) then
    F50_l0_1 K v1 v2 v3 v4 v5 v6 k (appL v7 [(GMsg.mk x9.To r10.1)]) (wadd .i64 v8 1)
    else none)
   else
   some (.inl ())
   else none)
  else
  some (.inr v7)
def F50_l0_2 (K : Nat) (v1 : Int) (v2 : Int) (v3 : Int) (v4 : Int) (v5 : Int) (v6 : Bool) (v7 : List GEdge) : Nat → List GMsg → Int → Option ((Unit) ⊕ (List GMsg))
 | 0, _, _ => none
 | k + 1, v8, v9 =>
  bif (ilt v9 (nlen (len v7))) then
   (bif v6 then
    (bif (inr v9 (len v7)) then
    (elAt v7 v9).bind fun x10 =>
    (F76 K v2 v1 x10 (nlen (len v7))).bind fun r11 =>
    bif r11.2 then
     (bif (apok (len v8) 1 16) then
     F50_l0_2 K v1 v2 v3 v4 v5 v6 v7 k (appL v8 [(GMsg.mk x10.To r11.1)]) (wadd .i64 v9 1)
     else none)
    else
    some (.inl ())
    else none)
   else
   some (.inr v8))
  else
  some (.inr v8)
def F50_l0_3 (K : Nat) (v1 : Int) (v2 : Int) (v3 : Int) (v4 : Int) (v5 : Int) (v6 : List GEdge) : Nat → List GMsg → Int → Option (((List GMsg)) ⊕ (Unit))
 | 0, _, _ => none
 | k + 1, v7, v8 =>
  bif (ilt v8 (nlen (len v6))) then
   (bif (ieq v1 v1) then
    (some (.inl v7))
   else
   bif (inr v8 (len v6)) then
   (elAt v6 v8).bind fun x9 =>
   (F76 K v2 v1 x9 (nlen (len v6))).bind fun r10 =>
   bif r10.2 then
    (bif (apok (len v7) 1 16) then
    F50_l0_3 K v1 v2 v3 v4 v5 v6 k (appL v7 [(GMsg.mk x9.To r10.1)]) (wadd .i64 v8 1)
    else none)
   else
   some (.inr ())
   else none)
  else
  some (.inl v7)
def goI {α σ β : Type} (step : Nat → α → σ → (σ → Option β) → Option β) (fin : σ → Option β) : Nat → List α → σ → Option β
 | _, [], s => fin s
 | i, x :: r, s => step i x s (goI step fin (i + 1) r)
def goL {α σ β : Type} (step : α → σ → (σ → Option β) → Option β) (fin : σ → Option β) : List α → σ → Option β
 | [], s => fin s
 | x :: r, s => step x s (goL step fin r)
theorem lt_of_drop' {α : Type} {l : List α} {i : Nat} {x : α} {r : List α} (h : l.drop i = x :: r) : i < l.length := by
 rcases Nat.lt_or_ge i l.length with g | g
 · exact g
 · rw [List.drop_eq_nil_of_le g] at h; cases h
theorem scanI {α σ β : Type} {l : List α} {L : Nat → σ → Int → Option β} (step : Nat → α → σ → (σ → Option β) → Option β) (fin : σ → Option β)
 (h : ∀ k s (i : Nat), i ≤ l.length → L (k + 1) s i = bif ilt i (nlen (len l)) then (bif inr i (len l) then (elAt l i).bind fun x => step i x s (fun s' => L k s' (wadd .i64 i 1)) else none) else fin s)
 (hl : l.length < 4611686018427387904) : ∀ (k : Nat) (s : σ) (i : Nat), l.length - i < k → i ≤ l.length → L k s i = goI step fin i (l.drop i) s := by
 intro k
 induction k with
 | zero => intro s i h; omega
 | succ k ih =>
  intro s i hk hi
  rw [h k s i hi]
  rcases at_idx l i with ⟨x, e1, e2, e3, e4⟩ | ⟨e1, e2⟩
  · have hlt := lt_of_drop' e1
    rw [e1, e2, e3, e4]
    simp only [cT, bS, goI]
    congr 1
    funext s'
    rw [wadd_nat om]
    exact ih s' (i + 1) om om
  · rw [e1, e2]; rfl
theorem scanL {α σ β : Type} {l : List α} {L : Nat → σ → Int → Option β} (step : α → σ → (σ → Option β) → Option β) (fin : σ → Option β)
 (h : ∀ k s (i : Nat), i ≤ l.length → L (k + 1) s i = bif ilt i (nlen (len l)) then (bif inr i (len l) then (elAt l i).bind fun x => step x s (fun s' => L k s' (wadd .i64 i 1)) else none) else fin s)
 (hl : l.length < 4611686018427387904) {K : Nat} (hK : l.length < K) (s : σ) : L K s 0 = goL step fin l s := by
 have e : ∀ (i : Nat) (r : List α) (s : σ), goI (fun _ => step) fin i r s = goL step fin r s := by
  intro i r
  induction r generalizing i with
  | nil => intro s; rfl
  | cons x r ih =>
   intro s
   simp only [goI, goL]
   congr 1
   funext s'
   exact ih (i + 1) s'
 have := scanI (fun _ => step) fin h hl K s 0 om om
 rw [e, List.drop_zero] at this
 exact this
theorem ilt_not' (a b : Int) : ilt a b = !(ile b a) := by
 unfold ilt ile
 by_cases h : a < b <;> simp [h] <;> omega
theorem ieq_refl (a : Int) : ieq a a = true := by simp [ieq]
theorem beqb_refl (a : Bool) : beqb a a = true := by cases a <;> rfl
theorem ile_iff {a b : Int} : ile a b = true ↔ a ≤ b := decide_eq_true_iff
theorem ilt_iff {a b : Int} : ilt a b = true ↔ a < b := decide_eq_true_iff
theorem ieq_iff {a b : Int} : ieq a b = true ↔ a = b := by simp [ieq]
theorem ile_f {a b : Int} : ile a b = false ↔ b < a := by simp [ile]
theorem ilt_f {a b : Int} : ilt a b = false ↔ b ≤ a := by simp [ilt]
theorem ieq_f {a b : Int} : ieq a b = false ↔ a ≠ b := by simp [ieq]
theorem inr_iff {i : Int} {n : Nat} : inr i n = true ↔ 0 ≤ i ∧ i < n := decide_eq_true_iff
def badE (n : Int) (e : GEdge) : Int :=
 bif ilt e.From 0 || ile n e.From || ilt e.To 0 || ile n e.To then 4 else bif ilt e.W 0 || ilt 4611686018427387904 e.W then 1 else 0
def ordE (d e : GEdge) : Int := bif ieq d.From e.From && ieq d.To e.To then 5 else bif ilt e.From d.From || (ieq d.From e.From && ilt e.To d.To) then 6 else 0
def gchk (n : Int) : Option GEdge → List GEdge → Int
 | _, [] => 0
 | prev, e :: r => bif ieq (badE n e) 0 then (match prev with
  | none => gchk n (some e) r
  | some d => bif ieq (ordE d e) 0 then gchk n (some e) r else ordE d e) else badE n e
def gcheck (g : GGraph) : Int := bif ilt g.N 1 || ilt 24 g.N then 1 else bif ilt 80 (nlen (len g.Edges)) then 3 else gchk g.N none g.Edges
def prevOf {α : Type} (l : List α) : Nat → Option α
 | 0 => none
 | i + 1 => l[i]?
theorem wsub_one {i : Nat} (h0 : 0 < i) (h : i < 4611686018427387904) : wsub .i64 (i : Int) 1 = ((i - 1 : Nat) : Int) := by
 show IntKind.i64.wrap ((i : Int) - 1) = _
 rw [IntKind.wrap_i64]; omega
theorem prev_at {α : Type} {l : List α} {i : Nat} (h0 : 0 < i) (hi : i < l.length) (hl : l.length < 4611686018427387904) :
 ∃ d, prevOf l i = some d ∧ wsub .i64 (i : Int) 1 = ((i - 1 : Nat) : Int) ∧ inr ((i - 1 : Nat) : Int) (len l) = true ∧ elAt l ((i - 1 : Nat) : Int) = some d := by
 obtain ⟨j, rfl⟩ : ∃ j, i = j + 1 := ⟨i - 1, by omega⟩
 refine ⟨l[j], by simp [prevOf], wsub_one h0 om, decide_eq_true ⟨by omega, by show ((j + 1 - 1 : Nat) : Int) < (l.length : Int); omega⟩, ?_⟩
 rw [elAt_nat]
 simp
theorem prev_next {α : Type} {l : List α} {i : Nat} {x : α} {r : List α} (h : l.drop i = x :: r) : prevOf l (i + 1) = some x ∧ l.drop (i + 1) = r ∧ i < l.length := by
 have hi := lt_of_drop' h
 have := List.drop_eq_getElem_cons hi
 rw [h] at this
 injection this with a b
 exact ⟨by simp [prevOf, hi, a], b.symm, hi⟩
def sumI (v : Int) : Int ⊕ Unit := bif ieq v 0 then .inr () else .inl v
theorem F79_spec (K : Nat) (e : GEdge) (n : Int) : F79 K e n = some (badE n e) := by
 rw [F79, badE]
 cases ilt e.From 0 <;> cases ile n e.From <;> cases ilt e.To 0 <;> cases ile n e.To <;> cases ilt e.W 0 <;> cases ilt 4611686018427387904 e.W <;> rfl
theorem badE_ok {n : Int} {e : GEdge} (h : ieq (badE n e) 0 = true) : 0 ≤ e.From ∧ e.From < n ∧ 0 ≤ e.To ∧ e.To < n ∧ 0 ≤ e.W ∧ e.W ≤ 4611686018427387904 := by
 rw [badE] at h
 cases h1 : ilt e.From 0 || ile n e.From || ilt e.To 0 || ile n e.To
 · cases h2 : ilt e.W 0 || ilt 4611686018427387904 e.W
   · simp only [Bool.or_eq_false_iff, ilt_f, ile_f] at h1 h2
     omega
   · rw [h1, h2] at h; cases h
 · rw [h1] at h; cases h
theorem F80_spec (K : Nat) {n : Int} {d e : GEdge} (hn : n ≤ 24) (hd : ieq (badE n d) 0 = true) (he : ieq (badE n e) 0 = true) :
 F80 K d e = some (bif ieq d.From e.From then d.To - e.To else d.From - e.From) := by
 have h1 := badE_ok hd
 have h2 := badE_ok he
 rw [F80]
 have e1 : wsub .i64 d.To e.To = d.To - e.To := by show IntKind.i64.wrap _ = _; rw [IntKind.wrap_i64]; omega
 have e2 : wsub .i64 d.From e.From = d.From - e.From := by show IntKind.i64.wrap _ = _; rw [IntKind.wrap_i64]; omega
 rw [e1, e2]
 cases ieq d.From e.From <;> rfl
theorem F56_loop {K : Nat} (hK : 100 ≤ K) (g : GGraph) (hl : g.Edges.length ≤ 80) (hn : g.N ≤ 24) : F56_l0_0 K g K 0 = some (sumI (gchk g.N none g.Edges)) := by
 let step : Nat → GEdge → Unit → (Unit → Option (Int ⊕ Unit)) → Option (Int ⊕ Unit) := fun i x _ c =>
  (F79 K x g.N).bind fun r => bif (ieq r 0) then (bif (ieq (i : Int) 0) then c () else bif (inr (wsub .i64 (i : Int) 1) (len g.Edges)) then
   (elAt g.Edges (wsub .i64 (i : Int) 1)).bind fun d => (F80 K d x).bind fun r => bif (ieq r 0) then (some (.inl 5)) else bif (ilt 0 r) then (some (.inl 6)) else c ()
   else none) else some (.inl r)
 let fin : Unit → Option (Int ⊕ Unit) := fun _ => some (.inr ())
 have h := scanI (l := g.Edges) (L := fun k (_ : Unit) i => F56_l0_0 K g k i) step fin (fun k st i hi => rfl) om K () 0 om om
 have hw : ∀ (r : List GEdge) (i : Nat), g.Edges.drop i = r → (∀ d, prevOf g.Edges i = some d → ieq (badE g.N d) 0 = true) → (i = 0 ∨ i ≤ g.Edges.length) → goI step fin i r () = some (sumI (gchk g.N (prevOf g.Edges i) r)) := by
  intro r
  induction r with
  | nil => intro i _ _ _; rfl
  | cons x r ih =>
   intro i hr hp _
   obtain ⟨n1, n2, hi⟩ := prev_next hr
   rw [goI]
   show ((F79 K x g.N).bind fun r' => bif (ieq r' 0) then (bif (ieq (i : Int) 0) then goI step fin (i + 1) r () else bif (inr (wsub .i64 (i : Int) 1) (len g.Edges)) then
    (elAt g.Edges (wsub .i64 (i : Int) 1)).bind fun d => (F80 K d x).bind fun r' => bif (ieq r' 0) then (some (.inl 5)) else bif (ilt 0 r') then (some (.inl 6)) else goI step fin (i + 1) r ()
    else none) else some (.inl r')) = _
   rw [F79_spec, bS]
   cases hb : ieq (badE g.N x) 0
   · have hne : badE g.N x ≠ 0 := ieq_f.1 hb
     cases prevOf g.Edges i <;> simp only [gchk, hb, cF, sumI]
   · have nx : goI step fin (i + 1) r () = some (sumI (gchk g.N (some x) r)) := by
      have := ih (i + 1) n2 (fun d hd => by rw [n1] at hd; cases hd; exact hb) (.inr om)
      rw [n1] at this; exact this
     rw [cT, nx]
     cases i with
     | zero =>
      have : ieq ((0 : Nat) : Int) 0 = true := rfl
      rw [this, cT]
      show _ = some (sumI (gchk g.N none (x :: r)))
      rw [gchk, hb]; rfl
     | succ j =>
      obtain ⟨d, p1, p2, p3, p4⟩ := prev_at (l := g.Edges) (i := j + 1) om hi om
      have hd := hp d p1
      have : ieq ((j + 1 : Nat) : Int) 0 = false := ieq_f.2 om
      rw [this, cF, p2, p3, cT, p4, bS, F80_spec K hn hd hb, bS, p1, gchk, hb, cT]
      have b1 := badE_ok hd
      have b2 := badE_ok hb
      by_cases q1 : d.From = x.From
      · have i1 : ieq d.From x.From = true := ieq_iff.2 q1
        rw [i1, cT]
        by_cases q2 : d.To = x.To
        · have o5 : ordE d x = 5 := by simp [ordE, ieq_iff.2 q1, ieq_iff.2 q2]
          have : ieq (d.To - x.To) 0 = true := ieq_iff.2 om
          rw [this, cT, o5]; rfl
        · have : ieq (d.To - x.To) 0 = false := ieq_f.2 om
          rw [this, cF]
          have j2 : ieq d.To x.To = false := ieq_f.2 q2
          by_cases q3 : x.To < d.To
          · have o6 : ordE d x = 6 := by simp [ordE, i1, j2, ilt_iff.2 q3]
            have : ilt 0 (d.To - x.To) = true := ilt_iff.2 om
            rw [this, cT, o6]; rfl
          · have o0 : ordE d x = 0 := by simp [ordE, i1, j2, ilt_f.2 (show d.To ≤ x.To by omega), ilt_f.2 (show d.From ≤ x.From by omega)]
            have : ilt 0 (d.To - x.To) = false := ilt_f.2 om
            rw [this, cF, o0]; rfl
      · have i1 : ieq d.From x.From = false := ieq_f.2 q1
        rw [i1, cF]
        have : ieq (d.From - x.From) 0 = false := ieq_f.2 om
        rw [this, cF]
        by_cases q3 : x.From < d.From
        · have o6 : ordE d x = 6 := by simp [ordE, i1, ilt_iff.2 q3]
          have : ilt 0 (d.From - x.From) = true := ilt_iff.2 om
          rw [this, cT, o6]; rfl
        · have o0 : ordE d x = 0 := by simp [ordE, i1, ilt_f.2 (show d.From ≤ x.From by omega)]
          have : ilt 0 (d.From - x.From) = false := ilt_f.2 om
          rw [this, cF, o0]; rfl
 have := hw g.Edges 0 rfl (fun d hd => by cases hd) (.inl rfl)
 rw [List.drop_zero, this] at h
 exact h
theorem sumI_elim (v : Int) : (some (sumI v)).bind (fun y => Sum.elim (fun w => some w) (fun w => some 0) y) = some v := by
 unfold sumI
 cases h : ieq v 0
 · rfl
 · have : v = 0 := ieq_iff.1 h
   subst this; rfl
theorem F56_spec {K : Nat} (hK : 100 ≤ K) (g : GGraph) : F56 K g = some (gcheck g) := by
 rw [F56, gcheck]
 cases ilt g.N 1
 · cases h2 : ilt 24 g.N
   · cases h3 : ilt 80 (nlen (len g.Edges))
     · have hl : g.Edges.length ≤ 80 := by have := ilt_f.1 h3; simp only [nlen, len] at this; omega
       have hn := ilt_f.1 h2
       rw [F56_loop hK g hl hn]
       exact sumI_elim _
     · rfl
   · rfl
 · rfl
theorem F47_loop {K : Nat} (hK : 100 ≤ K) (g : GGraph) (hl : g.Edges.length ≤ 80) : F47_l0_0 K g K 0 = some (sumI (gchk g.N none g.Edges)) := by
 let chk : Nat → GEdge → Option (Int ⊕ Unit) → Option (Int ⊕ Unit) := fun i x c =>
  bif (ilt 0 (i : Int)) then
   (bif (inr (wsub .i64 (i : Int) 1) (len g.Edges)) then
   (elAt g.Edges (wsub .i64 (i : Int) 1)).bind fun d =>
   bif (ieq d.From x.From) then
    (bif (ieq d.To x.To) then (some (.inl 5)) else bif (ilt x.From d.From) then (some (.inl 6)) else bif (ilt x.To d.To) then (some (.inl 6)) else c)
   else bif (ilt x.From d.From) then (some (.inl 6)) else c
   else none)
  else c
 let step : Nat → GEdge → Unit → (Unit → Option (Int ⊕ Unit)) → Option (Int ⊕ Unit) := fun i x _ c =>
  bif (ilt x.From 0) then (some (.inl 4)) else bif (ilt x.To 0) then (some (.inl 4)) else bif (ile g.N x.From) then (some (.inl 4)) else bif (ile g.N x.To) then (some (.inl 4)) else
  bif (ilt x.W 0) then (some (.inl 1)) else bif (ilt 4611686018427387904 x.W) then (some (.inl 1)) else chk i x (c ())
 let fin : Unit → Option (Int ⊕ Unit) := fun _ => some (.inr ())
 have h := scanI (l := g.Edges) (L := fun k (_ : Unit) i => F47_l0_0 K g k i) step fin (fun k st i hi => rfl) om K () 0 om om
 have hstep : ∀ i x c, step i x () c = bif ieq (badE g.N x) 0 then chk i x (c ()) else some (.inl (badE g.N x)) := by
  intro i x c
  show (bif (ilt x.From 0) then (some (.inl 4)) else bif (ilt x.To 0) then (some (.inl 4)) else bif (ile g.N x.From) then (some (.inl 4)) else bif (ile g.N x.To) then (some (.inl 4)) else
   bif (ilt x.W 0) then (some (.inl 1)) else bif (ilt 4611686018427387904 x.W) then (some (.inl 1)) else chk i x (c ())) = _
  rw [badE]
  cases ilt x.From 0 <;> cases ile g.N x.From <;> cases ilt x.To 0 <;> cases ile g.N x.To <;> cases ilt x.W 0 <;> cases ilt 4611686018427387904 x.W <;> rfl
 have hw : ∀ (r : List GEdge) (i : Nat), g.Edges.drop i = r → goI step fin i r () = some (sumI (gchk g.N (prevOf g.Edges i) r)) := by
  intro r
  induction r with
  | nil => intro i _; rfl
  | cons x r ih =>
   intro i hr
   obtain ⟨n1, n2, hi⟩ := prev_next hr
   rw [goI, hstep]
   cases hb : ieq (badE g.N x) 0
   · have hne : badE g.N x ≠ 0 := ieq_f.1 hb
     cases prevOf g.Edges i <;> simp only [gchk, hb, cF, sumI]
   · have nx := ih (i + 1) n2
     rw [n1] at nx
     rw [cT, nx]
     cases i with
     | zero =>
      show some (sumI (gchk g.N (some x) r)) = some (sumI (gchk g.N none (x :: r)))
      rw [gchk, hb]; rfl
     | succ j =>
      obtain ⟨d, p1, p2, p3, p4⟩ := prev_at (l := g.Edges) (i := j + 1) om hi om
      have : ilt 0 ((j + 1 : Nat) : Int) = true := ilt_iff.2 om
      show (bif (ilt 0 ((j + 1 : Nat) : Int)) then
       (bif (inr (wsub .i64 ((j + 1 : Nat) : Int) 1) (len g.Edges)) then
       (elAt g.Edges (wsub .i64 ((j + 1 : Nat) : Int) 1)).bind fun d =>
       bif (ieq d.From x.From) then
        (bif (ieq d.To x.To) then (some (.inl 5)) else bif (ilt x.From d.From) then (some (.inl 6)) else bif (ilt x.To d.To) then (some (.inl 6)) else some (sumI (gchk g.N (some x) r)))
       else bif (ilt x.From d.From) then (some (.inl 6)) else some (sumI (gchk g.N (some x) r))
       else none)
      else some (sumI (gchk g.N (some x) r))) = _
      rw [this, cT, p2, p3, cT, p4, bS, p1, gchk, hb, cT, ordE]
      cases hf : ieq d.From x.From
      · cases ilt x.From d.From <;> rfl
      · have : ilt x.From d.From = false := ilt_f.2 (by have := ieq_iff.1 hf; omega)
        rw [this]
        cases ieq d.To x.To <;> cases ilt x.To d.To <;> rfl
 have := hw g.Edges 0 rfl
 rw [List.drop_zero, this] at h
 exact h
theorem F47_spec {K : Nat} (hK : 100 ≤ K) (g : GGraph) : F47 K g = some (gcheck g) := by
 rw [F47, gcheck]
 cases ilt g.N 1
 · cases h2 : ilt 24 g.N
   · cases h3 : ilt 80 (nlen (len g.Edges))
     · have hl : g.Edges.length ≤ 80 := by have := ilt_f.1 h3; simp only [nlen, len] at this; omega
       rw [F47_loop hK g hl]
       exact sumI_elim _
     · rfl
   · rfl
 · rfl
theorem gcheck_ok {g : GGraph} (h : ieq (gcheck g) 0 = true) : 1 ≤ g.N ∧ g.N ≤ 24 ∧ g.Edges.length ≤ 80 ∧ gchk g.N none g.Edges = 0 := by
 rw [gcheck] at h
 cases h1 : ilt g.N 1 || ilt 24 g.N
 · rw [h1, cF] at h
   cases h2 : ilt 80 (nlen (len g.Edges))
   · rw [h2, cF] at h
     simp only [Bool.or_eq_false_iff, ilt_f] at h1
     have := ilt_f.1 h2
     simp only [nlen, len] at this
     exact ⟨by omega, by omega, by omega, ieq_iff.1 h⟩
   · rw [h2] at h; cases h
 · rw [h1] at h; cases h
theorem gchk_mem {n : Int} : ∀ {l : List GEdge} {p : Option GEdge}, gchk n p l = 0 → ∀ e ∈ l, ieq (badE n e) 0 = true
 | [], _, _, e, h => by cases h
 | x :: l, p, h, e, he => by
  unfold gchk at h
  cases hb : ieq (badE n x) 0
  · rw [hb, cF] at h; rw [h] at hb; cases hb
  · rw [hb, cT] at h
    rcases List.mem_cons.1 he with q | q
    · subst q; exact hb
    · cases p with
      | none => exact gchk_mem h e q
      | some d =>
       dsimp only at h
       cases ho : ieq (ordE d x) 0
       · rw [ho, cF] at h; rw [h] at ho; cases ho
       · rw [ho, cT] at h; exact gchk_mem h e q
theorem af_1_1 : areFns [(fnV 81), (fnV 82), (fnV 83)] [81, 82, 83] = true := rfl
theorem af_1_3 : areFns [(fnV 81), (fnV 82), (fnV 83)] [81, 82, 85] = false := rfl
theorem af_1_2 : areFns [(fnV 81), (fnV 82), (fnV 83)] [86, 82, 87] = false := rfl
theorem af_1_4 : areFns [(fnV 81), (fnV 82), (fnV 83)] [88, 89, 87] = false := rfl
theorem af_1_5 : areFns [(fnV 81), (fnV 82), (fnV 83)] [90, 0, 87] = false := rfl
theorem af_1_0 : areFns [(fnV 81), (fnV 82), (fnV 83)] [0, 0, 0] = false := rfl
theorem af_3_1 : areFns [(fnV 81), (fnV 82), (fnV 85)] [81, 82, 83] = false := rfl
theorem af_3_3 : areFns [(fnV 81), (fnV 82), (fnV 85)] [81, 82, 85] = true := rfl
theorem af_3_2 : areFns [(fnV 81), (fnV 82), (fnV 85)] [86, 82, 87] = false := rfl
theorem af_3_4 : areFns [(fnV 81), (fnV 82), (fnV 85)] [88, 89, 87] = false := rfl
theorem af_3_5 : areFns [(fnV 81), (fnV 82), (fnV 85)] [90, 0, 87] = false := rfl
theorem af_3_0 : areFns [(fnV 81), (fnV 82), (fnV 85)] [0, 0, 0] = false := rfl
theorem af_2_1 : areFns [(fnV 86), (fnV 82), (fnV 87)] [81, 82, 83] = false := rfl
theorem af_2_3 : areFns [(fnV 86), (fnV 82), (fnV 87)] [81, 82, 85] = false := rfl
theorem af_2_2 : areFns [(fnV 86), (fnV 82), (fnV 87)] [86, 82, 87] = true := rfl
theorem af_2_4 : areFns [(fnV 86), (fnV 82), (fnV 87)] [88, 89, 87] = false := rfl
theorem af_2_5 : areFns [(fnV 86), (fnV 82), (fnV 87)] [90, 0, 87] = false := rfl
theorem af_2_0 : areFns [(fnV 86), (fnV 82), (fnV 87)] [0, 0, 0] = false := rfl
theorem af_4_1 : areFns [(fnV 88), (fnV 89), (fnV 87)] [81, 82, 83] = false := rfl
theorem af_4_3 : areFns [(fnV 88), (fnV 89), (fnV 87)] [81, 82, 85] = false := rfl
theorem af_4_2 : areFns [(fnV 88), (fnV 89), (fnV 87)] [86, 82, 87] = false := rfl
theorem af_4_4 : areFns [(fnV 88), (fnV 89), (fnV 87)] [88, 89, 87] = true := rfl
theorem af_4_5 : areFns [(fnV 88), (fnV 89), (fnV 87)] [90, 0, 87] = false := rfl
theorem af_4_0 : areFns [(fnV 88), (fnV 89), (fnV 87)] [0, 0, 0] = false := rfl
theorem af_5_1 : areFns [(fnV 90), .nilFunc, (fnV 87)] [81, 82, 83] = false := rfl
theorem af_5_3 : areFns [(fnV 90), .nilFunc, (fnV 87)] [81, 82, 85] = false := rfl
theorem af_5_2 : areFns [(fnV 90), .nilFunc, (fnV 87)] [86, 82, 87] = false := rfl
theorem af_5_4 : areFns [(fnV 90), .nilFunc, (fnV 87)] [88, 89, 87] = false := rfl
theorem af_5_5 : areFns [(fnV 90), .nilFunc, (fnV 87)] [90, 0, 87] = true := rfl
theorem af_5_0 : areFns [(fnV 90), .nilFunc, (fnV 87)] [0, 0, 0] = false := rfl
theorem af_0_1 : areFns [.nilFunc, .nilFunc, .nilFunc] [81, 82, 83] = false := rfl
theorem af_0_3 : areFns [.nilFunc, .nilFunc, .nilFunc] [81, 82, 85] = false := rfl
theorem af_0_2 : areFns [.nilFunc, .nilFunc, .nilFunc] [86, 82, 87] = false := rfl
theorem af_0_4 : areFns [.nilFunc, .nilFunc, .nilFunc] [88, 89, 87] = false := rfl
theorem af_0_5 : areFns [.nilFunc, .nilFunc, .nilFunc] [90, 0, 87] = false := rfl
theorem af_0_0 : areFns [.nilFunc, .nilFunc, .nilFunc] [0, 0, 0] = true := rfl
theorem F143_1 (K : Nat) : F57 K 1 = some (Grule.mk (fnV 81) (fnV 82) true (fnV 83), true) := rfl
theorem F143_2 (K : Nat) : F57 K 2 = some (Grule.mk (fnV 86) (fnV 82) false (fnV 87), true) := rfl
theorem F143_3 (K : Nat) : F57 K 3 = some (Grule.mk (fnV 81) (fnV 82) true (fnV 85), true) := rfl
theorem F143_4 (K : Nat) : F57 K 4 = some (Grule.mk (fnV 88) (fnV 89) false (fnV 87), true) := rfl
theorem F143_5 (K : Nat) : F57 K 5 = some (Grule.mk (fnV 90) .nilFunc false (fnV 87), true) := rfl
theorem F143_0 (K : Nat) {p : Int} (h : p < 1 ∨ 5 < p) : F57 K p = some (Grule.mk .nilFunc .nilFunc false .nilFunc, false) := by
 rw [F57, ieq_f.2 (by omega : p ≠ 1), ieq_f.2 (by omega : p ≠ 3), ieq_f.2 (by omega : p ≠ 2), ieq_f.2 (by omega : p ≠ 4), ieq_f.2 (by omega : p ≠ 5)]; rfl
theorem prog_cases (p : Int) : p = 1 ∨ p = 2 ∨ p = 3 ∨ p = 4 ∨ p = 5 ∨ (p < 1 ∨ 5 < p) := by omega
def jbad (n : Int) (j : GJob) : Bool := ilt j.Source 0 || (ile n j.Source || (ilt j.Limit 0 || (ilt 40 j.Limit || (ilt j.Parts 1 || ilt 6 j.Parts))))
def pbad (p : Int) : Bool := ilt p 1 || ilt 5 p
def jcheck (g : GGraph) (j : GJob) : Int := bif ieq (gcheck g) 0 then (bif pbad j.Prog || jbad g.N j then 1 else 0) else gcheck g
theorem jtail (n : Int) (j : GJob) : (bif (ilt j.Source 0) then (some 1) else bif (ile n j.Source) then (some 1) else bif (ilt j.Limit 0) then (some 1) else bif (ilt 40 j.Limit) then (some 1) else bif (ilt j.Parts 1) then (some 1) else bif (ilt 6 j.Parts) then (some 1) else some 0) = some (bif jbad n j then 1 else 0 : Int) := by
 unfold jbad
 cases ilt j.Source 0 <;> cases ile n j.Source <;> cases ilt j.Limit 0 <;> cases ilt 40 j.Limit <;> cases ilt j.Parts 1 <;> cases ilt 6 j.Parts <;> rfl
theorem F19_spec {K : Nat} (hK : 100 ≤ K) (g : GGraph) (j : GJob) : F19 K g j = some (jcheck g j) := by
 rw [F19, F47_spec hK, bS, jcheck]
 cases ieq (gcheck g) 0
 · rfl
 · rw [cT, cT, jtail, pbad]
   cases ilt j.Prog 1 <;> cases ilt 5 j.Prog <;> rfl
theorem F31_spec {K : Nat} (hK : 100 ≤ K) (g : GGraph) (j : GJob) : F31 K g j = some (jcheck g j) := by
 rw [F31, F56_spec hK, bS, jcheck]
 cases ieq (gcheck g) 0
 · rfl
 · rw [cT, cT]
   rcases prog_cases j.Prog with h | h | h | h | h | h
   · have hb : pbad j.Prog = false := by rw [h]; rfl
     rw [hb, Bool.false_or, h, F143_1]
     simp only [bS, cT, cF, af_1_1, af_1_3, af_1_2, af_1_4, af_1_5, af_1_0, af_3_1, af_3_3, af_3_2, af_3_4, af_3_5, af_3_0, af_2_1, af_2_3, af_2_2, af_2_4, af_2_5, af_2_0, af_4_1, af_4_3, af_4_2, af_4_4, af_4_5, af_4_0, af_5_1, af_5_3, af_5_2, af_5_4, af_5_5, af_5_0, af_0_1, af_0_3, af_0_2, af_0_4, af_0_5, af_0_0, jtail]
   · have hb : pbad j.Prog = false := by rw [h]; rfl
     rw [hb, Bool.false_or, h, F143_2]
     simp only [bS, cT, cF, af_1_1, af_1_3, af_1_2, af_1_4, af_1_5, af_1_0, af_3_1, af_3_3, af_3_2, af_3_4, af_3_5, af_3_0, af_2_1, af_2_3, af_2_2, af_2_4, af_2_5, af_2_0, af_4_1, af_4_3, af_4_2, af_4_4, af_4_5, af_4_0, af_5_1, af_5_3, af_5_2, af_5_4, af_5_5, af_5_0, af_0_1, af_0_3, af_0_2, af_0_4, af_0_5, af_0_0, jtail]
   · have hb : pbad j.Prog = false := by rw [h]; rfl
     rw [hb, Bool.false_or, h, F143_3]
     simp only [bS, cT, cF, af_1_1, af_1_3, af_1_2, af_1_4, af_1_5, af_1_0, af_3_1, af_3_3, af_3_2, af_3_4, af_3_5, af_3_0, af_2_1, af_2_3, af_2_2, af_2_4, af_2_5, af_2_0, af_4_1, af_4_3, af_4_2, af_4_4, af_4_5, af_4_0, af_5_1, af_5_3, af_5_2, af_5_4, af_5_5, af_5_0, af_0_1, af_0_3, af_0_2, af_0_4, af_0_5, af_0_0, jtail]
   · have hb : pbad j.Prog = false := by rw [h]; rfl
     rw [hb, Bool.false_or, h, F143_4]
     simp only [bS, cT, cF, af_1_1, af_1_3, af_1_2, af_1_4, af_1_5, af_1_0, af_3_1, af_3_3, af_3_2, af_3_4, af_3_5, af_3_0, af_2_1, af_2_3, af_2_2, af_2_4, af_2_5, af_2_0, af_4_1, af_4_3, af_4_2, af_4_4, af_4_5, af_4_0, af_5_1, af_5_3, af_5_2, af_5_4, af_5_5, af_5_0, af_0_1, af_0_3, af_0_2, af_0_4, af_0_5, af_0_0, jtail]
   · have hb : pbad j.Prog = false := by rw [h]; rfl
     rw [hb, Bool.false_or, h, F143_5]
     simp only [bS, cT, cF, af_1_1, af_1_3, af_1_2, af_1_4, af_1_5, af_1_0, af_3_1, af_3_3, af_3_2, af_3_4, af_3_5, af_3_0, af_2_1, af_2_3, af_2_2, af_2_4, af_2_5, af_2_0, af_4_1, af_4_3, af_4_2, af_4_4, af_4_5, af_4_0, af_5_1, af_5_3, af_5_2, af_5_4, af_5_5, af_5_0, af_0_1, af_0_3, af_0_2, af_0_4, af_0_5, af_0_0, jtail]
   · have hb : pbad j.Prog = true := by
      unfold pbad
      rcases h with h | h
      · rw [ilt_iff.2 h]; rfl
      · rw [ilt_iff.2 h, Bool.or_true]
     rw [hb, Bool.true_or, F143_0 K h]
     simp only [bS, cT, cF, af_1_1, af_1_3, af_1_2, af_1_4, af_1_5, af_1_0, af_3_1, af_3_3, af_3_2, af_3_4, af_3_5, af_3_0, af_2_1, af_2_3, af_2_2, af_2_4, af_2_5, af_2_0, af_4_1, af_4_3, af_4_2, af_4_4, af_4_5, af_4_0, af_5_1, af_5_3, af_5_2, af_5_4, af_5_5, af_5_0, af_0_1, af_0_3, af_0_2, af_0_4, af_0_5, af_0_0]
theorem jcheck_ok {g : GGraph} {j : GJob} (h : ieq (jcheck g j) 0 = true) : ieq (gcheck g) 0 = true ∧ 1 ≤ j.Prog ∧ j.Prog ≤ 5 ∧ 0 ≤ j.Source ∧ j.Source < g.N ∧ 0 ≤ j.Limit ∧ j.Limit ≤ 40 ∧ 1 ≤ j.Parts ∧ j.Parts ≤ 6 := by
 rw [jcheck] at h
 cases hg : ieq (gcheck g) 0
 · rw [hg, cF] at h; rw [h] at hg; cases hg
 · rw [hg, cT] at h
   cases hb : pbad j.Prog || jbad g.N j
   · simp only [pbad, jbad, Bool.or_eq_false_iff, ilt_f, ile_f] at hb
     obtain ⟨⟨h1, h2⟩, h3, h4, h5, h6, h7, h8⟩ := hb
     exact ⟨rfl, h1, h2, h3, h4, h5, h6, h7, h8⟩
   · rw [hb] at h; cases h
theorem scanN {σ β : Type} {N : Int} {L : Nat → σ → Int → Option β} (step : Nat → σ → (σ → Option β) → Option β) (fin : σ → Option β)
 (h : ∀ k s (i : Nat), i ≤ N.toNat → L (k + 1) s i = bif ilt i N then step i s (fun s' => L k s' (wadd .i64 i 1)) else fin s) (hN : N ≤ 1000000) {K : Nat} (hK : N.toNat < K) (s : σ) :
 L K s 0 = goL step fin (List.range N.toNat) s := by
 have hw : ∀ (k : Nat) (s : σ) (i : Nat), N.toNat - i < k → i ≤ N.toNat → L k s i = goL step fin ((List.range N.toNat).drop i) s := by
  intro k
  induction k with
  | zero => intro s i h; omega
  | succ k ih =>
   intro s i hk hi
   rw [h k s i hi]
   by_cases hlt : i < N.toNat
   · have e : (List.range N.toNat).drop i = i :: (List.range N.toNat).drop (i + 1) := by
      rw [List.drop_eq_getElem_cons (by simpa using hlt)]; simp
     rw [ilt_iff.2 (by omega : (i : Int) < N), cT, e, goL]
     congr 1
     funext s'
     rw [wadd_nat om]
     exact ih s' (i + 1) om om
   · have e : (List.range N.toNat).drop i = [] := List.drop_eq_nil_of_le (by simp; omega)
     rw [ilt_f.2 (by omega : N ≤ (i : Int)), cF, e]; rfl
 have := hw K s 0 om om
 rw [List.drop_zero] at this
 exact this
def homeS (j : GJob) (v : Int) : Int := bif ilt v 0 || (ilt j.Parts 1 || ilt 6 j.Parts) then -1 else v % j.Parts
theorem wrem_emod {a b : Int} (h : 0 ≤ a) : wrem a b = a % b := by
 show Int.tmod _ _ = _
 exact Int.tmod_eq_emod_of_nonneg h
theorem F94_spec (K : Nat) (j : GJob) (v : Int) : F94 K j v = some (homeS j v) := by
 rw [F94, homeS]
 cases h0 : ilt v 0
 · cases h1 : ilt j.Parts 1
   · cases h2 : ilt 6 j.Parts
     · have v0 := ilt_f.1 h0
       have p1 := ilt_f.1 h1
       have hz : izero j.Parts = false := decide_eq_false om
       rw [hz, wrem_emod v0]; rfl
     · rfl
   · rfl
 · rfl
def vertsN (n parts : Nat) (p : Int) : List Nat := (List.range n).filter fun v => ieq ((v % parts : Nat) : Int) p
def vertsS (g : GGraph) (j : GJob) (p : Int) : List Nat := vertsN g.N.toNat j.Parts.toNat p
theorem F39_spec {K : Nat} (hK : 100 ≤ K) {g : GGraph} {j : GJob} (h1 : 1 ≤ j.Parts) (h2 : j.Parts ≤ 6) (hn : g.N ≤ 24) (p : Int) : F39 K g j p = some ((vertsS g j p).map Int.ofNat) := by
 let step : Nat → List Int → (List Int → Option (List Int)) → Option (List Int) := fun i s c =>
  bif (izero j.Parts) then none else bif (ieq (wrem (i : Int) j.Parts) p) then (bif (apok (len s) 1 8) then c (appL s [(i : Int)]) else none) else c s
 have h := scanN (N := g.N) (L := fun k s i => F39_l0_0 K g j p k s i) step (fun s => some s) (fun k s i _ => rfl) om (K := K) om []
 have hz : izero j.Parts = false := decide_eq_false om
 obtain ⟨q, hq⟩ := Int.eq_ofNat_of_zero_le (show 0 ≤ j.Parts by omega)
 have hw : ∀ (l : List Nat) (s : List Int), s.length + l.length ≤ 1000 → goL step (fun s => some s) l s = some (s ++ (l.filter fun v => ieq ((v % j.Parts.toNat : Nat) : Int) p).map Int.ofNat) := by
  intro l
  induction l with
  | nil => intro s _; simp [goL]
  | cons v l ih =>
   intro s hs
   simp only [List.length_cons] at hs
   rw [goL]
   show (bif (izero j.Parts) then none else bif (ieq (wrem (v : Int) j.Parts) p) then (bif (apok (len s) 1 8) then goL step (fun s => some s) l (appL s [(v : Int)]) else none) else goL step (fun s => some s) l s) = _
   have e : wrem (v : Int) j.Parts = ((v % j.Parts.toNat : Nat) : Int) := by rw [wrem_emod om, hq]; simp
   rw [hz, cF, e, List.filter_cons]
   cases ieq ((v % j.Parts.toNat : Nat) : Int) p
   · rw [cF, ih s om]; rfl
   · have ha : apok (len s) 1 8 = true := decide_eq_true ⟨by show s.length + 1 ≤ _; omega, by show (s.length + 1) * 8 ≤ _; omega⟩
     rw [cT, ha, cT, ih _ (by simp [appL]; omega)]
     simp [appL]
 rw [hw _ _ (by simp; omega), List.nil_append] at h
 have h' : F39_l0_0 K g j p K [] 0 = _ := h
 rw [F39, h']; rfl
theorem cnt_all : ∀ parts < 7, 0 < parts → ∀ n < 25, ∀ p < parts, ((List.range n).filter fun v => v % parts == p).length = (n + parts - 1 - p) / parts := by decide +kernel
def countS (g : GGraph) (j : GJob) (p : Int) : Int := ((vertsS g j p).length : Int)
theorem vertsN_len {n parts : Nat} (h1 : 0 < parts) (h2 : parts < 7) (hn : n < 25) {p : Nat} (hp : p < parts) : (vertsN n parts (p : Int)).length = (n + parts - 1 - p) / parts := by
 rw [← cnt_all parts h2 h1 n hn p hp, vertsN]
 congr 1
 refine List.filter_congr fun v _ => ?_
 rw [Bool.eq_iff_iff, ieq_iff, beq_iff_eq]; omega
theorem vertsN_none {n parts : Nat} (h1 : 0 < parts) {p : Int} (hp : p < 0 ∨ (parts : Int) ≤ p) : vertsN n parts p = [] := by
 rw [vertsN, List.filter_eq_nil_iff]
 intro v _ hc
 have := ieq_iff.1 hc
 have := Nat.mod_lt v h1
 omega
theorem F103_spec {K : Nat} (hK : 100 ≤ K) (g : GGraph) (j : GJob) (p : Int) (hp : -9223372036854775808 ≤ p ∧ p ≤ 9223372036854775807) : F103 K g j p = some (bif ieq (jcheck g j) 0 then countS g j p else 0) := by
 rw [F103, F31_spec hK, bS]
 cases hc : ieq (jcheck g j) 0
 · rfl
 · obtain ⟨hg, p1, p2, p3, p4, p5, p6, p7, p8⟩ := jcheck_ok hc
   obtain ⟨g1, g2, _, _⟩ := gcheck_ok hg
   rw [cT, cT, F110]
   cases h0 : ilt p 0
   · cases h1 : ile j.Parts p
     · have q0 := ilt_f.1 h0
       have q1 := ile_f.1 h1
       obtain ⟨q, rfl⟩ := Int.eq_ofNat_of_zero_le q0
       have hz : izero j.Parts = false := decide_eq_false om
       have e1 : wsub .i64 g.N (q : Int) = g.N - q := by show IntKind.i64.wrap _ = _; rw [IntKind.wrap_i64]; omega
       have e2 : wadd .i64 (g.N - q) j.Parts = g.N - q + j.Parts := by show IntKind.i64.wrap _ = _; rw [IntKind.wrap_i64]; omega
       have e3 : wsub .i64 (g.N - q + j.Parts) 1 = g.N - q + j.Parts - 1 := by show IntKind.i64.wrap _ = _; rw [IntKind.wrap_i64]; omega
       obtain ⟨n, hn⟩ := Int.eq_ofNat_of_zero_le (show 0 ≤ g.N by omega)
       obtain ⟨m, hm⟩ := Int.eq_ofNat_of_zero_le (show 0 ≤ j.Parts by omega)
       have hnum : g.N - (q : Int) + j.Parts - 1 = ((n + m - 1 - q : Nat) : Int) := by omega
       obtain ⟨d, hd⟩ : ∃ d, (n + m - 1 - q) / m = d := ⟨_, rfl⟩
       have e4 : wquo .i64 (g.N - q + j.Parts - 1) j.Parts = (d : Int) := by
        show IntKind.i64.wrap ((g.N - q + j.Parts - 1).tdiv j.Parts) = _
        rw [hnum, hm, Int.tdiv_eq_ediv_of_nonneg om]
        have hle : d ≤ n + m - 1 - q := hd ▸ Nat.div_le_self _ _
        have : (((n + m - 1 - q : Nat) : Int) / ((m : Nat) : Int)) = (d : Int) := by rw [← hd]; rfl
        rw [this, IntKind.wrap_i64]; omega
       have ecs : countS g j (q : Int) = (d : Int) := by
        unfold countS vertsS
        have a1 : g.N.toNat = n := by omega
        have a2 : j.Parts.toNat = m := by omega
        rw [a1, a2, vertsN_len om om om om, hd]
       rw [cF, cF, hz, cF, e1, e2, e3, e4, bS, ecs]
       cases hpos : ilt 0 (d : Int)
       · have := ilt_f.1 hpos
         have : d = 0 := by omega
         rw [this]; rfl
       · rfl
     · have q1 := ile_iff.1 h1
       have : countS g j p = 0 := by
        unfold countS vertsS
        rw [vertsN_none om (.inr om)]; rfl
       rw [this]; rfl
   · have q0 := ilt_iff.1 h0
     have : countS g j p = 0 := by
      unfold countS vertsS
      rw [vertsN_none om (.inl q0)]; rfl
     rw [this]; rfl
theorem mem_verts {g : GGraph} {j : GJob} (h1 : 1 ≤ j.Parts) {p : Int} {v : Nat} : v ∈ vertsS g j p ↔ (v : Int) < g.N ∧ (v : Int) % j.Parts = p := by
 obtain ⟨m, hm⟩ := Int.eq_ofNat_of_zero_le (show 0 ≤ j.Parts by omega)
 simp only [vertsS, vertsN, List.mem_filter, List.mem_range, ieq_iff]
 have : j.Parts.toNat = m := by omega
 rw [this, hm]
 constructor
 · rintro ⟨a, b⟩; exact ⟨by omega, by rw [← b]; simp⟩
 · rintro ⟨a, b⟩; exact ⟨by omega, by rw [← b]; simp⟩
def inOkS (n parts p : Int) : Int → List GMsg → Bool
 | _, [] => true
 | prev, m :: r => ilt prev m.To && (ilt m.To n && (ieq (m.To % parts) p && inOkS n parts p m.To r))
def inSt (n : Int) : Int → List GMsg → Bool
 | _, [] => true
 | prev, m :: r => ilt prev m.To && (ilt m.To n && inSt n m.To r)
def sumU (b : Bool) : Unit ⊕ Unit := bif b then .inr () else .inl ()
theorem sumU_elim (b : Bool) : (some (sumU b)).bind (fun y => Sum.elim (fun w => some false) (fun w => some true) y) = some b := by cases b <;> rfl
theorem not_ile {a b : Int} : ile a b = !(ilt b a) := by
 unfold ile ilt; by_cases h : b < a <;> simp [h] <;> omega
def partRight (g : GGraph) (j : GJob) (x : GPart) : Bool :=
 ieq (jcheck g j) 0 && (ile 0 x.P && (ilt x.P j.Parts && (ile 0 x.Step && (ile x.Step 40 && (ieq (x.Vals.length : Int) (countS g j x.P) && (ieq (x.Rest.length : Int) (countS g j x.P) && inOkS g.N j.Parts x.P (-1) x.In))))))
theorem F91_loop {K : Nat} (g : GGraph) (j : GJob) (x : GPart) (hp : 1 ≤ j.Parts) (hl : x.In.length < 1000000) (hK : x.In.length < K) : F91_l0_0 K g j x K (-1) 0 = some (sumU (inOkS g.N j.Parts x.P (-1) x.In)) := by
 let step : GMsg → Int → (Int → Option (Unit ⊕ Unit)) → Option (Unit ⊕ Unit) := fun m s c =>
  bif (ile m.To s) then (some (.inl ())) else bif (ile g.N m.To) then (some (.inl ())) else bif (izero j.Parts) then none else bif (ieq (wrem m.To j.Parts) x.P) then c m.To else some (.inl ())
 have h := scanL (l := x.In) (L := fun k s i => F91_l0_0 K g j x k s i) step (fun _ => some (.inr ())) (fun k s i _ => rfl) om (K := K) hK (-1)
 have hz : izero j.Parts = false := decide_eq_false om
 have hw : ∀ (l : List GMsg) (s : Int), -1 ≤ s → goL step (fun _ => some (.inr ())) l s = some (sumU (inOkS g.N j.Parts x.P s l)) := by
  intro l
  induction l with
  | nil => intro s _; rfl
  | cons m l ih =>
   intro s hs
   rw [goL]
   show (bif (ile m.To s) then (some (.inl ())) else bif (ile g.N m.To) then (some (.inl ())) else bif (izero j.Parts) then none else bif (ieq (wrem m.To j.Parts) x.P) then goL step (fun _ => some (.inr ())) l m.To else some (.inl ())) = _
   rw [inOkS, hz, not_ile, not_ile]
   cases h1 : ilt s m.To
   · rfl
   · have h1' := ilt_iff.1 h1
     rw [wrem_emod om, ih m.To om]
     cases ilt m.To g.N <;> cases ieq (m.To % j.Parts) x.P <;> rfl
 rw [hw _ _ om] at h
 exact h
theorem F91_spec {K : Nat} (hK : 1000 ≤ K) (g : GGraph) (j : GJob) (x : GPart) (hl : x.In.length < 1000000) (hk : x.In.length < K) (hp : -9223372036854775808 ≤ x.P ∧ x.P ≤ 9223372036854775807) : F91 K g j x = some (partRight g j x) := by
 rw [F91, F31_spec om, bS, partRight]
 cases hc : ieq (jcheck g j) 0
 · rfl
 · obtain ⟨hg, p1, p2, p3, p4, p5, p6, p7, p8⟩ := jcheck_ok hc
   rw [cT, F103_spec om g j x.P hp, hc, F91_loop g j x p7 hl hk]
   have n1 : nlen (len x.Vals) = (x.Vals.length : Int) := rfl
   have n2 : nlen (len x.Rest) = (x.Rest.length : Int) := rfl
   rw [ilt_not' x.P 0, not_ile (a := j.Parts), ilt_not' x.Step 0, ilt_not' 40 x.Step, n1, n2, cT, bS, sumU_elim]
   cases ile 0 x.P <;> cases ilt x.P j.Parts <;> cases ile 0 x.Step <;> cases ile x.Step 40 <;> cases ieq (x.Vals.length : Int) (countS g j x.P) <;> cases ieq (x.Rest.length : Int) (countS g j x.P) <;> rfl
theorem verts_len (g : GGraph) (j : GJob) (hn : g.N ≤ 24) (p : Int) : (vertsS g j p).length ≤ 24 := by
 unfold vertsS vertsN
 refine Nat.le_trans (List.length_filter_le _ _) ?_
 simp; omega
def stRight (g : GGraph) (j : GJob) (s : GState) : Bool :=
 ieq (jcheck g j) 0 && (ile 0 s.Step && (ile s.Step 40 && (ieq (s.Vals.length : Int) g.N && (ieq (s.Rest.length : Int) g.N && inSt g.N (-1) s.In))))
theorem F20_loop {K : Nat} (g : GGraph) (s : GState) (hl : s.In.length < 1000000) (hK : s.In.length < K) : F20_l0_0 K g s K 0 = some (sumU (inSt g.N (-1) s.In)) := by
 let step : Nat → GMsg → Unit → (Unit → Option (Unit ⊕ Unit)) → Option (Unit ⊕ Unit) := fun i m _ c =>
  bif (ilt m.To 0) then (some (.inl ())) else bif (ile g.N m.To) then (some (.inl ())) else
  bif (ilt 0 (i : Int)) then
   (bif (inr (wsub .i64 (i : Int) 1) (len s.In)) then
   (elAt s.In (wsub .i64 (i : Int) 1)).bind fun d => bif (ile m.To d.To) then (some (.inl ())) else c ()
   else none)
  else c ()
 have h := scanI (l := s.In) (L := fun k (_ : Unit) i => F20_l0_0 K g s k i) step (fun _ => some (.inr ())) (fun k st i hi => rfl) om K () 0 om om
 have hw : ∀ (r : List GMsg) (i : Nat), s.In.drop i = r → (∀ d, prevOf s.In i = some d → 0 ≤ d.To) → goI step (fun _ => some (.inr ())) i r () = some (sumU (inSt g.N (match prevOf s.In i with | none => -1 | some d => d.To) r)) := by
  intro r
  induction r with
  | nil => intro i _ _; rfl
  | cons m r ih =>
   intro i hr hp
   obtain ⟨n1, n2, hi⟩ := prev_next hr
   rw [goI]
   show (bif (ilt m.To 0) then (some (.inl ())) else bif (ile g.N m.To) then (some (.inl ())) else
   bif (ilt 0 (i : Int)) then
    (bif (inr (wsub .i64 (i : Int) 1) (len s.In)) then
    (elAt s.In (wsub .i64 (i : Int) 1)).bind fun d => bif (ile m.To d.To) then (some (.inl ())) else goI step (fun _ => some (.inr ())) (i + 1) r ()
    else none)
   else goI step (fun _ => some (.inr ())) (i + 1) r ()) = _
   cases h0 : ilt m.To 0
   · have hm0 := ilt_f.1 h0
     have nx := ih (i + 1) n2 (fun d hd => by rw [n1] at hd; cases hd; exact hm0)
     rw [n1] at nx
     dsimp only at nx
     rw [nx, inSt, not_ile]
     cases i with
     | zero =>
      have e1 : ilt 0 ((0 : Nat) : Int) = false := rfl
      have e2 : (match prevOf s.In 0 with | none => (-1 : Int) | some d => d.To) = -1 := rfl
      rw [e1, e2, ilt_iff.2 (by omega : (-1 : Int) < m.To)]
      cases ilt m.To g.N <;> rfl
     | succ q =>
      obtain ⟨d, p1, p2, p3, p4⟩ := prev_at (l := s.In) (i := q + 1) om hi om
      have e1 : ilt 0 ((q + 1 : Nat) : Int) = true := ilt_iff.2 om
      rw [e1, p2, p3, p4, p1]
      simp only [bS, cT, cF, not_ile (a := m.To)]
      cases ilt d.To m.To <;> cases ilt m.To g.N <;> rfl
   · have hm0 := ilt_iff.1 h0
     have hno : ∀ a : Int, -1 ≤ a → ilt a m.To = false := fun a ha => ilt_f.2 om
     have hprev : (-1 : Int) ≤ (match prevOf s.In i with | none => -1 | some d => d.To) := by
      split
      · omega
      · rename_i d hd; have := hp d hd; omega
     rw [inSt, hno _ hprev]; rfl
 have := hw s.In 0 rfl (fun d hd => by cases hd)
 rw [List.drop_zero, this] at h
 exact h
theorem F20_spec {K : Nat} (hK : 1000 ≤ K) (g : GGraph) (j : GJob) (s : GState) (hl : s.In.length < 1000000) (hk : s.In.length < K) : F20 K g j s = some (stRight g j s) := by
 rw [F20, F19_spec om, bS, stRight]
 cases hc : ieq (jcheck g j) 0
 · rfl
 · rw [cT, F20_loop g s hl hk]
   have n1 : nlen (len s.Vals) = (s.Vals.length : Int) := rfl
   have n2 : nlen (len s.Rest) = (s.Rest.length : Int) := rfl
   rw [ilt_not' s.Step 0, ilt_not' 40 s.Step, n1, n2, sumU_elim]
   cases ile 0 s.Step <;> cases ile s.Step 40 <;> cases ieq (s.Vals.length : Int) g.N <;> cases ieq (s.Rest.length : Int) g.N <;> rfl
theorem self_go {α : Type} {l : List α} (eq : α → α → Option (Unit ⊕ Unit) → Option (Unit ⊕ Unit)) (he : ∀ x ∈ l, ∀ c, eq x x c = c) : ∀ (r : List α) (i : Nat), l.drop i = r →
 goI (fun i x (_ : Unit) c => bif inr (i : Int) (len l) then (elAt l (i : Int)).bind fun y => eq x y (c ()) else none) (fun _ => some (.inr ())) i r () = some (.inr ()) := by
 intro r
 induction r with
 | nil => intro i _; rfl
 | cons x r ih =>
  intro i hr
  have hi := lt_of_drop' hr
  have hd := List.drop_eq_getElem_cons hi
  rw [hr] at hd
  injection hd with a b
  have e1 : inr (i : Int) (len l) = true := decide_eq_true ⟨by omega, by show (i : Int) < (l.length : Int); omega⟩
  have e2 : elAt l (i : Int) = some x := by rw [elAt_nat, a]; simp [hi]
  rw [goI, e1, e2, cT, bS, he x (by rw [a]; exact List.getElem_mem hi)]
  exact ih (i + 1) b.symm
theorem same140 {K : Nat} (l : List Int) (hl : l.length < 1000000) (hK : l.length < K) : F52 K l l = some true := by
 have h := scanI (l := l) (L := fun k (_ : Unit) i => F52_l0_0 K l l k i) (fun i x (_ : Unit) c => bif inr (i : Int) (len l) then (elAt l (i : Int)).bind fun y => bif ieq x y then c () else some (.inl ()) else none) (fun _ => some (.inr ())) (fun k st i hi => rfl) om K () 0 om om
 have g := self_go (l := l) (fun x y c => bif ieq x y then c else some (.inl ())) (fun x _ c => by rw [ieq_refl]; rfl) l 0 rfl
 have h' : F52_l0_0 K l l K 0 = some (.inr ()) := h.trans g
 rw [F52, ieq_refl, h']; rfl
theorem same141 {K : Nat} (l : List Bool) (hl : l.length < 1000000) (hK : l.length < K) : F53 K l l = some true := by
 have h := scanI (l := l) (L := fun k (_ : Unit) i => F53_l0_0 K l l k i) (fun i x (_ : Unit) c => bif inr (i : Int) (len l) then (elAt l (i : Int)).bind fun y => bif beqb x y then c () else some (.inl ()) else none) (fun _ => some (.inr ())) (fun k st i hi => rfl) om K () 0 om om
 have g := self_go (l := l) (fun x y c => bif beqb x y then c else some (.inl ())) (fun x _ c => by rw [beqb_refl]; rfl) l 0 rfl
 have h' : F53_l0_0 K l l K 0 = some (.inr ()) := h.trans g
 rw [F53, ieq_refl, h']; rfl
theorem same89 {K : Nat} (l : List GMsg) (hl : l.length < 1000000) (hK : l.length < K) : F37 K l l = some true := by
 have h := scanI (l := l) (L := fun k (_ : Unit) i => F37_l0_0 K l l k i) (fun i x (_ : Unit) c => bif inr (i : Int) (len l) then (elAt l (i : Int)).bind fun y => bif ieq x.To y.To then (bif ieq x.V y.V then c () else some (.inl ())) else some (.inl ()) else none) (fun _ => some (.inr ())) (fun k st i hi => rfl) om K () 0 om om
 have g := self_go (l := l) (fun x y c => bif ieq x.To y.To then (bif ieq x.V y.V then c else some (.inl ())) else some (.inl ())) (fun x _ c => by rw [ieq_refl, ieq_refl]; rfl) l 0 rfl
 have h' : F37_l0_0 K l l K 0 = some (.inr ()) := h.trans g
 rw [F37, ieq_refl, h']; rfl
def fitP (K : Nat) (x : GPart) : Prop := (x.Vals.length < 1000000 ∧ x.Vals.length < K) ∧ (x.Rest.length < 1000000 ∧ x.Rest.length < K) ∧ x.In.length < 1000000 ∧ x.In.length < K
theorem same118 {K : Nat} (x : GPart) (h : fitP K x) : F28 K x x = some true := by
 rw [F28, ieq_refl, ieq_refl, same140 x.Vals h.1.1 h.1.2, same141 x.Rest h.2.1.1 h.2.1.2, same89 x.In h.2.2.1 h.2.2.2]; rfl
theorem sorted_ext {α : Type} {lt : α → α → Prop} (asym : ∀ a b, lt a b → ¬ lt b a) : ∀ {l l' : List α}, l.Pairwise lt → l'.Pairwise lt → (∀ x, x ∈ l ↔ x ∈ l') → l = l'
 | [], [], _, _, _ => rfl
 | [], b :: l', _, _, h => absurd ((h b).2 List.mem_cons_self) (by simp)
 | a :: l, [], _, _, h => absurd ((h a).1 List.mem_cons_self) (by simp)
 | a :: l, b :: l', h1, h2, h => by
  obtain ⟨p1, p2⟩ := List.pairwise_cons.1 h1
  obtain ⟨q1, q2⟩ := List.pairwise_cons.1 h2
  have hab : a = b := by
   rcases List.mem_cons.1 ((h a).1 List.mem_cons_self) with e | e
   · exact e
   · rcases List.mem_cons.1 ((h b).2 List.mem_cons_self) with e' | e'
     · exact e'.symm
     · exact absurd (p1 b e') (asym _ _ (q1 a e))
  subst hab
  congr 1
  refine sorted_ext asym p2 q2 fun x => ⟨fun hx => ?_, fun hx => ?_⟩
  · rcases List.mem_cons.1 ((h x).1 (List.mem_cons_of_mem _ hx)) with e | e
    · subst e; exact absurd (p1 x hx) (fun q => asym _ _ q q)
    · exact e
  · rcases List.mem_cons.1 ((h x).2 (List.mem_cons_of_mem _ hx)) with e | e
    · subst e; exact absurd (q1 x hx) (fun q => asym _ _ q q)
    · exact e
def leM (a b : GMsg) : Bool := ilt a.To b.To || (ieq a.To b.To && ile a.V b.V)
theorem leM_iff {a b : GMsg} : leM a b = true ↔ a.To < b.To ∨ a.To = b.To ∧ a.V ≤ b.V := by simp [leM, ilt, ieq, ile]
theorem leM_f {a b : GMsg} : leM a b = false ↔ ¬ (a.To < b.To ∨ a.To = b.To ∧ a.V ≤ b.V) := by rw [← leM_iff]; simp
theorem leM_trans {a b c : GMsg} (h : leM a b = true) (g : leM b c = true) : leM a c = true := by rw [leM_iff] at *; omega
theorem leM_anti {a b : GMsg} (h : leM a b = true) (g : leM b a = true) : a = b := by
 rw [leM_iff] at h g
 cases a; cases b
 simp only [GMsg.mk.injEq]
 dsimp only at h g
 omega
theorem leM_total {a b : GMsg} (h : leM a b = false) : leM b a = true := by rw [leM_f] at h; rw [leM_iff]; omega
def srtM (l : List GMsg) : Prop := l.Pairwise fun a b => leM a b = true
theorem srtM_eq {l l' : List GMsg} (h : srtM l) (h' : srtM l') (hp : l.Perm l') : l = l' :=
 List.Perm.eq_of_pairwise (fun a b _ _ h1 h2 => leM_anti h1 h2) h h' hp
def bubR : List GMsg → GMsg → List GMsg → List GMsg
 | [], x, Q => x :: Q
 | y :: R, x, Q => bif leM y x then (y :: R).reverse ++ x :: Q else bubR R x (y :: Q)
def sortM (l : List GMsg) : List GMsg := l.foldl (fun acc x => bubR acc.reverse x []) []
theorem bubR_perm (x : GMsg) : ∀ (R Q : List GMsg), (bubR R x Q).Perm (R.reverse ++ x :: Q)
 | [], Q => List.Perm.refl _
 | y :: R, Q => by
  rw [bubR]
  cases leM y x
  · refine (bubR_perm x R (y :: Q)).trans ?_
    rw [List.reverse_cons, List.append_assoc]
    exact List.Perm.append_left _ (List.Perm.swap y x Q)
  · exact List.Perm.refl _
theorem bubR_srt (x : GMsg) : ∀ (R Q : List GMsg), srtM (R.reverse ++ Q) → (∀ q ∈ Q, leM x q = true) → srtM (bubR R x Q)
 | [], Q, h, hx => List.pairwise_cons.2 ⟨hx, h⟩
 | y :: R, Q, h, hx => by
  rw [bubR]
  cases hy : leM y x
  · refine bubR_srt x R (y :: Q) ?_ fun q hq => ?_
    · rw [List.reverse_cons, List.append_assoc] at h; exact h
    · rcases List.mem_cons.1 hq with e | e
      · subst e; exact leM_total hy
      · exact hx q e
  · obtain ⟨h1, h2, h3⟩ := List.pairwise_append.1 h
    refine List.pairwise_append.2 ⟨h1, List.pairwise_cons.2 ⟨hx, h2⟩, fun a ha b hb => ?_⟩
    have hay : a = y ∨ leM a y = true := by
     rw [List.reverse_cons] at ha h1
     obtain ⟨_, _, h6⟩ := List.pairwise_append.1 h1
     rcases List.mem_append.1 ha with e | e
     · exact .inr (h6 a e y (by simp))
     · exact .inl (List.mem_singleton.1 e)
    rcases List.mem_cons.1 hb with e | e
    · subst e
      rcases hay with e | e
      · subst e; exact hy
      · exact leM_trans e hy
    · exact h3 a ha b e
theorem sort_go : ∀ (l acc : List GMsg), srtM acc → srtM (l.foldl (fun acc x => bubR acc.reverse x []) acc) ∧ (l.foldl (fun acc x => bubR acc.reverse x []) acc).Perm (acc ++ l)
 | [], acc, h => ⟨h, by simp⟩
 | x :: l, acc, h => by
  have h1 : srtM (bubR acc.reverse x []) := bubR_srt x acc.reverse [] (by simpa using h) (fun q hq => (nomatch hq))
  have h2 : (bubR acc.reverse x []).Perm (acc ++ [x]) := by simpa using bubR_perm x acc.reverse []
  obtain ⟨a, b⟩ := sort_go l _ h1
  refine ⟨a, b.trans ?_⟩
  have := h2.append_right l
  simpa using this
theorem sortM_srt (l : List GMsg) : srtM (sortM l) := (sort_go l [] List.Pairwise.nil).1
theorem sortM_perm (l : List GMsg) : (sortM l).Perm l := by
 have := (sort_go l [] List.Pairwise.nil).2
 rwa [List.nil_append] at this
theorem sortM_len (l : List GMsg) : (sortM l).length = l.length := (sortM_perm l).length_eq
theorem sortM_eq {l r : List GMsg} (h : srtM r) (hp : r.Perm l) : sortM l = r := srtM_eq (sortM_srt l) h ((sortM_perm l).trans hp.symm)
theorem sortM_congr {l l' : List GMsg} (hp : l.Perm l') : sortM l = sortM l' := sortM_eq (sortM_srt l') ((sortM_perm l').trans hp.symm)
def i64 (n : Int) : Prop := -9223372036854775808 ≤ n ∧ n ≤ 9223372036854775807
theorem i64_wf {n : Int} (h : (Lit.int .i64 n).wf = true) : i64 n := bounds_i64 h
theorem wmul_ok {a b : Int} (h : i64 (a * b)) : wmul .i64 a b = a * b := by
 show IntKind.i64.wrap (a * b) = _
 rw [IntKind.wrap_i64]; unfold i64 at h; omega
theorem wadd_i64 {a b : Int} (h : i64 (a + b)) : wadd .i64 a b = a + b := by
 show IntKind.i64.wrap (a + b) = _
 rw [IntKind.wrap_i64]; unfold i64 at h; omega
def fitsB (n : Int) : Bool := decide (-9223372036854775808 ≤ n) && decide (n ≤ 9223372036854775807)
theorem fitsB_iff {n : Int} : fitsB n = true ↔ i64 n := by simp [fitsB, i64]
theorem fitsB_f {n : Int} : fitsB n = false ↔ n < -9223372036854775808 ∨ 9223372036854775807 < n := by
 cases h : fitsB n
 · have : ¬ i64 n := fun q => by rw [fitsB_iff.2 q] at h; cases h
   unfold i64 at this
   simp only [true_iff]; omega
 · have := fitsB_iff.1 h
   unfold i64 at this
   simp only [Bool.true_eq_false, false_iff]; omega
def addS (a b : Int) : Int × Bool := bif fitsB (a + b) then (a + b, true) else (0, false)
theorem F102_spec (K : Nat) {a b : Int} (ha : i64 a) (hb : i64 b) : F102 K a b = some (addS a b) := by
 unfold i64 at ha hb
 rw [F102, addS]
 cases h1 : ilt 0 b
 · have b1 := ilt_f.1 h1
   cases h2 : ilt b 0
   · have b2 := ilt_f.1 h2
     have : b = 0 := by omega
     rw [fitsB_iff.2 (by unfold i64; omega), wadd_i64 (by unfold i64; omega)]; rfl
   · have b2 := ilt_iff.1 h2
     have ew : wsub .i64 (-9223372036854775808) b = -9223372036854775808 - b := by
      show IntKind.i64.wrap _ = _
      rw [IntKind.wrap_i64]; omega
     rw [cF, cT, ew]
     cases h3 : ilt a (-9223372036854775808 - b)
     · have := ilt_f.1 h3
       rw [fitsB_iff.2 (by unfold i64; omega), wadd_i64 (by unfold i64; omega)]; rfl
     · have := ilt_iff.1 h3
       rw [fitsB_f.2 om]; rfl
 · have b1 := ilt_iff.1 h1
   have ew : wsub .i64 9223372036854775807 b = 9223372036854775807 - b := by
    show IntKind.i64.wrap _ = _
    rw [IntKind.wrap_i64]; omega
   rw [cT, ew, ilt_f.2 (by omega : (0 : Int) ≤ b), cF]
   cases h3 : ilt (9223372036854775807 - b) a
   · have := ilt_f.1 h3
     rw [fitsB_iff.2 (by unfold i64; omega), wadd_i64 (by unfold i64; omega)]; rfl
   · have := ilt_iff.1 h3
     rw [fitsB_f.2 om]; rfl
theorem F84_spec (K : Nat) {a b : Int} (ha : i64 a) (hb : i64 b) : F84 K a b = some (addS a b) := by
 unfold i64 at ha hb
 have ew : wadd .i64 a b = bif fitsB (a + b) then a + b else bif ilt (a + b) 0 then a + b + 18446744073709551616 else a + b - 18446744073709551616 := by
  show IntKind.i64.wrap (a + b) = _
  rw [IntKind.wrap_i64]
  cases h : fitsB (a + b)
  · have := fitsB_f.1 h
    cases h2 : ilt (a + b) 0
    · have := ilt_f.1 h2; simp only [cF]; omega
    · have := ilt_iff.1 h2; simp only [cF, cT]; omega
  · have := fitsB_iff.1 h; unfold i64 at this; simp only [cT]; omega
 have eg : ∀ x : Int, ige x 0 = !(ilt x 0) := fun x => by
  unfold ige ilt
  by_cases h : x < 0 <;> simp [h] <;> omega
 rw [F84, addS, eg, eg, eg, ew]
 cases h : fitsB (a + b)
 · have h' := fitsB_f.1 h
   rcases h' with h' | h'
   · rw [ilt_iff.2 (by omega : a < 0), ilt_iff.2 (by omega : b < 0), ilt_iff.2 (by omega : a + b < 0)]
     simp only [cF, cT]
     rw [ilt_f.2 (by omega : 0 ≤ a + b + 18446744073709551616)]; rfl
   · rw [ilt_f.2 (by omega : 0 ≤ a), ilt_f.2 (by omega : 0 ≤ b), ilt_f.2 (by omega : 0 ≤ a + b)]
     simp only [cF, cT]
     rw [ilt_iff.2 (by omega : a + b - 18446744073709551616 < 0)]; rfl
 · simp only [cT]
   cases h1 : ilt a 0 <;> cases h2 : ilt b 0
   · rw [ilt_f.2 (by have := ilt_f.1 h1; have := ilt_f.1 h2; omega : 0 ≤ a + b)]; rfl
   · rfl
   · rfl
   · rw [ilt_iff.2 (by have := ilt_iff.1 h1; have := ilt_iff.1 h2; omega : a + b < 0)]; rfl
def foldS (p a b : Int) : Int × Int := bif pbad p then (0, 1) else bif ieq p 5 then (bif (addS a b).2 then ((addS a b).1, 0) else (0, 8)) else bif ieq p 4 then (bif ilt a b then (b, 0) else (a, 0)) else bif ilt b a then (b, 0) else (a, 0)
theorem F106_spec (K : Nat) (p : Int) {a b : Int} (ha : i64 a) (hb : i64 b) : F106 K p a b = some (foldS p a b) := by
 rw [F106]
 rcases prog_cases p with q | q | q | q | q | q
 · subst q
   have e5 : ieq 1 5 = false := rfl
   have e4 : ieq 1 4 = false := rfl
   have eb : pbad 1 = false := rfl
   rw [F143_1, foldS, e5, e4, eb]
   simp only [bS, cT, cF, af_1_1, af_1_3, af_1_2, af_1_4, af_1_5, af_1_0, af_3_1, af_3_3, af_3_2, af_3_4, af_3_5, af_3_0, af_2_1, af_2_3, af_2_2, af_2_4, af_2_5, af_2_0, af_4_1, af_4_3, af_4_2, af_4_4, af_4_5, af_4_0, af_5_1, af_5_3, af_5_2, af_5_4, af_5_5, af_5_0, af_0_1, af_0_3, af_0_2, af_0_4, af_0_5, af_0_0, F82]
   cases ilt b a <;> rfl
 · subst q
   have e5 : ieq 2 5 = false := rfl
   have e4 : ieq 2 4 = false := rfl
   have eb : pbad 2 = false := rfl
   rw [F143_2, foldS, e5, e4, eb]
   simp only [bS, cT, cF, af_1_1, af_1_3, af_1_2, af_1_4, af_1_5, af_1_0, af_3_1, af_3_3, af_3_2, af_3_4, af_3_5, af_3_0, af_2_1, af_2_3, af_2_2, af_2_4, af_2_5, af_2_0, af_4_1, af_4_3, af_4_2, af_4_4, af_4_5, af_4_0, af_5_1, af_5_3, af_5_2, af_5_4, af_5_5, af_5_0, af_0_1, af_0_3, af_0_2, af_0_4, af_0_5, af_0_0, F82]
   cases ilt b a <;> rfl
 · subst q
   have e5 : ieq 3 5 = false := rfl
   have e4 : ieq 3 4 = false := rfl
   have eb : pbad 3 = false := rfl
   rw [F143_3, foldS, e5, e4, eb]
   simp only [bS, cT, cF, af_1_1, af_1_3, af_1_2, af_1_4, af_1_5, af_1_0, af_3_1, af_3_3, af_3_2, af_3_4, af_3_5, af_3_0, af_2_1, af_2_3, af_2_2, af_2_4, af_2_5, af_2_0, af_4_1, af_4_3, af_4_2, af_4_4, af_4_5, af_4_0, af_5_1, af_5_3, af_5_2, af_5_4, af_5_5, af_5_0, af_0_1, af_0_3, af_0_2, af_0_4, af_0_5, af_0_0, F82]
   cases ilt b a <;> rfl
 · subst q
   have e5 : ieq 4 5 = false := rfl
   have e4 : ieq 4 4 = true := rfl
   have eb : pbad 4 = false := rfl
   rw [F143_4, foldS, e5, e4, eb]
   simp only [bS, cT, cF, af_1_1, af_1_3, af_1_2, af_1_4, af_1_5, af_1_0, af_3_1, af_3_3, af_3_2, af_3_4, af_3_5, af_3_0, af_2_1, af_2_3, af_2_2, af_2_4, af_2_5, af_2_0, af_4_1, af_4_3, af_4_2, af_4_4, af_4_5, af_4_0, af_5_1, af_5_3, af_5_2, af_5_4, af_5_5, af_5_0, af_0_1, af_0_3, af_0_2, af_0_4, af_0_5, af_0_0, F89, igt]
   have : decide (b > a) = ilt a b := rfl
   rw [this]
   cases ilt a b <;> rfl
 · subst q
   have e5 : ieq 5 5 = true := rfl
   have e4 : ieq 5 4 = false := rfl
   have eb : pbad 5 = false := rfl
   rw [F143_5, foldS, e5, e4, eb]
   simp only [bS, cT, cF, af_1_1, af_1_3, af_1_2, af_1_4, af_1_5, af_1_0, af_3_1, af_3_3, af_3_2, af_3_4, af_3_5, af_3_0, af_2_1, af_2_3, af_2_2, af_2_4, af_2_5, af_2_0, af_4_1, af_4_3, af_4_2, af_4_4, af_4_5, af_4_0, af_5_1, af_5_3, af_5_2, af_5_4, af_5_5, af_5_0, af_0_1, af_0_3, af_0_2, af_0_4, af_0_5, af_0_0, F84_spec K ha hb]
   cases (addS a b).2 <;> rfl
 · have eb : pbad p = true := by
    unfold pbad
    rcases q with q | q
    · rw [ilt_iff.2 q]; rfl
    · rw [ilt_iff.2 q, Bool.or_true]
   rw [F143_0 K q, foldS, eb]
   simp only [bS, cT, cF, af_1_1, af_1_3, af_1_2, af_1_4, af_1_5, af_1_0, af_3_1, af_3_3, af_3_2, af_3_4, af_3_5, af_3_0, af_2_1, af_2_3, af_2_2, af_2_4, af_2_5, af_2_0, af_4_1, af_4_3, af_4_2, af_4_4, af_4_5, af_4_0, af_5_1, af_5_3, af_5_2, af_5_4, af_5_5, af_5_0, af_0_1, af_0_3, af_0_2, af_0_4, af_0_5, af_0_0]
theorem foldS_i64 {p a b : Int} (ha : i64 a) (hb : i64 b) : i64 (foldS p a b).1 := by
 have h0 : i64 0 := by unfold i64; omega
 rw [foldS]
 cases pbad p
 · cases ieq p 5
   · cases ieq p 4
     · simp only [cF]
       cases ilt b a
       · exact ha
       · exact hb
     · simp only [cF, cT]
       cases ilt a b
       · exact ha
       · exact hb
   · simp only [cF, cT]
     unfold addS
     cases h : fitsB (a + b)
     · exact h0
     · exact fitsB_iff.1 h
 · exact h0
theorem F113_spec (K : Nat) (y x : GMsg) : F113 K y x = some (!(leM x y)) := by
 rw [F113, leM]
 cases h1 : ilt y.To x.To
 · cases h2 : ieq y.To x.To
   · have := ilt_f.1 h1; have := ieq_f.1 h2
     rw [ilt_iff.2 (by omega : x.To < y.To)]; rfl
   · have e := ieq_iff.1 h2
     rw [ilt_f.2 (by omega : y.To ≤ x.To), ieq_iff.2 e.symm]
     simp only [cF, cT, Bool.false_or, Bool.true_and]
     congr 1
     cases h3 : ilt y.V x.V
     · rw [ile_iff.2 (by have := ilt_f.1 h3; omega)]; rfl
     · rw [ile_f.2 (by have := ilt_iff.1 h3; omega)]; rfl
 · have := ilt_iff.1 h1
   rw [ilt_f.2 (by omega : y.To ≤ x.To), ieq_f.2 (by omega : x.To ≠ y.To)]; rfl
theorem merge_ok {K : Nat} : ∀ (k : Nat) (a b c : List GMsg), a.length + b.length < k → a.length + b.length + c.length < 100000 → srtM (c ++ a) → srtM (c ++ b) →
 ∃ a' b' c', F112_113_l0_0 K k a b c = some (a', (b', c')) ∧ (c' ++ a' ++ b').Perm (c ++ a ++ b) ∧ srtM (c' ++ a' ++ b') := by
 intro k
 induction k with
 | zero => intro a b c h; omega
 | succ k ih =>
  intro a b c hk hl ha hb
  rw [F112_113_l0_0]
  cases a with
  | nil => exact ⟨[], b, c, rfl, List.Perm.refl _, by simpa using hb⟩
  | cons x a =>
   cases b with
   | nil =>
    refine ⟨x :: a, [], c, ?_, List.Perm.refl _, by simpa using ha⟩
    rw [ilt_iff.2 (show (0 : Int) < nlen (len (x :: a)) by show (0 : Int) < ((a.length + 1 : Nat) : Int); omega)]; rfl
   | cons y b =>
    simp only [List.length_cons] at hk hl
    have i1 : ilt 0 (nlen (len (x :: a))) = true := ilt_iff.2 (by show (0 : Int) < ((a.length + 1 : Nat) : Int); omega)
    have i2 : ilt 0 (nlen (len (y :: b))) = true := ilt_iff.2 (by show (0 : Int) < ((b.length + 1 : Nat) : Int); omega)
    have r1 : inr 0 (len (x :: a)) = true := decide_eq_true ⟨by omega, by show (0 : Int) < (((a.length + 1 : Nat)) : Int); omega⟩
    have r2 : inr 0 (len (y :: b)) = true := decide_eq_true ⟨by omega, by show (0 : Int) < (((b.length + 1 : Nat)) : Int); omega⟩
    have g1 : elAt (x :: a) 0 = some x := rfl
    have g2 : elAt (y :: b) 0 = some y := rfl
    have ap : apok (len c) 1 16 = true := decide_eq_true ⟨by show c.length + 1 ≤ _; omega, by show (c.length + 1) * 16 ≤ _; omega⟩
    have b1 : bnd 1 (nlen (len (x :: a))) (len (x :: a)) = true := by simp [bnd, nlen, len]; omega
    have b2 : bnd 1 (nlen (len (y :: b))) (len (y :: b)) = true := by simp [bnd, nlen, len]; omega
    have s1 : subL (x :: a) 1 (nlen (len (x :: a))) = a := by simp [subL, nlen, len]
    have s2 : subL (y :: b) 1 (nlen (len (y :: b))) = b := by simp [subL, nlen, len]
    rw [i1, i2, r1, r2, g1, g2, ap, b1, b2, s1, s2]
    simp only [cT, bS, F113_spec]
    have ha' := List.pairwise_append.1 ha
    have hb' := List.pairwise_append.1 hb
    have hxa := List.pairwise_cons.1 ha'.2.1
    have hyb := List.pairwise_cons.1 hb'.2.1
    cases hxy : leM x y
    · have hyx := leM_total hxy
      obtain ⟨a', b', c', e, p, q⟩ := ih (x :: a) b (c ++ [y]) (by simp; omega) (by simp; omega)
       (by
        refine List.pairwise_append.2 ⟨List.pairwise_append.2 ⟨hb'.1, List.pairwise_singleton _ _, fun u hu w hw => ?_⟩, ha'.2.1, fun u hu w hw => ?_⟩
        · rw [List.mem_singleton.1 hw]; exact hb'.2.2 u hu y List.mem_cons_self
        · rcases List.mem_append.1 hu with hu | hu
          · exact ha'.2.2 u hu w hw
          · rw [List.mem_singleton.1 hu]
            rcases List.mem_cons.1 hw with rfl | hw
            · exact hyx
            · exact leM_trans hyx (hxa.1 w hw))
       (by rw [List.append_assoc]; exact hb)
      refine ⟨a', b', c', e, p.trans ?_, q⟩
      have : (c ++ [y] ++ (x :: a) ++ b) = c ++ (y :: (x :: a)) ++ b := by simp
      rw [this, List.append_assoc, List.append_assoc]
      exact List.Perm.append_left c (List.perm_middle (l₁ := x :: a) (a := y) (l₂ := b)).symm
    · obtain ⟨a', b', c', e, p, q⟩ := ih a (y :: b) (c ++ [x]) (by simp; omega) (by simp; omega)
       (by rw [List.append_assoc]; exact ha)
       (by
        refine List.pairwise_append.2 ⟨List.pairwise_append.2 ⟨hb'.1, List.pairwise_singleton _ _, fun u hu w hw => ?_⟩, hb'.2.1, fun u hu w hw => ?_⟩
        · rw [List.mem_singleton.1 hw]; exact ha'.2.2 u hu x List.mem_cons_self
        · rcases List.mem_append.1 hu with hu | hu
          · exact hb'.2.2 u hu w hw
          · rw [List.mem_singleton.1 hu]
            rcases List.mem_cons.1 hw with rfl | hw
            · exact hxy
            · exact leM_trans hxy (hyb.1 w hw))
      refine ⟨a', b', c', e, p.trans ?_, q⟩
      have : (c ++ [x] ++ a ++ (y :: b)) = c ++ (x :: a) ++ (y :: b) := by simp
      rw [this]
theorem F112_spec {K : Nat} : ∀ (d : Nat) (l : List GMsg), l.length < d → l.length < K → l.length < 10000 → F112_113 K d l = some (sortM l) := by
 intro d
 induction d with
 | zero => intro l h; omega
 | succ d ih =>
  intro l hd hK hl
  rw [F112_113]
  cases h2 : ilt (nlen (len l)) 2
  · have h2' : 2 ≤ l.length := by have := ilt_f.1 h2; simp only [nlen, len] at this; omega
    have hq : wquo .i64 (nlen (len l)) 2 = ((l.length / 2 : Nat) : Int) := by
     show IntKind.i64.wrap (((l.length : Nat) : Int).tdiv 2) = _
     rw [Int.tdiv_eq_ediv_of_nonneg om, IntKind.wrap_i64]; omega
    have b1 : bnd 0 ((l.length / 2 : Nat) : Int) (len l) = true := by simp [bnd, len]; omega
    have b2 : bnd ((l.length / 2 : Nat) : Int) (nlen (len l)) (len l) = true := by simp [bnd, len, nlen]; omega
    have s1 : subL l 0 ((l.length / 2 : Nat) : Int) = l.take (l.length / 2) := by simp [subL]; omega
    have s2 : subL l ((l.length / 2 : Nat) : Int) (nlen (len l)) = l.drop (l.length / 2) := by
     simp only [subL, nlen, len, Int.toNat_natCast]
     exact List.take_of_length_le (by rw [List.length_drop]; omega)
    have l1 : (l.take (l.length / 2)).length ≤ l.length / 2 := by rw [List.length_take]; omega
    have l2 : (l.drop (l.length / 2)).length = l.length - l.length / 2 := List.length_drop
    have mk : mkok 0 (nlen (len l)) 16 = true := by simp [mkok, nlen, len]; omega
    obtain ⟨a', b', c', e, p, q⟩ := merge_ok (K := K) K (sortM (l.take (l.length / 2))) (sortM (l.drop (l.length / 2))) [] (by rw [sortM_len, sortM_len]; omega) (by rw [sortM_len, sortM_len]; simp only [List.length_nil]; omega) (by simpa using sortM_srt _) (by simpa using sortM_srt _)
    have er : repL (α := GMsg) 0 (GMsg.mk 0 0) = [] := rfl
    have pl : (c' ++ a' ++ b').Perm l := p.trans (by
     rw [List.nil_append]
     have := (sortM_perm (l.take (l.length / 2))).append (sortM_perm (l.drop (l.length / 2)))
     rwa [List.take_append_drop] at this)
    have ln := pl.length_eq
    rw [List.length_append, List.length_append] at ln
    have a1 : apok (len c') (len a') 16 = true := decide_eq_true ⟨by show c'.length + a'.length ≤ _; omega, by show (c'.length + a'.length) * 16 ≤ _; omega⟩
    have a2 : apok (len (appL c' a')) (len b') 16 = true := decide_eq_true ⟨by show (c' ++ a').length + b'.length ≤ _; rw [List.length_append]; omega, by show ((c' ++ a').length + b'.length) * 16 ≤ _; rw [List.length_append]; omega⟩
    rw [cF, hq, b1, b2, s1, s2, ih _ om om om, ih _ om om om, mk, er]
    simp only [cT, bS, e, a1, a2]
    rw [sortM_eq q pl]; rfl
  · have h2' : l.length < 2 := by have := ilt_iff.1 h2; simp only [nlen, len] at this; omega
    have ap : apok 0 (len l) 16 = true := decide_eq_true ⟨by show 0 + l.length ≤ _; omega, by show (0 + l.length) * 16 ≤ _; omega⟩
    rw [cT, ap, cT]
    congr 1
    rw [sortM_eq (l := l) (r := l) ?_ (List.Perm.refl l)]; rfl
    match l, h2' with
    | [], _ => exact List.Pairwise.nil
    | [x], _ => exact List.pairwise_singleton _ _
theorem F107_spec {K : Nat} (l : List GMsg) (hK : l.length < K) (hl : l.length < 10000) : F107 K l = some (sortM l) := by
 rw [F107, F112_spec K l hK hK hl]; rfl
def foldC (p : Int) : List GMsg → GMsg → List GMsg → Int ⊕ List GMsg
 | [], cur, done => .inr (done ++ [cur])
 | x :: r, cur, done => bif ieq cur.To x.To then (bif ieq (foldS p cur.V x.V).2 0 then foldC p r (GMsg.mk cur.To (foldS p cur.V x.V).1) done else .inl (foldS p cur.V x.V).2) else foldC p r x (done ++ [cur])
def foldO (p : Int) : List GMsg → List GMsg → Int ⊕ List GMsg
 | [], done => .inr done
 | x :: r, done => foldC p r x done
def boxO : Int ⊕ List GMsg → List GMsg × Int
 | .inl e => ([], e)
 | .inr s => (s, 0)
def boxS (p : Int) (l : List GMsg) : List GMsg × Int := bif pbad p then ([], 1) else boxO (foldO p (sortM l) [])
theorem put_last {α : Type} (d : List α) (c x : α) : inr (wsub .i64 (nlen (len (d ++ [c]))) 1) (len (d ++ [c])) = true ∧ (d.length < 1000000 → elAt (d ++ [c]) (wsub .i64 (nlen (len (d ++ [c]))) 1) = some c ∧ putAt (d ++ [c]) (wsub .i64 (nlen (len (d ++ [c]))) 1) x = d ++ [x]) ∨ ¬ d.length < 1000000 := by
 by_cases h : d.length < 1000000
 · left
   have w : wsub .i64 (nlen (len (d ++ [c]))) 1 = ((d.length : Nat) : Int) := by
    show IntKind.i64.wrap (((d ++ [c]).length : Int) - 1) = _
    rw [List.length_append, IntKind.wrap_i64]; simp; omega
   rw [w]
   refine ⟨decide_eq_true ⟨by omega, by show (d.length : Int) < ((d ++ [c]).length : Int); simp; omega⟩, fun _ => ⟨by rw [elAt_nat]; simp, ?_⟩⟩
   unfold putAt
   rw [Int.toNat_natCast, List.set_append_right (h := by omega)]; simp
 · right; exact h
theorem F95_spec {K : Nat} (p : Int) (l : List GMsg) (hv : ∀ x ∈ l, i64 x.V) (hK : l.length < K) (hl : l.length < 10000) : F95 K p l = some (boxS p l) := by
 have i0 : i64 0 := by unfold i64; omega
 have hz : (foldS p 0 0).2 = bif pbad p then 1 else 0 := by
  rw [foldS]
  cases pbad p
  · have : addS 0 0 = (0, true) := rfl
    have e : ilt 0 0 = false := rfl
    rw [this, e]
    cases ieq p 5 <;> cases ieq p 4 <;> rfl
  · rfl
 rw [F95, F106_spec K p i0 i0, bS, hz, boxS, F107_spec l hK hl]
 cases hb : pbad p
 · let step : GMsg → List GMsg → (List GMsg → Option (Int ⊕ List GMsg)) → Option (Int ⊕ List GMsg) := fun x s c =>
    bif (ilt 0 (nlen (len s))) then
     (bif (inr (wsub .i64 (nlen (len s)) 1) (len s)) then
     (elAt s (wsub .i64 (nlen (len s)) 1)).bind fun y =>
     bif (ieq y.To x.To) then
      ((F106 K p y.V x.V).bind fun r =>
      bif (ieq r.2 0) then
       (c (putAt s (wsub .i64 (nlen (len s)) 1) (GMsg.mk y.To r.1)))
      else
      some (.inl r.2))
     else
     bif (apok (len s) 1 16) then
     c (appL s [x])
     else none
     else none)
    else
    bif (apok (len s) 1 16) then
    c (appL s [x])
    else none
   have hsl : (sortM l).length = l.length := sortM_len l
   have h := scanL (l := sortM l) (L := fun k s i => F95_l0_0 K p (sortM l) k s i) step (fun s => some (.inr s)) (fun k s i _ => rfl) om (K := K) om []
   have hw : ∀ (r : List GMsg) (d : List GMsg) (c : GMsg), d.length + r.length < 100000 → i64 c.V → (∀ x ∈ r, i64 x.V) → goL step (fun s => some (.inr s)) r (d ++ [c]) = some (foldC p r c d) := by
    intro r
    induction r with
    | nil => intro d c _ _ _; rfl
    | cons x r ih =>
     intro d c hd hc hr
     simp only [List.length_cons] at hd
     have hx := hr x List.mem_cons_self
     have hr' := fun y hy => hr y (List.mem_cons_of_mem _ hy)
     rw [goL]
     show (bif (ilt 0 (nlen (len (d ++ [c])))) then
      (bif (inr (wsub .i64 (nlen (len (d ++ [c]))) 1) (len (d ++ [c]))) then
      (elAt (d ++ [c]) (wsub .i64 (nlen (len (d ++ [c]))) 1)).bind fun y =>
      bif (ieq y.To x.To) then
       ((F106 K p y.V x.V).bind fun q =>
       bif (ieq q.2 0) then
        (goL step (fun s => some (.inr s)) r (putAt (d ++ [c]) (wsub .i64 (nlen (len (d ++ [c]))) 1) (GMsg.mk y.To q.1)))
       else
       some (.inl q.2))
      else
      bif (apok (len (d ++ [c])) 1 16) then
      goL step (fun s => some (.inr s)) r (appL (d ++ [c]) [x])
      else none
      else none)
     else
     bif (apok (len (d ++ [c])) 1 16) then
     goL step (fun s => some (.inr s)) r (appL (d ++ [c]) [x])
     else none) = _
     have i1 : ilt 0 (nlen (len (d ++ [c]))) = true := ilt_iff.2 (by show (0 : Int) < ((d ++ [c]).length : Int); rw [List.length_append]; simp only [List.length_singleton]; omega)
     have ap : apok (len (d ++ [c])) 1 16 = true := decide_eq_true ⟨by show (d ++ [c]).length + 1 ≤ _; rw [List.length_append]; simp only [List.length_singleton]; omega, by show ((d ++ [c]).length + 1) * 16 ≤ _; rw [List.length_append]; simp only [List.length_singleton]; omega⟩
     rcases put_last d c (GMsg.mk c.To (foldS p c.V x.V).1) with ⟨q1, q2⟩ | q
     · obtain ⟨q2, q3⟩ := q2 om
       rw [i1, q1, q2, ap]
       simp only [cT, bS, F106_spec K p hc hx, q3]
       rw [foldC]
       cases ieq c.To x.To
       · rw [cF, cF]
         exact ih (d ++ [c]) x (by rw [List.length_append]; simp only [List.length_singleton]; omega) hx hr'
       · rw [cT, cT]
         cases ieq (foldS p c.V x.V).2 0
         · rfl
         · rw [cT, cT]
           exact ih d _ om (foldS_i64 hc hx) hr'
     · omega
   have h' : F95_l0_0 K p (sortM l) K [] 0 = some (foldO p (sortM l) []) := by
    rw [show F95_l0_0 K p (sortM l) K [] 0 = _ from h]
    have hs : ∀ x ∈ sortM l, i64 x.V := fun x hx => hv x ((sortM_perm l).mem_iff.1 hx)
    generalize sortM l = m at *
    cases m with
    | nil => rfl
    | cons x r =>
     rw [goL]
     show goL step (fun s => some (.inr s)) r (appL [] [x]) = _
     simp only [List.length_cons] at hsl
     exact hw r [] x (by simp only [List.length_nil]; omega) (hs x List.mem_cons_self) (fun y hy => hs y (List.mem_cons_of_mem _ hy))
   have z0 : ieq (bif false then 1 else 0) 0 = true := rfl
   rw [z0, cT, bS, h', bS]
   cases foldO p (sortM l) [] <;> rfl
 · rfl
def atS (l : List GMsg) (v : Int) : Int × Bool := match l.find? (fun m => ieq m.To v) with
 | some m => (m.V, true)
 | none => (0, false)
def sumF : Option GMsg → Int ⊕ Unit
 | some m => .inl m.V
 | none => .inr ()
theorem at_go (l : List GMsg) (v : Int) : goL (fun (x : GMsg) (_ : Unit) c => bif ieq x.To v then some (.inl x.V) else c ()) (fun _ => some (.inr ())) l () = (some (sumF (l.find? fun m => ieq m.To v)) : Option (Int ⊕ Unit)) := by
 induction l with
 | nil => rfl
 | cons x l ih =>
  rw [goL, List.find?_cons]
  cases h : ieq x.To v
  · exact ih
  · rfl
theorem F92_spec {K : Nat} (l : List GMsg) (v : Int) (hl : l.length < 100000) (hK : l.length < K) : F92 K l v = some (atS l v) := by
 have e : F92_l0_0 K l v K 0 = _ := scanL (l := l) (L := fun k (_ : Unit) i => F92_l0_0 K l v k i) (fun x _ c => bif ieq x.To v then some (.inl x.V) else c ()) (fun _ => some (.inr ())) (fun k s i _ => rfl) om hK ()
 rw [F92, e, at_go, atS]
 cases l.find? fun m => ieq m.To v <;> rfl
theorem atS_i64 {l : List GMsg} {v : Int} (h : ∀ x ∈ l, i64 x.V) : i64 (atS l v).1 := by
 rw [atS]
 cases hq : l.find? fun m => ieq m.To v with
 | none => show i64 0; unfold i64; omega
 | some m => exact h m (List.mem_of_find?_eq_some hq)
def cutS (g : GGraph) (j : GJob) (s : GState) (p : Int) : GPart :=
 GPart.mk p s.Step ((vertsS g j p).map fun v => s.Vals.getD v 0) ((vertsS g j p).map fun v => s.Rest.getD v false) (s.In.filter fun m => ieq (m.To % j.Parts) p)
def splitS (g : GGraph) (j : GJob) (s : GState) : List GPart := (List.range j.Parts.toNat).map fun (p : Nat) => cutS g j s (p : Int)
def splitR (g : GGraph) (j : GJob) (s : GState) : List GPart × Int := bif ieq (jcheck g j) 0 then (bif stRight g j s then (splitS g j s, 0) else ([], 1)) else ([], jcheck g j)
theorem stRight_ok {g : GGraph} {j : GJob} {s : GState} (h : stRight g j s = true) : ieq (jcheck g j) 0 = true ∧ 0 ≤ s.Step ∧ s.Step ≤ 40 ∧ (s.Vals.length : Int) = g.N ∧ (s.Rest.length : Int) = g.N ∧ inSt g.N (-1) s.In = true := by
 simp only [stRight, Bool.and_eq_true, ile_iff, ieq_iff] at h
 obtain ⟨h1, h2, h3, h4, h5, h6⟩ := h
 exact ⟨ieq_iff.2 h1, h2, h3, h4, h5, h6⟩
theorem inSt_ok {n : Int} : ∀ {l : List GMsg} {v : Int}, inSt n v l = true → l.Pairwise (fun a b => a.To < b.To) ∧ (∀ m ∈ l, v < m.To ∧ m.To < n)
 | [], v, _ => ⟨List.Pairwise.nil, fun m h => (nomatch h)⟩
 | m :: l, v, h => by
  simp only [inSt, Bool.and_eq_true, ilt_iff] at h
  obtain ⟨h1, h2, h3⟩ := h
  obtain ⟨a, b⟩ := inSt_ok h3
  refine ⟨List.pairwise_cons.2 ⟨fun x hx => (b x hx).1, a⟩, fun x hx => ?_⟩
  rcases List.mem_cons.1 hx with e | e
  · subst e; exact ⟨h1, h2⟩
  · have := b x e; exact ⟨by omega, this.2⟩
theorem inSt_len {n : Int} : ∀ {l : List GMsg} {v : Int}, inSt n v l = true → v ≤ n → (l.length : Int) ≤ n - v
 | [], v, _, hv => by simp; omega
 | m :: l, v, h, hv => by
  simp only [inSt, Bool.and_eq_true, ilt_iff] at h
  obtain ⟨h1, h2, h3⟩ := h
  have := inSt_len h3 om
  simp only [List.length_cons]; omega
def progL : Nat → Nat → Nat → Nat → List Nat
 | 0, _, _, _ => []
 | k + 1, n, parts, v => if v < n then v :: progL k n parts (v + parts) else []
theorem prog_all : ∀ parts < 7, 0 < parts → ∀ n < 25, ∀ p < parts, progL 30 n parts p = (List.range n).filter fun v => v % parts == p := by decide +kernel
theorem prog_verts {n parts : Nat} (h1 : 0 < parts) (h2 : parts < 7) (hn : n < 25) {p : Nat} (hp : p < parts) : progL 30 n parts p = vertsN n parts (p : Int) := by
 rw [prog_all parts h2 h1 n hn p hp, vertsN]
 refine List.filter_congr fun v _ => ?_
 rw [Bool.eq_iff_iff, ieq_iff, beq_iff_eq]; omega
theorem getD_at {α : Type} {l : List α} {v : Nat} (d : α) (h : v < l.length) : inr (v : Int) (len l) = true ∧ elAt l (v : Int) = some (l.getD v d) := by
 refine ⟨decide_eq_true ⟨by omega, by show (v : Int) < (l.length : Int); omega⟩, ?_⟩
 rw [elAt_nat]; simp [h, List.getD]
theorem F48_in {K : Nat} (s : GState) (p : Int) (r : List Int) (a : List Int) (b : List Bool) (i : Nat) (x : Int) (y : Bool) (v : Int) (hi : inr (i : Int) (len r) = true) (he : elAt r (i : Int) = some v) (hl : s.In.length ≤ 1000) (hK : s.In.length < K) (acc : List GMsg) (ha : acc.length ≤ 100000) :
 F48_l1_1 K s p r a b (i : Int) x y K acc 0 = some (acc ++ s.In.filter fun m => ieq m.To v) := by
 let step : GMsg → List GMsg → (List GMsg → Option (List GMsg)) → Option (List GMsg) := fun m a c =>
  bif (inr (i : Int) (len r)) then
  (elAt r (i : Int)).bind fun z => bif (ieq m.To z) then (bif (apok (len a) 1 16) then c (appL a [m]) else none) else c a
  else none
 have h := scanL (l := s.In) (L := fun k c q => F48_l1_1 K s p r a b (i : Int) x y k c q) step (fun a => some a) (fun k s i _ => rfl) om (K := K) hK acc
 have hw : ∀ (l : List GMsg) (a : List GMsg), a.length + l.length ≤ 200000 → goL step (fun a => some a) l a = some (a ++ l.filter fun m => ieq m.To v) := by
  intro l
  induction l with
  | nil => intro a _; simp [goL]
  | cons m l ih =>
   intro a ha
   simp only [List.length_cons] at ha
   rw [goL]
   show (bif (inr (i : Int) (len r)) then
   (elAt r (i : Int)).bind fun z => bif (ieq m.To z) then (bif (apok (len a) 1 16) then goL step (fun a => some a) l (appL a [m]) else none) else goL step (fun a => some a) l a
   else none) = _
   have ap : apok (len a) 1 16 = true := decide_eq_true ⟨by show a.length + 1 ≤ _; omega, by show (a.length + 1) * 16 ≤ _; omega⟩
   rw [hi, cT, he, bS, ap, List.filter_cons]
   cases ieq m.To v
   · rw [cF, ih a om]; rfl
   · rw [cT, cT, ih _ (by simp [appL]; omega)]; simp [appL]
 rw [hw s.In acc om] at h
 exact h
theorem F48_loop {K : Nat} (s : GState) (p : Int) (vs : List Nat) (hvl : vs.length ≤ 30) (hK : 1000 ≤ K) (hv : ∀ v ∈ vs, v < s.Vals.length ∧ v < s.Rest.length) (hl : s.In.length ≤ 500) :
 F48_l0_0 K s p (vs.map Int.ofNat) K [] [] [] 0 = some (vs.map (fun v => s.Vals.getD v 0), vs.map (fun v => s.Rest.getD v false), vs.flatMap fun (v : Nat) => s.In.filter fun m => ieq m.To (v : Int)) := by
 let step : Nat → Int → List Int × List Bool × List GMsg → (List Int × List Bool × List GMsg → Option (List Int × List Bool × List GMsg)) → Option (List Int × List Bool × List GMsg) := fun i x st c =>
  bif (inr x (len s.Vals)) then
  (elAt s.Vals x).bind fun x2246 =>
  bif (apok (len st.1) 1 8) then
  bif (inr x (len s.Rest)) then
  (elAt s.Rest x).bind fun x2250 =>
  bif (apok (len st.2.1) 1 1) then
  (F48_l1_1 K s p (vs.map Int.ofNat) st.1 st.2.1 (i : Int) x2246 x2250 K st.2.2 0).bind fun w2278 =>
  c (appL st.1 [x2246], appL st.2.1 [x2250], w2278)
  else none
  else none
  else none
  else none
 have h := scanI (l := vs.map Int.ofNat) (L := fun k (st : List Int × List Bool × List GMsg) i => F48_l0_0 K s p (vs.map Int.ofNat) k st.1 st.2.1 st.2.2 i) step (fun st => some st) (fun k st i _ => rfl) (by simp; omega) K ([], [], []) 0 (by simp; omega) om
 have hw : ∀ (r : List Nat) (i : Nat) (a : List Int) (b : List Bool) (m : List GMsg), vs.drop i = r → a.length + r.length ≤ 100 → b.length + r.length ≤ 100 → m.length + 500 * r.length ≤ 50000 →
  goI step (fun st => some st) i (r.map Int.ofNat) (a, b, m) = some (a ++ r.map (fun v => s.Vals.getD v 0), b ++ r.map (fun v => s.Rest.getD v false), m ++ r.flatMap fun (v : Nat) => s.In.filter fun m => ieq m.To (v : Int)) := by
  intro r
  induction r with
  | nil => intro i a b m _ _ _ _; simp [goI]
  | cons v r ih =>
   intro i a b m hr ha hb hm
   simp only [List.length_cons] at ha hb hm
   obtain ⟨n1, n2, hi⟩ := prev_next hr
   have hvm : v ∈ vs := by
    have : v ∈ vs.drop i := by rw [hr]; exact List.mem_cons_self
    exact List.mem_of_mem_drop this
   obtain ⟨v1, v2⟩ := hv v hvm
   obtain ⟨i1, i2⟩ := getD_at (l := s.Vals) 0 v1
   obtain ⟨i3, i4⟩ := getD_at (l := s.Rest) false v2
   have a1 : apok (len a) 1 8 = true := decide_eq_true ⟨by show a.length + 1 ≤ _; omega, by show (a.length + 1) * 8 ≤ _; omega⟩
   have a2 : apok (len b) 1 1 = true := decide_eq_true ⟨by show b.length + 1 ≤ _; omega, by show (b.length + 1) * 1 ≤ _; omega⟩
   have j1 : inr (i : Int) (len (vs.map Int.ofNat)) = true := decide_eq_true ⟨by omega, by show (i : Int) < ((vs.map Int.ofNat).length : Int); simp; omega⟩
   have j2 : elAt (vs.map Int.ofNat) (i : Int) = some (v : Int) := by
    rw [elAt_nat, List.getElem?_map, show vs[i]? = some v from n1]; rfl
   rw [List.map_cons, goI]
   show (bif (inr (v : Int) (len s.Vals)) then
   (elAt s.Vals (v : Int)).bind fun x2246 =>
   bif (apok (len a) 1 8) then
   bif (inr (v : Int) (len s.Rest)) then
   (elAt s.Rest (v : Int)).bind fun x2250 =>
   bif (apok (len b) 1 1) then
   (F48_l1_1 K s p (vs.map Int.ofNat) a b (i : Int) x2246 x2250 K m 0).bind fun w2278 =>
   goI step (fun st => some st) (i + 1) (r.map Int.ofNat) (appL a [x2246], appL b [x2250], w2278)
   else none
   else none
   else none
   else none) = _
   have hfl : (s.In.filter fun m => ieq m.To (v : Int)).length ≤ 500 := Nat.le_trans (List.length_filter_le _ _) hl
   rw [i1, cT, i2, bS, a1, cT, i3, cT, i4, bS, a2, cT, F48_in (K := K) s p (vs.map Int.ofNat) a b i _ _ (v : Int) j1 j2 om om m om, bS,
    ih (i + 1) _ _ _ n2 (by simp [appL]; omega) (by simp [appL]; omega) (by simp only [List.length_append]; omega)]
   simp [appL]
 have := hw vs 0 [] [] [] rfl (by simp; omega) (by simp; omega) (by simp; omega)
 rw [List.drop_zero, this] at h
 simpa using h
theorem flat_filter {g : GGraph} {j : GJob} (hp : 1 ≤ j.Parts) {s : GState} (hs : s.In.Pairwise fun a b => a.To < b.To) (hr : ∀ m ∈ s.In, 0 ≤ m.To ∧ m.To < g.N) (p : Int) :
 ((vertsS g j p).flatMap fun (v : Nat) => s.In.filter fun m => ieq m.To (v : Int)) = s.In.filter fun m => ieq (m.To % j.Parts) p := by
 refine sorted_ext (lt := fun a b : GMsg => a.To < b.To) (fun a b h => by omega) ?_ (hs.filter _) fun m => ?_
 · refine List.pairwise_flatMap.2 ⟨fun v _ => hs.filter _, ?_⟩
   have hv : (vertsS g j p).Pairwise (· < ·) := by
    unfold vertsS vertsN
    exact List.pairwise_lt_range.filter _
   refine hv.imp fun {a b} hab x hx y hy => ?_
   have h1 := ieq_iff.1 (List.mem_filter.1 hx).2
   have h2 := ieq_iff.1 (List.mem_filter.1 hy).2
   omega
 · simp only [List.mem_flatMap, List.mem_filter, ieq_iff]
   constructor
   · rintro ⟨v, hv, hm, e⟩
     have := (mem_verts hp).1 hv
     exact ⟨hm, by rw [e]; exact this.2⟩
   · rintro ⟨hm, e⟩
     obtain ⟨h0, h1⟩ := hr m hm
     obtain ⟨v, hv⟩ := Int.eq_ofNat_of_zero_le h0
     exact ⟨v, (mem_verts hp).2 ⟨by omega, by rw [← hv]; exact e⟩, hm, hv⟩
theorem F48_spec {K : Nat} (hK : 1000 ≤ K) {g : GGraph} {j : GJob} {s : GState} (h : stRight g j s = true) (p : Int) : F48 K g j s p = some (cutS g j s p) := by
 obtain ⟨hc, s1, s2, s3, s4, s5⟩ := stRight_ok h
 obtain ⟨hg, p1, p2, p3, p4, p5, p6, p7, p8⟩ := jcheck_ok hc
 obtain ⟨g1, g2, _, _⟩ := gcheck_ok hg
 obtain ⟨q1, q2⟩ := inSt_ok s5
 have hlen := inSt_len s5 om
 have hvl := verts_len g j g2 p
 rw [F48, F39_spec om p7 p8 g2, bS, F48_loop s p (vertsS g j p) om hK (fun v hv => by have := (mem_verts p7).1 hv; omega) om, bS]
 rw [flat_filter p7 q1 (fun m hm => by have := q2 m hm; omega)]; rfl
theorem F21_loop {K : Nat} (hK : 1000 ≤ K) (g : GGraph) (j : GJob) (s : GState) (h : stRight g j s = true) : F21_l0_0 K g j s K [] 0 = some (splitS g j s) := by
 obtain ⟨hc, s1, s2, s3, s4, s5⟩ := stRight_ok h
 obtain ⟨hg, p1, p2, p3, p4, p5, p6, p7, p8⟩ := jcheck_ok hc
 let step : Nat → List GPart → (List GPart → Option (List GPart)) → Option (List GPart) := fun i out c =>
  (F48 K g j s (i : Int)).bind fun r => bif (apok (len out) 1 88) then c (appL out [r]) else none
 have hs := scanN (N := j.Parts) (L := fun k a i => F21_l0_0 K g j s k a i) step (fun a => some a) (fun k s i _ => rfl) om (K := K) om []
 have hw : ∀ (l : List Nat) (out : List GPart), out.length + l.length ≤ 100 → goL step (fun a => some a) l out = some (out ++ l.map fun (p : Nat) => cutS g j s (p : Int)) := by
  intro l
  induction l with
  | nil => intro out _; simp [goL]
  | cons p l ih =>
   intro out ho
   simp only [List.length_cons] at ho
   have ap : apok (len out) 1 88 = true := decide_eq_true ⟨by show out.length + 1 ≤ _; omega, by show (out.length + 1) * 88 ≤ _; omega⟩
   rw [goL]
   show ((F48 K g j s (p : Int)).bind fun r => bif (apok (len out) 1 88) then goL step (fun a => some a) l (appL out [r]) else none) = _
   rw [F48_spec hK h, bS, ap, cT, ih _ (by simp [appL]; omega)]
   simp [appL]
 rw [hw _ [] (by simp; omega)] at hs
 exact hs
theorem F21_spec {K : Nat} (hK : 1000 ≤ K) (g : GGraph) (j : GJob) (s : GState) (hl : s.In.length < 1000) : F21 K g j s = some (splitR g j s) := by
 rw [F21, F19_spec om, bS, splitR]
 cases hc : ieq (jcheck g j) 0
 · rfl
 · rw [cT, cT, F20_spec hK g j s om om, bS]
   cases hr : stRight g j s
   · rfl
   · rw [cT, cT, F21_loop hK g j s hr]; rfl
theorem partRight_ok {g : GGraph} {j : GJob} {x : GPart} (h : partRight g j x = true) : ieq (jcheck g j) 0 = true ∧ 0 ≤ x.P ∧ x.P < j.Parts ∧ 0 ≤ x.Step ∧ x.Step ≤ 40 ∧ (x.Vals.length : Int) = countS g j x.P ∧ (x.Rest.length : Int) = countS g j x.P ∧ inOkS g.N j.Parts x.P (-1) x.In = true := by
 simp only [partRight, Bool.and_eq_true, ile_iff, ilt_iff, ieq_iff] at h
 obtain ⟨h1, h2, h3, h4, h5, h6, h7, h8⟩ := h
 exact ⟨ieq_iff.2 h1, h2, h3, h4, h5, h6, h7, h8⟩
theorem inOkS_ok {n parts p : Int} : ∀ {l : List GMsg} {v : Int}, inOkS n parts p v l = true → l.Pairwise (fun a b => a.To < b.To) ∧ (∀ m ∈ l, v < m.To ∧ m.To < n ∧ m.To % parts = p)
 | [], v, _ => ⟨List.Pairwise.nil, fun m h => (nomatch h)⟩
 | m :: l, v, h => by
  simp only [inOkS, Bool.and_eq_true, ilt_iff, ieq_iff] at h
  obtain ⟨h1, h2, h3, h4⟩ := h
  obtain ⟨a, b⟩ := inOkS_ok h4
  refine ⟨List.pairwise_cons.2 ⟨fun x hx => (b x hx).1, a⟩, fun x hx => ?_⟩
  rcases List.mem_cons.1 hx with e | e
  · subst e; exact ⟨h1, h2, h3⟩
  · have := b x e; exact ⟨by omega, this.2⟩
theorem inOkS_mk {n parts p : Int} : ∀ {l : List GMsg} {v : Int}, l.Pairwise (fun a b => a.To < b.To) → (∀ m ∈ l, v < m.To ∧ m.To < n ∧ m.To % parts = p) → inOkS n parts p v l = true
 | [], _, _, _ => rfl
 | m :: l, v, h, hm => by
  obtain ⟨a, b⟩ := List.pairwise_cons.1 h
  have h1 := hm m List.mem_cons_self
  rw [inOkS, ilt_iff.2 h1.1, ilt_iff.2 h1.2.1, ieq_iff.2 h1.2.2]
  exact inOkS_mk b fun x hx => ⟨a x hx, (hm x (List.mem_cons_of_mem _ hx)).2⟩
def zeroP : GPart := GPart.mk 0 0 [] [] []
def takeOk (n parts p : Int) (l : List GMsg) : Bool := l.all fun m => ile 0 m.To && (ilt m.To n && ieq (m.To % parts) p)
def takeB (j : GJob) (x : GPart) (l : List GMsg) : GPart × Int := bif ieq (boxS j.Prog l).2 0 then (GPart.mk x.P x.Step x.Vals x.Rest (boxS j.Prog l).1, 0) else (zeroP, (boxS j.Prog l).2)
def takeS (g : GGraph) (j : GJob) (x : GPart) (l : List GMsg) : GPart × Int :=
 bif ieq (jcheck g j) 0 then (bif partRight g j x then (bif ieq (nlen (len x.In)) 0 then (bif takeOk g.N j.Parts x.P l then takeB j x l else (zeroP, 1)) else (zeroP, 1)) else (zeroP, 1)) else (zeroP, jcheck g j)
theorem takeOk_perm {n parts p : Int} {l l' : List GMsg} (h : l.Perm l') : takeOk n parts p l = takeOk n parts p l' := by
 rw [Bool.eq_iff_iff]
 simp only [takeOk, List.all_eq_true]
 exact ⟨fun q m hm => q m (h.mem_iff.2 hm), fun q m hm => q m (h.mem_iff.1 hm)⟩
theorem boxS_perm {p : Int} {l l' : List GMsg} (h : l.Perm l') : boxS p l = boxS p l' := by
 rw [boxS, boxS, sortM_congr h]
theorem F98_spec {K : Nat} (ls : List (List GMsg)) (h1 : ls.length < 10000) (h2 : ls.length < K) (h3 : (ls.flatten).length < 10000) (h4 : (ls.flatten).length < K) : F98 K ls = some (sortM ls.flatten) := by
 let step : List GMsg → List GMsg → (List GMsg → Option (List GMsg)) → Option (List GMsg) := fun x a c => bif (apok (len a) (len x) 16) then c (appL a x) else none
 have h := scanL (l := ls) (L := fun k s i => F98_l0_0 K ls k s i) step (fun s => some s) (fun k s i _ => rfl) om h2 []
 have hw : ∀ (r : List (List GMsg)) (a : List GMsg), a.length + r.flatten.length < 100000 → goL step (fun s => some s) r a = some (a ++ r.flatten) := by
  intro r
  induction r with
  | nil => intro a _; simp [goL]
  | cons x r ih =>
   intro a ha
   rw [List.flatten_cons, List.length_append] at ha
   rw [goL]
   show (bif (apok (len a) (len x) 16) then goL step (fun s => some s) r (appL a x) else none) = _
   have ap : apok (len a) (len x) 16 = true := decide_eq_true ⟨by show a.length + x.length ≤ _; omega, by show (a.length + x.length) * 16 ≤ _; omega⟩
   rw [ap, cT, ih _ (by simp only [appL, List.length_append]; omega)]; simp [appL]
 rw [hw ls [] (by simp only [List.length_nil]; omega), List.nil_append] at h
 have h' : F98_l0_0 K ls K [] 0 = some ls.flatten := h
 rw [F98, h', bS, F107_spec _ h4 h3]; rfl
theorem F62_loop {K : Nat} (g : GGraph) (j : GJob) (x : GPart) (l : List GMsg) (hp : 1 ≤ j.Parts) (h6 : j.Parts ≤ 6) (h0 : 0 ≤ x.P) (hl : l.length < 1000000) (hK : l.length < K) : F62_l0_0 K g j x l K 0 = some (sumU (takeOk g.N j.Parts x.P l)) := by
 let step : GMsg → Unit → (Unit → Option (Unit ⊕ Unit)) → Option (Unit ⊕ Unit) := fun m _ c =>
  bif (ile g.N m.To) then (some (.inl ())) else (F94 K j m.To).bind fun r => bif (ieq r x.P) then c () else some (.inl ())
 have h := scanL (l := l) (L := fun k (_ : Unit) i => F62_l0_0 K g j x l k i) step (fun _ => some (.inr ())) (fun k s i _ => rfl) om (K := K) hK ()
 have hw : ∀ (r : List GMsg), goL step (fun _ => some (.inr ())) r () = some (sumU (takeOk g.N j.Parts x.P r)) := by
  intro r
  induction r with
  | nil => rfl
  | cons m r ih =>
   rw [goL]
   show (bif (ile g.N m.To) then (some (.inl ())) else (F94 K j m.To).bind fun r' => bif (ieq r' x.P) then goL step (fun _ => some (.inr ())) r () else some (.inl ())) = _
   rw [F94_spec, ih, bS, not_ile, homeS, ilt_f.2 hp, ilt_f.2 h6, takeOk, takeOk, List.all_cons, ilt_not' m.To 0]
   cases h1 : ilt m.To g.N
   · cases ile 0 m.To <;> rfl
   · cases h2 : ile 0 m.To
     · rw [Bool.not_false, Bool.true_or, cT, ieq_f.2 (by omega : (-1 : Int) ≠ x.P)]; rfl
     · simp only [Bool.not_true, Bool.false_or, cF, Bool.true_and]
       cases ieq (m.To % j.Parts) x.P <;> rfl
 rw [hw] at h
 exact h
theorem sumU_bind {α : Type} (b : Bool) (x : Option α) (y : Option α) : (some (sumU b)).bind (fun z => Sum.elim (fun _ => x) (fun _ => y) z) = bif b then y else x := by cases b <;> rfl
theorem F62_spec {K : Nat} (hK : 1000 ≤ K) (g : GGraph) (j : GJob) (x : GPart) (ls : List (List GMsg)) (hp : i64 x.P) (hx : x.In.length ≤ 300) (hv : x.Vals.length ≤ 100) (hr : x.Rest.length ≤ 100)
 (h1 : ls.length < 1000) (h3 : (ls.flatten).length < 10000) (h4 : (ls.flatten).length < K) (hs : ∀ m ∈ ls.flatten, i64 m.V) : F62 K g j x ls = some (takeS g j x ls.flatten) := by
 rw [F62, F31_spec om, F91_spec hK g j x om om hp, bS, bS, takeS]
 cases hc : ieq (jcheck g j) 0
 · rfl
 · cases hR : partRight g j x
   · rfl
   · obtain ⟨_, p1, p2, _⟩ := partRight_ok hR
     obtain ⟨hg, _, _, _, _, _, _, p7, p8⟩ := jcheck_ok hc
     have hsl := sortM_len ls.flatten
     have e1 : ilt 0 (nlen (len x.In)) = !(ieq (nlen (len x.In)) 0) := by
      show ilt 0 (x.In.length : Int) = !(ieq (x.In.length : Int) 0)
      cases x.In.length with
      | zero => rfl
      | succ n => rw [ilt_iff.2 om, ieq_f.2 om]; rfl
     have ap1 : apok 0 (len x.Vals) 8 = true := decide_eq_true ⟨by show 0 + x.Vals.length ≤ _; omega, by show (0 + x.Vals.length) * 8 ≤ _; omega⟩
     have ap2 : apok 0 (len x.Rest) 1 = true := decide_eq_true ⟨by show 0 + x.Rest.length ≤ _; omega, by show (0 + x.Rest.length) * 1 ≤ _; omega⟩
     have hso : ∀ m ∈ sortM ls.flatten, i64 m.V := fun m hm => hs m ((sortM_perm _).mem_iff.1 hm)
     simp only [cT, e1, F98_spec ls (show ls.length < 10000 by omega) (show ls.length < K by omega) h3 h4, bS]
     rw [F62_loop g j x _ p7 p8 p1 om om, F95_spec j.Prog (sortM ls.flatten) hso om om, sumU_bind, F99, ap1, ap2, takeOk_perm (sortM_perm ls.flatten), boxS_perm (sortM_perm ls.flatten)]
     cases ieq (nlen (len x.In)) 0
     · rfl
     · cases takeOk g.N j.Parts x.P ls.flatten
       · rfl
       · rw [takeB]
         simp only [cT, bS, Bool.not_true, cF]
         cases ieq (boxS j.Prog ls.flatten).2 0 <;> rfl
theorem u_add {a b : Int} (h : 0 ≤ a + b) (h2 : a + b < 18446744073709551616) : wadd .u64 a b = a + b := by
 show IntKind.u64.wrap (a + b) = _
 simp [IntKind.wrap, IntKind.signed, IntKind.bits]; omega
theorem u_mul {a b : Int} (h : 0 ≤ a * b) (h2 : a * b < 18446744073709551616) : wmul .u64 a b = a * b := by
 show IntKind.u64.wrap (a * b) = _
 simp only [IntKind.wrap, IntKind.signed, IntKind.bits, Bool.false_and]
 generalize a * b = t at *
 simp; omega
theorem u_quo {a : Int} (h : 0 ≤ a) (h2 : a < 18446744073709551616) : wquo .u64 a 4294967296 = a / 4294967296 := by
 show IntKind.u64.wrap (a.tdiv 4294967296) = _
 rw [Int.tdiv_eq_ediv_of_nonneg h]
 simp [IntKind.wrap, IntKind.signed, IntKind.bits]; omega
theorem u_rem {a : Int} (h : 0 ≤ a) : wrem a 4294967296 = a % 4294967296 := by
 show a.tmod 4294967296 = _
 exact Int.tmod_eq_emod_of_nonneg h
theorem F115_spec (K : Nat) {x b : Int} (hx : 0 ≤ x) (hx2 : x ≤ 9223372036854775808) (hb : 1 ≤ b) (hb2 : b ≤ 1000) :
 ∃ hi lo, F115 K x b = some (GA193.mk hi lo) ∧ hi * 18446744073709551616 + lo = x * b ∧ 0 ≤ lo ∧ lo < 18446744073709551616 ∧ 0 ≤ hi := by
 obtain ⟨u, hu⟩ : ∃ u, x / 4294967296 = u := ⟨_, rfl⟩
 obtain ⟨v, hv⟩ : ∃ v, x % 4294967296 = v := ⟨_, rfl⟩
 have hu0 : 0 ≤ u ∧ u ≤ 2147483648 := by omega
 have hv0 : 0 ≤ v ∧ v < 4294967296 := by omega
 have hxu : x = u * 4294967296 + v := by omega
 obtain ⟨P, hP⟩ : ∃ P, u * b = P := ⟨_, rfl⟩
 obtain ⟨Q, hQ⟩ : ∃ Q, v * b = Q := ⟨_, rfl⟩
 have hP0 : 0 ≤ P := hP ▸ Int.mul_nonneg hu0.1 om
 have hQ0 : 0 ≤ Q := hQ ▸ Int.mul_nonneg hv0.1 om
 have hP1 : P ≤ 2147483648 * 1000 := hP ▸ Int.mul_le_mul hu0.2 hb2 om om
 have hQ1 : Q ≤ 4294967296 * 1000 := hQ ▸ Int.mul_le_mul om hb2 om om
 have hxb : x * b = P * 4294967296 + Q := by rw [hxu, Int.add_mul, hQ, ← hP, Int.mul_right_comm]
 have a1 : wquo .u64 x 4294967296 = u := by rw [u_quo hx om, hu]
 have a2 : wquo .u64 b 4294967296 = 0 := by rw [u_quo om om]; omega
 have a3 : wrem x 4294967296 = v := by rw [u_rem hx, hv]
 have a4 : wrem b 4294967296 = b := by rw [u_rem om]; omega
 have b1 : wmul .u64 u 0 = 0 := by rw [u_mul om om]; omega
 have b2 : wmul .u64 u b = P := by rw [u_mul om om, hP]
 have b3 : wmul .u64 v 0 = 0 := by rw [u_mul om om]; omega
 have b4 : wmul .u64 v b = Q := by rw [u_mul om om, hQ]
 have c1 : wquo .u64 P 4294967296 = P / 4294967296 := u_quo hP0 om
 have c2 : wquo .u64 0 4294967296 = 0 := by rw [u_quo om om]; omega
 have c3 : wquo .u64 Q 4294967296 = Q / 4294967296 := u_quo hQ0 om
 have c4 : wrem P 4294967296 = P % 4294967296 := u_rem hP0
 have c5 : wrem 0 4294967296 = 0 := by rw [u_rem om]; omega
 have c6 : wrem Q 4294967296 = Q % 4294967296 := u_rem hQ0
 have d1 : wadd .u64 (Q / 4294967296) (P % 4294967296) = Q / 4294967296 + P % 4294967296 := u_add om om
 have d2 : wadd .u64 (Q / 4294967296 + P % 4294967296) 0 = Q / 4294967296 + P % 4294967296 := by rw [u_add om om]; omega
 have d3 : wquo .u64 (Q / 4294967296 + P % 4294967296) 4294967296 = (Q / 4294967296 + P % 4294967296) / 4294967296 := u_quo om om
 have d4 : wrem (Q / 4294967296 + P % 4294967296) 4294967296 = (Q / 4294967296 + P % 4294967296) % 4294967296 := u_rem om
 have d5 : wadd .u64 0 (P / 4294967296) = P / 4294967296 := by rw [u_add om om]; omega
 have d6 : wadd .u64 (P / 4294967296) 0 = P / 4294967296 := by rw [u_add om om]; omega
 have d7 : wadd .u64 (P / 4294967296) ((Q / 4294967296 + P % 4294967296) / 4294967296) = P / 4294967296 + (Q / 4294967296 + P % 4294967296) / 4294967296 := u_add om om
 have d8 : wmul .u64 ((Q / 4294967296 + P % 4294967296) % 4294967296) 4294967296 = (Q / 4294967296 + P % 4294967296) % 4294967296 * 4294967296 := u_mul om om
 have d9 : wadd .u64 ((Q / 4294967296 + P % 4294967296) % 4294967296 * 4294967296) (Q % 4294967296) = (Q / 4294967296 + P % 4294967296) % 4294967296 * 4294967296 + Q % 4294967296 := u_add om om
 refine ⟨P / 4294967296 + (Q / 4294967296 + P % 4294967296) / 4294967296, (Q / 4294967296 + P % 4294967296) % 4294967296 * 4294967296 + Q % 4294967296, ?_, ?_, by omega, by omega, by omega⟩
 · rw [F115, a1, a2, a3, a4, b1, b2, b3, b4, c1, c2, c3, c4, c5, c6, d1, d2, d3, d4, d5, d6, d7, d8, d9]
 · rw [hxb]; omega
theorem F116_spec (K : Nat) {a : Int} (ha : i64 a) : F116 K a = some (bif ilt a 0 then -a else a) := by
 unfold i64 at ha
 rw [F116]
 cases h : ilt a 0
 · have := ilt_f.1 h
   have e : wconv .u64 a = a := by
    show IntKind.u64.wrap a = _
    simp [IntKind.wrap, IntKind.signed, IntKind.bits]; omega
   rw [e]; rfl
 · have := ilt_iff.1 h
   have e1 : wadd .i64 a 1 = a + 1 := wadd_i64 (by unfold i64; omega)
   have e2 : wneg .i64 (a + 1) = -(a + 1) := by
    show IntKind.i64.wrap (0 - (a + 1)) = _
    rw [IntKind.wrap_i64]; omega
   have e3 : wconv .u64 (-(a + 1)) = -(a + 1) := by
    show IntKind.u64.wrap _ = _
    simp [IntKind.wrap, IntKind.signed, IntKind.bits]; omega
   have e4 : wadd .u64 (-(a + 1)) 1 = -a := by rw [u_add om om]; omega
   rw [e1, e2, e3, e4]; rfl
def mulS (a b : Int) : Int × Bool := bif fitsB (a * b) then (a * b, true) else (0, false)
theorem F114_spec (K : Nat) {a b : Int} (ha : i64 a) (hb : 1 ≤ b) (hb2 : b ≤ 1000) : F114 K a b = some (mulS a b) := by
 have hb0 : ilt b 0 = false := ilt_f.2 om
 have h175 : F116 K b = some b := by rw [F116_spec K (by unfold i64; omega), hb0]; rfl
 have hconv : ∀ n : Int, 0 ≤ n → n ≤ 9223372036854775807 → wconv .i64 n = n := fun n h1 h2 => by
  show IntKind.i64.wrap n = _
  rw [IntKind.wrap_i64]; omega
 rw [F114, F116_spec K ha, h175, mulS, hb0]
 unfold i64 at ha
 cases h : ilt a 0
 · have hn := ilt_f.1 h
   obtain ⟨hi, lo, e, h1, h2, h3, h4⟩ := F115_spec K hn om hb hb2
   simp only [bS, cF, e]
   cases c1 : ilt 0 hi
   · have c1' := ilt_f.1 c1
     cases c2 : ilt 9223372036854775808 lo
     · have c2' := ilt_f.1 c2
       cases c3 : ieq lo 9223372036854775808
       · have c3' := ieq_f.1 c3
         have hf : fitsB (a * b) = true := fitsB_iff.2 (by unfold i64; omega)
         have : lo = a * b := by omega
         rw [hf, hconv lo h2 om, this]; rfl
       · have c3' := ieq_iff.1 c3
         have hf : fitsB (a * b) = false := fitsB_f.2 om
         rw [hf]; rfl
     · have c2' := ilt_iff.1 c2
       have hf : fitsB (a * b) = false := fitsB_f.2 om
       rw [hf]; rfl
   · have c1' := ilt_iff.1 c1
     have hf : fitsB (a * b) = false := fitsB_f.2 om
     rw [hf]; rfl
 · have hn := ilt_iff.1 h
   obtain ⟨hi, lo, e, h1, h2, h3, h4⟩ := F115_spec K (x := -a) om om hb hb2
   rw [Int.neg_mul] at h1
   simp only [bS, cT, e]
   cases c1 : ilt 0 hi
   · have c1' := ilt_f.1 c1
     cases c2 : ilt 9223372036854775808 lo
     · have c2' := ilt_f.1 c2
       cases c3 : ieq lo 9223372036854775808
       · have c3' := ieq_f.1 c3
         have hf : fitsB (a * b) = true := fitsB_iff.2 (by unfold i64; omega)
         have hw : wneg .i64 lo = a * b := by
          show IntKind.i64.wrap (0 - lo) = _
          rw [IntKind.wrap_i64]; omega
         rw [hf, hconv lo h2 om, hw]; rfl
       · have c3' := ieq_iff.1 c3
         have hf : fitsB (a * b) = true := fitsB_iff.2 (by unfold i64; omega)
         have : a * b = -9223372036854775808 := by omega
         rw [hf, this]; rfl
     · have c2' := ilt_iff.1 c2
       have hf : fitsB (a * b) = false := fitsB_f.2 om
       rw [hf]; rfl
   · have c1' := ilt_iff.1 c1
     have hf : fitsB (a * b) = false := fitsB_f.2 om
     rw [hf]; rfl
theorem tdiv_i64 {a d : Int} (ha : i64 a) (hd : 1 ≤ d) : wquo .i64 a d = a.tdiv d ∧ i64 (a.tdiv d) := by
 unfold i64 at ha
 have h1 : (a.tdiv d).natAbs ≤ a.natAbs := Int.natAbs_tdiv_le_natAbs a d
 have h2 : -9223372036854775808 ≤ a.tdiv d ∧ a.tdiv d ≤ 9223372036854775808 := by omega
 have h3 : 0 ≤ a → 0 ≤ a.tdiv d := fun h => Int.tdiv_nonneg h om
 have h4 : a ≤ 0 → a.tdiv d ≤ 0 := fun h => by
  have := Int.tdiv_nonneg (show 0 ≤ -a by omega) (show 0 ≤ d by omega)
  rw [Int.neg_tdiv] at this; omega
 have h5 : i64 (a.tdiv d) := by
  unfold i64
  rcases Int.le_total 0 a with h | h
  · have := h3 h; omega
  · have := h4 h; omega
 refine ⟨?_, h5⟩
 unfold i64 at h5
 show IntKind.i64.wrap (a.tdiv d) = _
 rw [IntKind.wrap_i64]; omega
theorem F109_spec (K : Nat) {a b : Int} (ha : i64 a) (hb : 1 ≤ b) (hb2 : b ≤ 1000) : F109 K a b = some (mulS a b) := by
 unfold i64 at ha
 rw [F109, mulS, ieq_f.2 (by omega : b ≠ 0), ieq_f.2 (by omega : b ≠ -1)]
 cases h0 : ieq a 0
 · have h0' := ieq_f.1 h0
   cases h1 : ieq a (-1)
   · have hz : izero b = false := decide_eq_false om
     simp only [cF, hz]
     obtain ⟨t, ht⟩ : ∃ t, a * b = t := ⟨_, rfl⟩
     obtain ⟨p, hp⟩ : ∃ p, wmul .i64 a b = p := ⟨_, rfl⟩
     have hp' : p = if 9223372036854775808 ≤ t % 18446744073709551616 then t % 18446744073709551616 - 18446744073709551616 else t % 18446744073709551616 := by
      rw [← hp, ← ht]
      show IntKind.i64.wrap (a * b) = _
      rw [IntKind.wrap_i64, ht]
      split <;> omega
     have hpr : -9223372036854775808 ≤ p ∧ p ≤ 9223372036854775807 := by rw [hp']; split <;> omega
     obtain ⟨q, hq⟩ : ∃ q, p.tdiv b = q := ⟨_, rfl⟩
     obtain ⟨r, hr⟩ : ∃ r, p.tmod b = r := ⟨_, rfl⟩
     have hdiv : b * q + r = p := by rw [← hq, ← hr]; exact Int.mul_tdiv_add_tmod p b
     have hrb : -1000 < r ∧ r < 1000 := by
      have h1 := Int.tmod_lt_of_pos p (show 0 < b by omega)
      have h2 := Int.lt_tmod_of_pos p (show 0 < b by omega)
      omega
     have hqr : -9223372036854775808 ≤ q ∧ q ≤ 9223372036854775807 := by
      have : i64 (p.tdiv b) := (tdiv_i64 (show i64 p from hpr) hb).2
      unfold i64 at this
      rw [hq] at this; exact this
     have hw : wquo .i64 p b = q := by rw [(tdiv_i64 (show i64 p from hpr) hb).1, hq]
     rw [hp, hw, ht]
     cases hf : fitsB t
     · have hf' := fitsB_f.1 hf
       have hne : ieq q a = false := ieq_f.2 fun hc => by
        have hba : b * q = t := by rw [hc, Int.mul_comm]; exact ht
        rw [hba] at hdiv
        have := hp'
        split at this <;> omega
       rw [hne]; rfl
     · have hf' := fitsB_iff.1 hf
       unfold i64 at hf'
       have hpt : p = t := by rw [hp']; split <;> omega
       have hqa : q = a := by
        rw [← hq, hpt, ← ht]
        exact Int.mul_tdiv_cancel a om
       rw [hqa, ieq_refl, hpt]; rfl
   · have h1' := ieq_iff.1 h1
     subst h1'
     have e1 : ieq (-1) (-9223372036854775808) = false := rfl
     have e2 : ieq b (-9223372036854775808) = false := ieq_f.2 om
     have e3 : fitsB (-1 * b) = true := fitsB_iff.2 (by unfold i64; omega)
     have e4 : wmul .i64 (-1) b = -1 * b := wmul_ok (by unfold i64; omega)
     rw [e1, e2, e3, e4]; rfl
 · have h0' := ieq_iff.1 h0
   subst h0'
   have e3 : fitsB (0 * b) = true := fitsB_iff.2 (by unfold i64; omega)
   rw [e3, Int.zero_mul]; rfl
def ratioS (v n d : Int) : Int × Bool := bif ilt d 1 then (0, false) else bif (mulS v n).2 then ((mulS v n).1.tdiv d, true) else (0, false)
theorem mulS_i64 {a b : Int} : i64 (mulS a b).1 := by
 rw [mulS]
 cases h : fitsB (a * b)
 · unfold i64; simp
 · exact fitsB_iff.1 h
theorem ratioS_i64 {v n d : Int} : i64 (ratioS v n d).1 := by
 have h0 : i64 0 := by unfold i64; omega
 rw [ratioS]
 cases hd : ilt d 1
 · cases (mulS v n).2
   · exact h0
   · exact (tdiv_i64 mulS_i64 (ilt_f.1 hd)).2
 · exact h0
theorem F111_spec (K : Nat) {v n : Int} (d : Int) (hv : i64 v) (hn : 1 ≤ n) (hn2 : n ≤ 1000) : F111 K v n d = some (ratioS v n d) := by
 rw [F111, F114_spec K hv hn hn2, bS, ratioS]
 cases hd : ilt d 1
 · have hd' := ilt_f.1 hd
   have hz : izero d = false := decide_eq_false om
   rw [(tdiv_i64 (mulS_i64 (a := v) (b := n)) hd').1, hz]
   cases (mulS v n).2 <;> rfl
 · cases (mulS v n).2 <;> rfl
theorem F101_spec (K : Nat) {v n : Int} (d : Int) (hv : i64 v) (hn : 1 ≤ n) (hn2 : n ≤ 1000) : F101 K v n d = some (ratioS v n d) := by
 rw [F101, F109_spec K hv hn hn2, ratioS]
 cases hd : ilt d 1
 · have hd' := ilt_f.1 hd
   have hz : izero d = false := decide_eq_false om
   rw [cF, cF, bS, (tdiv_i64 (mulS_i64 (a := v) (b := n)) hd').1, hz]
   cases (mulS v n).2 <;> rfl
 · rfl
def sumS (got : Int) : Int × Bool := bif (ratioS got 85 100).2 then addS 150000 (ratioS got 85 100).1 else (0, false)
theorem addS_i64 {a b : Int} : i64 (addS a b).1 := by
 rw [addS]
 cases h : fitsB (a + b)
 · unfold i64; simp
 · exact fitsB_iff.1 h
theorem sumS_i64 {got : Int} : i64 (sumS got).1 := by
 rw [sumS]
 cases (ratioS got 85 100).2
 · unfold i64; simp
 · exact addS_i64
def outs (g : GGraph) (v : Int) : List GEdge := bif ieq (gcheck g) 0 then g.Edges.filter (fun e => ieq e.From v) else []
theorem out_go (l : List GEdge) (v : Int) : ∀ (s : List GEdge), s.length + l.length ≤ 80 →
 goL (fun x (s : List GEdge) c => bif (ieq x.From v) then (bif (apok (len s) 1 24) then c (appL s [x]) else none) else c s) (fun s => some s) l s = some (s ++ l.filter (fun e => ieq e.From v)) := by
 induction l with
 | nil => intro s _; simp [goL]
 | cons x l ih =>
  intro s hs
  simp only [List.length_cons] at hs
  rw [goL]
  cases hx : ieq x.From v
  · rw [cF, ih s om, List.filter_cons, hx]; rfl
  · have ha : apok (len s) 1 24 = true := decide_eq_true ⟨by show s.length + 1 ≤ _; omega, by show (s.length + 1) * 24 ≤ _; omega⟩
    rw [cT, ha, cT, ih _ (by simp [appL]; omega), List.filter_cons, hx]
    simp [appL]
theorem F104_spec {K : Nat} (hK : 100 ≤ K) (g : GGraph) (v : Int) : F104 K g v = some (outs g v) := by
 rw [F104, F56_spec hK, bS, outs]
 cases hc : ieq (gcheck g) 0
 · rfl
 · obtain ⟨h1, h2, h3, h4⟩ := gcheck_ok hc
   have e : F104_l0_0 K g v K [] 0 = _ := scanL (l := g.Edges) (L := fun k s i => F104_l0_0 K g v k s i) (fun x (s : List GEdge) c => bif (ieq x.From v) then (bif (apok (len s) 1 24) then c (appL s [x]) else none) else c s) (fun s => some s) (fun k s i _ => rfl) om om []
   rw [cT, cT, e, out_go _ _ _ (by simpa using h3)]; rfl
theorem outs_len {g : GGraph} {v : Int} : (outs g v).length ≤ 80 := by
 rw [outs]
 cases hc : ieq (gcheck g) 0
 · simp
 · obtain ⟨h1, h2, h3, h4⟩ := gcheck_ok hc
   exact Nat.le_trans (List.length_filter_le _ _) h3
def sendS (p val : Int) (e : GEdge) (many : Int) : Int × Bool := bif ieq p 1 then addS val e.W else bif ieq p 3 then addS val 1 else bif ieq p 5 then ratioS val 1 many else (val, true)
def sendA (p val many : Int) : List GEdge → List GMsg → Option (List GMsg)
 | [], s => some s
 | e :: l, s => bif (sendS p val e many).2 then sendA p val many l (s ++ [GMsg.mk e.To (sendS p val e many).1]) else none
def sumO {α : Type} : Option α → Unit ⊕ α
 | none => .inl ()
 | some s => .inr s
def sendO (rest : Bool) (val : Int) : Option (List GMsg) → Int × List GMsg × Bool × Int
 | none => (0, [], false, 8)
 | some s => (val, s, rest, 0)
theorem sum_elim (rest : Bool) (val : Int) (o : Option (List GMsg)) : (some (sumO o)).bind (fun y => Sum.elim (fun w => some ((0, ([], (false, 8))) : Int × List GMsg × Bool × Int)) (fun w => some (val, (w, (rest, 0)))) y) = some (sendO rest val o) := by
 cases o <;> rfl
theorem sum_elim' (rest : Bool) (val : Int) (o : Option (List GMsg)) : Sum.elim (fun w => some ((0, ([], (false, 8))) : Int × List GMsg × Bool × Int)) (fun w => some (val, (w, (rest, 0)))) (sumO o) = some (sendO rest val o) := by
 cases o <;> rfl
theorem send_go (p val many : Int) (f : GEdge → Option (Int × Bool)) (l : List GEdge) (hf : ∀ e ∈ l, f e = some (sendS p val e many)) : ∀ (s : List GMsg), s.length + l.length ≤ 80 →
 goL (fun e (s : List GMsg) c => (f e).bind fun r => bif r.2 then (bif (apok (len s) 1 16) then c (appL s [(GMsg.mk e.To r.1)]) else none) else some (.inl ())) (fun s => some (.inr s)) l s = some (sumO (sendA p val many l s)) := by
 induction l with
 | nil => intro s _; rfl
 | cons x l ih =>
  intro s hs
  simp only [List.length_cons] at hs
  rw [goL, hf x List.mem_cons_self, bS, sendA]
  cases (sendS p val x many).2
  · rfl
  · have ha : apok (len s) 1 16 = true := decide_eq_true ⟨by show s.length + 1 ≤ _; omega, by show (s.length + 1) * 16 ≤ _; omega⟩
    rw [cT, ha, cT, ih (fun e he => hf e (List.mem_cons_of_mem _ he)) _ (by simp [appL]; omega), cT]; rfl
theorem outs_W {g : GGraph} {v : Int} {e : GEdge} (h : e ∈ outs g v) : 0 ≤ e.W ∧ e.W ≤ 4611686018427387904 := by
 rw [outs] at h
 cases hc : ieq (gcheck g) 0
 · rw [hc] at h; cases h
 · obtain ⟨h1, h2, h3, h4⟩ := gcheck_ok hc
   rw [hc] at h
   have := badE_ok (gchk_mem h4 e (List.mem_filter.1 h).1)
   omega
theorem F83_spec (K : Nat) {val : Int} {e : GEdge} (many : Int) (hv : i64 val) (he : i64 e.W) : F83 K val e = some (sendS 1 val e many) := by
 rw [F83, F84_spec K hv he]; rfl
theorem F85_spec (K : Nat) {val : Int} (e : GEdge) (many : Int) (hv : i64 val) : F85 K val e = some (sendS 3 val e many) := by
 rw [F85, F84_spec K hv (by unfold i64; omega)]; rfl
theorem F76_spec (K : Nat) (p : Int) {val many : Int} {e : GEdge} (hv : i64 val) (he : i64 e.W) : F76 K p val e many = some (sendS p val e many) := by
 rw [F76, sendS, F102_spec K hv he, F102_spec K hv (show i64 1 by unfold i64; omega), F101_spec K many hv (show (1 : Int) ≤ 1 by omega) (show (1 : Int) ≤ 1000 by omega)]
 cases ieq p 1 <;> cases ieq p 3 <;> cases ieq p 5 <;> rfl
def manyO (g : GGraph) (v : Int) : Int := nlen (len (outs g v))
section loops
variable {K : Nat} (hK : 100 ≤ K) (g : GGraph) (v : Int) {val : Int} (hv : i64 val)
include hK hv
theorem loop99_0 (b : Bool) : F93_l0_0 K val b (outs g v) K [] 0 = some (sumO (sendA 1 val (manyO g v) (outs g v) [])) := by
 have hl := outs_len (g := g) (v := v)
 have e := scanL (l := outs g v) (L := fun k s i => F93_l0_0 K val b (outs g v) k s i) (fun e (s : List GMsg) c => (F83 K val e).bind fun r => bif r.2 then (bif (apok (len s) 1 16) then c (appL s [(GMsg.mk e.To r.1)]) else none) else some (.inl ())) (fun s => some (.inr s)) (fun k s i _ => rfl) (K := K) om om []
 exact e.trans (send_go 1 val (manyO g v) (F83 K val) _ (fun e he => F83_spec K _ hv (by have := outs_W he; unfold i64; omega)) [] (by simpa using hl))
theorem loop99_1 (b : Bool) : F93_l0_1 K val b (outs g v) K [] 0 = some (sumO (sendA 3 val (manyO g v) (outs g v) [])) := by
 have hl := outs_len (g := g) (v := v)
 have e := scanL (l := outs g v) (L := fun k s i => F93_l0_1 K val b (outs g v) k s i) (fun e (s : List GMsg) c => (F85 K val e).bind fun r => bif r.2 then (bif (apok (len s) 1 16) then c (appL s [(GMsg.mk e.To r.1)]) else none) else some (.inl ())) (fun s => some (.inr s)) (fun k s i _ => rfl) (K := K) om om []
 exact e.trans (send_go 3 val (manyO g v) (F85 K val) _ (fun e he => F85_spec K e _ hv) [] (by simpa using hl))
omit hv in
theorem loop99_2 (val : Int) (b : Bool) : F93_l0_2 K val b (outs g v) K [] 0 = some (sumO (sendA 2 val (manyO g v) (outs g v) [])) := by
 have hl := outs_len (g := g) (v := v)
 have e := scanL (l := outs g v) (L := fun k s i => F93_l0_2 K val b (outs g v) k s i) (fun e (s : List GMsg) c => (F87 K val e).bind fun r => bif r.2 then (bif (apok (len s) 1 16) then c (appL s [(GMsg.mk e.To r.1)]) else none) else some (.inl ())) (fun s => some (.inr s)) (fun k s i _ => rfl) (K := K) om om []
 exact e.trans (send_go 2 val (manyO g v) (F87 K val) _ (fun e he => rfl) [] (by simpa using hl))
omit hv in
theorem loop99_3 (val : Int) (b : Bool) : F93_l0_3 K val b (outs g v) K [] 0 = some (sumO (sendA 4 val (manyO g v) (outs g v) [])) := by
 have hl := outs_len (g := g) (v := v)
 have e := scanL (l := outs g v) (L := fun k s i => F93_l0_3 K val b (outs g v) k s i) (fun e (s : List GMsg) c => (F87 K val e).bind fun r => bif r.2 then (bif (apok (len s) 1 16) then c (appL s [(GMsg.mk e.To r.1)]) else none) else some (.inl ())) (fun s => some (.inr s)) (fun k s i _ => rfl) (K := K) om om []
 exact e.trans (send_go 4 val (manyO g v) (F87 K val) _ (fun e he => rfl) [] (by simpa using hl))
theorem loop146 : F105_l0_0 K (outs g v) val K [] 0 = some (sumO (sendA 5 val (manyO g v) (outs g v) [])) := by
 have hl := outs_len (g := g) (v := v)
 have e := scanL (l := outs g v) (L := fun k s i => F105_l0_0 K (outs g v) val k s i) (fun e (s : List GMsg) c => (F111 K val 1 (nlen (len (outs g v)))).bind fun r => bif r.2 then (bif (apok (len s) 1 16) then c (appL s [(GMsg.mk e.To r.1)]) else none) else some (.inl ())) (fun s => some (.inr s)) (fun k s i _ => rfl) (K := K) om om []
 exact e.trans (send_go 5 val (manyO g v) (fun _ => F111 K val 1 (nlen (len (outs g v)))) _ (fun e he => F111_spec K _ hv om om) [] (by simpa using hl))
theorem loop100_1 (p a b c : Int) : F50_l0_1 K val p a b c (outs g v) K [] 0 = some (sumO (sendA p val (manyO g v) (outs g v) [])) := by
 have hl := outs_len (g := g) (v := v)
 have e := scanL (l := outs g v) (L := fun k s i => F50_l0_1 K val p a b c (outs g v) k s i) (fun e (s : List GMsg) c => (F76 K p val e (nlen (len (outs g v)))).bind fun r => bif r.2 then (bif (apok (len s) 1 16) then c (appL s [(GMsg.mk e.To r.1)]) else none) else some (.inl ())) (fun s => some (.inr s)) (fun k s i _ => rfl) (K := K) om om []
 exact e.trans (send_go p val (manyO g v) (fun e => F76 K p val e (nlen (len (outs g v)))) _ (fun e he => F76_spec K p hv (by have := outs_W he; unfold i64; omega)) [] (by simpa using hl))
theorem loop100_0 (p a b c : Int) (m : Bool) : F50_l0_0 K val p a b c m (outs g v) K [] 0 = some (bif m then sumO (sendA p val (manyO g v) (outs g v) []) else .inr []) := by
 have hl := outs_len (g := g) (v := v)
 cases m
 · obtain ⟨k, rfl⟩ : ∃ k, K = k + 1 := ⟨K - 1, by omega⟩
   rw [F50_l0_0]
   cases ilt 0 (nlen (len (outs g v))) <;> rfl
 · have e := scanL (l := outs g v) (L := fun k s i => F50_l0_0 K val p a b c true (outs g v) k s i) (fun e (s : List GMsg) c => (F76 K p val e (nlen (len (outs g v)))).bind fun r => bif r.2 then (bif (apok (len s) 1 16) then c (appL s [(GMsg.mk e.To r.1)]) else none) else some (.inl ())) (fun s => some (.inr s)) (fun k s i _ => rfl) (K := K) om om []
   exact e.trans (send_go p val (manyO g v) (fun e => F76 K p val e (nlen (len (outs g v)))) _ (fun e he => F76_spec K p hv (by have := outs_W he; unfold i64; omega)) [] (by simpa using hl))
theorem loop100_2 (p a b c : Int) (m : Bool) : F50_l0_2 K val p a b c m (outs g v) K [] 0 = some (bif m then sumO (sendA p val (manyO g v) (outs g v) []) else .inr []) := by
 have hl := outs_len (g := g) (v := v)
 cases m
 · obtain ⟨k, rfl⟩ : ∃ k, K = k + 1 := ⟨K - 1, by omega⟩
   rw [F50_l0_2]
   cases ilt 0 (nlen (len (outs g v))) <;> rfl
 · have e := scanL (l := outs g v) (L := fun k s i => F50_l0_2 K val p a b c true (outs g v) k s i) (fun e (s : List GMsg) c => (F76 K p val e (nlen (len (outs g v)))).bind fun r => bif r.2 then (bif (apok (len s) 1 16) then c (appL s [(GMsg.mk e.To r.1)]) else none) else some (.inl ())) (fun s => some (.inr s)) (fun k s i _ => rfl) (K := K) om om []
   exact e.trans (send_go p val (manyO g v) (fun e => F76 K p val e (nlen (len (outs g v)))) _ (fun e he => F76_spec K p hv (by have := outs_W he; unfold i64; omega)) [] (by simpa using hl))
omit hv in
theorem loop100_3 (val p a b c : Int) : F50_l0_3 K val p a b c (outs g v) K [] 0 = some (.inl []) := by
 obtain ⟨k, rfl⟩ : ∃ k, K = k + 1 := ⟨K - 1, by omega⟩
 rw [F50_l0_3, ieq_refl]
 cases ilt 0 (nlen (len (outs g v))) <;> rfl
end loops
def rankW (step val got : Int) (sm : Bool) : Int × Bool := bif ilt 0 step then sumS (bif sm then got else 0) else (val, true)
def rankS (step : Int) (w : Int × Bool) (many : Int) (l : List GEdge) : Int × List GMsg × Bool × Int :=
 bif w.2 then (bif ile 10 step then (w.1, [], true, 0) else sendO false w.1 (sendA 5 w.1 many l [])) else (0, [], false, 8)
def turnV (p val got : Int) (sm : Bool) : Int := bif sm then (foldS p val got).1 else val
def turnM (p src step v val w : Int) : Bool := bif ieq step 0 && (bif ieq p 1 || ieq p 3 then ieq v src else true) then true else ine w val
def moveS (p : Int) (m : Bool) (w many : Int) (l : List GEdge) : Int × List GMsg × Bool × Int :=
 bif m then sendO true w (sendA p w many l []) else (w, [], true, 0)
def turnS (g : GGraph) (j : GJob) (step v val got : Int) (sm : Bool) : Int × List GMsg × Bool × Int :=
 bif ieq (jcheck g j) 0 then
  (bif ilt v 0 then (0, [], false, 4) else bif ile g.N v then (0, [], false, 4)
   else bif ilt step 0 then (0, [], false, 1) else bif ilt 40 step then (0, [], false, 1)
   else bif ieq j.Prog 5 then rankS step (rankW step val got sm) (manyO g v) (outs g v)
   else moveS j.Prog (turnM j.Prog j.Source step v val (turnV j.Prog val got sm)) (turnV j.Prog val got sm) (manyO g v) (outs g v))
 else (0, [], false, jcheck g j)
theorem F105_spec {K : Nat} (hK : 100 ≤ K) (g : GGraph) (v step : Int) {val got : Int} (hv : i64 val) (hg : i64 got) : F105 K (outs g v) step val got = some (rankS step (rankW step val got true) (manyO g v) (outs g v)) := by
 rw [F105, F111_spec K 100 hg om om, bS, F84_spec K (by unfold i64; omega) ratioS_i64, rankW, rankS]
 cases hs : ilt 0 step
 · rw [loop146 hK g v hv, sum_elim]
   cases ile 10 step <;> rfl
 · rw [cT, cT, bS, cT, sumS]
   cases (ratioS got 85 100).2
   · rfl
   · cases h2 : (addS 150000 (ratioS got 85 100).1).2
     · rw [cT, cT, h2]; rfl
     · rw [cT, cT, cT, h2, cT, loop146 hK g v addS_i64, sum_elim]
       cases ile 10 step <;> rfl
theorem F93_spec {K : Nat} (hK : 100 ≤ K) (g : GGraph) (j : GJob) (step v : Int) {val got : Int} (sm : Bool) (hv : i64 val) (hg : i64 got) : F93 K g j step v val got sm = some (turnS g j step v val got sm) := by
 rw [F93, F31_spec hK, bS, turnS]
 cases hc : ieq (jcheck g j) 0
 · rfl
 · obtain ⟨hgc, p1, p2, p3, p4, p5, p6, p7, p8⟩ := jcheck_ok hc
   rw [cT, cT]
   cases h1 : ilt v 0
   · cases h2 : ile g.N v
     · cases h3 : ilt step 0
       · cases h4 : ilt 40 step
         · simp only [cF]
           rcases prog_cases j.Prog with q | q | q | q | q | q
           · have e5 : ieq 1 5 = false := rfl
             have e4 : ieq 1 4 = false := rfl
             have e1 : ieq 1 1 = true := rfl
             have e3 : ieq 1 3 = false := rfl
             have eb : pbad 1 = false := rfl
             rw [F104_spec hK, q, F143_1, turnM, turnV, foldS, e5, e4, e1, e3, eb, moveS]
             simp only [bS, cT, cF, af_1_1, af_1_3, af_1_2, af_1_4, af_1_5, af_1_0, af_3_1, af_3_3, af_3_2, af_3_4, af_3_5, af_3_0, af_2_1, af_2_3, af_2_2, af_2_4, af_2_5, af_2_0, af_4_1, af_4_3, af_4_2, af_4_4, af_4_5, af_4_0, af_5_1, af_5_3, af_5_2, af_5_4, af_5_5, af_5_0, af_0_1, af_0_3, af_0_2, af_0_4, af_0_5, af_0_0, loop99_0 hK g v hv, loop99_0 hK g v hg, F82, sum_elim', Bool.or_true, Bool.true_or, Bool.or_false, Bool.and_true]
             cases sm
             · have : ine val val = false := ine_t (ieq_refl val)
               simp only [cF, this]
               cases ieq step 0 <;> cases ieq v j.Source <;> rfl
             · cases hb : ilt got val
               · have : ine val val = false := ine_t (ieq_refl val)
                 simp only [cT, cF, this]
                 cases ieq step 0 <;> cases ieq v j.Source <;> rfl
               · have : ine got val = true := ine_f (ieq_f.2 (by have := ilt_iff.1 hb; omega))
                 simp only [cT, cF, this]
                 cases ieq step 0 <;> cases ieq v j.Source <;> rfl
           · have e5 : ieq 2 5 = false := rfl
             have e4 : ieq 2 4 = false := rfl
             have e1 : ieq 2 1 = false := rfl
             have e3 : ieq 2 3 = false := rfl
             have eb : pbad 2 = false := rfl
             rw [F104_spec hK, q, F143_2, turnM, turnV, foldS, e5, e4, e1, e3, eb, moveS]
             simp only [bS, cT, cF, af_1_1, af_1_3, af_1_2, af_1_4, af_1_5, af_1_0, af_3_1, af_3_3, af_3_2, af_3_4, af_3_5, af_3_0, af_2_1, af_2_3, af_2_2, af_2_4, af_2_5, af_2_0, af_4_1, af_4_3, af_4_2, af_4_4, af_4_5, af_4_0, af_5_1, af_5_3, af_5_2, af_5_4, af_5_5, af_5_0, af_0_1, af_0_3, af_0_2, af_0_4, af_0_5, af_0_0, loop99_2 hK g v val, loop99_2 hK g v got, F82, sum_elim', Bool.or_true, Bool.true_or, Bool.or_false, Bool.and_true]
             cases sm
             · have : ine val val = false := ine_t (ieq_refl val)
               simp only [cF, this]
               cases ieq step 0 <;> rfl
             · cases hb : ilt got val
               · have : ine val val = false := ine_t (ieq_refl val)
                 simp only [cT, cF, this]
                 cases ieq step 0 <;> rfl
               · have : ine got val = true := ine_f (ieq_f.2 (by have := ilt_iff.1 hb; omega))
                 simp only [cT, cF, this]
                 cases ieq step 0 <;> rfl
           · have e5 : ieq 3 5 = false := rfl
             have e4 : ieq 3 4 = false := rfl
             have e1 : ieq 3 1 = false := rfl
             have e3 : ieq 3 3 = true := rfl
             have eb : pbad 3 = false := rfl
             rw [F104_spec hK, q, F143_3, turnM, turnV, foldS, e5, e4, e1, e3, eb, moveS]
             simp only [bS, cT, cF, af_1_1, af_1_3, af_1_2, af_1_4, af_1_5, af_1_0, af_3_1, af_3_3, af_3_2, af_3_4, af_3_5, af_3_0, af_2_1, af_2_3, af_2_2, af_2_4, af_2_5, af_2_0, af_4_1, af_4_3, af_4_2, af_4_4, af_4_5, af_4_0, af_5_1, af_5_3, af_5_2, af_5_4, af_5_5, af_5_0, af_0_1, af_0_3, af_0_2, af_0_4, af_0_5, af_0_0, loop99_1 hK g v hv, loop99_1 hK g v hg, F82, sum_elim', Bool.or_true, Bool.true_or, Bool.or_false, Bool.and_true]
             cases sm
             · have : ine val val = false := ine_t (ieq_refl val)
               simp only [cF, this]
               cases ieq step 0 <;> cases ieq v j.Source <;> rfl
             · cases hb : ilt got val
               · have : ine val val = false := ine_t (ieq_refl val)
                 simp only [cT, cF, this]
                 cases ieq step 0 <;> cases ieq v j.Source <;> rfl
               · have : ine got val = true := ine_f (ieq_f.2 (by have := ilt_iff.1 hb; omega))
                 simp only [cT, cF, this]
                 cases ieq step 0 <;> cases ieq v j.Source <;> rfl
           · have e5 : ieq 4 5 = false := rfl
             have e4 : ieq 4 4 = true := rfl
             have e1 : ieq 4 1 = false := rfl
             have e3 : ieq 4 3 = false := rfl
             have eb : pbad 4 = false := rfl
             rw [F104_spec hK, q, F143_4, turnM, turnV, foldS, e5, e4, e1, e3, eb, moveS]
             simp only [bS, cT, cF, af_1_1, af_1_3, af_1_2, af_1_4, af_1_5, af_1_0, af_3_1, af_3_3, af_3_2, af_3_4, af_3_5, af_3_0, af_2_1, af_2_3, af_2_2, af_2_4, af_2_5, af_2_0, af_4_1, af_4_3, af_4_2, af_4_4, af_4_5, af_4_0, af_5_1, af_5_3, af_5_2, af_5_4, af_5_5, af_5_0, af_0_1, af_0_3, af_0_2, af_0_4, af_0_5, af_0_0, loop99_3 hK g v val, loop99_3 hK g v got, F89, igt, sum_elim', Bool.or_true, Bool.true_or, Bool.or_false, Bool.and_true]
             have hd : decide (got > val) = ilt val got := rfl
             rw [hd]
             cases sm
             · have : ine val val = false := ine_t (ieq_refl val)
               simp only [cF, this]
               cases ieq step 0 <;> rfl
             · cases hb : ilt val got
               · have : ine val val = false := ine_t (ieq_refl val)
                 simp only [cT, cF, this]
                 cases ieq step 0 <;> rfl
               · have : ine got val = true := ine_f (ieq_f.2 (by have := ilt_iff.1 hb; omega))
                 simp only [cT, cF, this]
                 cases ieq step 0 <;> rfl
           · have e5 : ieq 5 5 = true := rfl
             rw [F104_spec hK, q, F143_5, e5]
             simp only [bS, cT, cF, af_1_1, af_1_3, af_1_2, af_1_4, af_1_5, af_1_0, af_3_1, af_3_3, af_3_2, af_3_4, af_3_5, af_3_0, af_2_1, af_2_3, af_2_2, af_2_4, af_2_5, af_2_0, af_4_1, af_4_3, af_4_2, af_4_4, af_4_5, af_4_0, af_5_1, af_5_3, af_5_2, af_5_4, af_5_5, af_5_0, af_0_1, af_0_3, af_0_2, af_0_4, af_0_5, af_0_0, F105_spec hK g v step hv hg, F105_spec hK g v step hv (show i64 0 by unfold i64; omega)]
             cases sm <;> rfl
           · omega
         · rfl
       · rfl
     · rfl
   · rfl
theorem sendA_To {p val many : Int} : ∀ {l : List GEdge} {s r : List GMsg}, sendA p val many l s = some r → r.map (·.To) = s.map (·.To) ++ l.map (·.To)
 | [], s, r, h => by injection h with h; subst h; simp
 | e :: l, s, r, h => by
  rw [sendA] at h
  cases hq : (sendS p val e many).2
  · rw [hq] at h; cases h
  · rw [hq, cT] at h
    rw [sendA_To h]; simp
theorem turn_out {g : GGraph} {j : GJob} {step v val got : Int} {sm : Bool} (h : ieq (turnS g j step v val got sm).2.2.2 0 = true) :
 (turnS g j step v val got sm).2.1 = [] ∨ ((turnS g j step v val got sm).2.1.map (·.To) = (outs g v).map (·.To)) := by
 have hs : ∀ (b : Bool) (w : Int) (p : Int), (sendO b w (sendA p w (manyO g v) (outs g v) [])).2.1 = [] ∨ (sendO b w (sendA p w (manyO g v) (outs g v) [])).2.1.map (·.To) = (outs g v).map (·.To) := fun b w p => by
  cases hq : sendA p w (manyO g v) (outs g v) []
  · left; rfl
  · right; have := sendA_To hq; simpa [sendO] using this
 rw [turnS]
 cases ieq (jcheck g j) 0
 · left; rfl
 · cases ilt v 0
   · cases ile g.N v
     · cases ilt step 0
       · cases ilt 40 step
         · simp only [cT, cF]
           cases ieq j.Prog 5
           · rw [cF, moveS]
             cases turnM j.Prog j.Source step v val (turnV j.Prog val got sm)
             · left; rfl
             · exact hs _ _ _
           · rw [cT, rankS]
             cases (rankW step val got sm).2
             · left; rfl
             · cases ile 10 step
               · exact hs _ _ _
               · left; rfl
         · left; rfl
       · left; rfl
     · left; rfl
   · left; rfl
theorem turn_bad {g : GGraph} {j : GJob} {step v val got : Int} {sm : Bool} (h : ieq (turnS g j step v val got sm).2.2.2 0 = false) : (turnS g j step v val got sm).1 = 0 ∧ (turnS g j step v val got sm).2.1 = [] := by
 have hs : ∀ (b : Bool) (w : Int) (o : Option (List GMsg)), ieq (sendO b w o).2.2.2 0 = false → (sendO b w o).1 = 0 ∧ (sendO b w o).2.1 = [] := fun b w o => by
  cases o
  · intro _; exact ⟨rfl, rfl⟩
  · intro h; cases h
 rw [turnS] at h ⊢
 cases hc : ieq (jcheck g j) 0
 · exact ⟨rfl, rfl⟩
 · rw [hc] at h
   cases h1 : ilt v 0
   · cases h2 : ile g.N v
     · cases h3 : ilt step 0
       · cases h4 : ilt 40 step
         · rw [h1, h2, h3, h4] at h
           simp only [cT, cF] at h ⊢
           cases h5 : ieq j.Prog 5
           · rw [h5, cF, moveS] at h
             rw [cF, moveS]
             cases hm : turnM j.Prog j.Source step v val (turnV j.Prog val got sm)
             · rw [hm] at h; cases h
             · rw [hm] at h; exact hs _ _ _ h
           · rw [h5, cT, rankS] at h
             rw [cT, rankS]
             cases hw : (rankW step val got sm).2
             · exact ⟨rfl, rfl⟩
             · rw [hw] at h
               cases h10 : ile 10 step
               · rw [h10] at h; exact hs _ _ _ h
               · rw [h10] at h; cases h
         · exact ⟨rfl, rfl⟩
       · exact ⟨rfl, rfl⟩
     · exact ⟨rfl, rfl⟩
   · exact ⟨rfl, rfl⟩
theorem turn_len {g : GGraph} {j : GJob} {step v val got : Int} {sm : Bool} : (turnS g j step v val got sm).2.1.length ≤ 80 := by
 have ho := outs_len (g := g) (v := v)
 cases h : ieq (turnS g j step v val got sm).2.2.2 0
 · rw [(turn_bad h).2]; simp
 · rcases turn_out h with hz | hz
   · rw [hz]; simp
   · have := congrArg List.length hz
     simp only [List.length_map] at this
     omega
abbrev Tri := List Int × List Bool × List GMsg
def niceS (s : GState) : Prop := (∀ v ∈ s.Vals, i64 v) ∧ (∀ m ∈ s.In, i64 m.V)
theorem wf_nice {s : GState} (h : WGState s) : niceS s := ⟨fun v hv => i64_wf (h.2.1.2 v hv), fun m hm => i64_wf ((h.2.2.2.1).2 m hm).2.1⟩
theorem sendS_i64 {p val many : Int} {e : GEdge} (hv : i64 val) : i64 (sendS p val e many).1 := by
 rw [sendS]
 cases ieq p 1
 · cases ieq p 3
   · cases ieq p 5
     · exact hv
     · exact ratioS_i64
   · exact addS_i64
 · exact addS_i64
theorem sendA_i64 {p val many : Int} (hv : i64 val) : ∀ {l : List GEdge} {s r : List GMsg}, (∀ m ∈ s, i64 m.V) → sendA p val many l s = some r → ∀ m ∈ r, i64 m.V
 | [], s, r, hs, h => by injection h with h; subst h; exact hs
 | e :: l, s, r, hs, h => by
  rw [sendA] at h
  cases hq : (sendS p val e many).2
  · rw [hq] at h; cases h
  · rw [hq, cT] at h
    refine sendA_i64 hv (fun m hm => ?_) h
    rcases List.mem_append.1 hm with hm | hm
    · exact hs m hm
    · rw [List.mem_singleton.1 hm]; exact sendS_i64 hv
theorem sendO_i64 {p w many : Int} {b : Bool} {l : List GEdge} (hw : i64 w) : i64 (sendO b w (sendA p w many l [])).1 ∧ ∀ m ∈ (sendO b w (sendA p w many l [])).2.1, i64 m.V := by
 have h0 : i64 0 := by unfold i64; omega
 cases hq : sendA p w many l []
 · exact ⟨h0, fun m hm => absurd hm (List.not_mem_nil)⟩
 · exact ⟨hw, sendA_i64 hw (fun m hm => absurd hm (List.not_mem_nil)) hq⟩
theorem turn_i64 {g : GGraph} {j : GJob} {step v val got : Int} {sm : Bool} (hv : i64 val) (hg : i64 got) : i64 (turnS g j step v val got sm).1 ∧ ∀ m ∈ (turnS g j step v val got sm).2.1, i64 m.V := by
 have h0 : i64 0 := by unfold i64; omega
 have hn : ∀ m ∈ ([] : List GMsg), i64 m.V := fun m hm => absurd hm (List.not_mem_nil)
 rw [turnS]
 cases ieq (jcheck g j) 0
 · exact ⟨h0, hn⟩
 · cases ilt v 0
   · cases ile g.N v
     · cases ilt step 0
       · cases ilt 40 step
         · simp only [cT, cF]
           cases ieq j.Prog 5
           · have hw : i64 (turnV j.Prog val got sm) := by
              rw [turnV]
              cases sm
              · exact hv
              · exact foldS_i64 hv hg
             rw [cF, moveS]
             cases turnM j.Prog j.Source step v val (turnV j.Prog val got sm)
             · exact ⟨hw, hn⟩
             · exact sendO_i64 hw
           · have hw : i64 (rankW step val got sm).1 := by
              rw [rankW]
              cases ilt 0 step
              · exact hv
              · exact sumS_i64
             rw [cT, rankS]
             cases (rankW step val got sm).2
             · exact ⟨h0, hn⟩
             · cases ile 10 step
               · exact sendO_i64 hw
               · exact ⟨hw, hn⟩
         · exact ⟨h0, hn⟩
       · exact ⟨h0, hn⟩
     · exact ⟨h0, hn⟩
   · exact ⟨h0, hn⟩
theorem elAt_get {α : Type} {l : List α} {i : Nat} (h : i < l.length) (d : α) : inr (i : Int) (len l) = true ∧ elAt l (i : Int) = some (l.getD i d) := by
 refine ⟨decide_eq_true ⟨by omega, by show (i : Int) < (l.length : Int); omega⟩, ?_⟩
 rw [elAt_nat, List.getElem?_eq_getElem h, List.getD_eq_getElem?_getD, List.getElem?_eq_getElem h]; rfl
theorem foldC_rise (p : Int) : ∀ (r : List GMsg) (c : GMsg) (d w : List GMsg), foldC p r c d = .inr w → (∀ x ∈ r, c.To ≤ x.To) → r.Pairwise (fun a b => a.To ≤ b.To) → (d ++ [c]).Pairwise (fun a b => a.To < b.To) →
 w.Pairwise (fun a b => a.To < b.To) ∧ ∀ t ∈ w, ∃ s ∈ d ++ c :: r, s.To = t.To
 | [], c, d, w, h, _, _, hd => by
  injection h with h
  subst h
  exact ⟨hd, fun t ht => ⟨t, ht, rfl⟩⟩
 | x :: r, c, d, w, h, hc, hr, hd => by
  rw [foldC] at h
  obtain ⟨hx, hr'⟩ := List.pairwise_cons.1 hr
  cases h1 : ieq c.To x.To
  · rw [h1, cF] at h
    have hne := ieq_f.1 h1
    have hlt := hc x List.mem_cons_self
    obtain ⟨q1, q2⟩ := foldC_rise p r x (d ++ [c]) w h hx hr' (by
     refine List.pairwise_append.2 ⟨hd, List.pairwise_singleton _ _, fun u hu v hv => ?_⟩
     rw [List.mem_singleton.1 hv]
     rcases List.mem_append.1 hu with hu | hu
     · have := (List.pairwise_append.1 hd).2.2 u hu c (List.mem_singleton.2 rfl); omega
     · rw [List.mem_singleton.1 hu]; omega)
    exact ⟨q1, fun t ht => by
     obtain ⟨s, hs, e⟩ := q2 t ht
     exact ⟨s, by simpa using hs, e⟩⟩
  · rw [h1, cT] at h
    cases h2 : ieq (foldS p c.V x.V).2 0
    · rw [h2] at h; cases h
    · rw [h2, cT] at h
      obtain ⟨q1, q2⟩ := foldC_rise p r (GMsg.mk c.To (foldS p c.V x.V).1) d w h (fun y hy => hc y (List.mem_cons_of_mem _ hy)) hr' (by
       obtain ⟨a, b, e⟩ := List.pairwise_append.1 hd
       exact List.pairwise_append.2 ⟨a, List.pairwise_singleton _ _, fun u hu v hv => by rw [List.mem_singleton.1 hv]; exact e u hu c (List.mem_singleton.2 rfl)⟩)
      refine ⟨q1, fun t ht => ?_⟩
      obtain ⟨s, hs, e⟩ := q2 t ht
      rcases List.mem_append.1 hs with hs | hs
      · exact ⟨s, List.mem_append_left _ hs, e⟩
      · rcases List.mem_cons.1 hs with rfl | hs
        · exact ⟨c, List.mem_append_right _ List.mem_cons_self, e⟩
        · exact ⟨s, List.mem_append_right _ (List.mem_cons_of_mem _ (List.mem_cons_of_mem _ hs)), e⟩
theorem boxS_rise {p : Int} {l : List GMsg} : (boxS p l).1.Pairwise (fun a b => a.To < b.To) ∧ ∀ t ∈ (boxS p l).1, ∃ s ∈ l, s.To = t.To := by
 have hn : (([] : List GMsg).Pairwise (fun a b => a.To < b.To)) ∧ ∀ t ∈ ([] : List GMsg), ∃ s ∈ l, s.To = t.To := ⟨List.Pairwise.nil, fun t ht => absurd ht List.not_mem_nil⟩
 have hp := sortM_perm l
 have hs : (sortM l).Pairwise (fun a b => a.To ≤ b.To) := (sortM_srt l).imp fun {a b} h => by have := leM_iff.1 h; omega
 rw [boxS]
 cases pbad p
 · rw [cF]
   generalize sortM l = m at *
   cases m with
   | nil => exact hn
   | cons x r =>
    rw [foldO]
    cases hq : foldC p r x [] with
    | inl e => exact hn
    | inr w =>
     obtain ⟨h1, h2⟩ := List.pairwise_cons.1 hs
     obtain ⟨q1, q2⟩ := foldC_rise p r x [] w hq h1 h2 (List.pairwise_singleton _ _)
     exact ⟨q1, fun t ht => by
      obtain ⟨s, hs, e⟩ := q2 t ht
      exact ⟨s, hp.mem_iff.1 hs, e⟩⟩
 · exact hn
theorem outs_To {g : GGraph} {v : Int} {e : GEdge} (h : e ∈ outs g v) : 0 ≤ e.To ∧ e.To < g.N := by
 rw [outs] at h
 cases hc : ieq (gcheck g) 0
 · rw [hc] at h; cases h
 · obtain ⟨h1, h2, h3, h4⟩ := gcheck_ok hc
   rw [hc] at h
   have := badE_ok (gchk_mem h4 e (List.mem_filter.1 h).1)
   omega
theorem turn_To {g : GGraph} {j : GJob} {step v val got : Int} {sm : Bool} : ∀ m ∈ (turnS g j step v val got sm).2.1, 0 ≤ m.To ∧ m.To < g.N := by
 intro m hm
 cases h : ieq (turnS g j step v val got sm).2.2.2 0
 · rw [(turn_bad h).2] at hm; exact absurd hm List.not_mem_nil
 · rcases turn_out h with hz | hz
   · rw [hz] at hm; exact absurd hm List.not_mem_nil
   · have : m.To ∈ (turnS g j step v val got sm).2.1.map (·.To) := List.mem_map.2 ⟨m, hm, rfl⟩
     rw [hz] at this
     obtain ⟨e, he, q⟩ := List.mem_map.1 this
     rw [← q]; exact outs_To he
def oneP (g : GGraph) (j : GJob) (x : GPart) (i v : Nat) : Int × List GMsg × Bool × Int :=
 bif x.Rest.getD i false && !(atS x.In (v : Int)).2 then (x.Vals.getD i 0, [], true, 0)
 else turnS g j x.Step (v : Int) (x.Vals.getD i 0) (atS x.In (v : Int)).1 (atS x.In (v : Int)).2
def doA (g : GGraph) (j : GJob) (x : GPart) : List Nat → Nat → List Int → List Bool → List GMsg → Int ⊕ Tri
 | [], _, a, b, c => .inr (a, b, c)
 | v :: l, i, a, b, c => bif ieq (oneP g j x i v).2.2.2 0 then doA g j x l (i + 1) (a ++ [(oneP g j x i v).1]) (b ++ [(oneP g j x i v).2.2.1]) (c ++ (oneP g j x i v).2.1) else .inl (oneP g j x i v).2.2.2
def toS (j : GJob) (c : List GMsg) (q : Int) : List GMsg := c.filter fun m => ieq (homeS j m.To) q
def tellS (j : GJob) (c : List GMsg) : List Nat → List (List GMsg) → Int ⊕ List (List GMsg)
 | [], d => .inr d
 | q :: l, d => bif ieq (boxS j.Prog (toS j c (q : Int))).2 0 then tellS j c l (d ++ [(boxS j.Prog (toS j c (q : Int))).1]) else .inl (boxS j.Prog (toS j c (q : Int))).2
abbrev Did := GPart × List (List GMsg) × Int
def doC (x : GPart) (w : Tri) : Int ⊕ List (List GMsg) → Did
 | .inl e => (zeroP, [], e)
 | .inr t => (GPart.mk x.P (x.Step + 1) w.1 w.2.1 [], t, 0)
def doB (j : GJob) (x : GPart) : Int ⊕ Tri → Did
 | .inl e => (zeroP, [], e)
 | .inr w => doC x w (tellS j w.2.2 (List.range j.Parts.toNat) [])
def doS (g : GGraph) (j : GJob) (x : GPart) : Did :=
 bif ieq (jcheck g j) 0 then (bif partRight g j x then (bif ieq x.Step 40 then (zeroP, [], 6) else doB j x (doA g j x (vertsS g j x.P) 0 [] [] [])) else (zeroP, [], 1)) else (zeroP, [], jcheck g j)
def niceP (x : GPart) : Prop := (∀ v ∈ x.Vals, i64 v) ∧ (∀ m ∈ x.In, i64 m.V)
theorem onep_i64 {g : GGraph} {j : GJob} {x : GPart} (hn : niceP x) {i v : Nat} : i64 (oneP g j x i v).1 ∧ ∀ m ∈ (oneP g j x i v).2.1, i64 m.V := by
 have h0 : i64 0 := by unfold i64; omega
 have hx : i64 (x.Vals.getD i 0) := by
  rw [List.getD_eq_getElem?_getD]
  cases hq : x.Vals[i]? with
  | none => exact h0
  | some y => exact hn.1 y (List.mem_of_getElem? hq)
 rw [oneP]
 cases x.Rest.getD i false && !(atS x.In (v : Int)).2
 · exact turn_i64 hx (atS_i64 hn.2)
 · exact ⟨hx, fun m hm => absurd hm (List.not_mem_nil)⟩
theorem onep_outs {g : GGraph} {j : GJob} {x : GPart} {i v : Nat} : (oneP g j x i v).2.1.length ≤ 80 ∧ ∀ m ∈ (oneP g j x i v).2.1, 0 ≤ m.To ∧ m.To < g.N := by
 rw [oneP]
 cases x.Rest.getD i false && !(atS x.In (v : Int)).2
 · exact ⟨turn_len, turn_To⟩
 · exact ⟨Nat.zero_le _, fun m hm => absurd hm (List.not_mem_nil)⟩
structure keepP (g : GGraph) (i : Nat) (a : List Int) (b : List Bool) (c : List GMsg) : Prop where
 la : a.length = i
 lb : b.length = i
 lc : c.length ≤ 80 * i
 va : ∀ v ∈ a, i64 v
 vc : ∀ m ∈ c, i64 m.V
 vt : ∀ m ∈ c, 0 ≤ m.To ∧ m.To < g.N
theorem keepP0 (g : GGraph) : keepP g 0 [] [] [] := ⟨rfl, rfl, Nat.zero_le _, fun v hv => absurd hv (List.not_mem_nil), fun m hm => absurd hm (List.not_mem_nil), fun m hm => absurd hm (List.not_mem_nil)⟩
theorem keepP_next {g : GGraph} {j : GJob} {x : GPart} (hn : niceP x) {i : Nat} (v : Nat) {a : List Int} {b : List Bool} {c : List GMsg} (h : keepP g i a b c) :
 keepP g (i + 1) (a ++ [(oneP g j x i v).1]) (b ++ [(oneP g j x i v).2.2.1]) (c ++ (oneP g j x i v).2.1) := by
 obtain ⟨o1, o2⟩ := onep_i64 (g := g) (j := j) hn (i := i) (v := v)
 obtain ⟨o3, o4⟩ := onep_outs (g := g) (j := j) (x := x) (i := i) (v := v)
 refine ⟨by simp [h.la], by simp [h.lb], ?_, fun v hv => ?_, fun m hm => ?_, fun m hm => ?_⟩
 · have h3 := h.lc
   rw [List.length_append]; omega
 · rcases List.mem_append.1 hv with hv | hv
   · exact h.va v hv
   · rw [List.mem_singleton.1 hv]; exact o1
 · rcases List.mem_append.1 hm with hm | hm
   · exact h.vc m hm
   · exact o2 m hm
 · rcases List.mem_append.1 hm with hm | hm
   · exact h.vt m hm
   · exact o4 m hm
theorem doA_keep {g : GGraph} {j : GJob} {x : GPart} (hn : niceP x) : ∀ (l : List Nat) (i : Nat) (a : List Int) (b : List Bool) (c : List GMsg), keepP g i a b c → ∀ w, doA g j x l i a b c = .inr w → keepP g (i + l.length) w.1 w.2.1 w.2.2 := by
 intro l
 induction l with
 | nil => intro i a b c h w hw; injection hw with hw; subst hw; exact h
 | cons v l ih =>
  intro i a b c h w hw
  rw [doA] at hw
  cases hq : ieq (oneP g j x i v).2.2.2 0
  · rw [hq] at hw; cases hw
  · rw [hq] at hw
    have := ih (i + 1) _ _ _ (keepP_next hn v h) w hw
    rwa [show i + 1 + l.length = i + (l.length + 1) by omega] at this
theorem toS_app (j : GJob) (c d : List GMsg) (q : Int) : toS j (c ++ d) q = toS j c q ++ toS j d q := List.filter_append _ _
theorem toS_len (j : GJob) (c : List GMsg) (q : Int) : (toS j c q).length ≤ c.length := List.length_filter_le _ _
theorem toS_mem {j : GJob} {c : List GMsg} {q : Int} {m : GMsg} (h : m ∈ toS j c q) : m ∈ c ∧ homeS j m.To = q := by
 obtain ⟨a, b⟩ := List.mem_filter.1 h
 exact ⟨a, ieq_iff.1 b⟩
theorem all_go {α : Type} (p : α → Bool) {step : α → Unit → (Unit → Option (Unit ⊕ Unit)) → Option (Unit ⊕ Unit)} : ∀ (l : List α), (∀ x ∈ l, ∀ c, step x () c = bif p x then c () else some (.inl ())) →
 goL step (fun _ => some (.inr ())) l () = some (sumU (l.all p))
 | [], _ => rfl
 | x :: l, h => by
  rw [goL, h x List.mem_cons_self, all_go p l fun y hy => h y (List.mem_cons_of_mem _ hy), List.all_cons]
  cases p x <;> rfl
theorem getD_lt {α : Type} {l : List α} {i : Nat} (h : i < l.length) (d : α) : l.getD i d = l[i] := by rw [List.getD_eq_getElem?_getD, List.getElem?_eq_getElem h]; rfl
def posS {α : Type} (p : α → Bool) (l : List α) : Int := match l.findIdx? p with | some q => (q : Int) | none => -1
theorem find_go {α : Type} (p : α → Bool) {step : Nat → α → Unit → (Unit → Option (Int ⊕ Unit)) → Option (Int ⊕ Unit)} : ∀ (l : List α) (i : Nat), (∀ x ∈ l, ∀ i c, step i x () c = bif p x then some (.inl (i : Int)) else c ()) →
 goI step (fun _ => some (.inr ())) i l () = some (match l.findIdx? p with | some q => .inl ((i + q : Nat) : Int) | none => .inr ())
 | [], _, _ => rfl
 | x :: l, i, h => by
  rw [goI, h x List.mem_cons_self, find_go p l (i + 1) fun y hy => h y (List.mem_cons_of_mem _ hy), List.findIdx?_cons]
  cases hp : p x
  · cases hq : l.findIdx? p with
    | none => simp
    | some q => simp; omega
  · simp
theorem posS_elim {α : Type} {γ : Type} (p : α → Bool) (l : List α) (f : Int → Option γ) : (some (match l.findIdx? p with | some q => Sum.inl ((0 + q : Nat) : Int) | none => Sum.inr ())).bind (fun y => Sum.elim (fun w => f w) (fun (_ : Unit) => f (-1)) y) = f (posS p l) := by
 unfold posS
 cases l.findIdx? p with
 | none => rfl
 | some q => simp
theorem posS_neg {α : Type} (p : α → Bool) (l : List α) : posS p l < 0 ↔ ∀ x ∈ l, p x = false := by
 unfold posS
 cases h : l.findIdx? p with
 | none => simp only [List.findIdx?_eq_none_iff] at h; simpa using h
 | some q =>
  obtain ⟨hq, hp, _⟩ := List.findIdx?_eq_some_iff_getElem.1 h
  constructor
  · intro h'; dsimp only at h'; omega
  · intro h'; have := h' _ (List.getElem_mem hq); rw [this] at hp; cases hp
theorem posS_at {α : Type} {p : α → Bool} {l : List α} (h : ¬ posS p l < 0) : ∃ (q : Nat) (x : α), posS p l = (q : Int) ∧ l[q]? = some x ∧ p x = true := by
 unfold posS at h ⊢
 cases hf : l.findIdx? p with
 | none => rw [hf] at h; exact absurd (by decide) h
 | some q =>
  obtain ⟨hq, hp, _⟩ := List.findIdx?_eq_some_iff_getElem.1 hf
  exact ⟨q, l[q], rfl, List.getElem?_eq_getElem hq, hp⟩
theorem filt_go {α β : Type} (p : α → Bool) (f : α → β) (b : Nat) {step : α → List β → (List β → Option (List β)) → Option (List β)} (hb : b ≤ 1000) (N : Nat) (hN : N ≤ 1000000) : ∀ (l : List α) (a : List β), a.length + l.length ≤ N →
 (∀ x ∈ l, ∀ a c, step x a c = bif p x then (bif apok (len a) 1 b then c (appL a [f x]) else none) else c a) → goL step (fun a => some a) l a = some (a ++ (l.filter p).map f)
 | [], a, _, _ => by rw [goL]; simp
 | x :: l, a, hl, h => by
  rw [List.length_cons] at hl
  rw [goL, h x List.mem_cons_self]
  have hap : apok (len a) 1 b = true := decide_eq_true ⟨by show a.length + 1 ≤ _; omega, by
   show (a.length + 1) * b ≤ _
   have := Nat.mul_le_mul (show a.length + 1 ≤ 1000001 by omega) hb
   omega⟩
  cases hp : p x
  · rw [cF, filt_go p f b hb N hN l a om fun y hy => h y (List.mem_cons_of_mem _ hy), List.filter_cons, hp]; simp
  · rw [cT, hap, cT, appL, filt_go p f b hb N hN l (a ++ [f x]) (by simp; omega) fun y hy => h y (List.mem_cons_of_mem _ hy), List.filter_cons, hp]; simp
theorem apok_small {n m b : Nat} (h : n + m ≤ 1000000) (hb : b ≤ 1000) : apok n m b = true := decide_eq_true ⟨by omega, by have := Nat.mul_le_mul h hb; omega⟩
def fairS (n : Int) (l : List Int) : Bool := l.all (fun x => !(ilt x 0) && !(ilt 1099511627776 x)) && ile (l.length : Int) n
theorem F66_spec (K : Nat) (n : Int) (l : List Int) (hl : l.length < 1000000) (hK : l.length < K) : F66 K n l = some (fairS n l) := by
 let step : Int → Unit → (Unit → Option (Unit ⊕ Unit)) → Option (Unit ⊕ Unit) := fun x _ c => bif (ilt x 0) then some (.inl ()) else bif (ilt 1099511627776 x) then some (.inl ()) else c ()
 have h := scanL (l := l) (L := fun k (_ : Unit) i => F66_l0_0 K n l k i) step (fun _ => some (.inr ())) (fun k s i _ => rfl) om hK ()
 have g := all_go (step := step) (fun x => !(ilt x 0) && !(ilt 1099511627776 x)) l (fun x _ c => by show (bif (ilt x 0) then _ else _) = _; cases ilt x 0 <;> cases ilt 1099511627776 x <;> rfl)
 have e : F66_l0_0 K n l K 0 = _ := h.trans g
 rw [F66, e, fairS]
 cases l.all _ <;> rfl
def sentS (l : List GMsg) : Bool := l.all (fun m => fairS 1 [m.To]) && ile (l.length : Int) 24
theorem F67_spec (K : Nat) (l : List GMsg) (hl : l.length < 1000000) (hK : l.length < K) (h1 : 1 < K) : F67 K l = some (sentS l) := by
 let step : GMsg → Unit → (Unit → Option (Unit ⊕ Unit)) → Option (Unit ⊕ Unit) := fun x _ c => (F66 K 1 [x.To]).bind fun r => bif r then c () else some (.inl ())
 have h := scanL (l := l) (L := fun k (_ : Unit) i => F67_l0_0 K l k i) step (fun _ => some (.inr ())) (fun k s i _ => rfl) om hK ()
 have g := all_go (step := step) (fun m => fairS 1 [m.To]) l (fun x _ c => by show (F66 K 1 [x.To]).bind _ = _; rw [F66_spec K 1 [x.To] (by simp) (by simpa using h1)]; rfl)
 have e : F67_l0_0 K l K 0 = _ := h.trans g
 rw [F67, e, sentS]
 cases l.all _ <;> rfl
def mailR (m : GMail) : Bool :=
 ile 1 m.Kind && (ile m.Kind 11 && (fairS 9 [m.Epoch, m.Fresh, m.Step, m.P, m.Q, m.To, m.E, m.X.P, m.X.Step] && (fairS 6 m.Owners && (fairS 5 m.Ids && (fairS (m.Ids.length : Int) m.Incs && (ieq (m.Incs.length : Int) (m.Ids.length : Int) &&
  (ile (m.X.Vals.length : Int) 24 && (ieq (m.X.Rest.length : Int) (m.X.Vals.length : Int) && (sentS m.X.In && sentS m.Msgs)))))))))
structure FitM (c : Nat) (m : GMail) : Prop where
 o : m.Owners.length ≤ c
 i : m.Ids.length ≤ c
 n : m.Incs.length ≤ c
 v : m.X.Vals.length ≤ c
 r : m.X.Rest.length ≤ c
 x : m.X.In.length ≤ c
 s : m.Msgs.length ≤ c
theorem F40_spec {K : Nat} (hK : 3000 ≤ K) (m : GMail) (h : FitM 2000 m) : F40 K m = some (mailR m) := by
 obtain ⟨h1, h2, h3, h4, h5, h6, h7⟩ := h
 rw [F40, F66_spec K 9 _ (by simp) (by simp; omega), F66_spec K 6 _ om om, F66_spec K 5 _ om om, F66_spec K _ m.Incs om om, F67_spec K m.X.In om om om, F67_spec K m.Msgs om om om]
 simp only [bS, mailR, nlen_len]
 cases ile 1 m.Kind <;> cases ile m.Kind 11 <;> cases fairS 9 [m.Epoch, m.Fresh, m.Step, m.P, m.Q, m.To, m.E, m.X.P, m.X.Step] <;> try rfl
 cases fairS 6 m.Owners <;> cases fairS 5 m.Ids <;> cases fairS (m.Ids.length : Int) m.Incs <;> cases ieq (m.Incs.length : Int) (m.Ids.length : Int) <;> try rfl
 cases ile (m.X.Vals.length : Int) 24 <;> cases ieq (m.X.Rest.length : Int) (m.X.Vals.length : Int) <;> cases sentS m.X.In <;> rfl
theorem fairS_mem {n : Int} {l : List Int} (h : fairS n l = true) : (∀ x ∈ l, 0 ≤ x ∧ x ≤ 1099511627776) ∧ (l.length : Int) ≤ n := by
 simp only [fairS, Bool.and_eq_true, List.all_eq_true, Bool.not_eq_true', ilt_f, ile_iff] at h
 exact h
def noT : GTable := GTable.mk 0 [] [] []
def risesS : Int → List Int → List Int → Bool
 | _, [], _ => true
 | p, a :: l, n :: r => !(ile a p) && (!(ilt 99 a) && (!(ilt n 1) && (!(ilt 1099511627776 n) && risesS a l r)))
 | _, _ :: _, [] => false
def findS (l : List Int) (a : Int) : Int := posS (fun x => ieq x a) l
theorem F108_spec (K : Nat) (l : List Int) (a : Int) (hl : l.length < 1000000) (hK : l.length < K) : F108 K l a = some (findS l a) := by
 let step : Nat → Int → Unit → (Unit → Option (Int ⊕ Unit)) → Option (Int ⊕ Unit) := fun i x _ c => bif ieq x a then some (.inl (i : Int)) else c ()
 have h := scanI (l := l) (L := fun k (_ : Unit) i => F108_l0_0 K l a k i) step (fun _ => some (.inr ())) (fun k s i _ => rfl) om K () 0 om om
 have g := find_go (step := step) (fun x => ieq x a) l 0 (fun x _ i c => rfl)
 rw [List.drop_zero] at h
 have e : F108_l0_0 K l a K 0 = _ := h.trans g
 rw [F108, e]
 exact posS_elim _ _ fun w => some w
def tabR (t : GTable) : Bool :=
 !(ilt t.Epoch 0) && (!(ilt 1099511627776 t.Epoch) && (!(ilt 5 (t.Ids.length : Int)) && (ieq (t.Incs.length : Int) (t.Ids.length : Int) && (!(ilt 6 (t.Owners.length : Int)) && (risesS 0 t.Ids t.Incs && t.Owners.all fun o => !(ilt (findS t.Ids o) 0))))))
theorem F100_rises {K : Nat} (t : GTable) (hl : t.Ids.length ≤ 5) (he : t.Incs.length = t.Ids.length) (hK : 100 ≤ K) : F100_l0_0 K t.Epoch t.Owners t.Ids t.Incs K 0 0 = some (sumU (risesS 0 t.Ids t.Incs)) := by
 let step : Nat → Int → Int → (Int → Option (Unit ⊕ Unit)) → Option (Unit ⊕ Unit) := fun i x p c =>
  bif (ile x p) then some (.inl ()) else bif (ilt 99 x) then some (.inl ()) else bif (inr (i : Int) (len t.Incs)) then (elAt t.Incs (i : Int)).bind fun n => bif (ilt n 1) then some (.inl ()) else bif (ilt 1099511627776 n) then some (.inl ()) else c x else none
 have h := scanI (l := t.Ids) (L := fun k p i => F100_l0_0 K t.Epoch t.Owners t.Ids t.Incs k p i) step (fun _ => some (.inr ())) (fun k s i _ => rfl) om K 0 0 om om
 have g : ∀ (l : List Int) (i : Nat) (p : Int), t.Ids.drop i = l → goI step (fun _ => some (.inr ())) i l p = some (sumU (risesS p l (t.Incs.drop i))) := by
  intro l
  induction l with
  | nil => intro i p _; rw [goI, risesS]; rfl
  | cons x l ih =>
   intro i p hd
   have hlt := lt_of_drop' hd
   have hn : t.Incs.drop i = t.Incs[i] :: t.Incs.drop (i + 1) := List.drop_eq_getElem_cons om
   have hd2 : t.Ids.drop (i + 1) = l := by
    have := List.drop_eq_getElem_cons hlt
    rw [hd] at this
    injection this with _ h2; exact h2.symm
   have e1 : inr (i : Int) (len t.Incs) = true := decide_eq_true ⟨by omega, by show (i : Int) < (t.Incs.length : Int); omega⟩
   have e2 : elAt t.Incs (i : Int) = some t.Incs[i] := by rw [elAt_nat]; exact List.getElem?_eq_getElem om
   rw [goI]
   show (bif (ile x p) then _ else _) = _
   rw [e1, e2, cT, bS, ih (i + 1) x hd2, hn, risesS]
   cases ile x p <;> cases ilt 99 x <;> cases ilt t.Incs[i] 1 <;> cases ilt 1099511627776 t.Incs[i] <;> rfl
 rw [List.drop_zero] at h
 have e : F100_l0_0 K t.Epoch t.Owners t.Ids t.Incs K 0 0 = _ := h.trans (g t.Ids 0 0 rfl)
 rw [List.drop_zero] at e
 exact e
theorem F100_spec {K : Nat} (hK : 100 ≤ K) (t : GTable) : F100 K t = some (tabR t) := by
 rw [F100, tabR, nlen_len, nlen_len, nlen_len]
 cases h1 : ilt t.Epoch 0
 · cases h2 : ilt 1099511627776 t.Epoch
   · cases h3 : ilt 5 (t.Ids.length : Int)
     · cases h4 : ieq (t.Incs.length : Int) (t.Ids.length : Int)
       · rfl
       · cases h5 : ilt 6 (t.Owners.length : Int)
         · rw [ilt_f] at h3 h5
           rw [ieq_iff] at h4
           rw [F100_rises t om om hK]
           cases risesS 0 t.Ids t.Incs
           · rfl
           · let step : Int → Unit → (Unit → Option (Unit ⊕ Unit)) → Option (Unit ⊕ Unit) := fun x _ c => (F108 K t.Ids x).bind fun r => bif ilt r 0 then some (.inl ()) else c ()
             have h := scanL (l := t.Owners) (L := fun k (_ : Unit) i => F100_l1_1 K t.Epoch t.Owners t.Ids t.Incs k i) step (fun _ => some (.inr ())) (fun k s i _ => rfl) om (K := K) om ()
             have g := all_go (step := step) (fun o => !(ilt (findS t.Ids o) 0)) t.Owners (fun x _ c => by show (F108 K t.Ids x).bind _ = _; rw [F108_spec K t.Ids x om om, bS]; cases ilt (findS t.Ids x) 0 <;> rfl)
             have e : F100_l1_1 K t.Epoch t.Owners t.Ids t.Incs K 0 = _ := h.trans g
             simp only [cT, cF, sumU, bS, Sum.elim_inr, e]
             cases t.Owners.all _ <;> rfl
         · rfl
     · rfl
   · rfl
 · rfl
theorem tabR_ok {t : GTable} (h : tabR t = true) : 0 ≤ t.Epoch ∧ t.Epoch ≤ 1099511627776 ∧ t.Ids.length ≤ 5 ∧ t.Incs.length = t.Ids.length ∧ t.Owners.length ≤ 6 ∧ risesS 0 t.Ids t.Incs = true ∧ ∀ o ∈ t.Owners, 0 ≤ findS t.Ids o := by
 simp only [tabR, Bool.and_eq_true, Bool.not_eq_true', ilt_f, ieq_iff, List.all_eq_true] at h
 obtain ⟨h1, h2, h3, h4, h5, h6, h7⟩ := h
 exact ⟨h1, h2, by omega, by omega, by omega, h6, h7⟩
def ownT (t : GTable) : GTable := bif tabR t then t else noT
theorem app_nil {α : Type} (l : List α) : appL [] l = l := List.nil_append l
theorem noT_right : tabR noT = true := by decide
theorem ownT_right (t : GTable) : tabR (ownT t) = true := by
 rw [ownT]
 cases h : tabR t
 · exact noT_right
 · exact h
theorem ownT_own (t : GTable) : ownT (ownT t) = ownT t := by
 have := ownT_right t
 generalize ownT t = u at this ⊢
 rw [ownT, this]; rfl
theorem F96_spec {K : Nat} (hK : 100 ≤ K) (t : GTable) : F96 K t = some (ownT t) := by
 rw [F96, F100_spec hK, bS, ownT]
 cases h : tabR t
 · rfl
 · obtain ⟨_, _, h3, h4, h5, _⟩ := tabR_ok h
   have e1 : apok 0 (len t.Owners) 8 = true := apok_small (by show 0 + t.Owners.length ≤ _; omega) om
   have e2 : apok 0 (len t.Ids) 8 = true := apok_small (by show 0 + t.Ids.length ≤ _; omega) om
   have e3 : apok 0 (len t.Incs) 8 = true := apok_small (by show 0 + t.Incs.length ≤ _; omega) om
   simp only [cT, e1, e2, e3, app_nil]
def incS (t : GTable) (id : Int) : Int := bif ilt (findS (ownT t).Ids id) 0 then 0 else (ownT t).Incs.getD (findS (ownT t).Ids id).toNat 0
theorem F97_spec {K : Nat} (hK : 100 ≤ K) (t : GTable) (id : Int) : F97 K t id = some (incS t id) := by
 obtain ⟨_, _, h3, h4, _⟩ := tabR_ok (ownT_right t)
 rw [F97, F96_spec hK, bS, F108_spec K _ id om om, bS, incS]
 cases h : ilt (findS (ownT t).Ids id) 0
 · have hn : ¬ posS (fun x => ieq x id) (ownT t).Ids < 0 := by rw [ilt_f] at h; exact Int.not_lt.2 h
   obtain ⟨q, x, hq, hx, _⟩ := posS_at hn
   have hlt : q < (ownT t).Incs.length := by rw [h4]; exact (List.getElem?_eq_some_iff.1 hx).1
   have hf : findS (ownT t).Ids id = (q : Int) := hq
   have e1 : inr (q : Int) (len (ownT t).Incs) = true := decide_eq_true ⟨by omega, by show (q : Int) < ((ownT t).Incs.length : Int); omega⟩
   have e2 : elAt (ownT t).Incs (q : Int) = some (ownT t).Incs[q] := by rw [elAt_nat]; exact List.getElem?_eq_getElem hlt
   rw [hf, cF, cF, e1, e2, cT, bS, Int.toNat_natCast, getD_lt hlt]
 · rfl
def toT (t : GTable) (p : Int) : Int × Int × Int :=
 bif ilt p 0 || ile ((ownT t).Owners.length : Int) p then (0, 0, 4) else ((ownT t).Owners.getD p.toNat 0, incS t ((ownT t).Owners.getD p.toNat 0), 0)
theorem incS_own (t : GTable) (id : Int) : incS (ownT t) id = incS t id := by rw [incS, incS, ownT_own]
theorem F60_spec {K : Nat} (hK : 100 ≤ K) (t : GTable) (p : Int) : F60 K t p = some (toT t p) := by
 rw [F60, F96_spec hK, bS, toT, nlen_len]
 cases h1 : ilt p 0
 · cases h2 : ile ((ownT t).Owners.length : Int) p
   · rw [ilt_f] at h1
     rw [ile_f] at h2
     have e1 : inr p (len (ownT t).Owners) = true := decide_eq_true ⟨h1, h2⟩
     have e2 : elAt (ownT t).Owners p = some ((ownT t).Owners.getD p.toNat 0) := by
      show (ownT t).Owners[p.toNat]? = _
      rw [getD_lt om]; exact List.getElem?_eq_getElem om
     simp only [cF, e1, e2, cT, bS, F97_spec hK, incS_own, Bool.or_false]
   · rfl
 · rfl
theorem toT_ok {t : GTable} {p : Int} (h : ieq (toT t p).2.2 0 = true) : 0 ≤ p ∧ p < ((ownT t).Owners.length : Int) ∧ (toT t p).1 = (ownT t).Owners.getD p.toNat 0 := by
 rw [toT] at h ⊢
 cases hq : ilt p 0 || ile ((ownT t).Owners.length : Int) p
 · rw [Bool.or_eq_false_iff, ilt_f, ile_f] at hq
   exact ⟨hq.1, hq.2, rfl⟩
 · rw [hq] at h; cases h
abbrev B6 := List GMsg × List GMsg × List GMsg × List GMsg × List GMsg × List GMsg
abbrev S8 := List Int × List Bool × B6
def boxes (j : GJob) (c : List GMsg) : B6 := (toS j c 0, toS j c 1, toS j c 2, toS j c 3, toS j c 4, toS j c 5)
theorem toS_one (j : GJob) (m : GMsg) (q : Int) : toS j [m] q = bif ieq (homeS j m.To) q then [m] else [] := by
 rw [toS, List.filter_cons]
 cases ieq (homeS j m.To) q <;> rfl
def stA (K : Nat) (j : GJob) (m : GMsg) (s : B6) (c : B6 → Option B6) : Option B6 :=
 (F94 K j m.To).bind fun r =>
 bif (ieq r 0) then (bif (apok (len s.1) 1 16) then c (appL s.1 [m], s.2.1, s.2.2.1, s.2.2.2.1, s.2.2.2.2.1, s.2.2.2.2.2) else none) else
 bif (ieq r 1) then (bif (apok (len s.2.1) 1 16) then c (s.1, appL s.2.1 [m], s.2.2.1, s.2.2.2.1, s.2.2.2.2.1, s.2.2.2.2.2) else none) else
 bif (ieq r 2) then (bif (apok (len s.2.2.1) 1 16) then c (s.1, s.2.1, appL s.2.2.1 [m], s.2.2.2.1, s.2.2.2.2.1, s.2.2.2.2.2) else none) else
 bif (ieq r 3) then (bif (apok (len s.2.2.2.1) 1 16) then c (s.1, s.2.1, s.2.2.1, appL s.2.2.2.1 [m], s.2.2.2.2.1, s.2.2.2.2.2) else none) else
 bif (ieq r 4) then (bif (apok (len s.2.2.2.2.1) 1 16) then c (s.1, s.2.1, s.2.2.1, s.2.2.2.1, appL s.2.2.2.2.1 [m], s.2.2.2.2.2) else none) else
 bif (ieq r 5) then bif (apok (len s.2.2.2.2.2) 1 16) then c (s.1, s.2.1, s.2.2.1, s.2.2.2.1, s.2.2.2.2.1, appL s.2.2.2.2.2 [m]) else none else none
theorem route_step {K : Nat} (j : GJob) (m : GMsg) (c : List GMsg) (hl : c.length ≤ 3000) (h0 : 0 ≤ homeS j m.To) (h5 : homeS j m.To ≤ 5) (k : B6 → Option B6) : stA K j m (boxes j c) k = k (boxes j (c ++ [m])) := by
 have ap : ∀ q : Int, apok (len (toS j c q)) 1 16 = true := fun q => by
  have := toS_len j c q
  exact decide_eq_true ⟨by show (toS j c q).length + 1 ≤ _; omega, by show ((toS j c q).length + 1) * 16 ≤ _; omega⟩
 rw [stA, F94_spec, bS, boxes, boxes]
 simp only [toS_app, toS_one, ap, cT]
 generalize homeS j m.To = q at *
 rcases (by omega : q = 0 ∨ q = 1 ∨ q = 2 ∨ q = 3 ∨ q = 4 ∨ q = 5) with rfl | rfl | rfl | rfl | rfl | rfl <;> simp [ieq, appL]
theorem route_go {K : Nat} (j : GJob) : ∀ (l : List GMsg) (c : List GMsg), c.length + l.length ≤ 3000 → (∀ m ∈ l, 0 ≤ homeS j m.To ∧ homeS j m.To ≤ 5) → goL (stA K j) (fun s => some s) l (boxes j c) = some (boxes j (c ++ l)) := by
 intro l
 induction l with
 | nil => intro c _ _; rw [goL, List.append_nil]
 | cons m l ih =>
  intro c hl hh
  simp only [List.length_cons] at hl
  obtain ⟨h0, h5⟩ := hh m List.mem_cons_self
  rw [goL, route_step j m c om h0 h5, ih (c ++ [m]) (by simp only [List.length_append, List.length_singleton]; omega) (fun y hy => hh y (List.mem_cons_of_mem _ hy)), List.append_assoc]; rfl
theorem route {K : Nat} (g : GGraph) (j : GJob) (x : GPart) (a : List Int) (b : List Bool) (v : Int) (r : Bool) (l : List GMsg) (i : Int) (c : List GMsg) (hl : c.length + l.length ≤ 3000) (hK : l.length < K) (hh : ∀ m ∈ l, 0 ≤ homeS j m.To ∧ homeS j m.To ≤ 5) :
 F58_l1_1 K g.N g.Edges j.Prog j.Source j.Limit j.Parts x.P x.Step x.Vals x.Rest x.In a b v r l i K (toS j c 0) (toS j c 1) (toS j c 2) (toS j c 3) (toS j c 4) (toS j c 5) 0 = some (boxes j (c ++ l)) := by
 have h := scanL (l := l) (L := fun k (s : B6) p => F58_l1_1 K g.N g.Edges j.Prog j.Source j.Limit j.Parts x.P x.Step x.Vals x.Rest x.In a b v r l i k s.1 s.2.1 s.2.2.1 s.2.2.2.1 s.2.2.2.2.1 s.2.2.2.2.2 p) (stA K j) (fun s => some s) (fun k s p _ => rfl) om (K := K) hK (boxes j c)
 rw [route_go j l c hl hh] at h
 exact h
def st116 (K : Nat) (g : GGraph) (j : GJob) (x : GPart) (i : Nat) (y : Int) (s : S8) (c : S8 → Option (Int ⊕ S8)) : Option (Int ⊕ S8) :=
 (F92 K x.In (wadd .i64 x.P (wmul .i64 (i : Int) j.Parts))).bind fun r6057 =>
 bif (inr (i : Int) (len x.Rest)) then
 (elAt x.Rest (i : Int)).bind fun x6060 =>
 bif x6060 then
  (bif r6057.2 then
   ((F93 K g j x.Step (wadd .i64 x.P (wmul .i64 (i : Int) j.Parts)) y r6057.1 r6057.2).bind fun r6064 =>
   bif (ieq r6064.2.2.2 0) then
    ((F58_l1_1 K g.N g.Edges j.Prog j.Source j.Limit j.Parts x.P x.Step x.Vals x.Rest x.In s.1 s.2.1 r6064.1 r6064.2.2.1 r6064.2.1 (i : Int) K s.2.2.1 s.2.2.2.1 s.2.2.2.2.1 s.2.2.2.2.2.1 s.2.2.2.2.2.2.1 s.2.2.2.2.2.2.2 0).bind fun w6149 =>
    bif (apok (len s.1) 1 8) then
    bif (apok (len s.2.1) 1 1) then
    c (appL s.1 [r6064.1], appL s.2.1 [r6064.2.2.1], w6149)
    else none
    else none)
   else
   some (.inl r6064.2.2.2))
  else
  bif (apok (len s.1) 1 8) then
  bif (apok (len s.2.1) 1 1) then
  c (appL s.1 [y], appL s.2.1 [true], s.2.2)
  else none
  else none)
 else
 (F93 K g j x.Step (wadd .i64 x.P (wmul .i64 (i : Int) j.Parts)) y r6057.1 r6057.2).bind fun r6160 =>
 bif (ieq r6160.2.2.2 0) then
  ((F58_l1_1 K g.N g.Edges j.Prog j.Source j.Limit j.Parts x.P x.Step x.Vals x.Rest x.In s.1 s.2.1 r6160.1 r6160.2.2.1 r6160.2.1 (i : Int) K s.2.2.1 s.2.2.2.1 s.2.2.2.2.1 s.2.2.2.2.2.1 s.2.2.2.2.2.2.1 s.2.2.2.2.2.2.2 0).bind fun w6193 =>
  bif (apok (len s.1) 1 8) then
  bif (apok (len s.2.1) 1 1) then
  c (appL s.1 [r6160.1], appL s.2.1 [r6160.2.2.1], w6193)
  else none
  else none)
 else
 some (.inl r6160.2.2.2)
 else none
theorem progL_get (n m : Nat) : ∀ (k v i : Nat) (h : i < (progL k n m v).length), (progL k n m v)[i] = v + i * m := by
 intro k
 induction k with
 | zero => intro v i h; exact absurd h (Nat.not_lt_zero _)
 | succ k ih =>
  intro v i h
  by_cases hv : v < n
  · have e : progL (k + 1) n m v = v :: progL k n m (v + m) := by rw [progL, if_pos hv]
    simp only [e] at h ⊢
    cases i with
    | zero => simp
    | succ i =>
     have h' : i < (progL k n m (v + m)).length := by simpa using h
     rw [List.getElem_cons_succ, ih (v + m) i h', Nat.succ_mul]; omega
  · have e : progL (k + 1) n m v = [] := by rw [progL, if_neg hv]
    simp only [e, List.length_nil] at h
    exact absurd h (Nat.not_lt_zero _)
theorem verts_at {g : GGraph} {j : GJob} (h1 : 1 ≤ j.Parts) (h6 : j.Parts ≤ 6) (hn : g.N ≤ 24) {p : Int} (hp : 0 ≤ p ∧ p < j.Parts) (i : Nat) (h : i < (vertsS g j p).length) : (((vertsS g j p)[i] : Nat) : Int) = p + (i : Int) * j.Parts := by
 obtain ⟨q, rfl⟩ := Int.eq_ofNat_of_zero_le hp.1
 have e : vertsS g j (q : Int) = progL 30 g.N.toNat j.Parts.toNat q := (prog_verts om om om om).symm
 simp only [e] at h ⊢
 rw [progL_get]
 have : ((j.Parts.toNat : Nat) : Int) = j.Parts := by omega
 rw [Int.natCast_add, Int.natCast_mul, this]
def boxT (j : GJob) : Int ⊕ Tri → Int ⊕ S8
 | .inl e => .inl e
 | .inr w => .inr (w.1, w.2.1, boxes j w.2.2)
theorem home_in {j : GJob} (h1 : 1 ≤ j.Parts) (h6 : j.Parts ≤ 6) {v : Int} (h0 : 0 ≤ v) : homeS j v = v % j.Parts ∧ 0 ≤ homeS j v ∧ homeS j v ≤ 5 := by
 have hm0 : 0 ≤ v % j.Parts := Int.emod_nonneg _ om
 have hm1 : v % j.Parts < j.Parts := Int.emod_lt_of_pos _ om
 have e : homeS j v = v % j.Parts := by rw [homeS, ilt_f.2 h0, ilt_f.2 h1, ilt_f.2 h6]; rfl
 rw [e]; exact ⟨rfl, hm0, by omega⟩
theorem go116 {K : Nat} (hK : 3000 ≤ K) (g : GGraph) (j : GJob) (x : GPart) (hR : partRight g j x = true) (hn : niceP x) (hin : x.In.length ≤ 300) : ∀ (n i : Nat) (a : List Int) (b : List Bool) (c : List GMsg), i + n = x.Vals.length → keepP g i a b c →
 goI (st116 K g j x) (fun s => some (.inr s)) i (x.Vals.drop i) (a, b, boxes j c) = some (boxT j (doA g j x ((vertsS g j x.P).drop i) i a b c)) := by
 obtain ⟨hc, p1, p2, p3, p4, p5, p6, _⟩ := partRight_ok hR
 obtain ⟨hg, _, _, _, _, _, _, p7, p8⟩ := jcheck_ok hc
 obtain ⟨g1, g2, g3, _⟩ := gcheck_ok hg
 have hvl := verts_len g j g2 x.P
 rw [countS] at p5 p6
 intro n
 induction n with
 | zero =>
  intro i a b c hi _
  have e1 : x.Vals.drop i = [] := List.drop_eq_nil_of_le om
  have e2 : (vertsS g j x.P).drop i = [] := List.drop_eq_nil_of_le om
  rw [e1, e2]; rfl
 | succ n ih =>
  intro i a b c hi h
  have hlc := h.lc
  obtain ⟨v, hv⟩ : ∃ v, (vertsS g j x.P)[i]'om = v := ⟨_, rfl⟩
  have hat0 := verts_at p7 p8 g2 ⟨p1, p2⟩ i om
  rw [hv] at hat0
  have hd2 : (vertsS g j x.P).drop i = v :: (vertsS g j x.P).drop (i + 1) := by rw [List.drop_eq_getElem_cons (by omega : i < (vertsS g j x.P).length), hv]
  have hvm : v ∈ vertsS g j x.P := hv ▸ List.getElem_mem _
  have hvn := ((mem_verts p7).1 hvm).1
  have hd1 : x.Vals.drop i = x.Vals.getD i 0 :: x.Vals.drop (i + 1) := by
   rw [List.drop_eq_getElem_cons (by omega : i < x.Vals.length), List.getD_eq_getElem?_getD, List.getElem?_eq_getElem (by omega : i < x.Vals.length)]; rfl
  have hv0 : 0 ≤ (i : Int) * j.Parts := Int.mul_nonneg om om
  have e1 : wmul .i64 (i : Int) j.Parts = (i : Int) * j.Parts := wmul_ok (by unfold i64; omega)
  have e2 : wadd .i64 x.P ((i : Int) * j.Parts) = (v : Int) := by rw [wadd_i64 (by unfold i64; omega)]; omega
  have hnx := keepP_next (j := j) hn v h
  obtain ⟨la, lb, _, _, _, _⟩ := h
  obtain ⟨o3, o4⟩ := onep_outs (g := g) (j := j) (x := x) (i := i) (v := v)
  obtain ⟨r1, r2⟩ := elAt_get (l := x.Rest) (i := i) om false
  have a1 : apok (len a) 1 8 = true := decide_eq_true ⟨by show a.length + 1 ≤ _; omega, by show (a.length + 1) * 8 ≤ _; omega⟩
  have a2 : apok (len b) 1 1 = true := decide_eq_true ⟨by show b.length + 1 ≤ _; omega, by show (b.length + 1) * 1 ≤ _; omega⟩
  have hx : i64 (x.Vals.getD i 0) := by
   rw [List.getD_eq_getElem?_getD]
   cases hq : x.Vals[i]? with
   | none => show i64 0; unfold i64; omega
   | some y => exact hn.1 y (List.mem_of_getElem? hq)
  have hat := atS_i64 (l := x.In) (v := (v : Int)) hn.2
  have nx := ih (i + 1) _ _ _ om hnx
  have f99 := F93_spec (K := K) om g j x.Step (v : Int) (atS x.In (v : Int)).2 hx hat
  have hro := fun (aa : List Int) (bb : List Bool) (vv : Int) (rr : Bool) => route (K := K) g j x aa bb vv rr (oneP g j x i v).2.1 (i : Int) c om om (fun m hm => (home_in p7 p8 (o4 m hm).1).2)
  rw [hd1, hd2, goI, st116, doA, e1, e2, F92_spec x.In (v : Int) om om, r1, r2]
  simp only [cT, bS, f99, a1, a2]
  have eb : ∀ c, (boxes j c).1 = toS j c 0 ∧ (boxes j c).2.1 = toS j c 1 ∧ (boxes j c).2.2.1 = toS j c 2 ∧ (boxes j c).2.2.2.1 = toS j c 3 ∧ (boxes j c).2.2.2.2.1 = toS j c 4 ∧ (boxes j c).2.2.2.2.2 = toS j c 5 := fun c => ⟨rfl, rfl, rfl, rfl, rfl, rfl⟩
  obtain ⟨q0, q1, q2, q3, q4, q5⟩ := eb c
  rw [q0, q1, q2, q3, q4, q5]
  cases hs : (atS x.In (v : Int)).2
  · cases hy : x.Rest.getD i false
    · have hT : oneP g j x i v = turnS g j x.Step (v : Int) (x.Vals.getD i 0) (atS x.In (v : Int)).1 false := by rw [oneP, hy, hs]; rfl
      rw [hT] at nx hro ⊢
      simp only [cF, cT, hro, bS]
      cases ieq (turnS g j x.Step (v : Int) (x.Vals.getD i 0) (atS x.In (v : Int)).1 false).2.2.2 0
      · rfl
      · exact nx
    · have hT : oneP g j x i v = (x.Vals.getD i 0, [], true, 0) := by rw [oneP, hy, hs]; rfl
      rw [hT] at nx ⊢
      simp only [List.append_nil] at nx ⊢
      exact nx
  · have hT : oneP g j x i v = turnS g j x.Step (v : Int) (x.Vals.getD i 0) (atS x.In (v : Int)).1 true := by rw [oneP, hs, Bool.not_true, Bool.and_false]; rfl
    rw [hT] at nx hro ⊢
    simp only [cF, cT, hro, bS]
    cases x.Rest.getD i false <;> cases ieq (turnS g j x.Step (v : Int) (x.Vals.getD i 0) (atS x.In (v : Int)).1 true).2.2.2 0 <;> first | rfl | exact nx
def st116b (K : Nat) (j : GJob) (s : B6) (q : Nat) (d : List (List GMsg)) (c : List (List GMsg) → Option (Int ⊕ List (List GMsg))) : Option (Int ⊕ List (List GMsg)) :=
 bif (ieq (q : Int) 0) then ((F95 K j.Prog s.1).bind fun r => bif (ieq r.2 0) then (bif (apok (len d) 1 24) then c (appL d [r.1]) else none) else some (.inl r.2)) else
 bif (ieq (q : Int) 1) then ((F95 K j.Prog s.2.1).bind fun r => bif (ieq r.2 0) then (bif (apok (len d) 1 24) then c (appL d [r.1]) else none) else some (.inl r.2)) else
 bif (ieq (q : Int) 2) then ((F95 K j.Prog s.2.2.1).bind fun r => bif (ieq r.2 0) then (bif (apok (len d) 1 24) then c (appL d [r.1]) else none) else some (.inl r.2)) else
 bif (ieq (q : Int) 3) then ((F95 K j.Prog s.2.2.2.1).bind fun r => bif (ieq r.2 0) then (bif (apok (len d) 1 24) then c (appL d [r.1]) else none) else some (.inl r.2)) else
 bif (ieq (q : Int) 4) then ((F95 K j.Prog s.2.2.2.2.1).bind fun r => bif (ieq r.2 0) then (bif (apok (len d) 1 24) then c (appL d [r.1]) else none) else some (.inl r.2)) else
 bif (ieq (q : Int) 5) then (F95 K j.Prog s.2.2.2.2.2).bind fun r => bif (ieq r.2 0) then (bif (apok (len d) 1 24) then c (appL d [r.1]) else none) else some (.inl r.2) else none
theorem tell_step {K : Nat} (hK : 3000 ≤ K) (j : GJob) (c : List GMsg) (hl : c.length ≤ 2000) (hv : ∀ m ∈ c, i64 m.V) (q : Nat) (hq : q < 6) (d : List (List GMsg)) (hd : d.length ≤ 6) (k : List (List GMsg) → Option (Int ⊕ List (List GMsg))) :
 st116b K j (boxes j c) q d k = bif ieq (boxS j.Prog (toS j c (q : Int))).2 0 then k (d ++ [(boxS j.Prog (toS j c (q : Int))).1]) else some (.inl (boxS j.Prog (toS j c (q : Int))).2) := by
 have ap : apok (len d) 1 24 = true := decide_eq_true ⟨by show d.length + 1 ≤ _; omega, by show (d.length + 1) * 24 ≤ _; omega⟩
 have hlen := fun q => toS_len j c q
 have f := fun (q : Int) => F95_spec (K := K) j.Prog (toS j c q) (fun m hm => hv m (toS_mem hm).1) (by have := hlen q; omega) (by have := hlen q; omega)
 rw [st116b, boxes]
 simp only [f, bS, ap, cT]
 rcases (by omega : q = 0 ∨ q = 1 ∨ q = 2 ∨ q = 3 ∨ q = 4 ∨ q = 5) with rfl | rfl | rfl | rfl | rfl | rfl <;> rfl
theorem go116b {K : Nat} (hK : 3000 ≤ K) (j : GJob) (c : List GMsg) (hl : c.length ≤ 2000) (hv : ∀ m ∈ c, i64 m.V) : ∀ (l : List Nat) (d : List (List GMsg)), (∀ q ∈ l, q < 6) → d.length + l.length ≤ 6 →
 goL (st116b K j (boxes j c)) (fun d => some (.inr d)) l d = some (tellS j c l d) := by
 intro l
 induction l with
 | nil => intro d _ _; rfl
 | cons q l ih =>
  intro d hq hd
  simp only [List.length_cons] at hd
  rw [goL, tell_step hK j c hl hv q (hq q List.mem_cons_self) d om, tellS, ih _ (fun y hy => hq y (List.mem_cons_of_mem _ hy)) (by simp only [List.length_append, List.length_singleton]; omega)]
  cases ieq (boxS j.Prog (toS j c (q : Int))).2 0 <;> rfl
theorem F58_spec {K : Nat} (hK : 3000 ≤ K) (g : GGraph) (j : GJob) (x : GPart) (hn : niceP x) (hin : x.In.length ≤ 300) (hp : i64 x.P) : F58 K g j x = some (doS g j x) := by
 rw [F58, F31_spec om, F91_spec om g j x om om hp, bS, bS, doS]
 cases hc : ieq (jcheck g j) 0
 · rfl
 · cases hR : partRight g j x
   · rfl
   · cases h40 : ieq x.Step 40
     · obtain ⟨_, p1, p2, p3, p4, p5, p6, _⟩ := partRight_ok hR
       obtain ⟨hg, _, _, _, _, _, _, p7, p8⟩ := jcheck_ok hc
       obtain ⟨g1, g2, g3, _⟩ := gcheck_ok hg
       have hvl := verts_len g j g2 x.P
       rw [countS] at p5 p6
       have h := scanI (l := x.Vals) (L := fun k (s : S8) i => F58_l0_0 K g.N g.Edges j.Prog j.Source j.Limit j.Parts x.P x.Step x.Vals x.Rest x.In k s.1 s.2.1 s.2.2.1 s.2.2.2.1 s.2.2.2.2.1 s.2.2.2.2.2.1 s.2.2.2.2.2.2.1 s.2.2.2.2.2.2.2 i) (st116 K g j x) (fun s => some (.inr s)) (fun k s i _ => rfl) om K ([], [], boxes j []) 0 om om
       have h' : F58_l0_0 K g.N g.Edges j.Prog j.Source j.Limit j.Parts x.P x.Step x.Vals x.Rest x.In K [] [] [] [] [] [] [] [] 0 = some (boxT j (doA g j x (vertsS g j x.P) 0 [] [] [])) := by
        rw [show F58_l0_0 K g.N g.Edges j.Prog j.Source j.Limit j.Parts x.P x.Step x.Vals x.Rest x.In K [] [] [] [] [] [] [] [] 0 = _ from h]
        have := go116 hK g j x hR hn hin x.Vals.length 0 [] [] [] om (keepP0 g)
        rwa [List.drop_zero] at this
       simp only [cT, cF, h', bS]
       cases hA : doA g j x (vertsS g j x.P) 0 [] [] [] with
       | inl e => rfl
       | inr w =>
        have kw := doA_keep hn _ 0 [] [] [] (keepP0 g) w hA
        have hwl := kw.lc
        have hw : wadd .i64 x.Step 1 = x.Step + 1 := wadd_i64 (by unfold i64; omega)
        have t := scanN (N := j.Parts) (L := fun k d i => F58_l2_2 K j.Prog j.Source j.Limit j.Parts x.P (x.Step + 1) w.1 w.2.1 (toS j w.2.2 0) (toS j w.2.2 1) (toS j w.2.2 2) (toS j w.2.2 3) (toS j w.2.2 4) (toS j w.2.2 5) k d i) (fun q d c => st116b K j (boxes j w.2.2) q d c) (fun d => some (.inr d)) (fun k d i _ => rfl) om (K := K) om []
        have t' : F58_l2_2 K j.Prog j.Source j.Limit j.Parts x.P (x.Step + 1) w.1 w.2.1 (toS j w.2.2 0) (toS j w.2.2 1) (toS j w.2.2 2) (toS j w.2.2 3) (toS j w.2.2 4) (toS j w.2.2 5) K [] 0 = some (tellS j w.2.2 (List.range j.Parts.toNat) []) := by
         rw [show F58_l2_2 K j.Prog j.Source j.Limit j.Parts x.P (x.Step + 1) w.1 w.2.1 (toS j w.2.2 0) (toS j w.2.2 1) (toS j w.2.2 2) (toS j w.2.2 3) (toS j w.2.2 4) (toS j w.2.2 5) K [] 0 = _ from t]
         exact go116b hK j w.2.2 om kw.vc _ [] (fun q hq => by have := List.mem_range.1 hq; omega) (by rw [List.length_range]; simp only [List.length_nil]; omega)
        simp only [boxT, Sum.elim_inr, boxes, hw, t', bS, doB]
        cases tellS j w.2.2 (List.range j.Parts.toNat) [] <;> rfl
     · rfl
def atHd (l : List GHeld) (p : Int) : Int := posS (fun h => ieq h.X.P p) l
theorem F72_spec (K : Nat) (w : GWorker) (p : Int) (hl : w.Held.length < 1000000) (hK : w.Held.length < K) : F72_w K w p = some (atHd w.Held p, w) := by
 let step : Nat → GHeld → Unit → (Unit → Option (Int ⊕ Unit)) → Option (Int ⊕ Unit) := fun i x _ c => bif ieq x.X.P p then some (.inl (i : Int)) else c ()
 have h := scanI (l := w.Held) (L := fun k (_ : Unit) i => F72_w_l0_0 K w p k i) step (fun _ => some (.inr ())) (fun k s i _ => rfl) om K () 0 om om
 have g := find_go (step := step) (fun h => ieq h.X.P p) w.Held 0 (fun x _ i c => rfl)
 rw [List.drop_zero] at h
 have e : F72_w_l0_0 K w p K 0 = _ := h.trans g
 rw [F72_w, e]
 exact posS_elim _ _ fun q => some (q, w)
def mineS (g : GGraph) (j : GJob) (w : GWorker) (x : GPart) : Bool := ieq (toT w.T x.P).2.2 0 && (ieq (toT w.T x.P).1 w.Id && (partRight g j x && ilt (atHd w.Held x.P) 0))
theorem F70_spec {K : Nat} (hK : 1000 ≤ K) (w : GWorker) (g : GGraph) (j : GJob) (x : GPart) (hh : w.Held.length ≤ 100) (hx : x.In.length < 1000000 ∧ x.In.length < K) (hp : i64 x.P) : F70_w K w g j x = some (mineS g j w x, w) := by
 rw [F70_w, F60_spec om, bS, mineS, F91_spec hK g j x hx.1 hx.2 hp, F72_spec K w x.P om om]
 cases ieq (toT w.T x.P).2.2 0
 · rfl
 · cases ieq (toT w.T x.P).1 w.Id
   · rfl
   · cases partRight g j x <;> rfl
def insH (l : List GHeld) (x : GPart) : List GHeld := l.takeWhile (fun h => ilt h.X.P x.P) ++ [GHeld.mk x false false] ++ l.dropWhile (fun h => ilt h.X.P x.P)
theorem F71_loop (K : Nat) (w : GWorker) (x : GPart) (hl : w.Held.length < 1000000) : ∀ (k i : Nat), w.Held.length - i < k → i ≤ w.Held.length → F71_w_l0_0 K w x k (i : Int) = some (((i + ((w.Held.drop i).takeWhile fun h => ilt h.X.P x.P).length : Nat)) : Int) := by
 intro k
 induction k with
 | zero => intro i h; omega
 | succ k ih =>
  intro i hk hi
  rw [F71_w_l0_0]
  rcases at_idx w.Held i with ⟨h, e1, e2, e3, e4⟩ | ⟨e1, e2⟩
  · have hlt := lt_of_drop' e1
    rw [e2, e3, e4, e1, List.takeWhile_cons]
    simp only [cT, bS]
    cases hp : ilt h.X.P x.P
    · simp
    · rw [cT, wadd_nat om, ih (i + 1) om om]
      simp; omega
  · rw [e1, e2]; simp
theorem take_while {α : Type} (p : α → Bool) (l : List α) : l.take (l.takeWhile p).length = l.takeWhile p := by
 conv => lhs; rw [← List.takeWhile_append_dropWhile (p := p) (l := l)]
 rw [List.takeWhile_append_dropWhile]
 induction l with
 | nil => rfl
 | cons x l ih =>
  rw [List.takeWhile_cons]
  cases p x
  · rfl
  · simp [ih]
theorem drop_while {α : Type} (p : α → Bool) (l : List α) : l.drop (l.takeWhile p).length = l.dropWhile p := by
 induction l with
 | nil => rfl
 | cons x l ih =>
  rw [List.takeWhile_cons, List.dropWhile_cons]
  cases p x
  · rfl
  · simp [ih]
theorem while_le {α : Type} (p : α → Bool) (l : List α) : (l.takeWhile p).length ≤ l.length := (List.takeWhile_sublist p).length_le
theorem F71_spec (K : Nat) (w : GWorker) (x : GPart) (hl : w.Held.length ≤ 100) (hK : 1000 ≤ K) : F71_w K w x = some { w with Held := insH w.Held x } := by
 have e : F71_w_l0_0 K w x K 0 = some (((w.Held.takeWhile fun h => ilt h.X.P x.P).length : Nat) : Int) := by
  have e := F71_loop K w x om K 0 om om
  rw [List.drop_zero, Nat.zero_add] at e; exact e
 have hle := while_le (fun h => ilt h.X.P x.P) w.Held
 have hdl : (w.Held.dropWhile fun h => ilt h.X.P x.P).length ≤ w.Held.length := (List.dropWhile_sublist _).length_le
 have s1 : subL w.Held ((w.Held.takeWhile fun h => ilt h.X.P x.P).length : Int) (nlen (len w.Held)) = w.Held.dropWhile fun h => ilt h.X.P x.P := by
  show (w.Held.drop (Int.toNat _)).take _ = _
  simp only [nlen_len, Int.toNat_natCast]
  rw [drop_while, List.take_of_length_le]
  rw [← drop_while, List.length_drop]; exact Nat.le_refl _
 have s2 : subL w.Held 0 ((w.Held.takeWhile fun h => ilt h.X.P x.P).length : Int) = w.Held.takeWhile fun h => ilt h.X.P x.P := by
  show (w.Held.drop 0).take ((((w.Held.takeWhile fun h => ilt h.X.P x.P).length : Nat) : Int).toNat - 0) = _
  rw [Int.toNat_natCast, List.drop_zero, Nat.sub_zero]
  exact take_while _ _
 have b1 : bnd ((w.Held.takeWhile fun h => ilt h.X.P x.P).length : Int) (nlen (len w.Held)) (len w.Held) = true := decide_eq_true ⟨by omega, by rw [nlen_len]; omega, by show nlen (len w.Held) ≤ ((len w.Held : Nat) : Int); exact Int.le_refl _⟩
 have b2 : bnd 0 ((w.Held.takeWhile fun h => ilt h.X.P x.P).length : Int) (len w.Held) = true := decide_eq_true ⟨Int.le_refl _, by omega, by show _ ≤ ((w.Held.length : Nat) : Int); omega⟩
 have a1 : apok 0 (len (w.Held.dropWhile fun h => ilt h.X.P x.P)) 96 = true := apok_small (by show 0 + (w.Held.dropWhile fun h => ilt h.X.P x.P).length ≤ _; omega) om
 have a2 : apok (len (w.Held.takeWhile fun h => ilt h.X.P x.P)) 1 96 = true := apok_small (by show (w.Held.takeWhile fun h => ilt h.X.P x.P).length + 1 ≤ _; omega) om
 have a3 : apok (len (appL (w.Held.takeWhile fun h => ilt h.X.P x.P) [GHeld.mk x false false])) (len (w.Held.dropWhile fun h => ilt h.X.P x.P)) 96 = true := apok_small (by show (appL (w.Held.takeWhile fun h => ilt h.X.P x.P) [GHeld.mk x false false]).length + (w.Held.dropWhile fun h => ilt h.X.P x.P).length ≤ _; rw [appL, List.length_append, List.length_singleton]; omega) om
 rw [F71_w, e, bS]
 simp only [s1, s2, b1, b2, ieq_refl, app_nil, a1, a2, a3, cT]
 rfl
def sinceS (w : GWorker) (e : Int) : GWorker := { w with Buf := w.Buf.filter (fun d => ile e d.Epoch), Coming := w.Coming.filter (fun c => ile e c.Epoch) }
theorem F69_spec {K : Nat} (w : GWorker) (e : Int) (h1 : w.Buf.length ≤ 1000000) (h2 : w.Coming.length ≤ 1000000) (k1 : w.Buf.length < K) (k2 : w.Coming.length < K) : F69_w K w e = some (sinceS w e) := by
 let st1 : GData → List GData → (List GData → Option (List GData)) → Option (List GData) := fun x a c => bif ile e x.Epoch then (bif apok (len a) 1 56 then c (appL a [x]) else none) else c a
 have e1 := scanL (l := w.Buf) (L := fun k a i => F69_w_l0_0 K w e k a i) st1 (fun a => some a) (fun k s i _ => rfl) om k1 []
 have g1 := filt_go (step := st1) (fun d => ile e d.Epoch) (fun d => d) 56 om 1000000 om w.Buf [] (by simp; omega) (fun x _ a c => rfl)
 have f1 : F69_w_l0_0 K w e K [] 0 = some (w.Buf.filter fun d => ile e d.Epoch) := (e1.trans g1).trans (by simp)
 rw [F69_w, f1, bS]
 let st2 : GComing → List GComing → (List GComing → Option (List GComing)) → Option (List GComing) := fun x a c => bif ile e x.Epoch then (bif apok (len a) 1 96 then c (appL a [x]) else none) else c a
 have e2 := scanL (l := w.Coming) (L := fun k a i => F69_w_l1_1 K w e (w.Buf.filter fun d => ile e d.Epoch) k a i) st2 (fun a => some a) (fun k s i _ => rfl) om k2 []
 have g2 := filt_go (step := st2) (fun d => ile e d.Epoch) (fun d => d) 96 om 1000000 om w.Coming [] (by simp; omega) (fun x _ a c => rfl)
 have f2 : F69_w_l1_1 K w e (w.Buf.filter fun d => ile e d.Epoch) K [] 0 = some (w.Coming.filter fun d => ile e d.Epoch) := (e2.trans g2).trans (by simp)
 rw [f2]; rfl
def postS (w : GWorker) (m : GMail) : GWorker := { w with Out := w.Out ++ [GPost.mk 0 0 m] }
theorem F63_spec (K : Nat) (w : GWorker) (m : GMail) (h : w.Out.length ≤ 900000) : F63_w K w m = some (postS w m) := by
 rw [F63_w, apok_small (by show w.Out.length + 1 ≤ _; omega) om]; rfl
def noP' : GPart := GPart.mk 0 0 [] [] []
def failM (w : GWorker) (p : Int) : GMail := GMail.mk 5 w.T.Epoch 0 w.Goal p 0 0 8 [] [] [] noP' []
def failS (w : GWorker) (p : Int) : GWorker := postS w (failM w p)
theorem F59_spec (K : Nat) (w : GWorker) (p : Int) (h : w.Out.length ≤ 900000) : F59_w K w p = some (failS w p) := by
 rw [F59_w, F63_spec K _ _ h]; rfl
def isDa (e s q p : Int) (d : GData) : Bool := ieq d.Epoch e && (ieq d.Step s && (ieq d.Q q && ieq d.P p))
def gotS (l : List GData) (e s q p : Int) : Int := posS (isDa e s q p) l
theorem F61_spec (K : Nat) (w : GWorker) (e s q p : Int) (hl : w.Buf.length < 1000000) (hK : w.Buf.length < K) : F61_w K w e s q p = some (gotS w.Buf e s q p, w) := by
 let step : Nat → GData → Unit → (Unit → Option (Int ⊕ Unit)) → Option (Int ⊕ Unit) := fun i x _ c =>
  bif ieq x.Epoch e then (bif ieq x.Step s then (bif ieq x.Q q then (bif ieq x.P p then some (.inl (i : Int)) else c ()) else c ()) else c ()) else c ()
 have h := scanI (l := w.Buf) (L := fun k (_ : Unit) i => F61_w_l0_0 K w e s q p k i) step (fun _ => some (.inr ())) (fun k s i _ => rfl) om K () 0 om om
 have g := find_go (step := step) (isDa e s q p) w.Buf 0 (fun x _ i c => by
  show (bif ieq x.Epoch e then (bif ieq x.Step s then (bif ieq x.Q q then (bif ieq x.P p then _ else _) else _) else _) else _) = _
  rw [isDa]
  cases ieq x.Epoch e <;> cases ieq x.Step s <;> cases ieq x.Q q <;> cases ieq x.P p <;> rfl)
 rw [List.drop_zero] at h
 have e : F61_w_l0_0 K w e s q p K 0 = _ := h.trans g
 rw [F61_w, e]
 exact posS_elim _ _ fun q => some (q, w)
def tableS (j : GJob) (e : Int) (m : GMail) : GTable × Bool := (GTable.mk e m.Owners m.Ids m.Incs, tabR (GTable.mk e m.Owners m.Ids m.Incs) && (ilt 0 e && ieq (m.Owners.length : Int) j.Parts))
theorem F68_spec {K : Nat} (hK : 100 ≤ K) (j : GJob) (e : Int) (m : GMail) : F68 K j e m = some (tableS j e m) := by
 rw [F68, F100_spec hK, bS, tableS, nlen_len]
 cases tabR (GTable.mk e m.Owners m.Ids m.Incs) <;> cases ilt 0 e <;> rfl
def loadedM (m : GMail) : GMail := GMail.mk 2 m.Epoch 0 0 m.X.P 0 0 0 [] [] [] noP' []
def putX (g : GGraph) (j : GJob) (w : GWorker) (m : GMail) : GWorker := bif mineS g j w m.X then postS { w with Held := insH w.Held m.X } (loadedM m) else w
def loadS (g : GGraph) (j : GJob) (w : GWorker) (m : GMail) : GWorker :=
 bif (tableS j m.Epoch m).2 then (bif ilt m.Epoch w.T.Epoch then w else bif ilt w.T.Epoch m.Epoch then putX g j (sinceS { w with Goal := -1, T := (tableS j m.Epoch m).1, Held := [], Out := [] } m.Epoch) m else putX g j w m) else w
structure Sml (w : GWorker) : Prop where
 h : w.Held.length ≤ 50
 b : w.Buf.length ≤ 500000
 c : w.Coming.length ≤ 500000
 o : w.Out.length ≤ 500000
theorem filt_le {α : Type} (p : α → Bool) (l : List α) : (l.filter p).length ≤ l.length := List.length_filter_le p l
theorem F41_spec {K : Nat} (hK : 1000000 ≤ K) (w : GWorker) (g : GGraph) (j : GJob) (m : GMail) (hw : Sml w) (hx : FitM 2000 m) (hp : i64 m.X.P) : F41_w K w g j m = some (loadS g j w m) := by
 have hin : m.X.In.length < 1000000 ∧ m.X.In.length < K := by have := hx.x; omega
 rw [F41_w, F68_spec om, bS, loadS]
 cases (tableS j m.Epoch m).2
 · rfl
 · cases ilt m.Epoch w.T.Epoch
   · rw [cT, cT, cF, cF]
     cases ilt w.T.Epoch m.Epoch
     · rw [cF, cF, F70_spec om w g j m.X (by have := hw.h; omega) hin hp, bS, putX]
       cases mineS g j w m.X
       · rfl
       · show (F71_w K w m.X).bind _ = _
         rw [F71_spec K w m.X (by have := hw.h; omega) om, bS, F63_spec K _ _ (by have := hw.o; show w.Out.length ≤ _; omega)]; rfl
     · rw [cT, cT, F69_spec (w := GWorker.mk w.Id (-1) w.Until (tableS j m.Epoch m).1 [] w.Buf w.Coming []) m.Epoch (by have := hw.b; show w.Buf.length ≤ _; omega) (by have := hw.c; show w.Coming.length ≤ _; omega) (by have := hw.b; show w.Buf.length < _; omega) (by have := hw.c; show w.Coming.length < _; omega), bS]
       show (F70_w K (sinceS { w with Goal := -1, T := (tableS j m.Epoch m).1, Held := [], Out := [] } m.Epoch) g j m.X).bind _ = _
       generalize hv : sinceS { w with Goal := -1, T := (tableS j m.Epoch m).1, Held := [], Out := [] } m.Epoch = v
       have vh : v.Held = [] := by rw [← hv]; rfl
       have vo : v.Out = [] := by rw [← hv]; rfl
       rw [F70_spec om v g j m.X (by rw [vh]; simp) hin hp, bS, putX]
       cases mineS g j v m.X
       · rfl
       · show (F71_w K v m.X).bind _ = _
         rw [F71_spec K v m.X (by rw [vh]; simp) om, bS, F63_spec K _ _ (by show v.Out.length ≤ _; rw [vo]; simp)]; rfl
   · rfl
def beginW (w : GWorker) (m : GMail) : GWorker := bif ieq m.Epoch w.T.Epoch then { w with Goal := m.Step } else w
theorem F42_spec (K : Nat) (w : GWorker) (g : GGraph) (j : GJob) (m : GMail) : F42_w K w g j m = some (beginW w m) := by
 rw [F42_w, beginW]
 cases ieq m.Epoch w.T.Epoch <;> rfl
def dataS (w : GWorker) (m : GMail) : GWorker := bif ile w.T.Epoch m.Epoch && ilt (gotS w.Buf m.Epoch m.Step m.Q m.P) 0 then { w with Buf := w.Buf ++ [GData.mk m.Epoch m.Step m.Q m.P m.Msgs] } else w
theorem F43_spec {K : Nat} (w : GWorker) (g : GGraph) (j : GJob) (m : GMail) (hl : w.Buf.length ≤ 900000) (hK : 1000000 ≤ K) : F43_w K w g j m = some (dataS w m) := by
 rw [F43_w, F61_spec K w _ _ _ _ om om, bS, dataS]
 cases ile w.T.Epoch m.Epoch
 · rfl
 · cases ilt (gotS w.Buf m.Epoch m.Step m.Q m.P) 0
   · rfl
   · simp only [cT, Bool.and_true]
     rw [apok_small (by show w.Buf.length + 1 ≤ _; omega) om]; rfl
def giveM (m : GMail) (x : GPart) : GMail := GMail.mk 7 m.Epoch 0 0 0 0 0 0 [] [] [] x []
def giveAt (w : GWorker) (m : GMail) (h : GHeld) : GWorker :=
 bif h.Wait || (h.Given || ilt (findS m.Ids m.To) 0) then w else { w with Held := w.Held.set (atHd w.Held m.P).toNat (GHeld.mk h.X h.Wait true), Out := w.Out ++ [GPost.mk m.To (m.Incs.getD (findS m.Ids m.To).toNat 0) (giveM m h.X)] }
def giveS (w : GWorker) (m : GMail) : GWorker :=
 bif ieq m.Epoch w.T.Epoch && !(ilt (atHd w.Held m.P) 0) then (match w.Held[(atHd w.Held m.P).toNat]? with | some h => giveAt w m h | none => w) else w
theorem F44_spec {K : Nat} (hK : 1000 ≤ K) (w : GWorker) (g : GGraph) (j : GJob) (m : GMail) (hw : Sml w) (hm : FitM 2000 m) (hi : m.Incs.length = m.Ids.length) (hK2 : m.Ids.length < K) : F44_w K w g j m = some (giveS w m) := by
 rw [F44_w, F72_spec K w m.P (by have := hw.h; omega) (by have := hw.h; omega), bS, giveS]
 cases ieq m.Epoch w.T.Epoch
 · rfl
 · cases hn : ilt (atHd w.Held m.P) 0
   · simp only [cT, cF, Bool.true_and, Bool.not_false]
     rw [ilt_f] at hn
     obtain ⟨q, h, e1, e2, e3⟩ := posS_at (p := fun h : GHeld => ieq h.X.P m.P) (l := w.Held) (by show ¬ atHd w.Held m.P < 0; omega)
     have e1' : atHd w.Held m.P = (q : Int) := e1
     have hql : q < w.Held.length := (List.getElem?_eq_some_iff.1 e2).1
     rw [e1', Int.toNat_natCast, e2]
     have b1 : inr (q : Int) (len w.Held) = true := decide_eq_true ⟨by omega, by show (q : Int) < (w.Held.length : Int); omega⟩
     have b2 : elAt w.Held (q : Int) = some h := by rw [elAt_nat]; exact e2
     rw [b1, b2, cT, bS]
     dsimp only
     rw [giveAt, e1', Int.toNat_natCast]
     cases hW : h.Wait
     · cases h.Given
       · simp only [cF, Bool.false_or]
         let step : Nat → Int → Unit → (Unit → Option ((List GHeld × List GPost) ⊕ Unit)) → Option ((List GHeld × List GPost) ⊕ Unit) := fun i x _ c =>
          bif ieq x m.To then
           (bif inr (q : Int) (len w.Held) then (elAt w.Held (q : Int)).bind fun h => bif inr (i : Int) (len m.Incs) then (elAt m.Incs (i : Int)).bind fun n =>
            bif inr (q : Int) (len (putAt w.Held (q : Int) (GHeld.mk h.X h.Wait true))) then (elAt (putAt w.Held (q : Int) (GHeld.mk h.X h.Wait true)) (q : Int)).bind fun h' =>
            bif apok (len w.Out) 1 264 then some (.inl (putAt w.Held (q : Int) (GHeld.mk h.X h.Wait true), appL w.Out [GPost.mk m.To n (giveM m h'.X)])) else none else none else none else none)
          else c ()
         have hs := scanI (l := m.Ids) (L := fun k (_ : Unit) i => F44_w_l0_0 K m ((q : Int), w) k i) step (fun _ => some (.inr ())) (fun k s i _ => rfl) (by have := hm.i; omega) K () 0 om om
         rw [List.drop_zero] at hs
         have go : ∀ (l : List Int) (i : Nat), m.Ids.drop i = l → goI step (fun _ => some (.inr ())) i l () = some (match l.findIdx? (fun x => ieq x m.To) with
          | some z => .inl (w.Held.set q (GHeld.mk h.X h.Wait true), w.Out ++ [GPost.mk m.To (m.Incs.getD (i + z) 0) (giveM m h.X)]) | none => .inr ()) := by
          intro l
          induction l with
          | nil => intro i _; rfl
          | cons x l ih =>
           intro i hd
           have hlt := lt_of_drop' hd
           have hd2 : m.Ids.drop (i + 1) = l := by
            have := List.drop_eq_getElem_cons hlt
            rw [hd] at this
            injection this with _ h2; exact h2.symm
           rw [goI, List.findIdx?_cons]
           show (bif ieq x m.To then _ else _) = _
           cases ieq x m.To
           · rw [cF, ih (i + 1) hd2]
             cases l.findIdx? (fun x => ieq x m.To) with
             | none => rfl
             | some z => simp [Nat.add_assoc, Nat.add_comm 1 z]
           · have c1 : inr (i : Int) (len m.Incs) = true := decide_eq_true ⟨by omega, by show (i : Int) < (m.Incs.length : Int); omega⟩
             have c2 : elAt m.Incs (i : Int) = some (m.Incs.getD i 0) := by rw [elAt_nat, getD_lt om]; exact List.getElem?_eq_getElem om
             have c3 : putAt w.Held (q : Int) (GHeld.mk h.X h.Wait true) = w.Held.set q (GHeld.mk h.X h.Wait true) := by show w.Held.set (Int.toNat q) _ = _; rw [Int.toNat_natCast]
             have c4 : inr (q : Int) (len (w.Held.set q (GHeld.mk h.X h.Wait true))) = true := decide_eq_true ⟨by omega, by show (q : Int) < ((w.Held.set q _).length : Int); rw [List.length_set]; omega⟩
             have c5 : elAt (w.Held.set q (GHeld.mk h.X h.Wait true)) (q : Int) = some (GHeld.mk h.X h.Wait true) := by rw [elAt_nat, List.getElem?_set_self hql]
             simp only [cT, b1, b2, bS, c1, c2, c3, c4, c5, apok_small (show len w.Out + 1 ≤ 1000000 by have := hw.o; show w.Out.length + 1 ≤ _; omega) (show 264 ≤ 1000 by omega)]
             simp [appL]
         have e : F44_w_l0_0 K m ((q : Int), w) K 0 = _ := hs.trans (go m.Ids 0 rfl)
         rw [e]
         have hfe : findS m.Ids m.To = (match m.Ids.findIdx? (fun x => ieq x m.To) with | some z => (z : Int) | none => -1) := rfl
         cases hf : m.Ids.findIdx? (fun x => ieq x m.To) with
         | none =>
          rw [hfe, hf]; rfl
         | some z =>
          rw [hfe, hf]
          have hz : ilt ((z : Nat) : Int) 0 = false := ilt_f.2 om
          simp only [bS, Sum.elim_inl, hz, cF, Nat.zero_add, Int.toNat_natCast, hW]
       · rfl
     · rfl
   · rfl
theorem rising_len {α : Type} (f : α → Int) (hi : Int) : ∀ (l : List α) (lo : Int), l.Pairwise (fun a b => f a < f b) → (∀ x ∈ l, lo ≤ f x ∧ f x < hi) → (l.length : Int) ≤ max 0 (hi - lo)
 | [], lo, _, _ => by simp; omega
 | x :: l, lo, h, g => by
  have hx := g x List.mem_cons_self
  have := rising_len f hi l (f x + 1) (List.pairwise_cons.1 h).2 fun y hy => ⟨by have := (List.pairwise_cons.1 h).1 y hy; omega, (g y (List.mem_cons_of_mem _ hy)).2⟩
  rw [List.length_cons]
  omega
structure HOk (l : List GHeld) : Prop where
 s : l.Pairwise (fun a b => a.X.P < b.X.P)
 r : ∀ h ∈ l, 0 ≤ h.X.P ∧ h.X.P < 6
theorem HOk.len {l : List GHeld} (h : HOk l) : l.length ≤ 6 := by
 have := rising_len (fun h : GHeld => h.X.P) 6 l 0 h.s h.r
 omega
theorem HOk.nil : HOk [] := ⟨List.Pairwise.nil, fun h hh => absurd hh List.not_mem_nil⟩
theorem mem_insH {l : List GHeld} {x : GPart} {h : GHeld} : h ∈ insH l x ↔ h ∈ l ∨ h = GHeld.mk x false false := by
 have : h ∈ l ↔ h ∈ l.takeWhile (fun h => ilt h.X.P x.P) ∨ h ∈ l.dropWhile (fun h => ilt h.X.P x.P) := by
  conv => lhs; rw [← List.takeWhile_append_dropWhile (p := fun h => ilt h.X.P x.P) (l := l)]
  rw [List.mem_append]
 rw [insH, List.mem_append, List.mem_append, List.mem_singleton, this]
 constructor
 · rintro ((h | h) | h)
   · exact .inl (.inl h)
   · exact .inr h
   · exact .inl (.inr h)
 · rintro ((h | h) | h)
   · exact .inl (.inl h)
   · exact .inr h
   · exact .inl (.inr h)
theorem mem_while {α : Type} {p : α → Bool} : ∀ {l : List α} {x : α}, x ∈ l.takeWhile p → p x = true
 | y :: l, x, h => by
  rw [List.takeWhile_cons] at h
  cases hp : p y
  · rw [hp] at h; exact absurd h List.not_mem_nil
  · rw [hp] at h
    rcases List.mem_cons.1 h with rfl | h
    · exact hp
    · exact mem_while h
theorem insH_sorted {l : List GHeld} {x : GPart} (hs : l.Pairwise (fun a b => a.X.P < b.X.P)) (hn : ∀ h ∈ l, h.X.P ≠ x.P) : (insH l x).Pairwise (fun a b => a.X.P < b.X.P) := by
 have e := List.takeWhile_append_dropWhile (p := fun h : GHeld => ilt h.X.P x.P) (l := l)
 have h1 : ∀ h ∈ l.takeWhile (fun h => ilt h.X.P x.P), h.X.P < x.P := fun h hh => by
  have := mem_while hh
  exact ilt_iff.1 this
 have h2 : ∀ h ∈ l.dropWhile (fun h => ilt h.X.P x.P), x.P < h.X.P := by
  have key : ∀ (l : List GHeld), l.Pairwise (fun a b => a.X.P < b.X.P) → (∀ h ∈ l, h.X.P ≠ x.P) → ∀ h ∈ l.dropWhile (fun h => ilt h.X.P x.P), x.P < h.X.P := by
   intro l
   induction l with
   | nil => intro _ _ h hh; cases hh
   | cons y l ih =>
    intro hs hn h hh
    rw [List.dropWhile_cons] at hh
    cases hp : ilt y.X.P x.P
    · rw [hp] at hh
      rw [ilt_f] at hp
      have := hn y List.mem_cons_self
      rcases List.mem_cons.1 hh with rfl | hh
      · omega
      · have := (List.pairwise_cons.1 hs).1 h hh; omega
    · rw [hp] at hh
      exact ih (List.pairwise_cons.1 hs).2 (fun h hh => hn h (List.mem_cons_of_mem _ hh)) h hh
  exact key l hs hn
 rw [← e, List.pairwise_append] at hs
 rw [insH, List.append_assoc, List.pairwise_append]
 refine ⟨hs.1, ?_, ?_⟩
 · rw [List.singleton_append, List.pairwise_cons]
   exact ⟨h2, hs.2.1⟩
 · intro a ha b hb
   rw [List.singleton_append, List.mem_cons] at hb
   rcases hb with rfl | hb
   · exact h1 a ha
   · exact hs.2.2 a ha b hb
theorem atHd_neg {l : List GHeld} {p : Int} : ilt (atHd l p) 0 = true ↔ ∀ h ∈ l, h.X.P ≠ p := by
 rw [ilt_iff]
 refine (posS_neg _ _).trans ?_
 simp only [ieq_f]
theorem mineS_ok {g : GGraph} {j : GJob} {w : GWorker} {x : GPart} (h : mineS g j w x = true) : 0 ≤ x.P ∧ x.P < ((ownT w.T).Owners.length : Int) ∧ (ownT w.T).Owners.getD x.P.toNat 0 = w.Id ∧ partRight g j x = true ∧ ∀ h ∈ w.Held, h.X.P ≠ x.P := by
 rw [mineS, Bool.and_eq_true, Bool.and_eq_true, Bool.and_eq_true] at h
 obtain ⟨h1, h2, h3, h4⟩ := h
 obtain ⟨a, b, c⟩ := toT_ok h1
 exact ⟨a, b, by rw [← c]; exact ieq_iff.1 h2, h3, atHd_neg.1 h4⟩
theorem HOk.ins {g : GGraph} {j : GJob} {w : GWorker} {x : GPart} (h : HOk w.Held) (hm : mineS g j w x = true) : HOk (insH w.Held x) := by
 obtain ⟨a, b, _, _, d⟩ := mineS_ok hm
 have := (tabR_ok (ownT_right w.T)).2.2.2.2.1
 refine ⟨insH_sorted h.s d, fun y hy => ?_⟩
 rcases mem_insH.1 hy with hy | rfl
 · exact h.r y hy
 · exact ⟨a, by show x.P < 6; omega⟩
theorem insH_len (l : List GHeld) (x : GPart) : (insH l x).length = l.length + 1 := by
 have := congrArg List.length (List.takeWhile_append_dropWhile (p := fun h : GHeld => ilt h.X.P x.P) (l := l))
 rw [List.length_append] at this
 rw [insH, List.length_append, List.length_append, List.length_singleton]; omega
def gotM (m : GMail) : GMail := GMail.mk 8 m.Epoch 0 0 m.X.P 0 0 0 [] [] [] noP' []
def isC (e p : Int) (c : GComing) : Bool := ieq c.Epoch e && ieq c.X.P p
def takeQ (w : GWorker) (m : GMail) : GWorker := bif ilt m.Epoch w.T.Epoch || w.Coming.any (isC m.Epoch m.X.P) then w else postS { w with Coming := w.Coming ++ [GComing.mk m.Epoch m.X] } (gotM m)
theorem F45_spec {K : Nat} (w : GWorker) (g : GGraph) (j : GJob) (m : GMail) (hw : Sml w) (hK : 1000000 ≤ K) : F45_w K w g j m = some (takeQ w m) := by
 let step : GComing → Unit → (Unit → Option (Unit ⊕ Unit)) → Option (Unit ⊕ Unit) := fun x _ c => bif ieq x.Epoch m.Epoch then (bif ieq x.X.P m.X.P then some (.inl ()) else c ()) else c ()
 have h := scanL (l := w.Coming) (L := fun k (_ : Unit) i => F45_w_l0_0 K w m k i) step (fun _ => some (.inr ())) (fun k s i _ => rfl) (by have := hw.c; omega) (K := K) (by have := hw.c; omega) ()
 have e := all_go (step := step) (fun c => !(isC m.Epoch m.X.P c)) w.Coming (fun x _ c => by
  show (bif ieq x.Epoch m.Epoch then (bif ieq x.X.P m.X.P then _ else _) else _) = _
  rw [isC]
  cases ieq x.Epoch m.Epoch <;> cases ieq x.X.P m.X.P <;> rfl)
 have e1 : F45_w_l0_0 K w m K 0 = _ := h.trans e
 have e2 : (w.Coming.all fun c => !(isC m.Epoch m.X.P c)) = !(w.Coming.any (isC m.Epoch m.X.P)) := by rw [List.not_any_eq_all_not]
 rw [F45_w, e1, e2, takeQ]
 cases ilt m.Epoch w.T.Epoch
 · cases w.Coming.any (isC m.Epoch m.X.P)
   · simp only [cF, Bool.not_false, sumU, cT, bS, Sum.elim_inr, Bool.or_false]
     rw [apok_small (by have := hw.c; show w.Coming.length + 1 ≤ _; omega) om, cT, F63_spec K _ _ (by have := hw.o; show w.Out.length ≤ _; omega)]; rfl
   · rfl
 · rfl
def restH (w : GWorker) (m : GMail) : List GPart := (w.Held.filter fun h => ieq m.Epoch w.T.Epoch && (!(h.Wait) && !(h.Given))).map (·.X)
def restC (w : GWorker) (m : GMail) : List GPart := (w.Coming.filter fun c => ieq c.Epoch m.Epoch).map (·.X)
def holdX (g : GGraph) (j : GJob) (w : GWorker) (x : GPart) : GWorker := bif mineS g j w x then { w with Held := insH w.Held x } else w
def changeS (g : GGraph) (j : GJob) (w : GWorker) (m : GMail) : GWorker :=
 bif (tableS j m.Fresh m).2 then (bif ile m.Fresh w.T.Epoch then w else sinceS ((restH w m ++ restC w m).foldl (holdX g j) { w with T := (tableS j m.Fresh m).1, Goal := -1, Held := [] }) m.Fresh) else w
theorem goL_fold {α σ β : Type} {step : α → σ → (σ → Option β) → Option β} {fin : σ → Option β} (P : σ → Prop) (f : σ → α → σ) : ∀ (l : List α) (s : σ), P s → (∀ x ∈ l, ∀ s, P s → P (f s x) ∧ ∀ c, step x s c = c (f s x)) →
 goL step fin l s = fin (l.foldl f s) ∧ P (l.foldl f s)
 | [], s, hs, _ => ⟨rfl, hs⟩
 | x :: l, s, hs, h => by
  obtain ⟨h1, h2⟩ := h x List.mem_cons_self s hs
  rw [goL, h2, List.foldl_cons]
  exact goL_fold P f l (f s x) h1 fun y hy => h y (List.mem_cons_of_mem _ hy)
abbrev WT : Type := Int × Int × Int × Int × List Int × List Int × List Int × List GHeld × List GData × List GComing × List GPost
abbrev wt (w : GWorker) : WT :=
 (w.Id, (w.Goal, (w.Until, (w.T.Epoch, (w.T.Owners, (w.T.Ids, (w.T.Incs, (w.Held, (w.Buf, (w.Coming, w.Out))))))))))
structure SmlP (x : GPart) : Prop where
 v : x.Vals.length ≤ 100
 r : x.Rest.length ≤ 100
 i : x.In.length ≤ 300
 p : i64 x.P
 n : niceP x
theorem F46_hold {K : Nat} (hK : 1000000 ≤ K) (g : GGraph) (j : GJob) (m : GMail) (l : List GPart) (hl : l.length ≤ 600000) (hp : ∀ x ∈ l, SmlP x) (w : GWorker) (hw : HOk w.Held) :
 F46_w_l2_2 K g j m l K w.Id w.Goal w.Until w.T.Epoch w.T.Owners w.T.Ids w.T.Incs w.Held w.Buf w.Coming w.Out 0 = some (wt (l.foldl (holdX g j) w)) := by
 let step : GPart → GWorker → (GWorker → Option WT) → Option WT := fun x w c => (F70_w K w g j x).bind fun r => bif r.1 then (F71_w K r.2 x).bind fun r => c r else c r.2
 have h := scanL (l := l) (L := fun k (w : GWorker) i => F46_w_l2_2 K g j m l k w.Id w.Goal w.Until w.T.Epoch w.T.Owners w.T.Ids w.T.Incs w.Held w.Buf w.Coming w.Out i) step (fun w => some (wt w)) (fun k s i _ => rfl) om (K := K) om w
 have e := goL_fold (step := step) (fin := fun w => some (wt w)) (fun w => HOk w.Held) (holdX g j) l w hw (fun x hx w hw => by
  have hs := hp x hx
  have hlen := hw.len
  have e1 := F70_spec (K := K) om w g j x om (by have := hs.i; omega) hs.p
  constructor
  · show HOk (holdX g j w x).Held
    rw [holdX]
    cases hm : mineS g j w x
    · exact hw
    · exact hw.ins hm
  · intro c
    show (F70_w K w g j x).bind _ = _
    rw [e1, bS, holdX]
    cases mineS g j w x
    · rfl
    · rw [cT, cT, F71_spec K w x om om, bS])
 exact h.trans e.1
theorem F46_spec {K : Nat} (hK : 1000000 ≤ K) (w : GWorker) (g : GGraph) (j : GJob) (m : GMail) (hw : Sml w) (h1 : ∀ h ∈ w.Held, SmlP h.X) (h2 : ∀ c ∈ w.Coming, SmlP c.X) : F46_w K w g j m = some (changeS g j w m) := by
 have a1 := hw.h
 have a2 := hw.c
 have a3 := hw.b
 rw [F46_w, F68_spec om, bS, changeS]
 cases (tableS j m.Fresh m).2
 · rfl
 · cases ile m.Fresh w.T.Epoch
   · rw [cT, cT, cF, cF]
     generalize hr : tableS j m.Fresh m = r
     let st1 : GHeld → List GPart → (List GPart → Option (List GPart)) → Option (List GPart) := fun x a c => bif ieq m.Epoch w.T.Epoch then (bif x.Wait then c a else bif x.Given then c a else bif apok (len a) 1 88 then c (appL a [x.X]) else none) else c a
     have e1 := scanL (l := w.Held) (L := fun k a i => F46_w_l0_0 K w g j m r k a i) st1 (fun a => some a) (fun k s i _ => rfl) om (K := K) om []
     have g1 := filt_go (step := st1) (fun h : GHeld => ieq m.Epoch w.T.Epoch && (!(h.Wait) && !(h.Given))) (fun h => h.X) 88 om 1000000 om w.Held [] (by simp; omega) (fun x _ a c => by
      show (bif ieq m.Epoch w.T.Epoch then (bif x.Wait then c a else bif x.Given then c a else _) else c a) = _
      cases ieq m.Epoch w.T.Epoch <;> cases x.Wait <;> cases x.Given <;> rfl)
     have f1 : F46_w_l0_0 K w g j m r K [] 0 = some (restH w m) := (e1.trans g1).trans (by simp [restH])
     rw [f1, bS]
     have hrl : (restH w m).length ≤ 50 := by rw [restH, List.length_map]; exact Nat.le_trans (filt_le _ _) a1
     let st2 : GComing → List GPart → (List GPart → Option (List GPart)) → Option (List GPart) := fun x a c => bif ieq x.Epoch m.Epoch then (bif apok (len a) 1 88 then c (appL a [x.X]) else none) else c a
     have e2 := scanL (l := w.Coming) (L := fun k a i => F46_w_l1_1 K w g j m r k a i) st2 (fun a => some a) (fun k s i _ => rfl) om (K := K) om (restH w m)
     have g2 := filt_go (step := st2) (fun c : GComing => ieq c.Epoch m.Epoch) (fun c => c.X) 88 om 1000000 om w.Coming (restH w m) om (fun x _ a c => rfl)
     have f2 : F46_w_l1_1 K w g j m r K (restH w m) 0 = some (restH w m ++ restC w m) := e2.trans g2
     rw [f2, bS]
     have hcl : (restC w m).length ≤ 500000 := by rw [restC, List.length_map]; exact Nat.le_trans (filt_le _ _) a2
     have f3 := F46_hold hK g j m (restH w m ++ restC w m) (by rw [List.length_append]; omega) (fun x hx => by
      rcases List.mem_append.1 hx with hx | hx
      · obtain ⟨h, hh, rfl⟩ := List.mem_map.1 hx
        exact h1 h (List.mem_filter.1 hh).1
      · obtain ⟨c, hc, rfl⟩ := List.mem_map.1 hx
        exact h2 c (List.mem_filter.1 hc).1) { w with T := r.1, Goal := -1, Held := [] } HOk.nil
     have f3' : F46_w_l2_2 K g j m (restH w m ++ restC w m) K w.Id (-1) w.Until r.1.Epoch r.1.Owners r.1.Ids r.1.Incs [] w.Buf w.Coming w.Out 0 = _ := f3
     rw [f3', bS]
     generalize hv : (restH w m ++ restC w m).foldl (holdX g j) { w with T := r.1, Goal := -1, Held := [] } = v
     have hbc : v.Buf = w.Buf ∧ v.Coming = w.Coming := by
      have key : ∀ (l : List GPart) (u : GWorker), (l.foldl (holdX g j) u).Buf = u.Buf ∧ (l.foldl (holdX g j) u).Coming = u.Coming := by
       intro l
       induction l with
       | nil => intro u; exact ⟨rfl, rfl⟩
       | cons x l ih =>
        intro u
        rw [List.foldl_cons]
        have := ih (holdX g j u x)
        have e : (holdX g j u x).Buf = u.Buf ∧ (holdX g j u x).Coming = u.Coming := by rw [holdX]; cases mineS g j u x <;> exact ⟨rfl, rfl⟩
        exact ⟨this.1.trans e.1, this.2.trans e.2⟩
      rw [← hv]; exact key _ _
     show (F69_w K v m.Fresh).bind _ = _
     rw [F69_spec v m.Fresh (by rw [hbc.1]; omega) (by rw [hbc.2]; omega) (by rw [hbc.1]; omega) (by rw [hbc.2]; omega)]; rfl
   · rfl
theorem F30_spec (K : Nat) (w : GWorker) (h : Sml w) : F30 K w = some w := by
 obtain ⟨h1, h2, h3, h4⟩ := h
 rw [F30, apok_small (by show 0 + w.Held.length ≤ _; omega) om, apok_small (by show 0 + w.Buf.length ≤ _; omega) om, apok_small (by show 0 + w.Coming.length ≤ _; omega) om, apok_small (by show 0 + w.Out.length ≤ _; omega) om]
 simp only [cT, app_nil]
def byKind (g : GGraph) (j : GJob) (w : GWorker) (m : GMail) : GWorker :=
 bif ieq m.Kind 1 then loadS g j w m else bif ieq m.Kind 3 then beginW w m else bif ieq m.Kind 4 then dataS w m else bif ieq m.Kind 6 then giveS w m else bif ieq m.Kind 7 then takeQ w m else bif ieq m.Kind 9 then changeS g j w m else w
def takeW (g : GGraph) (j : GJob) (w : GWorker) (m : GMail) : GWorker := bif ieq (jcheck g j) 0 && mailR m then byKind g j w m else w
theorem F18_spec {K : Nat} (hK : 1000000 ≤ K) (g : GGraph) (j : GJob) (w : GWorker) (m : GMail) (hw : Sml w) (h1 : ∀ h ∈ w.Held, SmlP h.X) (h2 : ∀ c ∈ w.Coming, SmlP c.X) (hm : FitM 2000 m) (hp : i64 m.X.P) : F18 K g j w m = some (takeW g j w m) := by
 rw [F18, F30_spec K w hw, bS, F31_spec om, bS, F40_spec om m hm, takeW]
 cases ieq (jcheck g j) 0
 · rfl
 · cases hr : mailR m
   · rfl
   · have hi : m.Incs.length = m.Ids.length := by
      simp only [mailR, Bool.and_eq_true, ieq_iff] at hr
      have := hr.2.2.2.2.2.2.1
      omega
     simp only [cT, bS, Bool.true_and, byKind, F41_spec hK w g j m hw hm hp, F42_spec, F43_spec w g j m (by have := hw.b; omega) hK, F44_spec (K := K) om w g j m hw hm hi (by have := hm.i; omega), F45_spec w g j m hw hK, F46_spec hK w g j m hw h1 h2]
     cases ieq m.Kind 1 <;> cases ieq m.Kind 3 <;> cases ieq m.Kind 4 <;> cases ieq m.Kind 6 <;> cases ieq m.Kind 7 <;> cases ieq m.Kind 9 <;> rfl
def leaseS (w : GWorker) (n : Int) : GWorker := bif ilt w.Until n then { w with Until := n } else w
theorem F22_spec (K : Nat) (w : GWorker) (n : Int) (h : Sml w) : F22 K w n = some (leaseS w n) := by
 rw [F22, F30_spec K w h, bS, leaseS]
 cases ilt w.Until n <;> rfl
theorem cut_right {g : GGraph} {j : GJob} {s : GState} (h : stRight g j s = true) {p : Nat} (hp : (p : Int) < j.Parts) : partRight g j (cutS g j s (p : Int)) = true := by
 obtain ⟨hc, s1, s2, s3, s4, s5⟩ := stRight_ok h
 obtain ⟨q1, q2⟩ := inSt_ok s5
 unfold partRight cutS
 dsimp only
 have e1 : ieq ((((vertsS g j (p : Int)).map fun v => s.Vals.getD v 0).length : Nat) : Int) (countS g j (p : Int)) = true := ieq_iff.2 (by simp [countS])
 have e2 : ieq ((((vertsS g j (p : Int)).map fun v => s.Rest.getD v false).length : Nat) : Int) (countS g j (p : Int)) = true := ieq_iff.2 (by simp [countS])
 have e3 : inOkS g.N j.Parts (p : Int) (-1) (s.In.filter fun m => ieq (m.To % j.Parts) (p : Int)) = true := inOkS_mk (q1.filter _) fun m hm => by
  obtain ⟨a, b⟩ := List.mem_filter.1 hm
  exact ⟨(q2 m a).1, (q2 m a).2, ieq_iff.1 b⟩
 rw [hc, ile_iff.2 (by omega : (0 : Int) ≤ (p : Int)), ilt_iff.2 hp, ile_iff.2 s1, ile_iff.2 s2, e1, e2, e3]; rfl
theorem foldC_ok (p : Int) : ∀ (r : List GMsg) (c : GMsg) (d w : List GMsg), foldC p r c d = .inr w → i64 c.V → (∀ x ∈ r, i64 x.V) → (∀ x ∈ d, i64 x.V) → w.length ≤ d.length + r.length + 1 ∧ ∀ x ∈ w, i64 x.V
 | [], c, d, w, h, hc, _, hd => by
  injection h with h
  subst h
  refine ⟨by simp, fun x hx => ?_⟩
  rcases List.mem_append.1 hx with hx | hx
  · exact hd x hx
  · rw [List.mem_singleton.1 hx]; exact hc
 | x :: r, c, d, w, h, hc, hr, hd => by
  rw [foldC] at h
  have hx := hr x List.mem_cons_self
  have hr' := fun y hy => hr y (List.mem_cons_of_mem _ hy)
  cases h1 : ieq c.To x.To
  · rw [h1, cF] at h
    have := foldC_ok p r x (d ++ [c]) w h hx hr' (fun y hy => by
     rcases List.mem_append.1 hy with hy | hy
     · exact hd y hy
     · rw [List.mem_singleton.1 hy]; exact hc)
    rw [List.length_append] at this
    simp only [List.length_singleton] at this
    exact ⟨by simp only [List.length_cons]; omega, this.2⟩
  · rw [h1, cT] at h
    cases h2 : ieq (foldS p c.V x.V).2 0
    · rw [h2] at h; cases h
    · rw [h2, cT] at h
      have := foldC_ok p r _ d w h (foldS_i64 hc hx) hr' hd
      exact ⟨by simp only [List.length_cons]; omega, this.2⟩
theorem boxS_ok {p : Int} {l : List GMsg} (hl : ∀ x ∈ l, i64 x.V) : (boxS p l).1.length ≤ l.length ∧ ∀ x ∈ (boxS p l).1, i64 x.V := by
 have hn : ∀ x ∈ ([] : List GMsg), i64 x.V := fun x hx => absurd hx List.not_mem_nil
 have hs : ∀ x ∈ sortM l, i64 x.V := fun x hx => hl x ((sortM_perm l).mem_iff.1 hx)
 have hsl := sortM_len l
 rw [boxS]
 cases pbad p
 · rw [cF]
   generalize sortM l = m at *
   cases m with
   | nil => exact ⟨Nat.zero_le _, hn⟩
   | cons x r =>
    rw [foldO]
    cases hq : foldC p r x [] with
    | inl e => exact ⟨Nat.zero_le _, hn⟩
    | inr w =>
     have := foldC_ok p r x [] w hq (hs x List.mem_cons_self) (fun y hy => hs y (List.mem_cons_of_mem _ hy)) hn
     simp only [List.length_cons, List.length_nil] at hsl this
     exact ⟨by show w.length ≤ _; omega, this.2⟩
 · exact ⟨Nat.zero_le _, hn⟩
theorem take_right {g : GGraph} {j : GJob} {x : GPart} {l : List GMsg} (h : ieq (takeS g j x l).2 0 = true) : partRight g j (takeS g j x l).1 = true ∧ ieq (jcheck g j) 0 = true := by
 rw [takeS] at h ⊢
 cases hc : ieq (jcheck g j) 0
 · rw [hc, cF] at h
   have h' : ieq (jcheck g j) 0 = true := h
   rw [hc] at h'; cases h'
 · rw [hc] at h
   cases hR : partRight g j x
   · rw [hR] at h; cases h
   · rw [hR] at h
     cases hI : ieq (nlen (len x.In)) 0
     · rw [hI] at h; cases h
     · rw [hI] at h
       cases hO : takeOk g.N j.Parts x.P l
       · rw [hO] at h; cases h
       · rw [hO] at h
         simp only [cT, takeB] at h ⊢
         cases hB : ieq (boxS j.Prog l).2 0
         · rw [hB, cF] at h
           have h' : ieq (boxS j.Prog l).2 0 = true := h
           rw [hB] at h'; cases h'
         · obtain ⟨_, p1, p2, p3, p4, p5, p6, _⟩ := partRight_ok hR
           obtain ⟨r1, r2⟩ := boxS_rise (p := j.Prog) (l := l)
           have hin : inOkS g.N j.Parts x.P (-1) (boxS j.Prog l).1 = true := inOkS_mk r1 fun m hm => by
            obtain ⟨s, hs, e⟩ := r2 m hm
            have := List.all_eq_true.1 hO s hs
            simp only [Bool.and_eq_true, ile_iff, ilt_iff, ieq_iff] at this
            rw [← e]
            exact ⟨by omega, this.2.1, this.2.2⟩
           refine ⟨?_, trivial⟩
           rw [cT, partRight]
           simp only [hc, ile_iff.2 p1, ilt_iff.2 p2, ile_iff.2 p3, ile_iff.2 p4, ieq_iff.2 p5, ieq_iff.2 p6, hin, Bool.and_true]
theorem doA_bad {g : GGraph} {j : GJob} {x : GPart} : ∀ (l : List Nat) (i : Nat) (a : List Int) (b : List Bool) (c : List GMsg) (e : Int), doA g j x l i a b c = .inl e → ieq e 0 = false := by
 intro l
 induction l with
 | nil => intro i a b c e h; cases h
 | cons v l ih =>
  intro i a b c e h
  rw [doA] at h
  cases hq : ieq (oneP g j x i v).2.2.2 0
  · rw [hq] at h
    injection h with h
    rw [← h]; exact hq
  · rw [hq] at h; exact ih _ _ _ _ _ h
theorem tell_cases {j : GJob} {c : List GMsg} : ∀ (l : List Nat) (d : List (List GMsg)), (∃ e, ieq e 0 = false ∧ tellS j c l d = .inl e) ∨ (tellS j c l d = .inr (d ++ l.map fun (q : Nat) => (boxS j.Prog (toS j c (q : Int))).1) ∧ ∀ q ∈ l, ieq (boxS j.Prog (toS j c (q : Int))).2 0 = true) := by
 intro l
 induction l with
 | nil => intro d; exact .inr ⟨by rw [tellS, List.map_nil, List.append_nil], fun q hq => absurd hq List.not_mem_nil⟩
 | cons q l ih =>
  intro d
  rw [tellS]
  cases hq : ieq (boxS j.Prog (toS j c (q : Int))).2 0
  · exact .inl ⟨_, hq, rfl⟩
  · rcases ih (d ++ [(boxS j.Prog (toS j c (q : Int))).1]) with h | ⟨h, h'⟩
    · exact .inl h
    · refine .inr ⟨by rw [cT, h]; simp, fun y hy => ?_⟩
      rcases List.mem_cons.1 hy with rfl | hy
      · exact hq
      · exact h' y hy
theorem do_cases (g : GGraph) (j : GJob) {x : GPart} (hn : niceP x) : (∃ e, ieq e 0 = false ∧ doS g j x = (zeroP, [], e)) ∨
 (ieq (jcheck g j) 0 = true ∧ partRight g j x = true ∧ ieq x.Step 40 = false ∧ ∃ w, doA g j x (vertsS g j x.P) 0 [] [] [] = .inr w ∧ keepP g (vertsS g j x.P).length w.1 w.2.1 w.2.2 ∧
  (∀ q < j.Parts.toNat, ieq (boxS j.Prog (toS j w.2.2 (q : Int))).2 0 = true) ∧
  doS g j x = (GPart.mk x.P (x.Step + 1) w.1 w.2.1 [], (List.range j.Parts.toNat).map (fun (q : Nat) => (boxS j.Prog (toS j w.2.2 (q : Int))).1), 0)) := by
 rw [doS]
 cases hc : ieq (jcheck g j) 0
 · exact .inl ⟨_, hc, rfl⟩
 · cases hR : partRight g j x
   · exact .inl ⟨_, rfl, rfl⟩
   · cases h40 : ieq x.Step 40
     · cases hA : doA g j x (vertsS g j x.P) 0 [] [] [] with
       | inl e => exact .inl ⟨e, doA_bad _ _ _ _ _ _ hA, rfl⟩
       | inr w =>
        have kw := doA_keep hn _ 0 [] [] [] (keepP0 g) w hA
        rw [Nat.zero_add] at kw
        rcases tell_cases (j := j) (c := w.2.2) (List.range j.Parts.toNat) [] with ⟨e, h1, h2⟩ | ⟨h, h'⟩
        · refine .inl ⟨e, h1, ?_⟩
          simp only [cT, cF, doB, h2, doC]
        · refine .inr ⟨rfl, rfl, rfl, w, rfl, kw, fun q hq => h' q (List.mem_range.2 hq), ?_⟩
          simp only [cT, cF, doB, h, doC, List.nil_append]
     · exact .inl ⟨_, rfl, rfl⟩
theorem do_fit {K : Nat} (hK : 3000 ≤ K) (g : GGraph) (j : GJob) {x : GPart} (hn : niceP x) : fitP K (doS g j x).1 ∧ (doS g j x).2.1.length ≤ 6 ∧ ∀ l ∈ (doS g j x).2.1, l.length ≤ 2000 := by
 have hz : fitP K zeroP := by refine ⟨⟨?_, ?_⟩, ⟨?_, ?_⟩, ?_, ?_⟩ <;> simp [zeroP] <;> omega
 rcases do_cases g j hn with ⟨e, _, h⟩ | ⟨hc, hR, _, w, _, kw, _, h⟩
 · rw [h]; exact ⟨hz, Nat.zero_le _, fun l hl => absurd hl List.not_mem_nil⟩
 · obtain ⟨hg, _, _, _, _, _, _, p7, p8⟩ := jcheck_ok hc
   obtain ⟨g1, g2, g3, _⟩ := gcheck_ok hg
   have hvl := verts_len g j g2 x.P
   have h1 := kw.la
   have h2 := kw.lb
   have h3 := kw.lc
   rw [h]
   refine ⟨⟨⟨by show w.1.length < _; omega, by show w.1.length < _; omega⟩, ⟨by show w.2.1.length < _; omega, by show w.2.1.length < _; omega⟩, by show 0 < 1000000; omega, by show 0 < K; omega⟩, ?_, fun l hl => ?_⟩
   · show ((List.range j.Parts.toNat).map _).length ≤ 6
     rw [List.length_map, List.length_range]; omega
   · obtain ⟨q, hq, rfl⟩ := List.mem_map.1 hl
     have := (boxS_ok (p := j.Prog) (l := toS j w.2.2 (q : Int)) fun m hm => kw.vc m (toS_mem hm).1).1
     have := toS_len j w.2.2 (q : Int)
     omega
def outM (w : GWorker) (p : Int) (q : Nat) (l : List GMsg) : GMail := GMail.mk 4 w.T.Epoch 0 w.Goal (q : Int) p 0 0 [] [] [] noP' l
def outStep (p : Int) (w : GWorker) (q : Nat) (l : List GMsg) : GWorker :=
 bif ieq (toT w.T (q : Int)).1 w.Id then dataS w (outM w p q l) else { w with Out := w.Out ++ [GPost.mk (toT w.T (q : Int)).1 (toT w.T (q : Int)).2.1 (outM w p q l)] }
def outsW (p : Int) : Nat → List (List GMsg) → GWorker → GWorker
 | _, [], w => w
 | q, l :: r, w => outsW p (q + 1) r (outStep p w q l)
theorem dataS_len (w : GWorker) (m : GMail) : (dataS w m).Buf.length ≤ w.Buf.length + 1 ∧ (dataS w m).Out = w.Out := by
 rw [dataS]
 cases ile w.T.Epoch m.Epoch && ilt (gotS w.Buf m.Epoch m.Step m.Q m.P) 0
 · exact ⟨by show w.Buf.length ≤ _; omega, rfl⟩
 · exact ⟨by show (w.Buf ++ _).length ≤ _; simp, rfl⟩
theorem outStep_len (p : Int) (w : GWorker) (q : Nat) (l : List GMsg) : (outStep p w q l).Buf.length ≤ w.Buf.length + 1 ∧ (outStep p w q l).Out.length ≤ w.Out.length + 1 := by
 rw [outStep]
 cases ieq (toT w.T (q : Int)).1 w.Id
 · exact ⟨by show w.Buf.length ≤ _; omega, by show (w.Out ++ _).length ≤ _; simp⟩
 · have := dataS_len w (outM w p q l)
   exact ⟨this.1, by show (dataS w (outM w p q l)).Out.length ≤ _; rw [this.2]; omega⟩
theorem F33_loop {K : Nat} (hK : 1000000 ≤ K) (g : GGraph) (j : GJob) (h : GHeld) (r : GPart × List (List GMsg) × Int) (hr : r.2.1.length ≤ 100) (w : GWorker) (hb : w.Buf.length ≤ 800000) (ho : w.Out.length ≤ 800000) :
 F33_w_l0_0 K g j h r K w.Id w.Goal w.Until w.T.Epoch w.T.Owners w.T.Ids w.T.Incs w.Held w.Buf w.Coming w.Out 0 = some (wt (outsW h.X.P 0 r.2.1 w)) := by
 let step : Nat → List GMsg → GWorker → (GWorker → Option WT) → Option WT := fun i l w c =>
  (F60 K w.T (i : Int)).bind fun t => bif ieq t.1 w.Id then (F43_w K w g j (outM w h.X.P i l)).bind fun r => c r
   else bif apok (len w.Out) 1 264 then c { w with Out := appL w.Out [GPost.mk t.1 t.2.1 (outM w h.X.P i l)] } else none
 have hs := scanI (l := r.2.1) (L := fun k (w : GWorker) i => F33_w_l0_0 K g j h r k w.Id w.Goal w.Until w.T.Epoch w.T.Owners w.T.Ids w.T.Incs w.Held w.Buf w.Coming w.Out i) step (fun w => some (wt w)) (fun k s i _ => rfl) om K w 0 om om
 have go : ∀ (l : List (List GMsg)) (i : Nat) (w : GWorker), w.Buf.length + l.length ≤ 900000 → w.Out.length + l.length ≤ 900000 → goI step (fun w => some (wt w)) i l w = some (wt (outsW h.X.P i l w)) := by
  intro l
  induction l with
  | nil => intro i w _ _; rfl
  | cons x l ih =>
   intro i w h1 h2
   rw [List.length_cons] at h1 h2
   have hl := outStep_len h.X.P w i x
   rw [goI, outsW, ← ih (i + 1) (outStep h.X.P w i x) om om]
   show (F60 K w.T (i : Int)).bind _ = _
   rw [F60_spec om, bS, outStep]
   cases ieq (toT w.T (i : Int)).1 w.Id
   · rw [cF, cF, apok_small (by show w.Out.length + 1 ≤ _; omega) om]; rfl
   · rw [cT, cT, F43_spec w g j _ om hK, bS]
 rw [List.drop_zero] at hs
 exact hs.trans (go r.2.1 0 w om om)
def doAt (g : GGraph) (j : GJob) (w : GWorker) (i : Nat) (h : GHeld) : List GDid × GWorker :=
 bif ieq (doS g j h.X).2.2 6 || ieq (doS g j h.X).2.2 1 then ([], w) else
 bif ieq (doS g j h.X).2.2 0 then
  ([GDid.mk (outsW h.X.P 0 (doS g j h.X).2.1 { w with Held := w.Held.set i (GHeld.mk (doS g j h.X).1 true h.Given) }).T.Epoch (outsW h.X.P 0 (doS g j h.X).2.1 { w with Held := w.Held.set i (GHeld.mk (doS g j h.X).1 true h.Given) }).Goal h.X.P],
   outsW h.X.P 0 (doS g j h.X).2.1 { w with Held := w.Held.set i (GHeld.mk (doS g j h.X).1 true h.Given) })
 else ([], failS { w with Held := w.Held.set i (GHeld.mk h.X true h.Given) } h.X.P)
theorem F33_spec {K : Nat} (hK : 1000000 ≤ K) (g : GGraph) (j : GJob) (w : GWorker) (i : Nat) (h : GHeld) (hi : w.Held[i]? = some h) (hx : SmlP h.X) (hb : w.Buf.length ≤ 800000) (ho : w.Out.length ≤ 800000) : F33_w K w g j (i : Int) = some (doAt g j w i h) := by
 have hlt : i < w.Held.length := (List.getElem?_eq_some_iff.1 hi).1
 have e1 : inr (i : Int) (len w.Held) = true := decide_eq_true ⟨by omega, by show (i : Int) < (w.Held.length : Int); omega⟩
 have e2 : elAt w.Held (i : Int) = some h := by rw [elAt_nat]; exact hi
 have p1 : ∀ (y : GHeld), putAt w.Held (i : Int) y = w.Held.set i y := fun y => by show w.Held.set (Int.toNat _) _ = _; rw [Int.toNat_natCast]
 have f1 := (do_fit (K := 3000) om g j hx.n).2.1
 rw [F33_w, e1, e2, cT, bS, F58_spec om g j h.X hx.n hx.i hx.p, bS, doAt]
 cases ieq (doS g j h.X).2.2 6
 · cases ieq (doS g j h.X).2.2 1
   · cases ieq (doS g j h.X).2.2 0
     · simp only [cF, Bool.or_false, p1]
       rw [F59_spec K _ _ (by show w.Out.length ≤ _; omega)]; rfl
     · simp only [cF, cT, Bool.or_false, p1]
       have e3 : inr (i : Int) (len (w.Held.set i (GHeld.mk h.X true h.Given))) = true := decide_eq_true ⟨by omega, by show (i : Int) < ((w.Held.set i _).length : Int); rw [List.length_set]; omega⟩
       have e4 : elAt (w.Held.set i (GHeld.mk h.X true h.Given)) (i : Int) = some (GHeld.mk h.X true h.Given) := by rw [elAt_nat, List.getElem?_set_self hlt]
       have e5 : putAt (w.Held.set i (GHeld.mk h.X true h.Given)) (i : Int) (GHeld.mk (doS g j h.X).1 true h.Given) = w.Held.set i (GHeld.mk (doS g j h.X).1 true h.Given) := by
        show (w.Held.set i _).set (Int.toNat _) _ = _; rw [Int.toNat_natCast, List.set_set]
       rw [e3, e4, cT, bS, e5]
       have hl := F33_loop hK g j h (doS g j h.X) om { w with Held := w.Held.set i (GHeld.mk (doS g j h.X).1 true h.Given) } (by show w.Buf.length ≤ _; omega) (by show w.Out.length ≤ _; omega)
       have hl' : F33_w_l0_0 K g j h (doS g j h.X) K w.Id w.Goal w.Until w.T.Epoch w.T.Owners w.T.Ids w.T.Incs (w.Held.set i (GHeld.mk (doS g j h.X).1 true h.Given)) w.Buf w.Coming w.Out 0 = _ := hl
       rw [hl']; rfl
   · rfl
 · rfl
def noDa : GData := GData.mk 0 0 0 0 []
def insW (b : List GData) (e s p : Int) : List Nat → Option (List (List GMsg))
 | [] => some []
 | q :: r => bif ilt (gotS b e s (q : Int) p) 0 then none else (insW b e s p r).map fun l => (b.getD (gotS b e s (q : Int) p).toNat noDa).Msgs :: l
def keepD (w : GWorker) (parts p : Int) (d : GData) : Bool := !(ieq d.Epoch w.T.Epoch && (ieq d.Step w.Goal && (ieq d.P p && (!(ilt d.Q 0) && !(ile parts d.Q)))))
def readyM (w : GWorker) (p : Int) (x : GPart) : GMail := GMail.mk 5 w.T.Epoch 0 w.Goal p 0 0 0 [] [] [] x []
def collectB (g : GGraph) (j : GJob) (w : GWorker) (i : Nat) (h : GHeld) (ins : List (List GMsg)) : GWorker :=
 bif ieq (takeS g j h.X ins.flatten).2 0 then postS { w with Held := w.Held.set i (GHeld.mk (takeS g j h.X ins.flatten).1 false false), Buf := w.Buf.filter (keepD w j.Parts h.X.P) } (readyM w h.X.P (takeS g j h.X ins.flatten).1)
 else failS { w with Buf := w.Buf.filter (keepD w j.Parts h.X.P) } h.X.P
def collectAt (g : GGraph) (j : GJob) (w : GWorker) (i : Nat) (h : GHeld) : GWorker :=
 match insW w.Buf w.T.Epoch w.Goal h.X.P (List.range j.Parts.toNat) with | none => w | some ins => collectB g j w i h ins
abbrev WT2 : Type := Int × Int × Int × Int × List Int × List Int × List Int × List GHeld × List GData × List GComing × List GPost × List (List GMsg)
abbrev wt2 (w : GWorker) (a : List (List GMsg)) : WT2 := (w.Id, (w.Goal, (w.Until, (w.T.Epoch, (w.T.Owners, (w.T.Ids, (w.T.Incs, (w.Held, (w.Buf, (w.Coming, (w.Out, a)))))))))))
theorem F34_ins {K : Nat} (hK : 1000000 ≤ K) (g : GGraph) (j : GJob) (w : GWorker) (i p : Int) (hb : w.Buf.length ≤ 900000) (hp : j.Parts ≤ 6) : ∃ r, F34_w_l0_0 K i g.N g.Edges j.Prog j.Source j.Limit j.Parts p K w.Id w.Goal w.Until w.T.Epoch w.T.Owners w.T.Ids w.T.Incs w.Held w.Buf w.Coming w.Out [] 0 = some r ∧
 (match insW w.Buf w.T.Epoch w.Goal p (List.range j.Parts.toNat) with | none => ∃ a, r = .inl (wt2 w a) | some ins => r = .inr (wt2 w ins)) := by
 let step : Nat → GWorker × List (List GMsg) → (GWorker × List (List GMsg) → Option (WT2 ⊕ WT2)) → Option (WT2 ⊕ WT2) := fun q s c =>
  (F61_w K s.1 s.1.T.Epoch s.1.Goal (q : Int) p).bind fun r => bif ilt r.1 0 then some (.inl (wt2 r.2 s.2)) else bif inr r.1 (len r.2.Buf) then (elAt r.2.Buf r.1).bind fun d => bif apok (len s.2) 1 24 then c (r.2, appL s.2 [d.Msgs]) else none else none
 have hs := scanN (N := j.Parts) (L := fun k (s : GWorker × List (List GMsg)) i' => F34_w_l0_0 K i g.N g.Edges j.Prog j.Source j.Limit j.Parts p k s.1.Id s.1.Goal s.1.Until s.1.T.Epoch s.1.T.Owners s.1.T.Ids s.1.T.Incs s.1.Held s.1.Buf s.1.Coming s.1.Out s.2 i') step (fun s => some (.inr (wt2 s.1 s.2))) (fun k s i' _ => rfl) om (K := K) om (w, [])
 have go : ∀ (l : List Nat) (a : List (List GMsg)), a.length + l.length ≤ 100 → ∃ r, goL step (fun s => some (.inr (wt2 s.1 s.2))) l (w, a) = some r ∧ (match insW w.Buf w.T.Epoch w.Goal p l with | none => ∃ a, r = .inl (wt2 w a) | some ins => r = .inr (wt2 w (a ++ ins))) := by
  intro l
  induction l with
  | nil => intro a _; exact ⟨_, rfl, by rw [insW]; simp⟩
  | cons q l ih =>
   intro a ha
   rw [List.length_cons] at ha
   rw [goL, insW]
   have e0 : step q (w, a) (goL step (fun s => some (.inr (wt2 s.1 s.2))) l) = bif ilt (gotS w.Buf w.T.Epoch w.Goal (q : Int) p) 0 then some (.inl (wt2 w a)) else bif inr (gotS w.Buf w.T.Epoch w.Goal (q : Int) p) (len w.Buf) then (elAt w.Buf (gotS w.Buf w.T.Epoch w.Goal (q : Int) p)).bind fun d => bif apok (len a) 1 24 then goL step (fun s => some (.inr (wt2 s.1 s.2))) l (w, appL a [d.Msgs]) else none else none := by
    show (F61_w K w w.T.Epoch w.Goal (q : Int) p).bind _ = _
    rw [F61_spec K w _ _ _ _ om om]; rfl
   rw [e0]
   cases hn : ilt (gotS w.Buf w.T.Epoch w.Goal (q : Int) p) 0
   · rw [cF, cF]
     rw [ilt_f] at hn
     obtain ⟨z, d, z1, z2, _⟩ := posS_at (p := isDa w.T.Epoch w.Goal (q : Int) p) (l := w.Buf) (by show ¬ gotS w.Buf w.T.Epoch w.Goal (q : Int) p < 0; omega)
     have z1' : gotS w.Buf w.T.Epoch w.Goal (q : Int) p = (z : Int) := z1
     have hz : z < w.Buf.length := (List.getElem?_eq_some_iff.1 z2).1
     have c1 : inr (z : Int) (len w.Buf) = true := decide_eq_true ⟨by omega, by show (z : Int) < (w.Buf.length : Int); omega⟩
     have c2 : elAt w.Buf (z : Int) = some d := by rw [elAt_nat]; exact z2
     have c3 : w.Buf.getD z noDa = d := by rw [List.getD_eq_getElem?_getD, z2]; rfl
     rw [z1', c1, c2, cT, bS, apok_small (by show a.length + 1 ≤ _; omega) om, cT, appL, Int.toNat_natCast, c3]
     obtain ⟨r, r1, r2⟩ := ih (a ++ [d.Msgs]) (by simp; omega)
     refine ⟨r, r1, ?_⟩
     cases hi : insW w.Buf w.T.Epoch w.Goal p l with
     | none => rw [hi] at r2; exact r2
     | some ins =>
      rw [hi] at r2
      show r = .inr (wt2 w (a ++ d.Msgs :: ins))
      rw [r2]; simp
   · exact ⟨_, rfl, a, rfl⟩
 obtain ⟨r, r1, r2⟩ := go (List.range j.Parts.toNat) [] (by simp; omega)
 exact ⟨r, hs.trans r1, by
  cases hi : insW w.Buf w.T.Epoch w.Goal p (List.range j.Parts.toNat) with
  | none => rw [hi] at r2; exact r2
  | some ins => rw [hi] at r2; exact r2⟩
theorem insW_len {b : List GData} {e s p : Int} : ∀ {l : List Nat} {ins : List (List GMsg)}, insW b e s p l = some ins → ins.length = l.length ∧ ∀ x ∈ ins, ∃ d ∈ b, d.Msgs = x
 | [], ins, h => by rw [insW] at h; cases h; exact ⟨rfl, fun x hx => absurd hx List.not_mem_nil⟩
 | q :: l, ins, h => by
  rw [insW] at h
  cases hn : ilt (gotS b e s (q : Int) p) 0
  · rw [hn, cF] at h
    cases hi : insW b e s p l with
    | none => rw [hi] at h; cases h
    | some i2 =>
     rw [hi] at h
     cases h
     obtain ⟨a1, a2⟩ := insW_len hi
     rw [ilt_f] at hn
     obtain ⟨z, d, z1, z2, _⟩ := posS_at (p := isDa e s (q : Int) p) (l := b) (by show ¬ gotS b e s (q : Int) p < 0; omega)
     have z1' : gotS b e s (q : Int) p = (z : Int) := z1
     have c3 : b.getD z noDa = d := by rw [List.getD_eq_getElem?_getD, z2]; rfl
     refine ⟨by simp [a1], fun x hx => ?_⟩
     rw [z1', Int.toNat_natCast, c3] at hx
     rcases List.mem_cons.1 hx with rfl | hx
     · exact ⟨d, List.mem_of_getElem? z2, rfl⟩
     · exact a2 x hx
  · rw [hn] at h; cases h
theorem flat_le {α : Type} (c : Nat) : ∀ (l : List (List α)), (∀ x ∈ l, x.length ≤ c) → l.flatten.length ≤ c * l.length
 | [], _ => by simp
 | x :: l, h => by
  have h1 := h x List.mem_cons_self
  have h2 := flat_le c l fun y hy => h y (List.mem_cons_of_mem _ hy)
  rw [List.flatten_cons, List.length_append, List.length_cons, Nat.mul_succ]; omega
structure SmlD (d : GData) : Prop where
 l : d.Msgs.length ≤ 100
 n : ∀ m ∈ d.Msgs, i64 m.V
theorem F34_spec {K : Nat} (hK : 1000000 ≤ K) (g : GGraph) (j : GJob) (w : GWorker) (i : Nat) (h : GHeld) (hi : w.Held[i]? = some h) (hx : SmlP h.X) (hb : w.Buf.length ≤ 800000) (hd : ∀ d ∈ w.Buf, SmlD d) (ho : w.Out.length ≤ 800000) (hp : j.Parts ≤ 6) : F34_w K w g j (i : Int) = some (collectAt g j w i h) := by
 have hlt : i < w.Held.length := (List.getElem?_eq_some_iff.1 hi).1
 have e1 : inr (i : Int) (len w.Held) = true := decide_eq_true ⟨by omega, by show (i : Int) < (w.Held.length : Int); omega⟩
 have e2 : elAt w.Held (i : Int) = some h := by rw [elAt_nat]; exact hi
 have p1 : ∀ (y : GHeld), putAt w.Held (i : Int) y = w.Held.set i y := fun y => by show w.Held.set (Int.toNat _) _ = _; rw [Int.toNat_natCast]
 obtain ⟨r, r1, r2⟩ := F34_ins hK g j w (i : Int) h.X.P om hp
 rw [F34_w, e1, e2, cT, bS, r1, bS, collectAt]
 cases hn : insW w.Buf w.T.Epoch w.Goal h.X.P (List.range j.Parts.toNat) with
 | none => rw [hn] at r2; obtain ⟨a, rfl⟩ := r2; rfl
 | some ins =>
  rw [hn] at r2
  subst r2
  obtain ⟨n1, n2⟩ := insW_len hn
  rw [List.length_range] at n1
  have nf : ins.flatten.length ≤ 100 * ins.length := flat_le 100 ins fun x hx' => by obtain ⟨d, d1, rfl⟩ := n2 x hx'; exact (hd d d1).l
  let st : GData → List GData → (List GData → Option (List GData)) → Option (List GData) := fun x a c =>
   bif ieq x.Epoch w.T.Epoch then (bif ieq x.Step w.Goal then (bif ieq x.P h.X.P then (bif ilt x.Q 0 then (bif apok (len a) 1 56 then c (appL a [x]) else none) else bif ile j.Parts x.Q then (bif apok (len a) 1 56 then c (appL a [x]) else none) else c a)
    else bif apok (len a) 1 56 then c (appL a [x]) else none) else bif apok (len a) 1 56 then c (appL a [x]) else none) else bif apok (len a) 1 56 then c (appL a [x]) else none
  have s1 := scanL (l := w.Buf) (L := fun k a q => F34_w_l1_1 K w.Id w.Goal w.Until w.T.Epoch w.T.Owners w.T.Ids w.T.Incs w.Held w.Buf w.Coming w.Out (i : Int) g.N g.Edges j.Prog j.Source j.Limit j.Parts h.X.P ins k a q) st (fun a => some a) (fun k s i _ => rfl) om (K := K) om []
  have s2 := filt_go (step := st) (keepD w j.Parts h.X.P) (fun d => d) 56 om 1000000 om w.Buf [] (by simp; omega) (fun x _ a c => by
   show (bif ieq x.Epoch w.T.Epoch then (bif ieq x.Step w.Goal then (bif ieq x.P h.X.P then (bif ilt x.Q 0 then _ else _) else _) else _) else _) = _
   rw [keepD]
   cases ieq x.Epoch w.T.Epoch <;> cases ieq x.Step w.Goal <;> cases ieq x.P h.X.P <;> cases ilt x.Q 0 <;> cases ile j.Parts x.Q <;> rfl)
  have s3 : F34_w_l1_1 K w.Id w.Goal w.Until w.T.Epoch w.T.Owners w.T.Ids w.T.Incs w.Held w.Buf w.Coming w.Out (i : Int) g.N g.Edges j.Prog j.Source j.Limit j.Parts h.X.P ins K [] 0 = some (w.Buf.filter (keepD w j.Parts h.X.P)) := (s1.trans s2).trans (by simp)
  dsimp only [Sum.elim_inr, wt2]
  rw [s3, bS, e1, e2, cT, bS, F62_spec om g j h.X ins hx.p hx.i hx.v hx.r om om om (fun m hm => by
   obtain ⟨x, x1, x2⟩ := List.mem_flatten.1 hm
   obtain ⟨d, d1, rfl⟩ := n2 x x1
   exact (hd d d1).n m x2), bS, collectB]
  cases ieq (takeS g j h.X ins.flatten).2 0
  · rw [cF, cF, F59_spec K _ _ (by show w.Out.length ≤ _; omega)]; rfl
  · rw [cT, cT, F63_spec K _ _ (by show w.Out.length ≤ _; omega), bS, p1]; rfl
theorem right_sml {g : GGraph} {j : GJob} {x : GPart} (h : partRight g j x = true) (hn : niceP x) : SmlP x := by
 obtain ⟨hc, p0, pj, _, _, hv, hr, hin⟩ := partRight_ok h
 obtain ⟨hg, _, _, _, _, _, _, _, j6⟩ := jcheck_ok hc
 obtain ⟨g1, g2, _, _⟩ := gcheck_ok hg
 have hl := verts_len g j g2 x.P
 obtain ⟨i1, i2⟩ := inOkS_ok hin
 have h3 := rising_len (fun m : GMsg => m.To) g.N x.In (-1) i1 fun m hm => by have := i2 m hm; omega
 have hcv : countS g j x.P = ((vertsS g j x.P).length : Int) := rfl
 exact ⟨by omega, by omega, by omega, by unfold i64; omega, hn⟩
structure WI (g : GGraph) (j : GJob) (id : Int) (n : Nat) (w : GWorker) : Prop where
 id : w.Id = id
 goal : -1 ≤ w.Goal ∧ w.Goal ≤ 1099511627776
 tab : tabR w.T = true
 ok : HOk w.Held
 mine : ∀ h ∈ w.Held, h.X.P < (w.T.Owners.length : Int) ∧ w.T.Owners.getD h.X.P.toNat 0 = w.Id ∧ partRight g j h.X = true ∧ niceP h.X
 bl : w.Buf.length ≤ n
 bd : ∀ d ∈ w.Buf, SmlD d
 cl : w.Coming.length ≤ n
 cd : ∀ c ∈ w.Coming, SmlP c.X
 ol : w.Out.length ≤ n
 od : ∀ p ∈ w.Out, FitM 100 p.M
section
variable {g : GGraph} {j : GJob} {id : Int} {n : Nat} {w : GWorker}
theorem WI.sml (h : WI g j id n w) (hn : n ≤ 400000) : Sml w := ⟨by have := h.ok.len; omega, by have := h.bl; omega, by have := h.cl; omega, by have := h.ol; omega⟩
theorem WI.hx (h : WI g j id n w) : ∀ y ∈ w.Held, SmlP y.X := fun y hy => right_sml (h.mine y hy).2.2.1 (h.mine y hy).2.2.2
theorem WI.up (h : WI g j id n w) {m : Nat} (hm : n ≤ m) : WI g j id m w := { h with bl := Nat.le_trans h.bl hm, cl := Nat.le_trans h.cl hm, ol := Nat.le_trans h.ol hm }
theorem WI.own (h : WI g j id n w) : ownT w.T = w.T := by rw [ownT, h.tab]; rfl
theorem WI.post (h : WI g j id n w) {m : GMail} (hm : FitM 100 m) : WI g j id (n + 1) (postS w m) :=
 { id := h.id, goal := h.goal, tab := h.tab, ok := h.ok, mine := h.mine, bl := Nat.le_succ_of_le h.bl, bd := h.bd, cl := Nat.le_succ_of_le h.cl, cd := h.cd
   ol := by show (w.Out ++ _).length ≤ _; rw [List.length_append, List.length_singleton]; have := h.ol; omega
   od := fun p hp => by
    rcases List.mem_append.1 hp with hp | hp
    · exact h.od p hp
    · rw [List.mem_singleton.1 hp]; exact hm }
theorem WI.hold (h : WI g j id n w) {x : GPart} (hm : mineS g j w x = true) (hn : niceP x) : WI g j id n { w with Held := insH w.Held x } := by
 obtain ⟨m1, m2, m3, m4, m5⟩ := mineS_ok hm
 rw [h.own] at m2 m3
 exact { h with
  ok := h.ok.ins hm
  mine := fun y hy => by
   rcases mem_insH.1 hy with hy | rfl
   · exact h.mine y hy
   · exact ⟨m2, m3, m4, hn⟩ }
theorem WI.since (h : WI g j id n w) (e : Int) : WI g j id n (sinceS w e) :=
 { id := h.id, goal := h.goal, tab := h.tab, ok := h.ok, mine := h.mine, bl := Nat.le_trans (filt_le _ _) h.bl, bd := fun d hd => h.bd d (List.mem_filter.1 hd).1
   cl := Nat.le_trans (filt_le _ _) h.cl, cd := fun d hd => h.cd d (List.mem_filter.1 hd).1, ol := h.ol, od := h.od }
theorem WI.turn (h : WI g j id n w) {t : GTable} (ht : tabR t = true) (out : List GPost) (ho : out = [] ∨ out = w.Out) : WI g j id n { w with T := t, Goal := -1, Held := [], Out := out } :=
 { id := h.id, goal := ⟨by show (-1 : Int) ≤ -1; omega, by show (-1 : Int) ≤ _; omega⟩, tab := ht, ok := HOk.nil, mine := fun y hy => absurd hy List.not_mem_nil, bl := h.bl, bd := h.bd, cl := h.cl, cd := h.cd
   ol := by rcases ho with rfl | rfl; exact Nat.zero_le _; exact h.ol
   od := by rcases ho with rfl | rfl; exact fun p hp => absurd hp List.not_mem_nil; exact h.od }
theorem HOk.set {l : List GHeld} (h : HOk l) {i : Nat} {y y' : GHeld} (hi : l[i]? = some y) (hp : y'.X.P = y.X.P) : HOk (l.set i y') := by
 have hlt := (List.getElem?_eq_some_iff.1 hi).1
 have he : l[i] = y := (List.getElem?_eq_some_iff.1 hi).2
 constructor
 · rw [List.pairwise_iff_getElem]
   intro a b ha hb hab
   rw [List.length_set] at ha hb
   have := (List.pairwise_iff_getElem.1 h.s) a b ha hb hab
   rw [List.getElem_set, List.getElem_set]
   split
   · subst_vars
     rw [if_neg om, hp]; exact this
   · split
     · subst_vars
       rw [hp]; exact this
     · exact this
 · intro z hz
   rcases List.mem_or_eq_of_mem_set hz with hz | rfl
   · exact h.r z hz
   · rw [hp]; exact h.r y (List.mem_of_getElem? hi)
theorem WI.set (h : WI g j id n w) {i : Nat} {y y' : GHeld} (hi : w.Held[i]? = some y) (hp : y'.X.P = y.X.P) (hr : partRight g j y'.X = true) (hn : niceP y'.X) : WI g j id n { w with Held := w.Held.set i y' } := by
 have hy := h.mine y (List.mem_of_getElem? hi)
 exact { h with
  ok := h.ok.set hi hp
  mine := fun z hz => by
   rcases List.mem_or_eq_of_mem_set hz with hz | rfl
   · exact h.mine z hz
   · exact ⟨by rw [hp]; exact hy.1, by rw [hp]; exact hy.2.1, hr, hn⟩ }
theorem WI.data (h : WI g j id n w) {m : GMail} (hm : m.Msgs.length ≤ 100) (hv : ∀ y ∈ m.Msgs, i64 y.V) : WI g j id (n + 1) (dataS w m) := by
 rw [dataS]
 cases ile w.T.Epoch m.Epoch && ilt (gotS w.Buf m.Epoch m.Step m.Q m.P) 0
 · exact h.up (Nat.le_succ n)
 · exact { id := h.id, goal := h.goal, tab := h.tab, ok := h.ok, mine := h.mine
           bl := by show (w.Buf ++ _).length ≤ _; rw [List.length_append, List.length_singleton]; have := h.bl; omega
           bd := fun d hd => by
            rcases List.mem_append.1 hd with hd | hd
            · exact h.bd d hd
            · rw [List.mem_singleton.1 hd]; exact ⟨hm, hv⟩
           cl := Nat.le_succ_of_le h.cl, cd := h.cd, ol := Nat.le_succ_of_le h.ol, od := h.od }
structure MI (m : GMail) : Prop where
 f : FitM 100 m
 p : i64 m.X.P
 x : niceP m.X
 s : ∀ y ∈ m.Msgs, i64 y.V
theorem MI.sml {m : GMail} (h : MI m) (hr : mailR m = true) : SmlP m.X := by
 have := h.f
 exact ⟨this.v, this.r, by have := this.x; omega, h.p, h.x⟩
theorem FitM.up {c d : Nat} {m : GMail} (h : FitM c m) (hc : c ≤ d) : FitM d m := ⟨Nat.le_trans h.o hc, Nat.le_trans h.i hc, Nat.le_trans h.n hc, Nat.le_trans h.v hc, Nat.le_trans h.r hc, Nat.le_trans h.x hc, Nat.le_trans h.s hc⟩
theorem tableS_ok {j : GJob} {e : Int} {m : GMail} (h : (tableS j e m).2 = true) : tabR (tableS j e m).1 = true ∧ (tableS j e m).1.Epoch = e := by
 rw [tableS, Bool.and_eq_true] at h
 exact ⟨h.1, rfl⟩
theorem wi_putX (h : WI g j id n w) {m : GMail} (hm : MI m) : WI g j id (n + 1) (putX g j w m) := by
 rw [putX]
 cases hq : mineS g j w m.X
 · exact h.up (Nat.le_succ n)
 · exact (h.hold hq hm.x).post ⟨by simp [loadedM], by simp [loadedM], by simp [loadedM], by simp [loadedM, noP'], by simp [loadedM, noP'], by simp [loadedM, noP'], by simp [loadedM]⟩
theorem wi_load (h : WI g j id n w) {m : GMail} (hm : MI m) : WI g j id (n + 1) (loadS g j w m) := by
 rw [loadS]
 cases ht : (tableS j m.Epoch m).2
 · exact h.up (Nat.le_succ n)
 · cases ilt m.Epoch w.T.Epoch
   · cases ilt w.T.Epoch m.Epoch
     · exact wi_putX h hm
     · exact wi_putX ((h.turn (tableS_ok ht).1 [] (.inl rfl)).since m.Epoch) hm
   · exact h.up (Nat.le_succ n)
theorem mailR_step {m : GMail} (hr : mailR m = true) : 0 ≤ m.Step ∧ m.Step ≤ 1099511627776 := by
 simp only [mailR, Bool.and_eq_true] at hr
 exact (fairS_mem hr.2.2.1).1 m.Step (by simp)
theorem wi_begin (h : WI g j id n w) {m : GMail} (hr : mailR m = true) : WI g j id n (beginW w m) := by
 have := mailR_step hr
 rw [beginW]
 cases ieq m.Epoch w.T.Epoch
 · exact h
 · exact { h with goal := ⟨by show -1 ≤ m.Step; omega, this.2⟩ }
theorem wi_give (h : WI g j id n w) {m : GMail} (hm : MI m) : WI g j id (n + 1) (giveS w m) := by
 rw [giveS]
 cases ieq m.Epoch w.T.Epoch && !(ilt (atHd w.Held m.P) 0)
 · exact h.up (Nat.le_succ n)
 · rw [cT]
   cases hq : w.Held[(atHd w.Held m.P).toNat]? with
   | none => exact h.up (Nat.le_succ n)
   | some y =>
    dsimp only
    rw [giveAt]
    cases y.Wait || (y.Given || ilt (findS m.Ids m.To) 0)
    · have hy := h.mine y (List.mem_of_getElem? hq)
      have hs := h.hx y (List.mem_of_getElem? hq)
      have h1 := h.set (y' := GHeld.mk y.X y.Wait true) hq rfl hy.2.2.1 hy.2.2.2
      have hin : y.X.In.length ≤ 100 := by
       obtain ⟨hc, _, _, _, _, _, _, hin⟩ := partRight_ok hy.2.2.1
       obtain ⟨hg, _⟩ := jcheck_ok hc
       obtain ⟨_, g2, _, _⟩ := gcheck_ok hg
       obtain ⟨i1, i2⟩ := inOkS_ok hin
       have h3 := rising_len (fun m : GMsg => m.To) g.N y.X.In (-1) i1 fun m hm => by have := i2 m hm; omega
       omega
      exact { id := h1.id, goal := h1.goal, tab := h1.tab, ok := h1.ok, mine := h1.mine, bl := Nat.le_succ_of_le h1.bl, bd := h1.bd, cl := Nat.le_succ_of_le h1.cl, cd := h1.cd
              ol := by show (w.Out ++ _).length ≤ _; rw [List.length_append, List.length_singleton]; have := h.ol; omega
              od := fun p hp => by
               rcases List.mem_append.1 hp with hp | hp
               · exact h.od p hp
               · rw [List.mem_singleton.1 hp]; exact ⟨by simp [giveM], by simp [giveM], by simp [giveM], hs.v, hs.r, hin, by simp [giveM]⟩ }
    · exact h.up (Nat.le_succ n)
theorem wi_takeQ (h : WI g j id n w) {m : GMail} (hm : MI m) (hr : mailR m = true) : WI g j id (n + 1) (takeQ w m) := by
 rw [takeQ]
 cases ilt m.Epoch w.T.Epoch || w.Coming.any (isC m.Epoch m.X.P)
 · exact { id := h.id, goal := h.goal, tab := h.tab, ok := h.ok, mine := h.mine, bl := Nat.le_succ_of_le h.bl, bd := h.bd
           cl := by show (w.Coming ++ _).length ≤ _; rw [List.length_append, List.length_singleton]; have := h.cl; omega
           cd := fun c hc => by
            rcases List.mem_append.1 hc with hc | hc
            · exact h.cd c hc
            · rw [List.mem_singleton.1 hc]; exact hm.sml hr
           ol := by show (w.Out ++ _).length ≤ _; rw [List.length_append, List.length_singleton]; have := h.ol; omega
           od := fun p hp => by
            rcases List.mem_append.1 hp with hp | hp
            · exact h.od p hp
            · rw [List.mem_singleton.1 hp]; exact ⟨by simp [gotM], by simp [gotM], by simp [gotM], by simp [gotM, noP'], by simp [gotM, noP'], by simp [gotM, noP'], by simp [gotM]⟩ }
 · exact h.up (Nat.le_succ n)
theorem wi_holdX (h : WI g j id n w) {x : GPart} (hx : niceP x) : WI g j id n (holdX g j w x) := by
 rw [holdX]
 cases hq : mineS g j w x
 · exact h
 · exact h.hold hq hx
theorem wi_holds : ∀ (l : List GPart) {w : GWorker}, WI g j id n w → (∀ x ∈ l, niceP x) → WI g j id n (l.foldl (holdX g j) w)
 | [], w, h, _ => h
 | x :: l, w, h, hx => by
  rw [List.foldl_cons]
  exact wi_holds l (wi_holdX h (hx x List.mem_cons_self)) fun y hy => hx y (List.mem_cons_of_mem _ hy)
theorem rest_nice (h : WI g j id n w) (m : GMail) : ∀ x ∈ restH w m ++ restC w m, niceP x := fun x hx => by
 rcases List.mem_append.1 hx with hx | hx
 · obtain ⟨y, hy, rfl⟩ := List.mem_map.1 hx
   exact (h.mine y (List.mem_filter.1 hy).1).2.2.2
 · obtain ⟨c, hc, rfl⟩ := List.mem_map.1 hx
   exact (h.cd c (List.mem_filter.1 hc).1).n
theorem wi_change (h : WI g j id n w) (m : GMail) : WI g j id n (changeS g j w m) := by
 rw [changeS]
 cases ht : (tableS j m.Fresh m).2
 · exact h
 · cases ile m.Fresh w.T.Epoch
   · exact (wi_holds _ (h.turn (tableS_ok ht).1 w.Out (.inr rfl)) (rest_nice h m)).since m.Fresh
   · exact h
theorem wi_take (h : WI g j id n w) {m : GMail} (hm : MI m) : WI g j id (n + 1) (takeW g j w m) := by
 rw [takeW]
 cases ieq (jcheck g j) 0
 · exact h.up (Nat.le_succ n)
 · cases hr : mailR m
   · exact h.up (Nat.le_succ n)
   · simp only [Bool.and_true, cT]
     rw [byKind]
     cases ieq m.Kind 1
     · cases ieq m.Kind 3
       · cases ieq m.Kind 4
         · cases ieq m.Kind 6
           · cases ieq m.Kind 7
             · cases ieq m.Kind 9
               · exact h.up (Nat.le_succ n)
               · exact (wi_change h m).up (Nat.le_succ n)
             · exact wi_takeQ h hm hr
           · exact wi_give h hm
         · exact h.data hm.f.s hm.s
       · exact (wi_begin h hr).up (Nat.le_succ n)
     · exact wi_load h hm
theorem do_right (g : GGraph) (j : GJob) {x : GPart} (hn : niceP x) (h : ieq (doS g j x).2.2 0 = true) : partRight g j (doS g j x).1 = true ∧ niceP (doS g j x).1 ∧ (doS g j x).1.P = x.P ∧ (doS g j x).2.1.length ≤ 6 ∧ ∀ l ∈ (doS g j x).2.1, l.length ≤ 100 ∧ ∀ m ∈ l, i64 m.V := by
 rcases do_cases g j hn with ⟨e, he, hq⟩ | ⟨hc, hR, h40, w, _, kw, _, hq⟩
 · rw [hq] at h; rw [h] at he; cases he
 · obtain ⟨_, p0, pj, s0, s40, hv, hr, _⟩ := partRight_ok hR
   obtain ⟨hg, _, _, _, _, _, _, _, j6⟩ := jcheck_ok hc
   obtain ⟨g1, g2, _, _⟩ := gcheck_ok hg
   have hcv : countS g j x.P = ((vertsS g j x.P).length : Int) := rfl
   rw [ieq_f] at h40
   rw [hq]
   refine ⟨?_, ⟨kw.va, fun m hm => absurd hm List.not_mem_nil⟩, rfl, ?_, fun l hl => ?_⟩
   · simp only [partRight, Bool.and_eq_true, ile_iff, ilt_iff, ieq_iff]
     have := kw.la
     have := kw.lb
     exact ⟨ieq_iff.1 hc, p0, pj, by omega, by omega, by omega, by omega, rfl⟩
   · show ((List.range j.Parts.toNat).map _).length ≤ 6
     rw [List.length_map, List.length_range]; omega
   · obtain ⟨q, hq, rfl⟩ := List.mem_map.1 hl
     obtain ⟨r1, r2⟩ := boxS_rise (p := j.Prog) (l := toS j w.2.2 (q : Int))
     have h3 := rising_len (fun m : GMsg => m.To) g.N _ 0 r1 fun m hm => by
      obtain ⟨s, hs, he⟩ := r2 m hm
      have := kw.vt s (toS_mem hs).1
      omega
     exact ⟨by omega, (boxS_ok fun m hm => kw.vc m (toS_mem hm).1).2⟩
theorem wi_outs (p : Int) : ∀ (l : List (List GMsg)) (q n : Nat) {w : GWorker}, WI g j id n w → (∀ x ∈ l, x.length ≤ 100 ∧ ∀ m ∈ x, i64 m.V) → WI g j id (n + l.length) (outsW p q l w)
 | [], q, n, w, h, _ => h
 | x :: l, q, n, w, h, hx => by
  rw [outsW, List.length_cons, show n + (l.length + 1) = (n + 1) + l.length by omega]
  obtain ⟨x1, x2⟩ := hx x List.mem_cons_self
  refine wi_outs p l (q + 1) (n + 1) ?_ fun y hy => hx y (List.mem_cons_of_mem _ hy)
  rw [outStep]
  cases ieq (toT w.T (q : Int)).1 w.Id
  · exact { id := h.id, goal := h.goal, tab := h.tab, ok := h.ok, mine := h.mine, bl := Nat.le_succ_of_le h.bl, bd := h.bd, cl := Nat.le_succ_of_le h.cl, cd := h.cd
            ol := by show (w.Out ++ _).length ≤ _; rw [List.length_append, List.length_singleton]; have := h.ol; omega
            od := fun p hp => by
             rcases List.mem_append.1 hp with hp | hp
             · exact h.od p hp
             · rw [List.mem_singleton.1 hp]; exact ⟨by simp [outM], by simp [outM], by simp [outM], by simp [outM, noP'], by simp [outM, noP'], by simp [outM, noP'], x1⟩ }
  · exact h.data x1 x2
theorem fail_fit (w : GWorker) (p : Int) : FitM 100 (failM w p) := ⟨by simp [failM], by simp [failM], by simp [failM], by simp [failM, noP'], by simp [failM, noP'], by simp [failM, noP'], by simp [failM]⟩
theorem wi_do (h : WI g j id n w) {i : Nat} {y : GHeld} (hi : w.Held[i]? = some y) : WI g j id (n + 6) (doAt g j w i y).2 := by
 have hy := h.mine y (List.mem_of_getElem? hi)
 rw [doAt]
 cases ieq (doS g j y.X).2.2 6 || ieq (doS g j y.X).2.2 1
 · cases h0 : ieq (doS g j y.X).2.2 0
   · exact ((h.set (y' := GHeld.mk y.X true y.Given) hi rfl hy.2.2.1 hy.2.2.2).post (fail_fit _ _)).up om
   · obtain ⟨d1, d2, d3, d4, d5⟩ := do_right g j hy.2.2.2 h0
     exact (wi_outs y.X.P _ 0 n (h.set (y' := GHeld.mk (doS g j y.X).1 true y.Given) hi d3 d1 d2) d5).up om
 · exact h.up om
theorem take_nice {x : GPart} (hx : niceP x) {l : List GMsg} (hl : ∀ m ∈ l, i64 m.V) : niceP (takeS g j x l).1 := by
 have hz : niceP zeroP := ⟨fun v hv => absurd hv List.not_mem_nil, fun m hm => absurd hm List.not_mem_nil⟩
 rw [takeS]
 cases ieq (jcheck g j) 0
 · exact hz
 · cases partRight g j x
   · exact hz
   · cases ieq (nlen (len x.In)) 0
     · exact hz
     · cases takeOk g.N j.Parts x.P l
       · exact hz
       · simp only [cT]
         rw [takeB]
         cases ieq (boxS j.Prog l).2 0
         · exact hz
         · exact ⟨hx.1, (boxS_ok hl).2⟩
theorem take_P {x : GPart} {l : List GMsg} (h : ieq (takeS g j x l).2 0 = true) : (takeS g j x l).1.P = x.P := by
 have key : ∀ (a : GPart) (e : Int), ieq e 0 = true → ieq e 0 = true := fun _ _ h => h
 rw [takeS] at h ⊢
 cases hc : ieq (jcheck g j) 0
 · rw [hc] at h
   simp only [cF] at h
   rw [hc] at h; cases h
 · rw [hc] at h
   cases hp : partRight g j x
   · rw [hp] at h; cases h
   · rw [hp] at h
     cases hi : ieq (nlen (len x.In)) 0
     · rw [hi] at h; cases h
     · rw [hi] at h
       cases ht : takeOk g.N j.Parts x.P l
       · rw [ht] at h; cases h
       · rw [ht] at h
         simp only [cT] at h ⊢
         rw [takeB] at h ⊢
         cases hb : ieq (boxS j.Prog l).2 0
         · rw [hb] at h
           simp only [cF] at h
           rw [hb] at h; cases h
         · rfl
theorem wi_collect (h : WI g j id n w) {i : Nat} {y : GHeld} (hi : w.Held[i]? = some y) : WI g j id (n + 1) (collectAt g j w i y) := by
 have hy := h.mine y (List.mem_of_getElem? hi)
 rw [collectAt]
 cases hq : insW w.Buf w.T.Epoch w.Goal y.X.P (List.range j.Parts.toNat) with
 | none => exact h.up (Nat.le_succ n)
 | some ins =>
  dsimp only
  have hins : ∀ m ∈ ins.flatten, i64 m.V := fun m hm => by
   obtain ⟨x, x1, x2⟩ := List.mem_flatten.1 hm
   obtain ⟨d, d1, rfl⟩ := (insW_len hq).2 x x1
   exact (h.bd d d1).n m x2
  have hb : ∀ {w' : GWorker}, WI g j id n w' → w'.Buf = w.Buf → WI g j id n { w' with Buf := w.Buf.filter (keepD w j.Parts y.X.P) } := fun h' e =>
   { h' with bl := Nat.le_trans (filt_le _ _) h.bl, bd := fun d hd => h.bd d (List.mem_filter.1 hd).1 }
  rw [collectB]
  cases h0 : ieq (takeS g j y.X ins.flatten).2 0
  · exact (hb h rfl).post (fail_fit _ _)
  · have r1 := (take_right h0).1
    have r2 := take_nice (g := g) (j := j) hy.2.2.2 hins
    have r3 := right_sml r1 r2
    have hin : (takeS g j y.X ins.flatten).1.In.length ≤ 100 := by
     obtain ⟨hc, _, _, _, _, _, _, hin⟩ := partRight_ok r1
     obtain ⟨hg, _⟩ := jcheck_ok hc
     obtain ⟨_, g2, _, _⟩ := gcheck_ok hg
     obtain ⟨i1, i2⟩ := inOkS_ok hin
     have h3 := rising_len (fun m : GMsg => m.To) g.N _ (-1) i1 fun m hm => by have := i2 m hm; omega
     omega
    exact (hb (h.set (y' := GHeld.mk (takeS g j y.X ins.flatten).1 false false) hi (take_P h0) r1 r2) rfl).post ⟨by simp [readyM], by simp [readyM], by simp [readyM], r3.v, r3.r, hin, by simp [readyM]⟩
end
theorem goL_inv {α σ β : Type} {step : α → σ → (σ → Option β) → Option β} {fin : σ → Option β} (P : Nat → σ → Prop) (f : σ → α → σ) : ∀ (l : List α) (s : σ), P l.length s → (∀ x ∈ l, ∀ n s, P (n + 1) s → P n (f s x) ∧ ∀ c, step x s c = c (f s x)) →
 goL step fin l s = fin (l.foldl f s) ∧ P 0 (l.foldl f s)
 | [], s, hs, _ => ⟨rfl, hs⟩
 | x :: l, s, hs, h => by
  obtain ⟨h1, h2⟩ := h x List.mem_cons_self l.length s hs
  rw [goL, h2, List.foldl_cons]
  exact goL_inv P f l (f s x) h1 fun y hy => h y (List.mem_cons_of_mem _ hy)
def doOne (g : GGraph) (j : GJob) (s : GWorker × List GDid) (i : Nat) : GWorker × List GDid := match s.1.Held[i]? with
 | some h => bif h.Wait || (h.Given || !(ieq h.X.Step s.1.Goal)) then s else ((doAt g j s.1 i h).2, s.2 ++ (doAt g j s.1 i h).1)
 | none => s
def doAll (g : GGraph) (j : GJob) (w : GWorker) : GWorker × List GDid := (List.range w.Held.length).foldl (doOne g j) (w, [])
def colOne (g : GGraph) (j : GJob) (w : GWorker) (i : Nat) : GWorker := match w.Held[i]? with
 | some h => bif h.Wait && ieq h.X.Step (w.Goal + 1) then collectAt g j w i h else w
 | none => w
def colAll (g : GGraph) (j : GJob) (w : GWorker) : GWorker := (List.range w.Held.length).foldl (colOne g j) w
end
end Go.Proofs.Ytbaihlhoedbpkaa.Tm

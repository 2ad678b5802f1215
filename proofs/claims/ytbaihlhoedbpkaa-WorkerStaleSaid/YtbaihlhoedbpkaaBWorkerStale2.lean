/- What the row of WorkerStale leans on: printed functions and plain laws. Conditions: none. -/
import Derived.Test.YtbaihlhoedbpkaaTy
import Derived.Test.YtbaihlhoedbpkaaTab
import Derived.Test.YtbaihlhoedbpkaaKn
import Derived.Test.YtbaihlhoedbpkaaWf
import Derived.IntWalk
import Derived.KernelRfl
import Derived.OpenShut
import Derived.Test.YtbaihlhoedbpkaaBWorkerStale1
set_option linter.unusedVariables false
set_option linter.unusedSimpArgs false
namespace Go.Proofs.Ytbaihlhoedbpkaa.Tm
open Go
theorem F58_ok (K : Nat) (a1 : GGraph) (a2 : GJob) (a3 : GPart) (r : GPart × List (List GMsg) × Int) (hF : F58 K a1 a2 a3 = some r) : Evt E H 58 [.agg (eGGraph a1), .agg (eGJob a2), .agg (eGPart a3)] (F58_res r) := by
 rw [F58] at hF
 bs r4 h5
 cs h6
 ·
  bs r7 h8
  have q19 {l} (z : HA hn58 l) := zl (F31_ok K a1 a2 _ h5) <| zF (ine_t h6) <| zl (F91_ok K a1 a2 a3 _ h8) <| z
  cs h9
  ·
   cs h10
   ·
    ob
    exact fpC hn58 <| q19 <| zF (bnot_t h9) <| zT h10 <| z0
   have q20 {l} (z : HA hn58 l) := zF (bnot_t h9) <| zF h10 <| zi (wadd .i64 a3.Step 1) <| zi (nl a3.Vals) <| z
   bs y12 h11
   ss w13 w14
   ·
    subst hx
    ob
    exact fpC hn58 <| q19 <| q20 <| zo (F58_l0_0_ok K a1.N a1.Edges a2.Prog a2.Source a2.Limit a2.Parts a3.P a3.Step a3.Vals a3.Rest a3.In K [] [] [] [] [] [] [] [] 0 _ h11) <| z0
   subst hx
   bs y16 h15
   ss w17 w18
   ·
    subst hx
    ob
    exact fpC hn58 <| q19 <| q20 <| zo (F58_l0_0_ok K a1.N a1.Edges a2.Prog a2.Source a2.Limit a2.Parts a3.P a3.Step a3.Vals a3.Rest a3.In K [] [] [] [] [] [] [] [] 0 _ h11) <| zo (F58_l2_2_ok K a2.Prog a2.Source a2.Limit a2.Parts a3.P (wadd .i64 a3.Step 1) w14.1 w14.2.1 w14.2.2.1 w14.2.2.2.1 w14.2.2.2.2.1 w14.2.2.2.2.2.1 w14.2.2.2.2.2.2.1 w14.2.2.2.2.2.2.2 K [] 0 _ h15) <| z0
   subst hx
   ob
   exact fpC hn58 <| q19 <| q20 <| zo (F58_l0_0_ok K a1.N a1.Edges a2.Prog a2.Source a2.Limit a2.Parts a3.P a3.Step a3.Vals a3.Rest a3.In K [] [] [] [] [] [] [] [] 0 _ h11) <| zo (F58_l2_2_ok K a2.Prog a2.Source a2.Limit a2.Parts a3.P (wadd .i64 a3.Step 1) w14.1 w14.2.1 w14.2.2.1 w14.2.2.2.1 w14.2.2.2.2.1 w14.2.2.2.2.2.1 w14.2.2.2.2.2.2.1 w14.2.2.2.2.2.2.2 K [] 0 _ h15) <| z0
  ob
  exact fpC hn58 <| q19 <| zT (bnot_f h9) <| z0
 ob
 exact fpC hn58 <| zl (F31_ok K a1 a2 _ h5) <| zT (ine_f h6) <| z0
noncomputable def hn59_iiiiiiioooo : Hint := { H 59 with nt := 17, prot := 1, kp := 1792 }
def F59_iiiiiiioooo_res (r1 : GWorker) : Res := ⟨[], [[(.im (.lit (.int .i64 r1.Id))), (.im (.lit (.int .i64 r1.Goal))), (.im (.lit (.int .i64 r1.Until))), (.im (.lit (.int .i64 r1.T.Epoch))), (.im (.sl (len r1.T.Owners) (flat (eInt .i64) r1.T.Owners))), (.im (.sl (len r1.T.Ids) (flat (eInt .i64) r1.T.Ids))), (.im (.sl (len r1.T.Incs) (flat (eInt .i64) r1.T.Incs))), (.own 69 (.sl (len r1.Held) (flat eGHeld r1.Held))), (.own 112 (.sl (len r1.Buf) (flat eGData r1.Buf))), (.own 113 (.sl (len r1.Coming) (flat eGComing r1.Coming))), (.own 86 (.sl (len r1.Out) (flat eGPost r1.Out)))]]⟩
def F59_iiiiiiioooo (K : Nat) (a1 : GWorker) (a2 : Int) : Option (GWorker) :=
 (F63_iiiiiiioooo K a1 (GMail.mk 5 a1.T.Epoch 0 a1.Goal a2 0 0 8 [] [] [] (GPart.mk 0 0 [] [] []) [])).bind fun r3 =>
 some r3
theorem F59_iiiiiiioooo_ok (K : Nat) (a1 : GWorker) (a2 : Int) (r : GWorker) (hF : F59_iiiiiiioooo K a1 a2 = some r) : Evt E H 59 [.box 38 [(.im (.lit (.int .i64 a1.Id))), (.im (.lit (.int .i64 a1.Goal))), (.im (.lit (.int .i64 a1.Until))), (.im (.lit (.int .i64 a1.T.Epoch))), (.im (.sl (len a1.T.Owners) (flat (eInt .i64) a1.T.Owners))), (.im (.sl (len a1.T.Ids) (flat (eInt .i64) a1.T.Ids))), (.im (.sl (len a1.T.Incs) (flat (eInt .i64) a1.T.Incs))), (.own 69 (.sl (len a1.Held) (flat eGHeld a1.Held))), (.own 112 (.sl (len a1.Buf) (flat eGData a1.Buf))), (.own 113 (.sl (len a1.Coming) (flat eGComing a1.Coming))), (.own 86 (.sl (len a1.Out) (flat eGPost a1.Out)))], .one (.lit (.int .i64 a2))] (F59_iiiiiiioooo_res r) := by
 rw [F59_iiiiiiioooo] at hF
 bs r3 h4
 ob
 exact fpC hn59_iiiiiiioooo <| zc (F63_iiiiiiioooo_ok K a1 (GMail.mk 5 a1.T.Epoch 0 a1.Goal a2 0 0 8 [] [] [] (GPart.mk 0 0 [] [] []) []) _ h4) <| z0
noncomputable def hn33_iiiiiiioooo : Hint := { H 33 with nt := 136, prot := 1, kp := 256 }
noncomputable def c33_iiiiiiioooo_0 : Code := loopOf E 33 0
def F33_iiiiiiioooo_res (r1 : List GDid × GWorker) : Res := ⟨[(.one (.own 66 (.sl (len r1.1) (flat eGDid r1.1))))], [[(.im (.lit (.int .i64 r1.2.Id))), (.im (.lit (.int .i64 r1.2.Goal))), (.im (.lit (.int .i64 r1.2.Until))), (.im (.lit (.int .i64 r1.2.T.Epoch))), (.im (.sl (len r1.2.T.Owners) (flat (eInt .i64) r1.2.T.Owners))), (.im (.sl (len r1.2.T.Ids) (flat (eInt .i64) r1.2.T.Ids))), (.im (.sl (len r1.2.T.Incs) (flat (eInt .i64) r1.2.T.Incs))), (.own 69 (.sl (len r1.2.Held) (flat eGHeld r1.2.Held))), (.own 112 (.sl (len r1.2.Buf) (flat eGData r1.2.Buf))), (.own 113 (.sl (len r1.2.Coming) (flat eGComing r1.2.Coming))), (.own 86 (.sl (len r1.2.Out) (flat eGPost r1.2.Out)))]]⟩
def F33_iiiiiiioooo_l0_0 (K : Nat) (a1 : GGraph) (a2 : GJob) (x3 : GHeld) (r4 : GPart × List (List GMsg) × Int) : Nat → Int → Int → Int → Int → List Int → List Int → List Int → List GHeld → List GData → List GComing → List GPost → Int → Option (Int × Int × Int × Int × List Int × List Int × List Int × List GHeld × List GData × List GComing × List GPost)
 | 0, _, _, _, _, _, _, _, _, _, _, _, _ => none
 | k + 1, v5, v6, v7, v8, v9, v10, v11, v12, v13, v14, v15, v16 =>
  bif (ilt v16 (nlen (len r4.2.1))) then
   (bif (inr v16 (len r4.2.1)) then
   (elAt r4.2.1 v16).bind fun x17 =>
   (F60 K (GTable.mk v8 v9 v10 v11) v16).bind fun r18 =>
   bif (ieq r18.1 v5) then
    ((F43_iiiiiiioooo K (GWorker.mk v5 v6 v7 (GTable.mk v8 v9 v10 v11) v12 v13 v14 v15) a1 a2 (GMail.mk 4 v8 0 v6 v16 x3.X.P 0 0 [] [] [] (GPart.mk 0 0 [] [] []) x17)).bind fun r19 =>
    F33_iiiiiiioooo_l0_0 K a1 a2 x3 r4 k r19.Id r19.Goal r19.Until r19.T.Epoch r19.T.Owners r19.T.Ids r19.T.Incs r19.Held r19.Buf r19.Coming r19.Out (wadd .i64 v16 1))
   else
   bif (apok (len v15) 1 264) then
   F33_iiiiiiioooo_l0_0 K a1 a2 x3 r4 k v5 v6 v7 v8 v9 v10 v11 v12 v13 v14 (appL v15 [(GPost.mk r18.1 r18.2.1 (GMail.mk 4 v8 0 v6 v16 x3.X.P 0 0 [] [] [] (GPart.mk 0 0 [] [] []) x17))]) (wadd .i64 v16 1)
   else none
   else none)
  else
  some (v5, (v6, (v7, (v8, (v9, (v10, (v11, (v12, (v13, (v14, v15))))))))))
def F33_iiiiiiioooo_l0_0_S (a1 : GGraph) (a2 : GJob) (x3 : GHeld) (r4 : GPart × List (List GMsg) × Int) (v5 : Int) (v6 : Int) (v7 : Int) (v8 : Int) (v9 : List Int) (v10 : List Int) (v11 : List Int) (v12 : List GHeld) (v13 : List GData) (v14 : List GComing) (v15 : List GPost) (v16 : Int) : TS := .on [0, 1, 2, 3, 4, 5, 6, 7, 8, 9, 10, 11, 320, 321, 322, 384, 385, 386, 387, 388, 576, 577, 704, 705, 4416, 4417, 4480, 4481, 4544, 4545] [(0, ⟨(.box 38 11), 0, nob⟩), (1, ⟨.im, 0, (.lit (.int .i64 v5))⟩), (2, ⟨.im, 0, (.lit (.int .i64 v6))⟩), (3, ⟨.im, 0, (.lit (.int .i64 v7))⟩), (4, ⟨.im, 0, (.lit (.int .i64 v8))⟩), (5, ⟨.im, 0, (.sl (len v9) (flat (eInt .i64) v9))⟩), (6, ⟨.im, 0, (.sl (len v10) (flat (eInt .i64) v10))⟩), (7, ⟨.im, 0, (.sl (len v11) (flat (eInt .i64) v11))⟩), (8, ⟨(.own 69), 0, (.sl (len v12) (flat eGHeld v12))⟩), (9, ⟨(.own 112), 0, (.sl (len v13) (flat eGData v13))⟩), (10, ⟨(.own 113), 0, (.sl (len v14) (flat eGComing v14))⟩), (11, ⟨(.own 86), 0, (.sl (len v15) (flat eGPost v15))⟩), (320, ⟨(.box 24 2), 0, nob⟩), (321, ⟨.im, 0, (.lit (.int .i64 a1.N))⟩), (322, ⟨.im, 0, (.sl (len a1.Edges) (flat eGEdge a1.Edges))⟩), (384, ⟨(.box 26 4), 0, nob⟩), (385, ⟨.im, 0, (.lit (.int .i64 a2.Prog))⟩), (386, ⟨.im, 0, (.lit (.int .i64 a2.Source))⟩), (387, ⟨.im, 0, (.lit (.int .i64 a2.Limit))⟩), (388, ⟨.im, 0, (.lit (.int .i64 a2.Parts))⟩), (576, ⟨.one, 0, nob⟩), (577, ⟨.im, 0, (.lit (.int .i64 x3.X.P))⟩), (704, ⟨.one, 0, nob⟩), (705, ⟨(.own 43), 0, (.sl (len r4.2.1) (flat (eSl eGMsg) r4.2.1))⟩), (4416, ⟨.one, 0, nob⟩), (4417, ⟨(.vw 705 0), 0, nob⟩), (4480, ⟨.one, 0, nob⟩), (4481, ⟨.im, 0, (.lit (.int .i64 (nlen (len r4.2.1))))⟩), (4544, ⟨.one, 0, nob⟩), (4545, ⟨.im, 0, (.lit (.int .i64 v16))⟩)]
def F33_iiiiiiioooo_l0_0_X0 (a1 : GGraph) (a2 : GJob) (x3 : GHeld) (r4 : GPart × List (List GMsg) × Int) (w5 : Int × Int × Int × Int × List Int × List Int × List Int × List GHeld × List GData × List GComing × List GPost) : TS := .on [0, 1, 2, 3, 4, 5, 6, 7, 8, 9, 10, 11, 576, 577] [(0, ⟨(.box 38 11), 0, nob⟩), (1, ⟨.im, 0, (.lit (.int .i64 w5.1))⟩), (2, ⟨.im, 0, (.lit (.int .i64 w5.2.1))⟩), (3, ⟨.im, 0, (.lit (.int .i64 w5.2.2.1))⟩), (4, ⟨.im, 0, (.lit (.int .i64 w5.2.2.2.1))⟩), (5, ⟨.im, 0, (.sl (len w5.2.2.2.2.1) (flat (eInt .i64) w5.2.2.2.2.1))⟩), (6, ⟨.im, 0, (.sl (len w5.2.2.2.2.2.1) (flat (eInt .i64) w5.2.2.2.2.2.1))⟩), (7, ⟨.im, 0, (.sl (len w5.2.2.2.2.2.2.1) (flat (eInt .i64) w5.2.2.2.2.2.2.1))⟩), (8, ⟨(.own 69), 0, (.sl (len w5.2.2.2.2.2.2.2.1) (flat eGHeld w5.2.2.2.2.2.2.2.1))⟩), (9, ⟨(.own 112), 0, (.sl (len w5.2.2.2.2.2.2.2.2.1) (flat eGData w5.2.2.2.2.2.2.2.2.1))⟩), (10, ⟨(.own 113), 0, (.sl (len w5.2.2.2.2.2.2.2.2.2.1) (flat eGComing w5.2.2.2.2.2.2.2.2.2.1))⟩), (11, ⟨(.own 86), 0, (.sl (len w5.2.2.2.2.2.2.2.2.2.2) (flat eGPost w5.2.2.2.2.2.2.2.2.2.2))⟩), (576, ⟨.one, 0, nob⟩), (577, ⟨.im, 0, (.lit (.int .i64 x3.X.P))⟩)]
theorem F33_iiiiiiioooo_l0_0_ok (K : Nat) (a1 : GGraph) (a2 : GJob) (x3 : GHeld) (r4 : GPart × List (List GMsg) × Int) : ∀ (k : Nat) (v5 : Int) (v6 : Int) (v7 : Int) (v8 : Int) (v9 : List Int) (v10 : List Int) (v11 : List Int) (v12 : List GHeld) (v13 : List GData) (v14 : List GComing) (v15 : List GPost) (v16 : Int) (r : Int × Int × Int × Int × List Int × List Int × List Int × List GHeld × List GData × List GComing × List GPost), F33_iiiiiiioooo_l0_0 K a1 a2 x3 r4 k v5 v6 v7 v8 v9 v10 v11 v12 v13 v14 v15 v16 = some r → LoopEv E H hn33_iiiiiiioooo 0 c33_iiiiiiioooo_0 (F33_iiiiiiioooo_l0_0_S a1 a2 x3 r4 v5 v6 v7 v8 v9 v10 v11 v12 v13 v14 v15 v16) (.exit 0) (F33_iiiiiiioooo_l0_0_X0 a1 a2 x3 r4 r) := by
 intro k
 induction k with
 | zero => intro v5 v6 v7 v8 v9 v10 v11 v12 v13 v14 v15 v16 r hF; cases hF
 | succ k ih =>
  intro v5 v6 v7 v8 v9 v10 v11 v12 v13 v14 v15 v16 r hF
  rw [F33_iiiiiiioooo_l0_0] at hF
  cs h17
  ·
   cn h18
   bs x19 h20
   bs r21 h22
   have q27 {l} (z : HA hn33_iiiiiiioooo l) := zT h17 <| zT h18 <| zX (.sub (flat (eSl eGMsg) r4.2.1) (nidx v16 1) 1 [(.sl (len x19) (flat eGMsg x19))]) ⟨rfl, sub_flat0 (eSl_len _) h20 1 (by decide)⟩ <| zl (F60_ok K (GTable.mk v8 v9 v10 v11) v16 _ h22) <| z
   cs h23
   ·
    bs r24 h25
    exact lN1 (q27 <| zT h23 <| zc (F43_iiiiiiioooo_ok K (GWorker.mk v5 v6 v7 (GTable.mk v8 v9 v10 v11) v12 v13 v14 v15) a1 a2 (GMail.mk 4 v8 0 v6 v16 x3.X.P 0 0 [] [] [] (GPart.mk 0 0 [] [] []) x19) _ h25) <| zi (wadd .i64 v16 1) <| z0) (ih _ _ _ _ _ _ _ _ _ _ _ _ _ hF)
   cn h26
   exact lN1 (q27 <| zF h23 <| zX (tt (leqm [(i6 r21.1), (i6 r21.2.1), (i6 4), (i6 v8), (i6 0), (i6 v6), (i6 v16), (i6 x3.X.P), (i6 0), (i6 0), (.sl 0 []), (.sl 0 []), (.sl 0 []), (i6 0), (i6 0), (.sl 0 []), (.sl 0 []), (.sl 0 []), (.sl (len x19) (flat eGMsg x19))] 1 19)) rfl <| zT h26 <| zV (app_ok (enc := eGPost) (v15 : List GPost) [(GPost.mk r21.1 r21.2.1 (GMail.mk 4 v8 0 v6 v16 x3.X.P 0 0 [] [] [] (GPart.mk 0 0 [] [] []) x19))]) <| zi (wadd .i64 v16 1) <| z0) (ih _ _ _ _ _ _ _ _ _ _ _ _ _ hF)
  ob
  exact lE <| zF h17 <| z0
def F33_iiiiiiioooo (K : Nat) (a1 : GWorker) (a2 : GGraph) (a3 : GJob) (a4 : Int) : Option (List GDid × GWorker) :=
 bif (inr a4 (len a1.Held)) then
 (elAt a1.Held a4).bind fun x5 =>
 (F58 K a2 a3 x5.X).bind fun r6 =>
 bif (ieq r6.2.2 6) then
  (some ([], a1))
 else
 bif (ieq r6.2.2 1) then
  (some ([], a1))
 else
 bif (ieq r6.2.2 0) then
  (bif (inr a4 (len (α := GHeld) (putAt a1.Held a4 (GHeld.mk x5.X true x5.Given)))) then
  (elAt (putAt a1.Held a4 (GHeld.mk x5.X true x5.Given)) a4).bind fun x7 =>
  (F33_iiiiiiioooo_l0_0 K a2 a3 x5 r6 K a1.Id a1.Goal a1.Until a1.T.Epoch a1.T.Owners a1.T.Ids a1.T.Incs (putAt (putAt a1.Held a4 (GHeld.mk x5.X true x5.Given)) a4 (GHeld.mk r6.1 x7.Wait x7.Given)) a1.Buf a1.Coming a1.Out 0).bind fun w8 =>
  some ([(GDid.mk w8.2.2.2.1 w8.2.1 x5.X.P)], (GWorker.mk w8.1 w8.2.1 w8.2.2.1 (GTable.mk w8.2.2.2.1 w8.2.2.2.2.1 w8.2.2.2.2.2.1 w8.2.2.2.2.2.2.1) w8.2.2.2.2.2.2.2.1 w8.2.2.2.2.2.2.2.2.1 w8.2.2.2.2.2.2.2.2.2.1 w8.2.2.2.2.2.2.2.2.2.2))
  else none)
 else
 (F59_iiiiiiioooo K (GWorker.mk a1.Id a1.Goal a1.Until a1.T (putAt a1.Held a4 (GHeld.mk x5.X true x5.Given)) a1.Buf a1.Coming a1.Out) x5.X.P).bind fun r9 =>
 some ([], r9)
 else none
theorem F33_iiiiiiioooo_ok (K : Nat) (a1 : GWorker) (a2 : GGraph) (a3 : GJob) (a4 : Int) (r : List GDid × GWorker) (hF : F33_iiiiiiioooo K a1 a2 a3 a4 = some r) : Evt E H 33 [.box 38 [(.im (.lit (.int .i64 a1.Id))), (.im (.lit (.int .i64 a1.Goal))), (.im (.lit (.int .i64 a1.Until))), (.im (.lit (.int .i64 a1.T.Epoch))), (.im (.sl (len a1.T.Owners) (flat (eInt .i64) a1.T.Owners))), (.im (.sl (len a1.T.Ids) (flat (eInt .i64) a1.T.Ids))), (.im (.sl (len a1.T.Incs) (flat (eInt .i64) a1.T.Incs))), (.own 69 (.sl (len a1.Held) (flat eGHeld a1.Held))), (.own 112 (.sl (len a1.Buf) (flat eGData a1.Buf))), (.own 113 (.sl (len a1.Coming) (flat eGComing a1.Coming))), (.own 86 (.sl (len a1.Out) (flat eGPost a1.Out)))], .agg (eGGraph a2), .agg (eGJob a3), .one (.lit (.int .i64 a4))] (F33_iiiiiiioooo_res r) := by
 rw [F33_iiiiiiioooo] at hF
 cn h5
 bs x6 h7
 bs r8 h9
 have q20 {l} (z : HA hn33_iiiiiiioooo l) := zT h5 <| zU eGHeld_len h7 0 1 <| zT h5 <| zU eGHeld_len h7 0 5 <| zc (F58_ok K a2 a3 x6.X _ h9) <| z
 cs h10
 ·
  ob
  exact fpC hn33_iiiiiiioooo <| q20 <| zA2x h10 <| zr1 <| z0
 have q21 {l} (z : HA hn33_iiiiiiioooo l) := zB2x h10 <| z
 cs h11
 ·
  ob
  exact fpC hn33_iiiiiiioooo <| q20 <| q21 <| zT h11 <| z0
 have q22 {l} (z : HA hn33_iiiiiiioooo l) := zF h11 <| zT h5 <| zX (tt (lfits (nadd (nidx a4 7) 5) 1 (flat eGHeld a1.Held))) (lfits_flat eGHeld_len h7 5 _ (by decide)) <| zX (.sl (len a1.Held) (lset (flat eGHeld a1.Held) (nadd (nidx a4 7) 5) [(.lit (.bool true))]) (len (α := GHeld) (putAt a1.Held a4 (GHeld.mk x6.X true x6.Given))) (flat eGHeld (putAt a1.Held a4 (GHeld.mk x6.X true x6.Given)))) (set_ok eGHeld_len h7 5 _ (by simp) rfl) <| z
 cs h12
 ·
  cn h13
  bs x14 h15
  bs w17 h16
  ob
  exact fpC hn33_iiiiiiioooo <| q20 <| q21 <| q22 <| zF (ine_t h12) <| zT h13 <| zX (tt (lfits (nadd (nidx a4 7) 0) 5 (flat eGHeld (putAt a1.Held a4 (GHeld.mk x6.X true x6.Given))))) (lfits_flat eGHeld_len h15 0 _ (by decide)) <| zX (.sl (len (α := GHeld) (putAt a1.Held a4 (GHeld.mk x6.X true x6.Given))) (lset (flat eGHeld (putAt a1.Held a4 (GHeld.mk x6.X true x6.Given))) (nadd (nidx a4 7) 0) [(i6 r8.1.P), (i6 r8.1.Step), (.sl (len r8.1.Vals) (flat (eInt .i64) r8.1.Vals)), (.sl (len r8.1.Rest) (flat eBool r8.1.Rest)), (.sl (len r8.1.In) (flat eGMsg r8.1.In))]) (len (α := GHeld) (putAt (putAt a1.Held a4 (GHeld.mk x6.X true x6.Given)) a4 (GHeld.mk r8.1 x14.Wait x14.Given))) (flat eGHeld (putAt (putAt a1.Held a4 (GHeld.mk x6.X true x6.Given)) a4 (GHeld.mk r8.1 x14.Wait x14.Given)))) (set_ok eGHeld_len h15 0 _ (by simp) rfl) <| zi (nl r8.2.1) <| zo (F33_iiiiiiioooo_l0_0_ok K a2 a3 x6 r8 K a1.Id a1.Goal a1.Until a1.T.Epoch a1.T.Owners a1.T.Ids a1.T.Incs (putAt (putAt a1.Held a4 (GHeld.mk x6.X true x6.Given)) a4 (GHeld.mk r8.1 x14.Wait x14.Given)) a1.Buf a1.Coming a1.Out 0 _ h16) <| z0
 bs r18 h19
 ob
 exact fpC hn33_iiiiiiioooo <| q20 <| q21 <| q22 <| zT (ine_f h12) <| zc (F59_iiiiiiioooo_ok K (GWorker.mk a1.Id a1.Goal a1.Until a1.T (putAt a1.Held a4 (GHeld.mk x6.X true x6.Given)) a1.Buf a1.Coming a1.Out) x6.X.P _ h19) <| z0
noncomputable def hn98 : Hint := { H 98 with nt := 18, prot := 0, kp := 0 }
noncomputable def c98_0 : Code := loopOf E 98 0
def F98_res (r1 : List GMsg) : Res := ⟨[(.one (.own 78 (.sl (len r1) (flat eGMsg r1))))], []⟩
def F98_l0_0 (K : Nat) (a1 : List (List GMsg)) : Nat → List GMsg → Int → Option (List GMsg)
 | 0, _, _ => none
 | k + 1, v2, v3 =>
  bif (ilt v3 (nlen (len a1))) then
   (bif (inr v3 (len a1)) then
   (elAt a1 v3).bind fun x4 =>
   bif (apok (len v2) (len x4) 16) then
   F98_l0_0 K a1 k (appL v2 x4) (wadd .i64 v3 1)
   else none
   else none)
  else
  some v2
def F98_l0_0_S (a1 : List (List GMsg)) (v2 : List GMsg) (v3 : Int) : TS := .on [0, 1, 192, 193, 384, 385, 448, 449, 512, 513] [(0, ⟨.one, 0, nob⟩), (1, ⟨.im, 0, (.sl (len a1) (flat (eSl eGMsg) a1))⟩), (192, ⟨.one, 0, nob⟩), (193, ⟨(.own 78), 0, (.sl (len v2) (flat eGMsg v2))⟩), (384, ⟨.one, 0, nob⟩), (385, ⟨.im, 0, (.sl (len a1) (flat (eSl eGMsg) a1))⟩), (448, ⟨.one, 0, nob⟩), (449, ⟨.im, 0, (.lit (.int .i64 (nlen (len a1))))⟩), (512, ⟨.one, 0, nob⟩), (513, ⟨.im, 0, (.lit (.int .i64 v3))⟩)]
def F98_l0_0_X0 (a1 : List (List GMsg)) (w2 : List GMsg) : TS := .on [192, 193] [(192, ⟨.one, 0, nob⟩), (193, ⟨(.own 78), 0, (.sl (len w2) (flat eGMsg w2))⟩)]
theorem F98_l0_0_ok (K : Nat) (a1 : List (List GMsg)) : ∀ (k : Nat) (v2 : List GMsg) (v3 : Int) (r : List GMsg), F98_l0_0 K a1 k v2 v3 = some r → LoopEv E H hn98 0 c98_0 (F98_l0_0_S a1 v2 v3) (.exit 0) (F98_l0_0_X0 a1 r) := by
 intro k
 induction k with
 | zero => intro v2 v3 r hF; cases hF
 | succ k ih =>
  intro v2 v3 r hF
  rw [F98_l0_0] at hF
  cs h4
  ·
   cn h5
   bs x6 h7
   cn h8
   exact lN1 (zT h4 <| zT h5 <| zX (.sub (flat (eSl eGMsg) a1) (nidx v3 1) 1 [(.sl (len x6) (flat eGMsg x6))]) ⟨rfl, sub_flat0 (eSl_len _) h7 1 (by decide)⟩ <| zX (tt (leqm (flat eGMsg x6) (len x6) 2)) (leqm_flat eGMsg_len _) <| zT h8 <| zV (app_ok (enc := eGMsg) (v2 : List GMsg) x6) <| zi (wadd .i64 v3 1) <| z0) (ih _ _ _ hF)
  ob
  exact lE <| zF h4 <| z0
def F98 (K : Nat) (a1 : List (List GMsg)) : Option (List GMsg) :=
 (F98_l0_0 K a1 K [] 0).bind fun w2 =>
 (F107 K w2).bind fun r3 =>
 some r3
theorem F98_ok (K : Nat) (a1 : List (List GMsg)) (r : List GMsg) (hF : F98 K a1 = some r) : Evt E H 98 [.one (.sl (len a1) (flat (eSl eGMsg) a1))] (F98_res r) := by
 rw [F98] at hF
 bs w3 h2
 bs r4 h5
 ob
 exact fpC hn98 <| zi (nl a1) <| zo (F98_l0_0_ok K a1 K [] 0 _ h2) <| zl (F107_ok K w3 _ h5) <| z0
noncomputable def hn99 : Hint := { H 99 with nt := 14, prot := 0, kp := 0 }
def F99_res (r1 : GPart) : Res := ⟨[(.agg [(.im (.lit (.int .i64 r1.P))), (.im (.lit (.int .i64 r1.Step))), (.own 2 (.sl (len r1.Vals) (flat (eInt .i64) r1.Vals))), (.own 4 (.sl (len r1.Rest) (flat eBool r1.Rest))), (.im (.sl (len r1.In) (flat eGMsg r1.In)))])], []⟩
def F99 (K : Nat) (a1 : GPart) : Option (GPart) :=
 bif (apok 0 (len a1.Vals) 8) then
 bif (apok 0 (len a1.Rest) 1) then
 some (GPart.mk a1.P a1.Step (appL [] a1.Vals) (appL [] a1.Rest) a1.In)
 else none
 else none
theorem F99_ok (K : Nat) (a1 : GPart) (r : GPart) (hF : F99 K a1 = some r) : Evt E H 99 [.agg (eGPart a1)] (F99_res r) := by
 rw [F99] at hF
 cn h2
 cn h3
 ob
 exact fpC hn99 <| zX (tt (leqm (flat (eInt .i64) a1.Vals) (len a1.Vals) 1)) (leqm_flat (eInt_len _) _) <| zT h2 <| zV (app_ok (enc := (eInt .i64)) ([] : List Int) a1.Vals) <| zX (tt (leqm (flat eBool a1.Rest) (len a1.Rest) 1)) (leqm_flat eBool_len _) <| zT h3 <| zV (app_ok (enc := eBool) ([] : List Bool) a1.Rest) <| z0
noncomputable def hn62 : Hint := { H 62 with nt := 76, prot := 0, kp := 0 }
noncomputable def c62_0 : Code := loopOf E 62 0
def F62_res (r1 : GPart × Int) : Res := ⟨[(.agg [(.im (.lit (.int .i64 r1.1.P))), (.im (.lit (.int .i64 r1.1.Step))), (.own 2 (.sl (len r1.1.Vals) (flat (eInt .i64) r1.1.Vals))), (.own 4 (.sl (len r1.1.Rest) (flat eBool r1.1.Rest))), (.own 78 (.sl (len r1.1.In) (flat eGMsg r1.1.In)))]), (.one (.im (.lit (.int .i64 r1.2))))], []⟩
def F62_l0_0 (K : Nat) (a1 : GGraph) (a2 : GJob) (a3 : GPart) (r4 : List GMsg) : Nat → Int → Option ((Unit) ⊕ (Unit))
 | 0, _ => none
 | k + 1, v5 =>
  bif (ilt v5 (nlen (len r4))) then
   (bif (inr v5 (len r4)) then
   (elAt r4 v5).bind fun x6 =>
   bif (ile a1.N x6.To) then
    (some (.inl ()))
   else
   (F94 K a2 x6.To).bind fun r7 =>
   bif (ieq r7 a3.P) then
    (F62_l0_0 K a1 a2 a3 r4 k (wadd .i64 v5 1))
   else
   some (.inl ())
   else none)
  else
  some (.inr ())
def F62_l0_0_S (a1 : GGraph) (a2 : GJob) (a3 : GPart) (r4 : List GMsg) (v5 : Int) : TS := .on [256, 257, 258, 320, 321, 322, 323, 324, 384, 385, 386, 387, 388, 389, 512, 513, 514, 515, 516, 517, 704, 705, 2432, 2433, 2496, 2497, 2560, 2561] [(256, ⟨(.box 24 2), 0, nob⟩), (257, ⟨.im, 0, (.lit (.int .i64 a1.N))⟩), (258, ⟨.im, 0, (.sl (len a1.Edges) (flat eGEdge a1.Edges))⟩), (320, ⟨(.box 26 4), 0, nob⟩), (321, ⟨.im, 0, (.lit (.int .i64 a2.Prog))⟩), (322, ⟨.im, 0, (.lit (.int .i64 a2.Source))⟩), (323, ⟨.im, 0, (.lit (.int .i64 a2.Limit))⟩), (324, ⟨.im, 0, (.lit (.int .i64 a2.Parts))⟩), (384, ⟨(.box 45 5), 0, nob⟩), (385, ⟨.im, 0, (.lit (.int .i64 a3.P))⟩), (386, ⟨.im, 0, (.lit (.int .i64 a3.Step))⟩), (387, ⟨.im, 0, (.sl (len a3.Vals) (flat (eInt .i64) a3.Vals))⟩), (388, ⟨.im, 0, (.sl (len a3.Rest) (flat eBool a3.Rest))⟩), (389, ⟨.im, 0, (.sl (len a3.In) (flat eGMsg a3.In))⟩), (512, ⟨(.box 45 5), 0, nob⟩), (513, ⟨.im, 0, (.lit (.int .i64 0))⟩), (514, ⟨.im, 0, (.lit (.int .i64 0))⟩), (515, ⟨(.own 2), 0, (.sl 0 [])⟩), (516, ⟨(.own 4), 0, (.sl 0 [])⟩), (517, ⟨(.own 78), 0, (.sl 0 [])⟩), (704, ⟨.one, 0, nob⟩), (705, ⟨(.own 78), 0, (.sl (len r4) (flat eGMsg r4))⟩), (2432, ⟨.one, 0, nob⟩), (2433, ⟨(.vw 705 0), 0, nob⟩), (2496, ⟨.one, 0, nob⟩), (2497, ⟨.im, 0, (.lit (.int .i64 (nlen (len r4))))⟩), (2560, ⟨.one, 0, nob⟩), (2561, ⟨.im, 0, (.lit (.int .i64 v5))⟩)]
def F62_l0_0_X0 (a1 : GGraph) (a2 : GJob) (a3 : GPart) (r4 : List GMsg) (w5 : Unit) : TS := .on [512, 513, 514, 515, 516, 517, 576, 577] [(512, ⟨(.box 45 5), 0, nob⟩), (513, ⟨.im, 0, (.lit (.int .i64 0))⟩), (514, ⟨.im, 0, (.lit (.int .i64 0))⟩), (515, ⟨(.own 2), 0, (.sl 0 [])⟩), (516, ⟨(.own 4), 0, (.sl 0 [])⟩), (517, ⟨(.own 78), 0, (.sl 0 [])⟩), (576, ⟨.one, 0, nob⟩), (577, ⟨.im, 0, (.lit (.int .i64 1))⟩)]
def F62_l0_0_X1 (a1 : GGraph) (a2 : GJob) (a3 : GPart) (r4 : List GMsg) (w5 : Unit) : TS := .on [320, 321, 322, 323, 324, 384, 385, 386, 387, 388, 389, 512, 513, 514, 515, 516, 517, 704, 705] [(320, ⟨(.box 26 4), 0, nob⟩), (321, ⟨.im, 0, (.lit (.int .i64 a2.Prog))⟩), (322, ⟨.im, 0, (.lit (.int .i64 a2.Source))⟩), (323, ⟨.im, 0, (.lit (.int .i64 a2.Limit))⟩), (324, ⟨.im, 0, (.lit (.int .i64 a2.Parts))⟩), (384, ⟨(.box 45 5), 0, nob⟩), (385, ⟨.im, 0, (.lit (.int .i64 a3.P))⟩), (386, ⟨.im, 0, (.lit (.int .i64 a3.Step))⟩), (387, ⟨.im, 0, (.sl (len a3.Vals) (flat (eInt .i64) a3.Vals))⟩), (388, ⟨.im, 0, (.sl (len a3.Rest) (flat eBool a3.Rest))⟩), (389, ⟨.im, 0, (.sl (len a3.In) (flat eGMsg a3.In))⟩), (512, ⟨(.box 45 5), 0, nob⟩), (513, ⟨.im, 0, (.lit (.int .i64 0))⟩), (514, ⟨.im, 0, (.lit (.int .i64 0))⟩), (515, ⟨(.own 2), 0, (.sl 0 [])⟩), (516, ⟨(.own 4), 0, (.sl 0 [])⟩), (517, ⟨(.own 78), 0, (.sl 0 [])⟩), (704, ⟨.one, 0, nob⟩), (705, ⟨(.own 78), 0, (.sl (len r4) (flat eGMsg r4))⟩)]
theorem F62_l0_0_ok (K : Nat) (a1 : GGraph) (a2 : GJob) (a3 : GPart) (r4 : List GMsg) : ∀ (k : Nat) (v5 : Int) (r : (Unit) ⊕ (Unit)), F62_l0_0 K a1 a2 a3 r4 k v5 = some r → (Sum.elim (fun w => LoopEv E H hn62 0 c62_0 (F62_l0_0_S a1 a2 a3 r4 v5) .ret (F62_l0_0_X0 a1 a2 a3 r4 w)) (fun w => LoopEv E H hn62 0 c62_0 (F62_l0_0_S a1 a2 a3 r4 v5) (.exit 0) (F62_l0_0_X1 a1 a2 a3 r4 w))) r := by
 intro k
 induction k with
 | zero => intro v5 r hF; cases hF
 | succ k ih =>
  intro v5 r hF
  rw [F62_l0_0] at hF
  cs h6
  ·
   cn h7
   bs x8 h9
   have q14 {l} (z : HA hn62 l) := zT h6 <| zT h7 <| zS eGMsg_len h9 2 <| z
   cs h10
   ·
    ob
    exact lE <| q14 <| zA6 (ige_eq h10) <| zA1x (ige_eq h10) <| zr1 <| z0
   bs r11 h12
   have q15 {l} (z : HA hn62 l) := zB4 (ige_eq h10) <| zl (F94_ok K a2 x8.To _ h12) <| zB3x (ige_eq h10) <| z
   cs h13
   ·
    exact lN2 (q14 <| q15 <| zF (ine_t h13) <| zi (wadd .i64 v5 1) <| z0) (ih _ _ hF)
   ob
   exact lE <| q14 <| q15 <| zT (ine_f h13) <| z0
  ob
  exact lE <| zF h6 <| z0
def F62 (K : Nat) (a1 : GGraph) (a2 : GJob) (a3 : GPart) (a4 : List (List GMsg)) : Option (GPart × Int) :=
 (F31 K a1 a2).bind fun r5 =>
 bif (ieq r5 0) then
  ((F91 K a1 a2 a3).bind fun r6 =>
  bif r6 then
   (bif (ilt 0 (nlen (len a3.In))) then
    (some ((GPart.mk 0 0 [] [] []), 1))
   else
   (F98 K a4).bind fun r7 =>
   (F62_l0_0 K a1 a2 a3 r7 K 0).bind fun y8 =>
   Sum.elim (fun w9 =>
    some ((GPart.mk 0 0 [] [] []), 1))
    (fun w10 =>
    (F95 K a2.Prog r7).bind fun r11 =>
    bif (ieq r11.2 0) then
     ((F99 K a3).bind fun r12 =>
     some ((GPart.mk r12.P r12.Step r12.Vals r12.Rest r11.1), 0))
    else
    some ((GPart.mk 0 0 [] [] []), r11.2)) y8)
  else
  some ((GPart.mk 0 0 [] [] []), 1))
 else
 some ((GPart.mk 0 0 [] [] []), r5)
theorem F62_ok (K : Nat) (a1 : GGraph) (a2 : GJob) (a3 : GPart) (a4 : List (List GMsg)) (r : GPart × Int) (hF : F62 K a1 a2 a3 a4 = some r) : Evt E H 62 [.agg (eGGraph a1), .agg (eGJob a2), .agg (eGPart a3), .one (.sl (len a4) (flat (eSl eGMsg) a4))] (F62_res r) := by
 rw [F62] at hF
 bs r5 h6
 cs h7
 ·
  bs r8 h9
  have q23 {l} (z : HA hn62 l) := zl (F31_ok K a1 a2 _ h6) <| zF (ine_t h7) <| zl (F91_ok K a1 a2 a3 _ h9) <| z
  cs h10
  ·
   have q24 {l} (z : HA hn62 l) := zB3 (bnot_t h10) <| zi (nl a3.In) <| zB1x (bnot_t h10) <| z
   cs h11
   ·
    ob
    exact fpC hn62 <| q23 <| q24 <| zT (igt_eq h11) <| z0
   bs r12 h13
   have q25 {l} (z : HA hn62 l) := zF (igt_eq h11) <| zl (F98_ok K a4 _ h13) <| zi (nl r12) <| z
   bs y15 h14
   ss w16 w17
   ·
    subst hx
    ob
    exact fpC hn62 <| q23 <| q24 <| q25 <| zo (F62_l0_0_ok K a1 a2 a3 r12 K 0 _ h14) <| z0
   subst hx
   bs r18 h19
   have q26 {l} (z : HA hn62 l) := zo (F62_l0_0_ok K a1 a2 a3 r12 K 0 _ h14) <| zl (F95_ok K a2.Prog r12 _ h19) <| z
   cs h20
   ·
    bs r21 h22
    ob
    exact fpC hn62 <| q23 <| q24 <| q25 <| q26 <| zF (ine_t h20) <| zc (F99_ok K a3 _ h22) <| z0
   ob
   exact fpC hn62 <| q23 <| q24 <| q25 <| q26 <| zT (ine_f h20) <| z0
  ob
  exact fpC hn62 <| q23 <| zA4x (bnot_f h10) <| zr1 <| z0
 ob
 exact fpC hn62 <| zl (F31_ok K a1 a2 _ h6) <| zT (ine_f h7) <| z0
noncomputable def hn34_iiiiiiioooo : Hint := { H 34 with nt := 153, prot := 1, kp := 256 }
noncomputable def c34_iiiiiiioooo_0 : Code := loopOf E 34 0
noncomputable def c34_iiiiiiioooo_1 : Code := loopOf E 34 1
def F34_iiiiiiioooo_res (r1 : GWorker) : Res := ⟨[], [[(.im (.lit (.int .i64 r1.Id))), (.im (.lit (.int .i64 r1.Goal))), (.im (.lit (.int .i64 r1.Until))), (.im (.lit (.int .i64 r1.T.Epoch))), (.im (.sl (len r1.T.Owners) (flat (eInt .i64) r1.T.Owners))), (.im (.sl (len r1.T.Ids) (flat (eInt .i64) r1.T.Ids))), (.im (.sl (len r1.T.Incs) (flat (eInt .i64) r1.T.Incs))), (.own 69 (.sl (len r1.Held) (flat eGHeld r1.Held))), (.own 112 (.sl (len r1.Buf) (flat eGData r1.Buf))), (.own 113 (.sl (len r1.Coming) (flat eGComing r1.Coming))), (.own 86 (.sl (len r1.Out) (flat eGPost r1.Out)))]]⟩
def F34_iiiiiiioooo_l0_0 (K : Nat) (v1 : Int) (v2 : Int) (v3 : List GEdge) (v4 : Int) (v5 : Int) (v6 : Int) (v7 : Int) (v8 : Int) : Nat → Int → Int → Int → Int → List Int → List Int → List Int → List GHeld → List GData → List GComing → List GPost → List (List GMsg) → Int → Option (((Int × Int × Int × Int × List Int × List Int × List Int × List GHeld × List GData × List GComing × List GPost × List (List GMsg))) ⊕ (Int × Int × Int × Int × List Int × List Int × List Int × List GHeld × List GData × List GComing × List GPost × List (List GMsg)))
 | 0, _, _, _, _, _, _, _, _, _, _, _, _, _ => none
 | k + 1, v9, v10, v11, v12, v13, v14, v15, v16, v17, v18, v19, v20, v21 =>
  bif (ilt v21 v7) then
   ((F61_iiiiiiioooo K (GWorker.mk v9 v10 v11 (GTable.mk v12 v13 v14 v15) v16 v17 v18 v19) v12 v10 v21 v8).bind fun r22 =>
   bif (ilt r22.1 0) then
    (some (.inl (r22.2.Id, (r22.2.Goal, (r22.2.Until, (r22.2.T.Epoch, (r22.2.T.Owners, (r22.2.T.Ids, (r22.2.T.Incs, (r22.2.Held, (r22.2.Buf, (r22.2.Coming, (r22.2.Out, v20)))))))))))))
   else
   bif (inr r22.1 (len r22.2.Buf)) then
   (elAt r22.2.Buf r22.1).bind fun x23 =>
   bif (apok (len v20) 1 24) then
   F34_iiiiiiioooo_l0_0 K v1 v2 v3 v4 v5 v6 v7 v8 k r22.2.Id r22.2.Goal r22.2.Until r22.2.T.Epoch r22.2.T.Owners r22.2.T.Ids r22.2.T.Incs r22.2.Held r22.2.Buf r22.2.Coming r22.2.Out (appL v20 [x23.Msgs]) (wadd .i64 v21 1)
   else none
   else none)
  else
  some (.inr (v9, (v10, (v11, (v12, (v13, (v14, (v15, (v16, (v17, (v18, (v19, v20))))))))))))
def F34_iiiiiiioooo_l0_0_S (v1 : Int) (v2 : Int) (v3 : List GEdge) (v4 : Int) (v5 : Int) (v6 : Int) (v7 : Int) (v8 : Int) (v9 : Int) (v10 : Int) (v11 : Int) (v12 : Int) (v13 : List Int) (v14 : List Int) (v15 : List Int) (v16 : List GHeld) (v17 : List GData) (v18 : List GComing) (v19 : List GPost) (v20 : List (List GMsg)) (v21 : Int) : TS := .on [0, 1, 2, 3, 4, 5, 6, 7, 8, 9, 10, 11, 192, 193, 320, 321, 322, 384, 385, 386, 387, 388, 512, 513, 576, 577, 1728, 1729, 1792, 1793] [(0, ⟨(.box 38 11), 0, nob⟩), (1, ⟨.im, 0, (.lit (.int .i64 v9))⟩), (2, ⟨.im, 0, (.lit (.int .i64 v10))⟩), (3, ⟨.im, 0, (.lit (.int .i64 v11))⟩), (4, ⟨.im, 0, (.lit (.int .i64 v12))⟩), (5, ⟨.im, 0, (.sl (len v13) (flat (eInt .i64) v13))⟩), (6, ⟨.im, 0, (.sl (len v14) (flat (eInt .i64) v14))⟩), (7, ⟨.im, 0, (.sl (len v15) (flat (eInt .i64) v15))⟩), (8, ⟨(.own 69), 0, (.sl (len v16) (flat eGHeld v16))⟩), (9, ⟨(.own 112), 0, (.sl (len v17) (flat eGData v17))⟩), (10, ⟨(.own 113), 0, (.sl (len v18) (flat eGComing v18))⟩), (11, ⟨(.own 86), 0, (.sl (len v19) (flat eGPost v19))⟩), (192, ⟨.one, 0, nob⟩), (193, ⟨.im, 0, (.lit (.int .i64 v1))⟩), (320, ⟨(.box 24 2), 0, nob⟩), (321, ⟨.im, 0, (.lit (.int .i64 v2))⟩), (322, ⟨.im, 0, (.sl (len v3) (flat eGEdge v3))⟩), (384, ⟨(.box 26 4), 0, nob⟩), (385, ⟨.im, 0, (.lit (.int .i64 v4))⟩), (386, ⟨.im, 0, (.lit (.int .i64 v5))⟩), (387, ⟨.im, 0, (.lit (.int .i64 v6))⟩), (388, ⟨.im, 0, (.lit (.int .i64 v7))⟩), (512, ⟨.one, 0, nob⟩), (513, ⟨.im, 0, (.lit (.int .i64 v8))⟩), (576, ⟨.one, 0, nob⟩), (577, ⟨(.own 43), 0, (.sl (len v20) (flat (eSl eGMsg) v20))⟩), (1728, ⟨.one, 0, nob⟩), (1729, ⟨.im, 0, (.lit (.int .i64 v7))⟩), (1792, ⟨.one, 0, nob⟩), (1793, ⟨.im, 0, (.lit (.int .i64 v21))⟩)]
def F34_iiiiiiioooo_l0_0_X0 (v1 : Int) (v2 : Int) (v3 : List GEdge) (v4 : Int) (v5 : Int) (v6 : Int) (v7 : Int) (v8 : Int) (w9 : Int × Int × Int × Int × List Int × List Int × List Int × List GHeld × List GData × List GComing × List GPost × List (List GMsg)) : TS := .on [0, 1, 2, 3, 4, 5, 6, 7, 8, 9, 10, 11, 192, 193, 320, 321, 322, 384, 385, 386, 387, 388, 512, 513, 576, 577] [(0, ⟨(.box 38 11), 0, nob⟩), (1, ⟨.im, 0, (.lit (.int .i64 w9.1))⟩), (2, ⟨.im, 0, (.lit (.int .i64 w9.2.1))⟩), (3, ⟨.im, 0, (.lit (.int .i64 w9.2.2.1))⟩), (4, ⟨.im, 0, (.lit (.int .i64 w9.2.2.2.1))⟩), (5, ⟨.im, 0, (.sl (len w9.2.2.2.2.1) (flat (eInt .i64) w9.2.2.2.2.1))⟩), (6, ⟨.im, 0, (.sl (len w9.2.2.2.2.2.1) (flat (eInt .i64) w9.2.2.2.2.2.1))⟩), (7, ⟨.im, 0, (.sl (len w9.2.2.2.2.2.2.1) (flat (eInt .i64) w9.2.2.2.2.2.2.1))⟩), (8, ⟨(.own 69), 0, (.sl (len w9.2.2.2.2.2.2.2.1) (flat eGHeld w9.2.2.2.2.2.2.2.1))⟩), (9, ⟨(.own 112), 0, (.sl (len w9.2.2.2.2.2.2.2.2.1) (flat eGData w9.2.2.2.2.2.2.2.2.1))⟩), (10, ⟨(.own 113), 0, (.sl (len w9.2.2.2.2.2.2.2.2.2.1) (flat eGComing w9.2.2.2.2.2.2.2.2.2.1))⟩), (11, ⟨(.own 86), 0, (.sl (len w9.2.2.2.2.2.2.2.2.2.2.1) (flat eGPost w9.2.2.2.2.2.2.2.2.2.2.1))⟩), (192, ⟨.one, 0, nob⟩), (193, ⟨.im, 0, (.lit (.int .i64 v1))⟩), (320, ⟨(.box 24 2), 0, nob⟩), (321, ⟨.im, 0, (.lit (.int .i64 v2))⟩), (322, ⟨.im, 0, (.sl (len v3) (flat eGEdge v3))⟩), (384, ⟨(.box 26 4), 0, nob⟩), (385, ⟨.im, 0, (.lit (.int .i64 v4))⟩), (386, ⟨.im, 0, (.lit (.int .i64 v5))⟩), (387, ⟨.im, 0, (.lit (.int .i64 v6))⟩), (388, ⟨.im, 0, (.lit (.int .i64 v7))⟩), (512, ⟨.one, 0, nob⟩), (513, ⟨.im, 0, (.lit (.int .i64 v8))⟩), (576, ⟨.one, 0, nob⟩), (577, ⟨(.own 43), 0, (.sl (len w9.2.2.2.2.2.2.2.2.2.2.2) (flat (eSl eGMsg) w9.2.2.2.2.2.2.2.2.2.2.2))⟩)]
def F34_iiiiiiioooo_l0_0_X1 (v1 : Int) (v2 : Int) (v3 : List GEdge) (v4 : Int) (v5 : Int) (v6 : Int) (v7 : Int) (v8 : Int) (w9 : Int × Int × Int × Int × List Int × List Int × List Int × List GHeld × List GData × List GComing × List GPost × List (List GMsg)) : TS := .on [0, 1, 2, 3, 4, 5, 6, 7, 8, 9, 10, 11, 192, 193, 320, 321, 322, 384, 385, 386, 387, 388, 512, 513, 576, 577] [(0, ⟨(.box 38 11), 0, nob⟩), (1, ⟨.im, 0, (.lit (.int .i64 w9.1))⟩), (2, ⟨.im, 0, (.lit (.int .i64 w9.2.1))⟩), (3, ⟨.im, 0, (.lit (.int .i64 w9.2.2.1))⟩), (4, ⟨.im, 0, (.lit (.int .i64 w9.2.2.2.1))⟩), (5, ⟨.im, 0, (.sl (len w9.2.2.2.2.1) (flat (eInt .i64) w9.2.2.2.2.1))⟩), (6, ⟨.im, 0, (.sl (len w9.2.2.2.2.2.1) (flat (eInt .i64) w9.2.2.2.2.2.1))⟩), (7, ⟨.im, 0, (.sl (len w9.2.2.2.2.2.2.1) (flat (eInt .i64) w9.2.2.2.2.2.2.1))⟩), (8, ⟨(.own 69), 0, (.sl (len w9.2.2.2.2.2.2.2.1) (flat eGHeld w9.2.2.2.2.2.2.2.1))⟩), (9, ⟨(.own 112), 0, (.sl (len w9.2.2.2.2.2.2.2.2.1) (flat eGData w9.2.2.2.2.2.2.2.2.1))⟩), (10, ⟨(.own 113), 0, (.sl (len w9.2.2.2.2.2.2.2.2.2.1) (flat eGComing w9.2.2.2.2.2.2.2.2.2.1))⟩), (11, ⟨(.own 86), 0, (.sl (len w9.2.2.2.2.2.2.2.2.2.2.1) (flat eGPost w9.2.2.2.2.2.2.2.2.2.2.1))⟩), (192, ⟨.one, 0, nob⟩), (193, ⟨.im, 0, (.lit (.int .i64 v1))⟩), (320, ⟨(.box 24 2), 0, nob⟩), (321, ⟨.im, 0, (.lit (.int .i64 v2))⟩), (322, ⟨.im, 0, (.sl (len v3) (flat eGEdge v3))⟩), (384, ⟨(.box 26 4), 0, nob⟩), (385, ⟨.im, 0, (.lit (.int .i64 v4))⟩), (386, ⟨.im, 0, (.lit (.int .i64 v5))⟩), (387, ⟨.im, 0, (.lit (.int .i64 v6))⟩), (388, ⟨.im, 0, (.lit (.int .i64 v7))⟩), (512, ⟨.one, 0, nob⟩), (513, ⟨.im, 0, (.lit (.int .i64 v8))⟩), (576, ⟨.one, 0, nob⟩), (577, ⟨(.own 43), 0, (.sl (len w9.2.2.2.2.2.2.2.2.2.2.2) (flat (eSl eGMsg) w9.2.2.2.2.2.2.2.2.2.2.2))⟩)]
theorem F34_iiiiiiioooo_l0_0_ok (K : Nat) (v1 : Int) (v2 : Int) (v3 : List GEdge) (v4 : Int) (v5 : Int) (v6 : Int) (v7 : Int) (v8 : Int) : ∀ (k : Nat) (v9 : Int) (v10 : Int) (v11 : Int) (v12 : Int) (v13 : List Int) (v14 : List Int) (v15 : List Int) (v16 : List GHeld) (v17 : List GData) (v18 : List GComing) (v19 : List GPost) (v20 : List (List GMsg)) (v21 : Int) (r : ((Int × Int × Int × Int × List Int × List Int × List Int × List GHeld × List GData × List GComing × List GPost × List (List GMsg))) ⊕ (Int × Int × Int × Int × List Int × List Int × List Int × List GHeld × List GData × List GComing × List GPost × List (List GMsg))), F34_iiiiiiioooo_l0_0 K v1 v2 v3 v4 v5 v6 v7 v8 k v9 v10 v11 v12 v13 v14 v15 v16 v17 v18 v19 v20 v21 = some r → (Sum.elim (fun w => LoopEv E H hn34_iiiiiiioooo 0 c34_iiiiiiioooo_0 (F34_iiiiiiioooo_l0_0_S v1 v2 v3 v4 v5 v6 v7 v8 v9 v10 v11 v12 v13 v14 v15 v16 v17 v18 v19 v20 v21) .ret (F34_iiiiiiioooo_l0_0_X0 v1 v2 v3 v4 v5 v6 v7 v8 w)) (fun w => LoopEv E H hn34_iiiiiiioooo 0 c34_iiiiiiioooo_0 (F34_iiiiiiioooo_l0_0_S v1 v2 v3 v4 v5 v6 v7 v8 v9 v10 v11 v12 v13 v14 v15 v16 v17 v18 v19 v20 v21) (.exit 0) (F34_iiiiiiioooo_l0_0_X1 v1 v2 v3 v4 v5 v6 v7 v8 w))) r := by
 intro k
 induction k with
 | zero => intro v9 v10 v11 v12 v13 v14 v15 v16 v17 v18 v19 v20 v21 r hF; cases hF
 | succ k ih =>
  intro v9 v10 v11 v12 v13 v14 v15 v16 v17 v18 v19 v20 v21 r hF
  rw [F34_iiiiiiioooo_l0_0] at hF
  cs h22
  ·
   bs r23 h24
   cs h25
   ·
    ob
    exact lE <| zT h22 <| zc (F61_iiiiiiioooo_ok K (GWorker.mk v9 v10 v11 (GTable.mk v12 v13 v14 v15) v16 v17 v18 v19) v12 v10 v21 v8 _ h24) <| zT h25 <| z0
   cn h26
   bs x27 h28
   cn h29
   exact lN2 (zT h22 <| zc (F61_iiiiiiioooo_ok K (GWorker.mk v9 v10 v11 (GTable.mk v12 v13 v14 v15) v16 v17 v18 v19) v12 v10 v21 v8 _ h24) <| zF h25 <| zT h26 <| zU eGData_len h28 4 1 <| zX (tt (leqm [(.sl (len x27.Msgs) (flat eGMsg x27.Msgs))] 1 1)) rfl <| zT h29 <| zV (app_ok (enc := (eSl eGMsg)) (v20 : List (List GMsg)) [x27.Msgs]) <| zi (wadd .i64 v21 1) <| z0) (ih _ _ _ _ _ _ _ _ _ _ _ _ _ _ hF)
  ob
  exact lE <| zF h22 <| z0
def F34_iiiiiiioooo_l1_1 (K : Nat) (v1 : Int) (v2 : Int) (v3 : Int) (v4 : Int) (v5 : List Int) (v6 : List Int) (v7 : List Int) (v8 : List GHeld) (v9 : List GData) (v10 : List GComing) (v11 : List GPost) (v12 : Int) (v13 : Int) (v14 : List GEdge) (v15 : Int) (v16 : Int) (v17 : Int) (v18 : Int) (v19 : Int) (v20 : List (List GMsg)) : Nat → List GData → Int → Option (List GData)
 | 0, _, _ => none
 | k + 1, v21, v22 =>
  bif (ilt v22 (nlen (len v9))) then
   (bif (inr v22 (len v9)) then
   (elAt v9 v22).bind fun x23 =>
   bif (ieq x23.Epoch v4) then
    (bif (ieq x23.Step v2) then
     (bif (ieq x23.P v19) then
      (bif (ilt x23.Q 0) then
       (bif (apok (len v21) 1 56) then
       F34_iiiiiiioooo_l1_1 K v1 v2 v3 v4 v5 v6 v7 v8 v9 v10 v11 v12 v13 v14 v15 v16 v17 v18 v19 v20 k (appL v21 [x23]) (wadd .i64 v22 1)
       else none)
      else
      bif (ile v18 x23.Q) then
       (bif (apok (len v21) 1 56) then
       F34_iiiiiiioooo_l1_1 K v1 v2 v3 v4 v5 v6 v7 v8 v9 v10 v11 v12 v13 v14 v15 v16 v17 v18 v19 v20 k (appL v21 [x23]) (wadd .i64 v22 1)
       else none)
      else
      F34_iiiiiiioooo_l1_1 K v1 v2 v3 v4 v5 v6 v7 v8 v9 v10 v11 v12 v13 v14 v15 v16 v17 v18 v19 v20 k v21 (wadd .i64 v22 1))
     else
     bif (apok (len v21) 1 56) then
     F34_iiiiiiioooo_l1_1 K v1 v2 v3 v4 v5 v6 v7 v8 v9 v10 v11 v12 v13 v14 v15 v16 v17 v18 v19 v20 k (appL v21 [x23]) (wadd .i64 v22 1)
     else none)
    else
    bif (apok (len v21) 1 56) then
    F34_iiiiiiioooo_l1_1 K v1 v2 v3 v4 v5 v6 v7 v8 v9 v10 v11 v12 v13 v14 v15 v16 v17 v18 v19 v20 k (appL v21 [x23]) (wadd .i64 v22 1)
    else none)
   else
   bif (apok (len v21) 1 56) then
   F34_iiiiiiioooo_l1_1 K v1 v2 v3 v4 v5 v6 v7 v8 v9 v10 v11 v12 v13 v14 v15 v16 v17 v18 v19 v20 k (appL v21 [x23]) (wadd .i64 v22 1)
   else none
   else none)
  else
  some v21
def F34_iiiiiiioooo_l1_1_S (v1 : Int) (v2 : Int) (v3 : Int) (v4 : Int) (v5 : List Int) (v6 : List Int) (v7 : List Int) (v8 : List GHeld) (v9 : List GData) (v10 : List GComing) (v11 : List GPost) (v12 : Int) (v13 : Int) (v14 : List GEdge) (v15 : Int) (v16 : Int) (v17 : Int) (v18 : Int) (v19 : Int) (v20 : List (List GMsg)) (v21 : List GData) (v22 : Int) : TS := .on [0, 1, 2, 3, 4, 5, 6, 7, 8, 9, 10, 11, 192, 193, 320, 321, 322, 384, 385, 386, 387, 388, 512, 513, 576, 577, 768, 769, 3712, 3776, 3840, 3904, 3905, 3968, 3969, 4032, 4033] [(0, ⟨(.box 38 11), 0, nob⟩), (1, ⟨.im, 0, (.lit (.int .i64 v1))⟩), (2, ⟨.im, 0, (.lit (.int .i64 v2))⟩), (3, ⟨.im, 0, (.lit (.int .i64 v3))⟩), (4, ⟨.im, 0, (.lit (.int .i64 v4))⟩), (5, ⟨.im, 0, (.sl (len v5) (flat (eInt .i64) v5))⟩), (6, ⟨.im, 0, (.sl (len v6) (flat (eInt .i64) v6))⟩), (7, ⟨.im, 0, (.sl (len v7) (flat (eInt .i64) v7))⟩), (8, ⟨(.own 69), 0, (.sl (len v8) (flat eGHeld v8))⟩), (9, ⟨(.own 112), 0, (.sl (len v9) (flat eGData v9))⟩), (10, ⟨(.own 113), 0, (.sl (len v10) (flat eGComing v10))⟩), (11, ⟨(.own 86), 0, (.sl (len v11) (flat eGPost v11))⟩), (192, ⟨.one, 0, nob⟩), (193, ⟨.im, 0, (.lit (.int .i64 v12))⟩), (320, ⟨(.box 24 2), 0, nob⟩), (321, ⟨.im, 0, (.lit (.int .i64 v13))⟩), (322, ⟨.im, 0, (.sl (len v14) (flat eGEdge v14))⟩), (384, ⟨(.box 26 4), 0, nob⟩), (385, ⟨.im, 0, (.lit (.int .i64 v15))⟩), (386, ⟨.im, 0, (.lit (.int .i64 v16))⟩), (387, ⟨.im, 0, (.lit (.int .i64 v17))⟩), (388, ⟨.im, 0, (.lit (.int .i64 v18))⟩), (512, ⟨.one, 0, nob⟩), (513, ⟨.im, 0, (.lit (.int .i64 v19))⟩), (576, ⟨.one, 0, nob⟩), (577, ⟨(.own 43), 0, (.sl (len v20) (flat (eSl eGMsg) v20))⟩), (768, ⟨.one, 0, nob⟩), (769, ⟨(.own 112), 0, (.sl (len v21) (flat eGData v21))⟩), (3712, ⟨(.ad 0 0 0), 0, nob⟩), (3776, ⟨(.ad 0 0 0), 0, nob⟩), (3840, ⟨(.ad 0 0 8), 0, nob⟩), (3904, ⟨.one, 0, nob⟩), (3905, ⟨(.vw 9 0), 0, nob⟩), (3968, ⟨.one, 0, nob⟩), (3969, ⟨.im, 0, (.lit (.int .i64 (nlen (len v9))))⟩), (4032, ⟨.one, 0, nob⟩), (4033, ⟨.im, 0, (.lit (.int .i64 v22))⟩)]
def F34_iiiiiiioooo_l1_1_X0 (v1 : Int) (v2 : Int) (v3 : Int) (v4 : Int) (v5 : List Int) (v6 : List Int) (v7 : List Int) (v8 : List GHeld) (v9 : List GData) (v10 : List GComing) (v11 : List GPost) (v12 : Int) (v13 : Int) (v14 : List GEdge) (v15 : Int) (v16 : Int) (v17 : Int) (v18 : Int) (v19 : Int) (v20 : List (List GMsg)) (w21 : List GData) : TS := .on [0, 1, 2, 3, 4, 5, 6, 7, 8, 9, 10, 11, 192, 193, 320, 321, 322, 384, 385, 386, 387, 388, 512, 513, 576, 577, 768, 769] [(0, ⟨(.box 38 11), 0, nob⟩), (1, ⟨.im, 0, (.lit (.int .i64 v1))⟩), (2, ⟨.im, 0, (.lit (.int .i64 v2))⟩), (3, ⟨.im, 0, (.lit (.int .i64 v3))⟩), (4, ⟨.im, 0, (.lit (.int .i64 v4))⟩), (5, ⟨.im, 0, (.sl (len v5) (flat (eInt .i64) v5))⟩), (6, ⟨.im, 0, (.sl (len v6) (flat (eInt .i64) v6))⟩), (7, ⟨.im, 0, (.sl (len v7) (flat (eInt .i64) v7))⟩), (8, ⟨(.own 69), 0, (.sl (len v8) (flat eGHeld v8))⟩), (9, ⟨(.own 112), 0, (.sl (len v9) (flat eGData v9))⟩), (10, ⟨(.own 113), 0, (.sl (len v10) (flat eGComing v10))⟩), (11, ⟨(.own 86), 0, (.sl (len v11) (flat eGPost v11))⟩), (192, ⟨.one, 0, nob⟩), (193, ⟨.im, 0, (.lit (.int .i64 v12))⟩), (320, ⟨(.box 24 2), 0, nob⟩), (321, ⟨.im, 0, (.lit (.int .i64 v13))⟩), (322, ⟨.im, 0, (.sl (len v14) (flat eGEdge v14))⟩), (384, ⟨(.box 26 4), 0, nob⟩), (385, ⟨.im, 0, (.lit (.int .i64 v15))⟩), (386, ⟨.im, 0, (.lit (.int .i64 v16))⟩), (387, ⟨.im, 0, (.lit (.int .i64 v17))⟩), (388, ⟨.im, 0, (.lit (.int .i64 v18))⟩), (512, ⟨.one, 0, nob⟩), (513, ⟨.im, 0, (.lit (.int .i64 v19))⟩), (576, ⟨.one, 0, nob⟩), (577, ⟨(.own 43), 0, (.sl (len v20) (flat (eSl eGMsg) v20))⟩), (768, ⟨.one, 0, nob⟩), (769, ⟨(.own 112), 0, (.sl (len w21) (flat eGData w21))⟩)]
theorem F34_iiiiiiioooo_l1_1_ok (K : Nat) (v1 : Int) (v2 : Int) (v3 : Int) (v4 : Int) (v5 : List Int) (v6 : List Int) (v7 : List Int) (v8 : List GHeld) (v9 : List GData) (v10 : List GComing) (v11 : List GPost) (v12 : Int) (v13 : Int) (v14 : List GEdge) (v15 : Int) (v16 : Int) (v17 : Int) (v18 : Int) (v19 : Int) (v20 : List (List GMsg)) : ∀ (k : Nat) (v21 : List GData) (v22 : Int) (r : List GData), F34_iiiiiiioooo_l1_1 K v1 v2 v3 v4 v5 v6 v7 v8 v9 v10 v11 v12 v13 v14 v15 v16 v17 v18 v19 v20 k v21 v22 = some r → LoopEv E H hn34_iiiiiiioooo 2 c34_iiiiiiioooo_1 (F34_iiiiiiioooo_l1_1_S v1 v2 v3 v4 v5 v6 v7 v8 v9 v10 v11 v12 v13 v14 v15 v16 v17 v18 v19 v20 v21 v22) (.exit 2) (F34_iiiiiiioooo_l1_1_X0 v1 v2 v3 v4 v5 v6 v7 v8 v9 v10 v11 v12 v13 v14 v15 v16 v17 v18 v19 v20 r) := by
 intro k
 induction k with
 | zero => intro v21 v22 r hF; cases hF
 | succ k ih =>
  intro v21 v22 r hF
  rw [F34_iiiiiiioooo_l1_1] at hF
  cs h23
  ·
   cn h24
   bs x25 h26
   have q37 {l} (z : HA hn34_iiiiiiioooo l) := zT h23 <| zT h24 <| zS eGData_len h26 5 <| z
   cs h27
   ·
    have q38 {l} (z : HA hn34_iiiiiiioooo l) := zB6 (ine_t h27) <| zB1x (ine_t h27) <| z
    cs h28
    ·
     have q39 {l} (z : HA hn34_iiiiiiioooo l) := zB4x (ine_t h28) <| z
     cs h29
     ·
      have q40 {l} (z : HA hn34_iiiiiiioooo l) := zB3x (ine_t h29) <| z
      cs h30
      ·
       cn h31
       exact lN1 (q37 <| q38 <| q39 <| q40 <| zA5x h30 <| zr1 <| zX (tt (leqm [(i6 x25.Epoch), (i6 x25.Step), (i6 x25.Q), (i6 x25.P), (.sl (len x25.Msgs) (flat eGMsg x25.Msgs))] 1 5)) rfl <| zT h31 <| zV (app_ok (enc := eGData) (v21 : List GData) [x25]) <| zi (wadd .i64 v22 1) <| z0) (ih _ _ _ hF)
      have q41 {l} (z : HA hn34_iiiiiiioooo l) := zB5x h30 <| z
      cs h32
      ·
       cn h33
       exact lN1 (q37 <| q38 <| q39 <| q40 <| q41 <| zT (ige_eq h32) <| zX (tt (leqm [(i6 x25.Epoch), (i6 x25.Step), (i6 x25.Q), (i6 x25.P), (.sl (len x25.Msgs) (flat eGMsg x25.Msgs))] 1 5)) rfl <| zT h33 <| zV (app_ok (enc := eGData) (v21 : List GData) [x25]) <| zi (wadd .i64 v22 1) <| z0) (ih _ _ _ hF)
      exact lN1 (q37 <| q38 <| q39 <| q40 <| q41 <| zF (ige_eq h32) <| zi (wadd .i64 v22 1) <| z0) (ih _ _ _ hF)
     cn h34
     exact lN1 (q37 <| q38 <| q39 <| zA3x (ine_f h29) <| zt5 <| zr2 <| zX (tt (leqm [(i6 x25.Epoch), (i6 x25.Step), (i6 x25.Q), (i6 x25.P), (.sl (len x25.Msgs) (flat eGMsg x25.Msgs))] 1 5)) rfl <| zT h34 <| zV (app_ok (enc := eGData) (v21 : List GData) [x25]) <| zi (wadd .i64 v22 1) <| z0) (ih _ _ _ hF)
    cn h35
    exact lN1 (q37 <| q38 <| zA4x (ine_f h28) <| zt3 <| zr1 <| zt5 <| zr2 <| zX (tt (leqm [(i6 x25.Epoch), (i6 x25.Step), (i6 x25.Q), (i6 x25.P), (.sl (len x25.Msgs) (flat eGMsg x25.Msgs))] 1 5)) rfl <| zT h35 <| zV (app_ok (enc := eGData) (v21 : List GData) [x25]) <| zi (wadd .i64 v22 1) <| z0) (ih _ _ _ hF)
   cn h36
   exact lN1 (q37 <| zA6 (ine_f h27) <| zA1x (ine_f h27) <| zt4 <| zr1 <| zt3 <| zr1 <| zt5 <| zr2 <| zX (tt (leqm [(i6 x25.Epoch), (i6 x25.Step), (i6 x25.Q), (i6 x25.P), (.sl (len x25.Msgs) (flat eGMsg x25.Msgs))] 1 5)) rfl <| zT h36 <| zV (app_ok (enc := eGData) (v21 : List GData) [x25]) <| zi (wadd .i64 v22 1) <| z0) (ih _ _ _ hF)
  ob
  exact lE <| zF h23 <| z0
def F34_iiiiiiioooo (K : Nat) (a1 : GWorker) (a2 : GGraph) (a3 : GJob) (a4 : Int) : Option (GWorker) :=
 bif (inr a4 (len a1.Held)) then
 (elAt a1.Held a4).bind fun x5 =>
 (F34_iiiiiiioooo_l0_0 K a4 a2.N a2.Edges a3.Prog a3.Source a3.Limit a3.Parts x5.X.P K a1.Id a1.Goal a1.Until a1.T.Epoch a1.T.Owners a1.T.Ids a1.T.Incs a1.Held a1.Buf a1.Coming a1.Out [] 0).bind fun y6 =>
 Sum.elim (fun w7 =>
  some (GWorker.mk w7.1 w7.2.1 w7.2.2.1 (GTable.mk w7.2.2.2.1 w7.2.2.2.2.1 w7.2.2.2.2.2.1 w7.2.2.2.2.2.2.1) w7.2.2.2.2.2.2.2.1 w7.2.2.2.2.2.2.2.2.1 w7.2.2.2.2.2.2.2.2.2.1 w7.2.2.2.2.2.2.2.2.2.2.1))
  (fun w8 =>
  (F34_iiiiiiioooo_l1_1 K w8.1 w8.2.1 w8.2.2.1 w8.2.2.2.1 w8.2.2.2.2.1 w8.2.2.2.2.2.1 w8.2.2.2.2.2.2.1 w8.2.2.2.2.2.2.2.1 w8.2.2.2.2.2.2.2.2.1 w8.2.2.2.2.2.2.2.2.2.1 w8.2.2.2.2.2.2.2.2.2.2.1 a4 a2.N a2.Edges a3.Prog a3.Source a3.Limit a3.Parts x5.X.P w8.2.2.2.2.2.2.2.2.2.2.2 K [] 0).bind fun w9 =>
  bif (inr a4 (len w8.2.2.2.2.2.2.2.1)) then
  (elAt w8.2.2.2.2.2.2.2.1 a4).bind fun x10 =>
  (F62 K a2 a3 x10.X w8.2.2.2.2.2.2.2.2.2.2.2).bind fun r11 =>
  bif (ieq r11.2 0) then
   ((F63_iiiiiiioooo K (GWorker.mk w8.1 w8.2.1 w8.2.2.1 (GTable.mk w8.2.2.2.1 w8.2.2.2.2.1 w8.2.2.2.2.2.1 w8.2.2.2.2.2.2.1) (putAt w8.2.2.2.2.2.2.2.1 a4 (GHeld.mk r11.1 false false)) w9 w8.2.2.2.2.2.2.2.2.2.1 w8.2.2.2.2.2.2.2.2.2.2.1) (GMail.mk 5 w8.2.2.2.1 0 w8.2.1 x5.X.P 0 0 0 [] [] [] r11.1 [])).bind fun r12 =>
   some r12)
  else
  (F59_iiiiiiioooo K (GWorker.mk w8.1 w8.2.1 w8.2.2.1 (GTable.mk w8.2.2.2.1 w8.2.2.2.2.1 w8.2.2.2.2.2.1 w8.2.2.2.2.2.2.1) w8.2.2.2.2.2.2.2.1 w9 w8.2.2.2.2.2.2.2.2.2.1 w8.2.2.2.2.2.2.2.2.2.2.1) x5.X.P).bind fun r13 =>
  some r13
  else none) y6
 else none
theorem F34_iiiiiiioooo_ok (K : Nat) (a1 : GWorker) (a2 : GGraph) (a3 : GJob) (a4 : Int) (r : GWorker) (hF : F34_iiiiiiioooo K a1 a2 a3 a4 = some r) : Evt E H 34 [.box 38 [(.im (.lit (.int .i64 a1.Id))), (.im (.lit (.int .i64 a1.Goal))), (.im (.lit (.int .i64 a1.Until))), (.im (.lit (.int .i64 a1.T.Epoch))), (.im (.sl (len a1.T.Owners) (flat (eInt .i64) a1.T.Owners))), (.im (.sl (len a1.T.Ids) (flat (eInt .i64) a1.T.Ids))), (.im (.sl (len a1.T.Incs) (flat (eInt .i64) a1.T.Incs))), (.own 69 (.sl (len a1.Held) (flat eGHeld a1.Held))), (.own 112 (.sl (len a1.Buf) (flat eGData a1.Buf))), (.own 113 (.sl (len a1.Coming) (flat eGComing a1.Coming))), (.own 86 (.sl (len a1.Out) (flat eGPost a1.Out)))], .agg (eGGraph a2), .agg (eGJob a3), .one (.lit (.int .i64 a4))] (F34_iiiiiiioooo_res r) := by
 rw [F34_iiiiiiioooo] at hF
 cn h5
 bs x6 h7
 bs y9 h8
 ss w10 w11
 ·
  subst hx
  ob
  exact fpC hn34_iiiiiiioooo <| zT h5 <| zU eGHeld_len h7 0 1 <| zo (F34_iiiiiiioooo_l0_0_ok K a4 a2.N a2.Edges a3.Prog a3.Source a3.Limit a3.Parts x6.X.P K a1.Id a1.Goal a1.Until a1.T.Epoch a1.T.Owners a1.T.Ids a1.T.Incs a1.Held a1.Buf a1.Coming a1.Out [] 0 _ h8) <| z0
 subst hx
 bs w13 h12
 cn h14
 bs x15 h16
 bs r17 h18
 have q24 {l} (z : HA hn34_iiiiiiioooo l) := zT h5 <| zU eGHeld_len h7 0 1 <| zo (F34_iiiiiiioooo_l0_0_ok K a4 a2.N a2.Edges a3.Prog a3.Source a3.Limit a3.Parts x6.X.P K a1.Id a1.Goal a1.Until a1.T.Epoch a1.T.Owners a1.T.Ids a1.T.Incs a1.Held a1.Buf a1.Coming a1.Out [] 0 _ h8) <| zi (nl w11.2.2.2.2.2.2.2.2.1) <| zo (F34_iiiiiiioooo_l1_1_ok K w11.1 w11.2.1 w11.2.2.1 w11.2.2.2.1 w11.2.2.2.2.1 w11.2.2.2.2.2.1 w11.2.2.2.2.2.2.1 w11.2.2.2.2.2.2.2.1 w11.2.2.2.2.2.2.2.2.1 w11.2.2.2.2.2.2.2.2.2.1 w11.2.2.2.2.2.2.2.2.2.2.1 a4 a2.N a2.Edges a3.Prog a3.Source a3.Limit a3.Parts x6.X.P w11.2.2.2.2.2.2.2.2.2.2.2 K [] 0 _ h12) <| zT h14 <| zU eGHeld_len h16 0 5 <| zl (F62_ok K a2 a3 x15.X w11.2.2.2.2.2.2.2.2.2.2.2 _ h18) <| z
 cs h19
 ·
  bs r20 h21
  ob
  exact fpC hn34_iiiiiiioooo <| q24 <| zF (ine_t h19) <| zT h14 <| zX (tt (lfits (nidx a4 7) 7 (flat eGHeld w11.2.2.2.2.2.2.2.1))) (lfits_flat0 eGHeld_len h16 _ (by decide)) <| zX (.sl (len w11.2.2.2.2.2.2.2.1) (lset (flat eGHeld w11.2.2.2.2.2.2.2.1) (nidx a4 7) [(i6 r17.1.P), (i6 r17.1.Step), (.sl (len r17.1.Vals) (flat (eInt .i64) r17.1.Vals)), (.sl (len r17.1.Rest) (flat eBool r17.1.Rest)), (.sl (len r17.1.In) (flat eGMsg r17.1.In)), (.lit (.bool false)), (.lit (.bool false))]) (len (α := GHeld) (putAt w11.2.2.2.2.2.2.2.1 a4 (GHeld.mk r17.1 false false))) (flat eGHeld (putAt w11.2.2.2.2.2.2.2.1 a4 (GHeld.mk r17.1 false false)))) (set_ok0 eGHeld_len h16 _ (by simp) rfl) <| zc (F63_iiiiiiioooo_ok K (GWorker.mk w11.1 w11.2.1 w11.2.2.1 (GTable.mk w11.2.2.2.1 w11.2.2.2.2.1 w11.2.2.2.2.2.1 w11.2.2.2.2.2.2.1) (putAt w11.2.2.2.2.2.2.2.1 a4 (GHeld.mk r17.1 false false)) w13 w11.2.2.2.2.2.2.2.2.2.1 w11.2.2.2.2.2.2.2.2.2.2.1) (GMail.mk 5 w11.2.2.2.1 0 w11.2.1 x6.X.P 0 0 0 [] [] [] r17.1 []) _ h21) <| z0
 bs r22 h23
 ob
 exact fpC hn34_iiiiiiioooo <| q24 <| zT (ine_f h19) <| zc (F59_iiiiiiioooo_ok K (GWorker.mk w11.1 w11.2.1 w11.2.2.1 (GTable.mk w11.2.2.2.1 w11.2.2.2.2.1 w11.2.2.2.2.2.1 w11.2.2.2.2.2.2.1) w11.2.2.2.2.2.2.2.1 w13 w11.2.2.2.2.2.2.2.2.2.1 w11.2.2.2.2.2.2.2.2.2.2.1) x6.X.P _ h23) <| z0
noncomputable def hn14 : Hint := { H 14 with nt := 97, prot := 0, kp := 0 }
noncomputable def c14_0 : Code := loopOf E 14 0
noncomputable def c14_1 : Code := loopOf E 14 1
def F14_res (r1 : GWorker × List GPost × List GDid) : Res := ⟨[(.agg [(.im (.lit (.int .i64 r1.1.Id))), (.im (.lit (.int .i64 r1.1.Goal))), (.im (.lit (.int .i64 r1.1.Until))), (.im (.lit (.int .i64 r1.1.T.Epoch))), (.im (.sl (len r1.1.T.Owners) (flat (eInt .i64) r1.1.T.Owners))), (.im (.sl (len r1.1.T.Ids) (flat (eInt .i64) r1.1.T.Ids))), (.im (.sl (len r1.1.T.Incs) (flat (eInt .i64) r1.1.T.Incs))), (.own 69 (.sl (len r1.1.Held) (flat eGHeld r1.1.Held))), (.own 112 (.sl (len r1.1.Buf) (flat eGData r1.1.Buf))), (.own 113 (.sl (len r1.1.Coming) (flat eGComing r1.1.Coming))), (.own 86 (.sl (len r1.1.Out) (flat eGPost r1.1.Out)))]), (.one (.own 86 (.sl (len r1.2.1) (flat eGPost r1.2.1)))), (.one (.own 66 (.sl (len r1.2.2) (flat eGDid r1.2.2))))], []⟩
def F14_l0_0 (K : Nat) (a1 : GGraph) (a2 : GJob) (r3 : GWorker) : Nat → Int → Int → Int → Int → List Int → List Int → List Int → List GHeld → List GData → List GComing → List GPost → List GDid → Int → Option (Int × Int × Int × Int × List Int × List Int × List Int × List GHeld × List GData × List GComing × List GPost × List GDid)
 | 0, _, _, _, _, _, _, _, _, _, _, _, _, _ => none
 | k + 1, v4, v5, v6, v7, v8, v9, v10, v11, v12, v13, v14, v15, v16 =>
  bif (ilt v16 (nlen (len r3.Held))) then
   (bif (inr v16 (len v11)) then
   (elAt v11 v16).bind fun x17 =>
   bif x17.Wait then
    (F14_l0_0 K a1 a2 r3 k v4 v5 v6 v7 v8 v9 v10 v11 v12 v13 v14 v15 (wadd .i64 v16 1))
   else
   bif x17.Given then
    (F14_l0_0 K a1 a2 r3 k v4 v5 v6 v7 v8 v9 v10 v11 v12 v13 v14 v15 (wadd .i64 v16 1))
   else
   bif (ieq x17.X.Step v5) then
    ((F33_iiiiiiioooo K (GWorker.mk v4 v5 v6 (GTable.mk v7 v8 v9 v10) v11 v12 v13 v14) a1 a2 v16).bind fun r18 =>
    bif (apok (len v15) (len r18.1) 24) then
    F14_l0_0 K a1 a2 r3 k r18.2.Id r18.2.Goal r18.2.Until r18.2.T.Epoch r18.2.T.Owners r18.2.T.Ids r18.2.T.Incs r18.2.Held r18.2.Buf r18.2.Coming r18.2.Out (appL v15 r18.1) (wadd .i64 v16 1)
    else none)
   else
   F14_l0_0 K a1 a2 r3 k v4 v5 v6 v7 v8 v9 v10 v11 v12 v13 v14 v15 (wadd .i64 v16 1)
   else none)
  else
  some (v4, (v5, (v6, (v7, (v8, (v9, (v10, (v11, (v12, (v13, (v14, v15)))))))))))
def F14_l0_0_S (a1 : GGraph) (a2 : GJob) (r3 : GWorker) (v4 : Int) (v5 : Int) (v6 : Int) (v7 : Int) (v8 : List Int) (v9 : List Int) (v10 : List Int) (v11 : List GHeld) (v12 : List GData) (v13 : List GComing) (v14 : List GPost) (v15 : List GDid) (v16 : Int) : TS := .on [256, 257, 258, 320, 321, 322, 323, 324, 384, 385, 386, 387, 388, 389, 390, 391, 392, 393, 394, 395, 512, 513, 514, 515, 516, 517, 518, 519, 520, 521, 522, 523, 704, 705, 1920, 1984, 1985, 2048, 2049, 2112, 2113] [(256, ⟨(.box 24 2), 0, nob⟩), (257, ⟨.im, 0, (.lit (.int .i64 a1.N))⟩), (258, ⟨.im, 0, (.sl (len a1.Edges) (flat eGEdge a1.Edges))⟩), (320, ⟨(.box 26 4), 0, nob⟩), (321, ⟨.im, 0, (.lit (.int .i64 a2.Prog))⟩), (322, ⟨.im, 0, (.lit (.int .i64 a2.Source))⟩), (323, ⟨.im, 0, (.lit (.int .i64 a2.Limit))⟩), (324, ⟨.im, 0, (.lit (.int .i64 a2.Parts))⟩), (384, ⟨(.box 38 11), 0, nob⟩), (385, ⟨.im, 0, (.lit (.int .i64 v4))⟩), (386, ⟨.im, 0, (.lit (.int .i64 v5))⟩), (387, ⟨.im, 0, (.lit (.int .i64 v6))⟩), (388, ⟨.im, 0, (.lit (.int .i64 v7))⟩), (389, ⟨.im, 0, (.sl (len v8) (flat (eInt .i64) v8))⟩), (390, ⟨.im, 0, (.sl (len v9) (flat (eInt .i64) v9))⟩), (391, ⟨.im, 0, (.sl (len v10) (flat (eInt .i64) v10))⟩), (392, ⟨(.own 69), 0, (.sl (len v11) (flat eGHeld v11))⟩), (393, ⟨(.own 112), 0, (.sl (len v12) (flat eGData v12))⟩), (394, ⟨(.own 113), 0, (.sl (len v13) (flat eGComing v13))⟩), (395, ⟨(.own 86), 0, (.sl (len v14) (flat eGPost v14))⟩), (512, ⟨(.box 38 11), 0, nob⟩), (513, ⟨.im, 0, (.lit (.int .i64 0))⟩), (514, ⟨.im, 0, (.lit (.int .i64 0))⟩), (515, ⟨.im, 0, (.lit (.int .i64 0))⟩), (516, ⟨.im, 0, (.lit (.int .i64 0))⟩), (517, ⟨(.own 3), 0, (.sl 0 [])⟩), (518, ⟨(.own 3), 0, (.sl 0 [])⟩), (519, ⟨(.own 3), 0, (.sl 0 [])⟩), (520, ⟨(.own 69), 0, (.sl 0 [])⟩), (521, ⟨(.own 112), 0, (.sl 0 [])⟩), (522, ⟨(.own 113), 0, (.sl 0 [])⟩), (523, ⟨(.own 86), 0, (.sl 0 [])⟩), (704, ⟨.one, 0, nob⟩), (705, ⟨(.own 66), 0, (.sl (len v15) (flat eGDid v15))⟩), (1920, ⟨(.ad 6 0 7), 0, nob⟩), (1984, ⟨.one, 0, nob⟩), (1985, ⟨(.vw 392 0), 0, nob⟩), (2048, ⟨.one, 0, nob⟩), (2049, ⟨.im, 0, (.lit (.int .i64 (nlen (len r3.Held))))⟩), (2112, ⟨.one, 0, nob⟩), (2113, ⟨.im, 0, (.lit (.int .i64 v16))⟩)]
def F14_l0_0_X0 (a1 : GGraph) (a2 : GJob) (r3 : GWorker) (w4 : Int × Int × Int × Int × List Int × List Int × List Int × List GHeld × List GData × List GComing × List GPost × List GDid) : TS := .on [256, 257, 258, 320, 321, 322, 323, 324, 384, 385, 386, 387, 388, 389, 390, 391, 392, 393, 394, 395, 512, 513, 514, 515, 516, 517, 518, 519, 520, 521, 522, 523, 704, 705] [(256, ⟨(.box 24 2), 0, nob⟩), (257, ⟨.im, 0, (.lit (.int .i64 a1.N))⟩), (258, ⟨.im, 0, (.sl (len a1.Edges) (flat eGEdge a1.Edges))⟩), (320, ⟨(.box 26 4), 0, nob⟩), (321, ⟨.im, 0, (.lit (.int .i64 a2.Prog))⟩), (322, ⟨.im, 0, (.lit (.int .i64 a2.Source))⟩), (323, ⟨.im, 0, (.lit (.int .i64 a2.Limit))⟩), (324, ⟨.im, 0, (.lit (.int .i64 a2.Parts))⟩), (384, ⟨(.box 38 11), 0, nob⟩), (385, ⟨.im, 0, (.lit (.int .i64 w4.1))⟩), (386, ⟨.im, 0, (.lit (.int .i64 w4.2.1))⟩), (387, ⟨.im, 0, (.lit (.int .i64 w4.2.2.1))⟩), (388, ⟨.im, 0, (.lit (.int .i64 w4.2.2.2.1))⟩), (389, ⟨.im, 0, (.sl (len w4.2.2.2.2.1) (flat (eInt .i64) w4.2.2.2.2.1))⟩), (390, ⟨.im, 0, (.sl (len w4.2.2.2.2.2.1) (flat (eInt .i64) w4.2.2.2.2.2.1))⟩), (391, ⟨.im, 0, (.sl (len w4.2.2.2.2.2.2.1) (flat (eInt .i64) w4.2.2.2.2.2.2.1))⟩), (392, ⟨(.own 69), 0, (.sl (len w4.2.2.2.2.2.2.2.1) (flat eGHeld w4.2.2.2.2.2.2.2.1))⟩), (393, ⟨(.own 112), 0, (.sl (len w4.2.2.2.2.2.2.2.2.1) (flat eGData w4.2.2.2.2.2.2.2.2.1))⟩), (394, ⟨(.own 113), 0, (.sl (len w4.2.2.2.2.2.2.2.2.2.1) (flat eGComing w4.2.2.2.2.2.2.2.2.2.1))⟩), (395, ⟨(.own 86), 0, (.sl (len w4.2.2.2.2.2.2.2.2.2.2.1) (flat eGPost w4.2.2.2.2.2.2.2.2.2.2.1))⟩), (512, ⟨(.box 38 11), 0, nob⟩), (513, ⟨.im, 0, (.lit (.int .i64 0))⟩), (514, ⟨.im, 0, (.lit (.int .i64 0))⟩), (515, ⟨.im, 0, (.lit (.int .i64 0))⟩), (516, ⟨.im, 0, (.lit (.int .i64 0))⟩), (517, ⟨(.own 3), 0, (.sl 0 [])⟩), (518, ⟨(.own 3), 0, (.sl 0 [])⟩), (519, ⟨(.own 3), 0, (.sl 0 [])⟩), (520, ⟨(.own 69), 0, (.sl 0 [])⟩), (521, ⟨(.own 112), 0, (.sl 0 [])⟩), (522, ⟨(.own 113), 0, (.sl 0 [])⟩), (523, ⟨(.own 86), 0, (.sl 0 [])⟩), (704, ⟨.one, 0, nob⟩), (705, ⟨(.own 66), 0, (.sl (len w4.2.2.2.2.2.2.2.2.2.2.2) (flat eGDid w4.2.2.2.2.2.2.2.2.2.2.2))⟩)]
theorem F14_l0_0_ok (K : Nat) (a1 : GGraph) (a2 : GJob) (r3 : GWorker) : ∀ (k : Nat) (v4 : Int) (v5 : Int) (v6 : Int) (v7 : Int) (v8 : List Int) (v9 : List Int) (v10 : List Int) (v11 : List GHeld) (v12 : List GData) (v13 : List GComing) (v14 : List GPost) (v15 : List GDid) (v16 : Int) (r : Int × Int × Int × Int × List Int × List Int × List Int × List GHeld × List GData × List GComing × List GPost × List GDid), F14_l0_0 K a1 a2 r3 k v4 v5 v6 v7 v8 v9 v10 v11 v12 v13 v14 v15 v16 = some r → LoopEv E H hn14 0 c14_0 (F14_l0_0_S a1 a2 r3 v4 v5 v6 v7 v8 v9 v10 v11 v12 v13 v14 v15 v16) (.exit 0) (F14_l0_0_X0 a1 a2 r3 r) := by
 intro k
 induction k with
 | zero => intro v4 v5 v6 v7 v8 v9 v10 v11 v12 v13 v14 v15 v16 r hF; cases hF
 | succ k ih =>
  intro v4 v5 v6 v7 v8 v9 v10 v11 v12 v13 v14 v15 v16 r hF
  rw [F14_l0_0] at hF
  cs h17
  ·
   cn h18
   bs x19 h20
   have q27 {l} (z : HA hn14 l) := zT h17 <| zT h18 <| zS eGHeld_len h20 7 <| z
   cs h21
   ·
    exact lN1 (q27 <| zD3x (bnot_t h21) <| zk6 <| zf2 <| zi (wadd .i64 v16 1) <| z0) (ih _ _ _ _ _ _ _ _ _ _ _ _ _ _ hF)
   have q28 {l} (z : HA hn14 l) := zC3x (bnot_f h21) <| z
   cs h22
   ·
    exact lN1 (q27 <| q28 <| zD6x (bnot_t h22) <| zf1 <| zi (wadd .i64 v16 1) <| z0) (ih _ _ _ _ _ _ _ _ _ _ _ _ _ _ hF)
   have q29 {l} (z : HA hn14 l) := zC6x (bnot_f h22) <| z
   cs h23
   ·
    bs r24 h25
    cn h26
    exact lN1 (q27 <| q28 <| q29 <| zT h23 <| zc (F33_iiiiiiioooo_ok K (GWorker.mk v4 v5 v6 (GTable.mk v7 v8 v9 v10) v11 v12 v13 v14) a1 a2 v16 _ h25) <| zX (tt (leqm (flat eGDid r24.1) (len r24.1) 3)) (leqm_flat eGDid_len _) <| zT h26 <| zV (app_ok (enc := eGDid) (v15 : List GDid) r24.1) <| zi (wadd .i64 v16 1) <| z0) (ih _ _ _ _ _ _ _ _ _ _ _ _ _ _ hF)
   exact lN1 (q27 <| q28 <| q29 <| zF h23 <| zi (wadd .i64 v16 1) <| z0) (ih _ _ _ _ _ _ _ _ _ _ _ _ _ _ hF)
  ob
  exact lE <| zF h17 <| z0
def F14_l1_1 (K : Nat) (a1 : GGraph) (a2 : GJob) (w3 : Int × Int × Int × Int × List Int × List Int × List Int × List GHeld × List GData × List GComing × List GPost × List GDid) : Nat → Int → Int → Int → Int → List Int → List Int → List Int → List GHeld → List GData → List GComing → List GPost → Int → Option (Int × Int × Int × Int × List Int × List Int × List Int × List GHeld × List GData × List GComing × List GPost)
 | 0, _, _, _, _, _, _, _, _, _, _, _, _ => none
 | k + 1, v4, v5, v6, v7, v8, v9, v10, v11, v12, v13, v14, v15 =>
  bif (ilt v15 (nlen (len w3.2.2.2.2.2.2.2.1))) then
   (bif (inr v15 (len v11)) then
   (elAt v11 v15).bind fun x16 =>
   bif x16.Wait then
    (bif (ieq x16.X.Step (wadd .i64 v5 1)) then
     ((F34_iiiiiiioooo K (GWorker.mk v4 v5 v6 (GTable.mk v7 v8 v9 v10) v11 v12 v13 v14) a1 a2 v15).bind fun r17 =>
     F14_l1_1 K a1 a2 w3 k r17.Id r17.Goal r17.Until r17.T.Epoch r17.T.Owners r17.T.Ids r17.T.Incs r17.Held r17.Buf r17.Coming r17.Out (wadd .i64 v15 1))
    else
    F14_l1_1 K a1 a2 w3 k v4 v5 v6 v7 v8 v9 v10 v11 v12 v13 v14 (wadd .i64 v15 1))
   else
   F14_l1_1 K a1 a2 w3 k v4 v5 v6 v7 v8 v9 v10 v11 v12 v13 v14 (wadd .i64 v15 1)
   else none)
  else
  some (v4, (v5, (v6, (v7, (v8, (v9, (v10, (v11, (v12, (v13, v14))))))))))
def F14_l1_1_S (a1 : GGraph) (a2 : GJob) (w3 : Int × Int × Int × Int × List Int × List Int × List Int × List GHeld × List GData × List GComing × List GPost × List GDid) (v4 : Int) (v5 : Int) (v6 : Int) (v7 : Int) (v8 : List Int) (v9 : List Int) (v10 : List Int) (v11 : List GHeld) (v12 : List GData) (v13 : List GComing) (v14 : List GPost) (v15 : Int) : TS := .on [256, 257, 258, 320, 321, 322, 323, 324, 384, 385, 386, 387, 388, 389, 390, 391, 392, 393, 394, 395, 512, 513, 514, 515, 516, 517, 518, 519, 520, 521, 522, 523, 704, 705, 4032, 4033, 4096, 4097] [(256, ⟨(.box 24 2), 0, nob⟩), (257, ⟨.im, 0, (.lit (.int .i64 a1.N))⟩), (258, ⟨.im, 0, (.sl (len a1.Edges) (flat eGEdge a1.Edges))⟩), (320, ⟨(.box 26 4), 0, nob⟩), (321, ⟨.im, 0, (.lit (.int .i64 a2.Prog))⟩), (322, ⟨.im, 0, (.lit (.int .i64 a2.Source))⟩), (323, ⟨.im, 0, (.lit (.int .i64 a2.Limit))⟩), (324, ⟨.im, 0, (.lit (.int .i64 a2.Parts))⟩), (384, ⟨(.box 38 11), 0, nob⟩), (385, ⟨.im, 0, (.lit (.int .i64 v4))⟩), (386, ⟨.im, 0, (.lit (.int .i64 v5))⟩), (387, ⟨.im, 0, (.lit (.int .i64 v6))⟩), (388, ⟨.im, 0, (.lit (.int .i64 v7))⟩), (389, ⟨.im, 0, (.sl (len v8) (flat (eInt .i64) v8))⟩), (390, ⟨.im, 0, (.sl (len v9) (flat (eInt .i64) v9))⟩), (391, ⟨.im, 0, (.sl (len v10) (flat (eInt .i64) v10))⟩), (392, ⟨(.own 69), 0, (.sl (len v11) (flat eGHeld v11))⟩), (393, ⟨(.own 112), 0, (.sl (len v12) (flat eGData v12))⟩), (394, ⟨(.own 113), 0, (.sl (len v13) (flat eGComing v13))⟩), (395, ⟨(.own 86), 0, (.sl (len v14) (flat eGPost v14))⟩), (512, ⟨(.box 38 11), 0, nob⟩), (513, ⟨.im, 0, (.lit (.int .i64 0))⟩), (514, ⟨.im, 0, (.lit (.int .i64 0))⟩), (515, ⟨.im, 0, (.lit (.int .i64 0))⟩), (516, ⟨.im, 0, (.lit (.int .i64 0))⟩), (517, ⟨(.own 3), 0, (.sl 0 [])⟩), (518, ⟨(.own 3), 0, (.sl 0 [])⟩), (519, ⟨(.own 3), 0, (.sl 0 [])⟩), (520, ⟨(.own 69), 0, (.sl 0 [])⟩), (521, ⟨(.own 112), 0, (.sl 0 [])⟩), (522, ⟨(.own 113), 0, (.sl 0 [])⟩), (523, ⟨(.own 86), 0, (.sl 0 [])⟩), (704, ⟨.one, 0, nob⟩), (705, ⟨(.own 66), 0, (.sl (len w3.2.2.2.2.2.2.2.2.2.2.2) (flat eGDid w3.2.2.2.2.2.2.2.2.2.2.2))⟩), (4032, ⟨.one, 0, nob⟩), (4033, ⟨.im, 0, (.lit (.int .i64 (nlen (len w3.2.2.2.2.2.2.2.1))))⟩), (4096, ⟨.one, 0, nob⟩), (4097, ⟨.im, 0, (.lit (.int .i64 v15))⟩)]
def F14_l1_1_X0 (a1 : GGraph) (a2 : GJob) (w3 : Int × Int × Int × Int × List Int × List Int × List Int × List GHeld × List GData × List GComing × List GPost × List GDid) (w4 : Int × Int × Int × Int × List Int × List Int × List Int × List GHeld × List GData × List GComing × List GPost) : TS := .on [384, 385, 386, 387, 388, 389, 390, 391, 392, 393, 394, 395, 512, 513, 514, 515, 516, 517, 518, 519, 520, 521, 522, 523, 704, 705] [(384, ⟨(.box 38 11), 0, nob⟩), (385, ⟨.im, 0, (.lit (.int .i64 w4.1))⟩), (386, ⟨.im, 0, (.lit (.int .i64 w4.2.1))⟩), (387, ⟨.im, 0, (.lit (.int .i64 w4.2.2.1))⟩), (388, ⟨.im, 0, (.lit (.int .i64 w4.2.2.2.1))⟩), (389, ⟨.im, 0, (.sl (len w4.2.2.2.2.1) (flat (eInt .i64) w4.2.2.2.2.1))⟩), (390, ⟨.im, 0, (.sl (len w4.2.2.2.2.2.1) (flat (eInt .i64) w4.2.2.2.2.2.1))⟩), (391, ⟨.im, 0, (.sl (len w4.2.2.2.2.2.2.1) (flat (eInt .i64) w4.2.2.2.2.2.2.1))⟩), (392, ⟨(.own 69), 0, (.sl (len w4.2.2.2.2.2.2.2.1) (flat eGHeld w4.2.2.2.2.2.2.2.1))⟩), (393, ⟨(.own 112), 0, (.sl (len w4.2.2.2.2.2.2.2.2.1) (flat eGData w4.2.2.2.2.2.2.2.2.1))⟩), (394, ⟨(.own 113), 0, (.sl (len w4.2.2.2.2.2.2.2.2.2.1) (flat eGComing w4.2.2.2.2.2.2.2.2.2.1))⟩), (395, ⟨(.own 86), 0, (.sl (len w4.2.2.2.2.2.2.2.2.2.2) (flat eGPost w4.2.2.2.2.2.2.2.2.2.2))⟩), (512, ⟨(.box 38 11), 0, nob⟩), (513, ⟨.im, 0, (.lit (.int .i64 0))⟩), (514, ⟨.im, 0, (.lit (.int .i64 0))⟩), (515, ⟨.im, 0, (.lit (.int .i64 0))⟩), (516, ⟨.im, 0, (.lit (.int .i64 0))⟩), (517, ⟨(.own 3), 0, (.sl 0 [])⟩), (518, ⟨(.own 3), 0, (.sl 0 [])⟩), (519, ⟨(.own 3), 0, (.sl 0 [])⟩), (520, ⟨(.own 69), 0, (.sl 0 [])⟩), (521, ⟨(.own 112), 0, (.sl 0 [])⟩), (522, ⟨(.own 113), 0, (.sl 0 [])⟩), (523, ⟨(.own 86), 0, (.sl 0 [])⟩), (704, ⟨.one, 0, nob⟩), (705, ⟨(.own 66), 0, (.sl (len w3.2.2.2.2.2.2.2.2.2.2.2) (flat eGDid w3.2.2.2.2.2.2.2.2.2.2.2))⟩)]
theorem F14_l1_1_ok (K : Nat) (a1 : GGraph) (a2 : GJob) (w3 : Int × Int × Int × Int × List Int × List Int × List Int × List GHeld × List GData × List GComing × List GPost × List GDid) : ∀ (k : Nat) (v4 : Int) (v5 : Int) (v6 : Int) (v7 : Int) (v8 : List Int) (v9 : List Int) (v10 : List Int) (v11 : List GHeld) (v12 : List GData) (v13 : List GComing) (v14 : List GPost) (v15 : Int) (r : Int × Int × Int × Int × List Int × List Int × List Int × List GHeld × List GData × List GComing × List GPost), F14_l1_1 K a1 a2 w3 k v4 v5 v6 v7 v8 v9 v10 v11 v12 v13 v14 v15 = some r → LoopEv E H hn14 2 c14_1 (F14_l1_1_S a1 a2 w3 v4 v5 v6 v7 v8 v9 v10 v11 v12 v13 v14 v15) (.exit 2) (F14_l1_1_X0 a1 a2 w3 r) := by
 intro k
 induction k with
 | zero => intro v4 v5 v6 v7 v8 v9 v10 v11 v12 v13 v14 v15 r hF; cases hF
 | succ k ih =>
  intro v4 v5 v6 v7 v8 v9 v10 v11 v12 v13 v14 v15 r hF
  rw [F14_l1_1] at hF
  cs h16
  ·
   cn h17
   bs x18 h19
   have q24 {l} (z : HA hn14 l) := zT h16 <| zT h17 <| zU eGHeld_len h19 5 1 <| z
   cs h20
   ·
    have q25 {l} (z : HA hn14 l) := zC4 h20 <| zT h17 <| zC3 h20 <| zU eGHeld_len h19 1 1 <| zC3 h20 <| zi (wadd .i64 v5 1) <| zC1x h20 <| z
    cs h21
    ·
     bs r22 h23
     exact lN1 (q24 <| q25 <| zT h21 <| zc (F34_iiiiiiioooo_ok K (GWorker.mk v4 v5 v6 (GTable.mk v7 v8 v9 v10) v11 v12 v13 v14) a1 a2 v15 _ h23) <| zi (wadd .i64 v15 1) <| z0) (ih _ _ _ _ _ _ _ _ _ _ _ _ _ hF)
    exact lN1 (q24 <| q25 <| zF h21 <| zi (wadd .i64 v15 1) <| z0) (ih _ _ _ _ _ _ _ _ _ _ _ _ _ hF)
   exact lN1 (q24 <| zD6 h20 <| zD5x h20 <| zf1 <| zi (wadd .i64 v15 1) <| z0) (ih _ _ _ _ _ _ _ _ _ _ _ _ _ hF)
  ob
  exact lE <| zF h16 <| z0
def F14 (K : Nat) (a1 : GGraph) (a2 : GJob) (a3 : GWorker) (a4 : Int) : Option (GWorker × List GPost × List GDid) :=
 (F30 K a3).bind fun r5 =>
 (F31 K a1 a2).bind fun r6 =>
 bif (ieq r6 0) then
  ((F32 K a4 r5.Until).bind fun r7 =>
  bif r7 then
   ((F14_l0_0 K a1 a2 r5 K r5.Id r5.Goal r5.Until r5.T.Epoch r5.T.Owners r5.T.Ids r5.T.Incs r5.Held r5.Buf r5.Coming r5.Out [] 0).bind fun w8 =>
   (F14_l1_1 K a1 a2 w8 K w8.1 w8.2.1 w8.2.2.1 w8.2.2.2.1 w8.2.2.2.2.1 w8.2.2.2.2.2.1 w8.2.2.2.2.2.2.1 w8.2.2.2.2.2.2.2.1 w8.2.2.2.2.2.2.2.2.1 w8.2.2.2.2.2.2.2.2.2.1 w8.2.2.2.2.2.2.2.2.2.2.1 0).bind fun w9 =>
   some ((GWorker.mk w9.1 w9.2.1 w9.2.2.1 (GTable.mk w9.2.2.2.1 w9.2.2.2.2.1 w9.2.2.2.2.2.1 w9.2.2.2.2.2.2.1) w9.2.2.2.2.2.2.2.1 w9.2.2.2.2.2.2.2.2.1 w9.2.2.2.2.2.2.2.2.2.1 []), (w9.2.2.2.2.2.2.2.2.2.2, w8.2.2.2.2.2.2.2.2.2.2.2)))
  else
  some (r5, ([], [])))
 else
 some (r5, ([], []))
theorem F14_ok (K : Nat) (a1 : GGraph) (a2 : GJob) (a3 : GWorker) (a4 : Int) (r : GWorker × List GPost × List GDid) (hF : F14 K a1 a2 a3 a4 = some r) : Evt E H 14 [.agg (eGGraph a1), .agg (eGJob a2), .agg (eGWorker a3), .one (.lit (.int .i64 a4))] (F14_res r) := by
 rw [F14] at hF
 bs r5 h6
 bs r7 h8
 have q17 {l} (z : HA hn14 l) := zc (F30_ok K a3 _ h6) <| zl (F31_ok K a1 a2 _ h8) <| z
 cs h9
 ·
  bs r10 h11
  have q18 {l} (z : HA hn14 l) := zB4 (ine_t h9) <| zl (F32_ok K a4 r5.Until _ h11) <| zB1x (ine_t h9) <| z
  cs h12
  ·
   bs w14 h13
   bs w16 h15
   ob
   exact fpC hn14 <| q17 <| q18 <| zF (bnot_t h12) <| zi (nl r5.Held) <| zo (F14_l0_0_ok K a1 a2 r5 K r5.Id r5.Goal r5.Until r5.T.Epoch r5.T.Owners r5.T.Ids r5.T.Incs r5.Held r5.Buf r5.Coming r5.Out [] 0 _ h13) <| zi (nl w14.2.2.2.2.2.2.2.1) <| zo (F14_l1_1_ok K a1 a2 w14 K w14.1 w14.2.1 w14.2.2.1 w14.2.2.2.1 w14.2.2.2.2.1 w14.2.2.2.2.2.1 w14.2.2.2.2.2.2.1 w14.2.2.2.2.2.2.2.1 w14.2.2.2.2.2.2.2.2.1 w14.2.2.2.2.2.2.2.2.2.1 w14.2.2.2.2.2.2.2.2.2.2.1 0 _ h15) <| z0
  ob
  exact fpC hn14 <| q17 <| q18 <| zT (bnot_f h12) <| z0
 ob
 exact fpC hn14 <| q17 <| zA5x (ine_f h9) <| zr1 <| z0
noncomputable def hn22 : Hint := { H 22 with nt := 13, prot := 0, kp := 0 }
def F22_res (r1 : GWorker) : Res := ⟨[(.agg [(.im (.lit (.int .i64 r1.Id))), (.im (.lit (.int .i64 r1.Goal))), (.im (.lit (.int .i64 r1.Until))), (.im (.lit (.int .i64 r1.T.Epoch))), (.im (.sl (len r1.T.Owners) (flat (eInt .i64) r1.T.Owners))), (.im (.sl (len r1.T.Ids) (flat (eInt .i64) r1.T.Ids))), (.im (.sl (len r1.T.Incs) (flat (eInt .i64) r1.T.Incs))), (.own 69 (.sl (len r1.Held) (flat eGHeld r1.Held))), (.own 112 (.sl (len r1.Buf) (flat eGData r1.Buf))), (.own 113 (.sl (len r1.Coming) (flat eGComing r1.Coming))), (.own 86 (.sl (len r1.Out) (flat eGPost r1.Out)))])], []⟩
def F22 (K : Nat) (a1 : GWorker) (a2 : Int) : Option (GWorker) :=
 (F30 K a1).bind fun r3 =>
 bif (ilt r3.Until a2) then
  (some (GWorker.mk r3.Id r3.Goal a2 r3.T r3.Held r3.Buf r3.Coming r3.Out))
 else
 some r3
theorem F22_ok (K : Nat) (a1 : GWorker) (a2 : Int) (r : GWorker) (hF : F22 K a1 a2 = some r) : Evt E H 22 [.agg (eGWorker a1), .one (.lit (.int .i64 a2))] (F22_res r) := by
 rw [F22] at hF
 bs r3 h4
 cs h5
 ·
  ob
  exact fpC hn22 <| zc (F30_ok K a1 _ h4) <| zT (igt_eq h5) <| z0
 ob
 exact fpC hn22 <| zc (F30_ok K a1 _ h4) <| zF (igt_eq h5) <| z0
noncomputable def hn13 : Hint := { H 13 with nt := 36, prot := 0, kp := 0 }
def F13_res (r1 : GWorker × List GPost × List GDid) : Res := ⟨[(.agg [(.im (.lit (.int .i64 r1.1.Id))), (.im (.lit (.int .i64 r1.1.Goal))), (.im (.lit (.int .i64 r1.1.Until))), (.im (.lit (.int .i64 r1.1.T.Epoch))), (.im (.sl (len r1.1.T.Owners) (flat (eInt .i64) r1.1.T.Owners))), (.im (.sl (len r1.1.T.Ids) (flat (eInt .i64) r1.1.T.Ids))), (.im (.sl (len r1.1.T.Incs) (flat (eInt .i64) r1.1.T.Incs))), (.own 69 (.sl (len r1.1.Held) (flat eGHeld r1.1.Held))), (.own 112 (.sl (len r1.1.Buf) (flat eGData r1.1.Buf))), (.own 113 (.sl (len r1.1.Coming) (flat eGComing r1.1.Coming))), (.own 86 (.sl (len r1.1.Out) (flat eGPost r1.1.Out)))]), (.one (.own 86 (.sl (len r1.2.1) (flat eGPost r1.2.1)))), (.one (.own 66 (.sl (len r1.2.2) (flat eGDid r1.2.2))))], []⟩
def F13 (K : Nat) (a1 : GGraph) (a2 : GJob) (a3 : GWorker) (a4 : GAct) : Option (GWorker × List GPost × List GDid) :=
 bif (ieq a4.Kind 0) then
  ((F18 K a1 a2 a3 a4.M).bind fun r5 =>
  some (r5, ([], [])))
 else
 bif (ieq a4.Kind 1) then
  ((F14 K a1 a2 a3 a4.N).bind fun r6 =>
  some (r6.1, (r6.2.1, r6.2.2)))
 else
 (F22 K a3 a4.N).bind fun r7 =>
 some (r7, ([], []))
theorem F13_ok (K : Nat) (a1 : GGraph) (a2 : GJob) (a3 : GWorker) (a4 : GAct) (r : GWorker × List GPost × List GDid) (hF : F13 K a1 a2 a3 a4 = some r) : Evt E H 13 [.agg (eGGraph a1), .agg (eGJob a2), .agg (eGWorker a3), .agg (eGAct a4)] (F13_res r) := by
 rw [F13] at hF
 cs h5
 ·
  bs r6 h7
  ob
  exact fpC hn13 <| zT h5 <| zc (F18_ok K a1 a2 a3 a4.M _ h7) <| z0
 cs h8
 ·
  bs r9 h10
  ob
  exact fpC hn13 <| zF h5 <| zT h8 <| zc (F14_ok K a1 a2 a3 a4.N _ h10) <| z0
 bs r11 h12
 ob
 exact fpC hn13 <| zF h5 <| zF h8 <| zc (F22_ok K a3 a4.N _ h12) <| z0
noncomputable def hn27 : Hint := { H 27 with nt := 30, prot := 0, kp := 0 }
def F27_res (r1 : GMail) : Res := ⟨[(.agg [(.im (.lit (.int .i64 r1.Kind))), (.im (.lit (.int .i64 r1.Epoch))), (.im (.lit (.int .i64 r1.Fresh))), (.im (.lit (.int .i64 r1.Step))), (.im (.lit (.int .i64 r1.P))), (.im (.lit (.int .i64 r1.Q))), (.im (.lit (.int .i64 r1.To))), (.im (.lit (.int .i64 r1.E))), (.im (.sl (len r1.Owners) (flat (eInt .i64) r1.Owners))), (.im (.sl (len r1.Ids) (flat (eInt .i64) r1.Ids))), (.im (.sl (len r1.Incs) (flat (eInt .i64) r1.Incs))), (.im (.lit (.int .i64 r1.X.P))), (.im (.lit (.int .i64 r1.X.Step))), (.im (.sl (len r1.X.Vals) (flat (eInt .i64) r1.X.Vals))), (.im (.sl (len r1.X.Rest) (flat eBool r1.X.Rest))), (.im (.sl (len r1.X.In) (flat eGMsg r1.X.In))), (.im (.sl (len r1.Msgs) (flat eGMsg r1.Msgs)))])], []⟩
def F27 (K : Nat) (a1 : GMail) : Option (GMail) :=
 some a1
theorem F27_ok (K : Nat) (a1 : GMail) (r : GMail) (hF : F27 K a1 = some r) : Evt E H 27 [.agg (eGMail a1)] (F27_res r) := by
 rw [F27] at hF
 ob
 exact fpC hn27 <| z0
noncomputable def hn38 : Hint := { H 38 with nt := 32, prot := 0, kp := 0 }
noncomputable def c38_0 : Code := loopOf E 38 0
def F38_res (r1 : List GPost153) : Res := ⟨[(.one (.own 154 (.sl (len r1) (flat eGPost153 r1))))], []⟩
def F38_l0_0 (K : Nat) (a1 : List GPost) : Nat → List GPost153 → Int → Option (List GPost153)
 | 0, _, _ => none
 | k + 1, v2, v3 =>
  bif (ilt v3 (nlen (len a1))) then
   (bif (inr v3 (len a1)) then
   (elAt a1 v3).bind fun x4 =>
   (F27 K x4.M).bind fun r5 =>
   bif (apok (len v2) 1 264) then
   F38_l0_0 K a1 k (appL v2 [(GPost153.mk x4.To x4.Inc r5)]) (wadd .i64 v3 1)
   else none
   else none)
  else
  some v2
def F38_l0_0_S (a1 : List GPost) (v2 : List GPost153) (v3 : Int) : TS := .on [0, 1, 192, 193, 256, 257] [(0, ⟨.one, 0, nob⟩), (1, ⟨.im, 0, (.sl (len a1) (flat eGPost a1))⟩), (192, ⟨.one, 0, nob⟩), (193, ⟨(.own 154), 0, (.sl (len v2) (flat eGPost153 v2))⟩), (256, ⟨.one, 0, nob⟩), (257, ⟨.im, 0, (.lit (.int .i64 v3))⟩)]
def F38_l0_0_X0 (a1 : List GPost) (w2 : List GPost153) : TS := .on [192, 193] [(192, ⟨.one, 0, nob⟩), (193, ⟨(.own 154), 0, (.sl (len w2) (flat eGPost153 w2))⟩)]
theorem F38_l0_0_ok (K : Nat) (a1 : List GPost) : ∀ (k : Nat) (v2 : List GPost153) (v3 : Int) (r : List GPost153), F38_l0_0 K a1 k v2 v3 = some r → LoopEv E H hn38 0 c38_0 (F38_l0_0_S a1 v2 v3) (.exit 0) (F38_l0_0_X0 a1 r) := by
 intro k
 induction k with
 | zero => intro v2 v3 r hF; cases hF
 | succ k ih =>
  intro v2 v3 r hF
  rw [F38_l0_0] at hF
  cs h4
  ·
   cn h5
   bs x6 h7
   bs r8 h9
   cn h10
   exact lN1 (zi (nl a1) <| zT h4 <| zT h5 <| zU eGPost_len h7 0 1 <| zT h5 <| zU eGPost_len h7 1 1 <| zT h5 <| zU eGPost_len h7 2 17 <| zc (F27_ok K x6.M _ h9) <| zX (tt (leqm [(i6 x6.To), (i6 x6.Inc), (i6 r8.Kind), (i6 r8.Epoch), (i6 r8.Fresh), (i6 r8.Step), (i6 r8.P), (i6 r8.Q), (i6 r8.To), (i6 r8.E), (.sl (len r8.Owners) (flat (eInt .i64) r8.Owners)), (.sl (len r8.Ids) (flat (eInt .i64) r8.Ids)), (.sl (len r8.Incs) (flat (eInt .i64) r8.Incs)), (i6 r8.X.P), (i6 r8.X.Step), (.sl (len r8.X.Vals) (flat (eInt .i64) r8.X.Vals)), (.sl (len r8.X.Rest) (flat eBool r8.X.Rest)), (.sl (len r8.X.In) (flat eGMsg r8.X.In)), (.sl (len r8.Msgs) (flat eGMsg r8.Msgs))] 1 19)) rfl <| zT h10 <| zV (app_ok (enc := eGPost153) (v2 : List GPost153) [(GPost153.mk x6.To x6.Inc r8)]) <| zi (wadd .i64 v3 1) <| z0) (ih _ _ _ hF)
  ob
  exact lE <| zi (nl a1) <| zF h4 <| z0
def F38 (K : Nat) (a1 : List GPost) : Option (List GPost153) :=
 (F38_l0_0 K a1 K [] 0).bind fun w2 =>
 some w2
theorem F38_ok (K : Nat) (a1 : List GPost) (r : List GPost153) (hF : F38 K a1 = some r) : Evt E H 38 [.one (.sl (len a1) (flat eGPost a1))] (F38_res r) := by
 rw [F38] at hF
 bs w3 h2
 ob
 exact fpC hn38 <| zo (F38_l0_0_ok K a1 K [] 0 _ h2) <| z0
noncomputable def hn16 : Hint := { H 16 with nt := 116, prot := 0, kp := 0 }
noncomputable def c16_0 : Code := loopOf E 16 0
noncomputable def c16_1 : Code := loopOf E 16 1
noncomputable def c16_2 : Code := loopOf E 16 2
def F16_res (r1 : GWorker60) : Res := ⟨[(.agg [(.im (.lit (.int .i64 r1.Id))), (.im (.lit (.int .i64 r1.Goal))), (.im (.lit (.int .i64 r1.Until))), (.im (.lit (.int .i64 r1.T.Epoch))), (.im (.sl (len r1.T.Owners) (flat (eInt .i64) r1.T.Owners))), (.im (.sl (len r1.T.Ids) (flat (eInt .i64) r1.T.Ids))), (.im (.sl (len r1.T.Incs) (flat (eInt .i64) r1.T.Incs))), (.own 105 (.sl (len r1.Held) (flat eGHeld r1.Held))), (.own 107 (.sl (len r1.Buf) (flat eGData r1.Buf))), (.own 110 (.sl (len r1.Coming) (flat eGComing r1.Coming))), (.own 154 (.sl (len r1.Out) (flat eGPost153 r1.Out)))])], []⟩
def F16_l0_0 (K : Nat) (a1 : GWorker) (r2 : List GPost153) : Nat → List GHeld → Int → Option (List GHeld)
 | 0, _, _ => none
 | k + 1, v3, v4 =>
  bif (ilt v4 (nlen (len a1.Held))) then
   (bif (inr v4 (len a1.Held)) then
   (elAt a1.Held v4).bind fun x5 =>
   bif (apok (len v3) 1 96) then
   F16_l0_0 K a1 r2 k (appL v3 [x5]) (wadd .i64 v4 1)
   else none
   else none)
  else
  some v3
def F16_l0_0_S (a1 : GWorker) (r2 : List GPost153) (v3 : List GHeld) (v4 : Int) : TS := .on [64, 65, 66, 67, 68, 69, 70, 71, 72, 73, 74, 75, 128, 129, 130, 131, 132, 133, 134, 135, 136, 137, 138, 139, 192, 193, 194, 195, 196, 197, 198, 199, 200, 201, 202, 203, 256, 257] [(64, ⟨(.box 38 11), 0, nob⟩), (65, ⟨.im, 0, (.lit (.int .i64 a1.Id))⟩), (66, ⟨.im, 0, (.lit (.int .i64 a1.Goal))⟩), (67, ⟨.im, 0, (.lit (.int .i64 a1.Until))⟩), (68, ⟨.im, 0, (.lit (.int .i64 a1.T.Epoch))⟩), (69, ⟨.im, 0, (.sl (len a1.T.Owners) (flat (eInt .i64) a1.T.Owners))⟩), (70, ⟨.im, 0, (.sl (len a1.T.Ids) (flat (eInt .i64) a1.T.Ids))⟩), (71, ⟨.im, 0, (.sl (len a1.T.Incs) (flat (eInt .i64) a1.T.Incs))⟩), (72, ⟨.im, 0, (.sl (len a1.Held) (flat eGHeld a1.Held))⟩), (73, ⟨.im, 0, (.sl (len a1.Buf) (flat eGData a1.Buf))⟩), (74, ⟨.im, 0, (.sl (len a1.Coming) (flat eGComing a1.Coming))⟩), (75, ⟨.im, 0, (.sl (len a1.Out) (flat eGPost a1.Out))⟩), (128, ⟨(.box 61 11), 0, nob⟩), (129, ⟨.im, 0, (.lit (.int .i64 0))⟩), (130, ⟨.im, 0, (.lit (.int .i64 0))⟩), (131, ⟨.im, 0, (.lit (.int .i64 0))⟩), (132, ⟨.im, 0, (.lit (.int .i64 0))⟩), (133, ⟨(.own 3), 0, (.sl 0 [])⟩), (134, ⟨(.own 3), 0, (.sl 0 [])⟩), (135, ⟨(.own 3), 0, (.sl 0 [])⟩), (136, ⟨(.own 105), 0, (.sl 0 [])⟩), (137, ⟨(.own 107), 0, (.sl 0 [])⟩), (138, ⟨(.own 110), 0, (.sl 0 [])⟩), (139, ⟨(.own 154), 0, (.sl 0 [])⟩), (192, ⟨(.box 61 11), 0, nob⟩), (193, ⟨.im, 0, (.lit (.int .i64 a1.Id))⟩), (194, ⟨.im, 0, (.lit (.int .i64 a1.Goal))⟩), (195, ⟨.im, 0, (.lit (.int .i64 a1.Until))⟩), (196, ⟨.im, 0, (.lit (.int .i64 a1.T.Epoch))⟩), (197, ⟨.im, 0, (.sl (len a1.T.Owners) (flat (eInt .i64) a1.T.Owners))⟩), (198, ⟨.im, 0, (.sl (len a1.T.Ids) (flat (eInt .i64) a1.T.Ids))⟩), (199, ⟨.im, 0, (.sl (len a1.T.Incs) (flat (eInt .i64) a1.T.Incs))⟩), (200, ⟨(.own 105), 0, (.sl (len v3) (flat eGHeld v3))⟩), (201, ⟨(.own 107), 0, (.sl 0 [])⟩), (202, ⟨(.own 110), 0, (.sl 0 [])⟩), (203, ⟨(.own 154), 0, (.sl (len r2) (flat eGPost153 r2))⟩), (256, ⟨.one, 0, nob⟩), (257, ⟨.im, 0, (.lit (.int .i64 v4))⟩)]
def F16_l0_0_X0 (a1 : GWorker) (r2 : List GPost153) (w3 : List GHeld) : TS := .on [64, 65, 66, 67, 68, 69, 70, 71, 72, 73, 74, 75, 128, 129, 130, 131, 132, 133, 134, 135, 136, 137, 138, 139, 192, 193, 194, 195, 196, 197, 198, 199, 200, 201, 202, 203] [(64, ⟨(.box 38 11), 0, nob⟩), (65, ⟨.im, 0, (.lit (.int .i64 a1.Id))⟩), (66, ⟨.im, 0, (.lit (.int .i64 a1.Goal))⟩), (67, ⟨.im, 0, (.lit (.int .i64 a1.Until))⟩), (68, ⟨.im, 0, (.lit (.int .i64 a1.T.Epoch))⟩), (69, ⟨.im, 0, (.sl (len a1.T.Owners) (flat (eInt .i64) a1.T.Owners))⟩), (70, ⟨.im, 0, (.sl (len a1.T.Ids) (flat (eInt .i64) a1.T.Ids))⟩), (71, ⟨.im, 0, (.sl (len a1.T.Incs) (flat (eInt .i64) a1.T.Incs))⟩), (72, ⟨.im, 0, (.sl (len a1.Held) (flat eGHeld a1.Held))⟩), (73, ⟨.im, 0, (.sl (len a1.Buf) (flat eGData a1.Buf))⟩), (74, ⟨.im, 0, (.sl (len a1.Coming) (flat eGComing a1.Coming))⟩), (75, ⟨.im, 0, (.sl (len a1.Out) (flat eGPost a1.Out))⟩), (128, ⟨(.box 61 11), 0, nob⟩), (129, ⟨.im, 0, (.lit (.int .i64 0))⟩), (130, ⟨.im, 0, (.lit (.int .i64 0))⟩), (131, ⟨.im, 0, (.lit (.int .i64 0))⟩), (132, ⟨.im, 0, (.lit (.int .i64 0))⟩), (133, ⟨(.own 3), 0, (.sl 0 [])⟩), (134, ⟨(.own 3), 0, (.sl 0 [])⟩), (135, ⟨(.own 3), 0, (.sl 0 [])⟩), (136, ⟨(.own 105), 0, (.sl 0 [])⟩), (137, ⟨(.own 107), 0, (.sl 0 [])⟩), (138, ⟨(.own 110), 0, (.sl 0 [])⟩), (139, ⟨(.own 154), 0, (.sl 0 [])⟩), (192, ⟨(.box 61 11), 0, nob⟩), (193, ⟨.im, 0, (.lit (.int .i64 a1.Id))⟩), (194, ⟨.im, 0, (.lit (.int .i64 a1.Goal))⟩), (195, ⟨.im, 0, (.lit (.int .i64 a1.Until))⟩), (196, ⟨.im, 0, (.lit (.int .i64 a1.T.Epoch))⟩), (197, ⟨.im, 0, (.sl (len a1.T.Owners) (flat (eInt .i64) a1.T.Owners))⟩), (198, ⟨.im, 0, (.sl (len a1.T.Ids) (flat (eInt .i64) a1.T.Ids))⟩), (199, ⟨.im, 0, (.sl (len a1.T.Incs) (flat (eInt .i64) a1.T.Incs))⟩), (200, ⟨(.own 105), 0, (.sl (len w3) (flat eGHeld w3))⟩), (201, ⟨(.own 107), 0, (.sl 0 [])⟩), (202, ⟨(.own 110), 0, (.sl 0 [])⟩), (203, ⟨(.own 154), 0, (.sl (len r2) (flat eGPost153 r2))⟩)]
theorem F16_l0_0_ok (K : Nat) (a1 : GWorker) (r2 : List GPost153) : ∀ (k : Nat) (v3 : List GHeld) (v4 : Int) (r : List GHeld), F16_l0_0 K a1 r2 k v3 v4 = some r → LoopEv E H hn16 0 c16_0 (F16_l0_0_S a1 r2 v3 v4) (.exit 0) (F16_l0_0_X0 a1 r2 r) := by
 intro k
 induction k with
 | zero => intro v3 v4 r hF; cases hF
 | succ k ih =>
  intro v3 v4 r hF
  rw [F16_l0_0] at hF
  cs h5
  ·
   cn h6
   bs x7 h8
   cn h9
   exact lN1 (zi (nl a1.Held) <| zT h5 <| zT h6 <| zU eGHeld_len h8 0 5 <| zT h6 <| zU eGHeld_len h8 5 1 <| zT h6 <| zU eGHeld_len h8 6 1 <| zX (tt (leqm [(i6 x7.X.P), (i6 x7.X.Step), (.sl (len x7.X.Vals) (flat (eInt .i64) x7.X.Vals)), (.sl (len x7.X.Rest) (flat eBool x7.X.Rest)), (.sl (len x7.X.In) (flat eGMsg x7.X.In)), (.lit (.bool x7.Wait)), (.lit (.bool x7.Given))] 1 7)) rfl <| zT h9 <| zV (app_ok (enc := eGHeld) (v3 : List GHeld) [x7]) <| zi (wadd .i64 v4 1) <| z0) (ih _ _ _ hF)
  ob
  exact lE <| zi (nl a1.Held) <| zF h5 <| z0
def F16_l1_1 (K : Nat) (a1 : GWorker) (r2 : List GPost153) (w3 : List GHeld) : Nat → List GData → Int → Option (List GData)
 | 0, _, _ => none
 | k + 1, v4, v5 =>
  bif (ilt v5 (nlen (len a1.Buf))) then
   (bif (inr v5 (len a1.Buf)) then
   (elAt a1.Buf v5).bind fun x6 =>
   bif (apok (len v4) 1 56) then
   F16_l1_1 K a1 r2 w3 k (appL v4 [x6]) (wadd .i64 v5 1)
   else none
   else none)
  else
  some v4
def F16_l1_1_S (a1 : GWorker) (r2 : List GPost153) (w3 : List GHeld) (v4 : List GData) (v5 : Int) : TS := .on [64, 65, 66, 67, 68, 69, 70, 71, 72, 73, 74, 75, 128, 129, 130, 131, 132, 133, 134, 135, 136, 137, 138, 139, 192, 193, 194, 195, 196, 197, 198, 199, 200, 201, 202, 203, 320, 321] [(64, ⟨(.box 38 11), 0, nob⟩), (65, ⟨.im, 0, (.lit (.int .i64 a1.Id))⟩), (66, ⟨.im, 0, (.lit (.int .i64 a1.Goal))⟩), (67, ⟨.im, 0, (.lit (.int .i64 a1.Until))⟩), (68, ⟨.im, 0, (.lit (.int .i64 a1.T.Epoch))⟩), (69, ⟨.im, 0, (.sl (len a1.T.Owners) (flat (eInt .i64) a1.T.Owners))⟩), (70, ⟨.im, 0, (.sl (len a1.T.Ids) (flat (eInt .i64) a1.T.Ids))⟩), (71, ⟨.im, 0, (.sl (len a1.T.Incs) (flat (eInt .i64) a1.T.Incs))⟩), (72, ⟨.im, 0, (.sl (len a1.Held) (flat eGHeld a1.Held))⟩), (73, ⟨.im, 0, (.sl (len a1.Buf) (flat eGData a1.Buf))⟩), (74, ⟨.im, 0, (.sl (len a1.Coming) (flat eGComing a1.Coming))⟩), (75, ⟨.im, 0, (.sl (len a1.Out) (flat eGPost a1.Out))⟩), (128, ⟨(.box 61 11), 0, nob⟩), (129, ⟨.im, 0, (.lit (.int .i64 0))⟩), (130, ⟨.im, 0, (.lit (.int .i64 0))⟩), (131, ⟨.im, 0, (.lit (.int .i64 0))⟩), (132, ⟨.im, 0, (.lit (.int .i64 0))⟩), (133, ⟨(.own 3), 0, (.sl 0 [])⟩), (134, ⟨(.own 3), 0, (.sl 0 [])⟩), (135, ⟨(.own 3), 0, (.sl 0 [])⟩), (136, ⟨(.own 105), 0, (.sl 0 [])⟩), (137, ⟨(.own 107), 0, (.sl 0 [])⟩), (138, ⟨(.own 110), 0, (.sl 0 [])⟩), (139, ⟨(.own 154), 0, (.sl 0 [])⟩), (192, ⟨(.box 61 11), 0, nob⟩), (193, ⟨.im, 0, (.lit (.int .i64 a1.Id))⟩), (194, ⟨.im, 0, (.lit (.int .i64 a1.Goal))⟩), (195, ⟨.im, 0, (.lit (.int .i64 a1.Until))⟩), (196, ⟨.im, 0, (.lit (.int .i64 a1.T.Epoch))⟩), (197, ⟨.im, 0, (.sl (len a1.T.Owners) (flat (eInt .i64) a1.T.Owners))⟩), (198, ⟨.im, 0, (.sl (len a1.T.Ids) (flat (eInt .i64) a1.T.Ids))⟩), (199, ⟨.im, 0, (.sl (len a1.T.Incs) (flat (eInt .i64) a1.T.Incs))⟩), (200, ⟨(.own 105), 0, (.sl (len w3) (flat eGHeld w3))⟩), (201, ⟨(.own 107), 0, (.sl (len v4) (flat eGData v4))⟩), (202, ⟨(.own 110), 0, (.sl 0 [])⟩), (203, ⟨(.own 154), 0, (.sl (len r2) (flat eGPost153 r2))⟩), (320, ⟨.one, 0, nob⟩), (321, ⟨.im, 0, (.lit (.int .i64 v5))⟩)]
def F16_l1_1_X0 (a1 : GWorker) (r2 : List GPost153) (w3 : List GHeld) (w4 : List GData) : TS := .on [64, 65, 66, 67, 68, 69, 70, 71, 72, 73, 74, 75, 128, 129, 130, 131, 132, 133, 134, 135, 136, 137, 138, 139, 192, 193, 194, 195, 196, 197, 198, 199, 200, 201, 202, 203] [(64, ⟨(.box 38 11), 0, nob⟩), (65, ⟨.im, 0, (.lit (.int .i64 a1.Id))⟩), (66, ⟨.im, 0, (.lit (.int .i64 a1.Goal))⟩), (67, ⟨.im, 0, (.lit (.int .i64 a1.Until))⟩), (68, ⟨.im, 0, (.lit (.int .i64 a1.T.Epoch))⟩), (69, ⟨.im, 0, (.sl (len a1.T.Owners) (flat (eInt .i64) a1.T.Owners))⟩), (70, ⟨.im, 0, (.sl (len a1.T.Ids) (flat (eInt .i64) a1.T.Ids))⟩), (71, ⟨.im, 0, (.sl (len a1.T.Incs) (flat (eInt .i64) a1.T.Incs))⟩), (72, ⟨.im, 0, (.sl (len a1.Held) (flat eGHeld a1.Held))⟩), (73, ⟨.im, 0, (.sl (len a1.Buf) (flat eGData a1.Buf))⟩), (74, ⟨.im, 0, (.sl (len a1.Coming) (flat eGComing a1.Coming))⟩), (75, ⟨.im, 0, (.sl (len a1.Out) (flat eGPost a1.Out))⟩), (128, ⟨(.box 61 11), 0, nob⟩), (129, ⟨.im, 0, (.lit (.int .i64 0))⟩), (130, ⟨.im, 0, (.lit (.int .i64 0))⟩), (131, ⟨.im, 0, (.lit (.int .i64 0))⟩), (132, ⟨.im, 0, (.lit (.int .i64 0))⟩), (133, ⟨(.own 3), 0, (.sl 0 [])⟩), (134, ⟨(.own 3), 0, (.sl 0 [])⟩), (135, ⟨(.own 3), 0, (.sl 0 [])⟩), (136, ⟨(.own 105), 0, (.sl 0 [])⟩), (137, ⟨(.own 107), 0, (.sl 0 [])⟩), (138, ⟨(.own 110), 0, (.sl 0 [])⟩), (139, ⟨(.own 154), 0, (.sl 0 [])⟩), (192, ⟨(.box 61 11), 0, nob⟩), (193, ⟨.im, 0, (.lit (.int .i64 a1.Id))⟩), (194, ⟨.im, 0, (.lit (.int .i64 a1.Goal))⟩), (195, ⟨.im, 0, (.lit (.int .i64 a1.Until))⟩), (196, ⟨.im, 0, (.lit (.int .i64 a1.T.Epoch))⟩), (197, ⟨.im, 0, (.sl (len a1.T.Owners) (flat (eInt .i64) a1.T.Owners))⟩), (198, ⟨.im, 0, (.sl (len a1.T.Ids) (flat (eInt .i64) a1.T.Ids))⟩), (199, ⟨.im, 0, (.sl (len a1.T.Incs) (flat (eInt .i64) a1.T.Incs))⟩), (200, ⟨(.own 105), 0, (.sl (len w3) (flat eGHeld w3))⟩), (201, ⟨(.own 107), 0, (.sl (len w4) (flat eGData w4))⟩), (202, ⟨(.own 110), 0, (.sl 0 [])⟩), (203, ⟨(.own 154), 0, (.sl (len r2) (flat eGPost153 r2))⟩)]
theorem F16_l1_1_ok (K : Nat) (a1 : GWorker) (r2 : List GPost153) (w3 : List GHeld) : ∀ (k : Nat) (v4 : List GData) (v5 : Int) (r : List GData), F16_l1_1 K a1 r2 w3 k v4 v5 = some r → LoopEv E H hn16 2 c16_1 (F16_l1_1_S a1 r2 w3 v4 v5) (.exit 2) (F16_l1_1_X0 a1 r2 w3 r) := by
 intro k
 induction k with
 | zero => intro v4 v5 r hF; cases hF
 | succ k ih =>
  intro v4 v5 r hF
  rw [F16_l1_1] at hF
  cs h6
  ·
   cn h7
   bs x8 h9
   cn h10
   exact lN1 (zi (nl a1.Buf) <| zT h6 <| zT h7 <| zS eGData_len h9 5 <| zX (tt (leqm [(i6 x8.Epoch), (i6 x8.Step), (i6 x8.Q), (i6 x8.P), (.sl (len x8.Msgs) (flat eGMsg x8.Msgs))] 1 5)) rfl <| zT h10 <| zV (app_ok (enc := eGData) (v4 : List GData) [x8]) <| zi (wadd .i64 v5 1) <| z0) (ih _ _ _ hF)
  ob
  exact lE <| zi (nl a1.Buf) <| zF h6 <| z0
def F16_l2_2 (K : Nat) (a1 : GWorker) (r2 : List GPost153) (w3 : List GHeld) (w4 : List GData) : Nat → List GComing → Int → Option (List GComing)
 | 0, _, _ => none
 | k + 1, v5, v6 =>
  bif (ilt v6 (nlen (len a1.Coming))) then
   (bif (inr v6 (len a1.Coming)) then
   (elAt a1.Coming v6).bind fun x7 =>
   bif (apok (len v5) 1 96) then
   F16_l2_2 K a1 r2 w3 w4 k (appL v5 [x7]) (wadd .i64 v6 1)
   else none
   else none)
  else
  some v5
def F16_l2_2_S (a1 : GWorker) (r2 : List GPost153) (w3 : List GHeld) (w4 : List GData) (v5 : List GComing) (v6 : Int) : TS := .on [64, 65, 66, 67, 68, 69, 70, 71, 72, 73, 74, 75, 128, 129, 130, 131, 132, 133, 134, 135, 136, 137, 138, 139, 192, 193, 194, 195, 196, 197, 198, 199, 200, 201, 202, 203, 448, 449] [(64, ⟨(.box 38 11), 0, nob⟩), (65, ⟨.im, 0, (.lit (.int .i64 a1.Id))⟩), (66, ⟨.im, 0, (.lit (.int .i64 a1.Goal))⟩), (67, ⟨.im, 0, (.lit (.int .i64 a1.Until))⟩), (68, ⟨.im, 0, (.lit (.int .i64 a1.T.Epoch))⟩), (69, ⟨.im, 0, (.sl (len a1.T.Owners) (flat (eInt .i64) a1.T.Owners))⟩), (70, ⟨.im, 0, (.sl (len a1.T.Ids) (flat (eInt .i64) a1.T.Ids))⟩), (71, ⟨.im, 0, (.sl (len a1.T.Incs) (flat (eInt .i64) a1.T.Incs))⟩), (72, ⟨.im, 0, (.sl (len a1.Held) (flat eGHeld a1.Held))⟩), (73, ⟨.im, 0, (.sl (len a1.Buf) (flat eGData a1.Buf))⟩), (74, ⟨.im, 0, (.sl (len a1.Coming) (flat eGComing a1.Coming))⟩), (75, ⟨.im, 0, (.sl (len a1.Out) (flat eGPost a1.Out))⟩), (128, ⟨(.box 61 11), 0, nob⟩), (129, ⟨.im, 0, (.lit (.int .i64 0))⟩), (130, ⟨.im, 0, (.lit (.int .i64 0))⟩), (131, ⟨.im, 0, (.lit (.int .i64 0))⟩), (132, ⟨.im, 0, (.lit (.int .i64 0))⟩), (133, ⟨(.own 3), 0, (.sl 0 [])⟩), (134, ⟨(.own 3), 0, (.sl 0 [])⟩), (135, ⟨(.own 3), 0, (.sl 0 [])⟩), (136, ⟨(.own 105), 0, (.sl 0 [])⟩), (137, ⟨(.own 107), 0, (.sl 0 [])⟩), (138, ⟨(.own 110), 0, (.sl 0 [])⟩), (139, ⟨(.own 154), 0, (.sl 0 [])⟩), (192, ⟨(.box 61 11), 0, nob⟩), (193, ⟨.im, 0, (.lit (.int .i64 a1.Id))⟩), (194, ⟨.im, 0, (.lit (.int .i64 a1.Goal))⟩), (195, ⟨.im, 0, (.lit (.int .i64 a1.Until))⟩), (196, ⟨.im, 0, (.lit (.int .i64 a1.T.Epoch))⟩), (197, ⟨.im, 0, (.sl (len a1.T.Owners) (flat (eInt .i64) a1.T.Owners))⟩), (198, ⟨.im, 0, (.sl (len a1.T.Ids) (flat (eInt .i64) a1.T.Ids))⟩), (199, ⟨.im, 0, (.sl (len a1.T.Incs) (flat (eInt .i64) a1.T.Incs))⟩), (200, ⟨(.own 105), 0, (.sl (len w3) (flat eGHeld w3))⟩), (201, ⟨(.own 107), 0, (.sl (len w4) (flat eGData w4))⟩), (202, ⟨(.own 110), 0, (.sl (len v5) (flat eGComing v5))⟩), (203, ⟨(.own 154), 0, (.sl (len r2) (flat eGPost153 r2))⟩), (448, ⟨.one, 0, nob⟩), (449, ⟨.im, 0, (.lit (.int .i64 v6))⟩)]
def F16_l2_2_X0 (a1 : GWorker) (r2 : List GPost153) (w3 : List GHeld) (w4 : List GData) (w5 : List GComing) : TS := .on [128, 129, 130, 131, 132, 133, 134, 135, 136, 137, 138, 139, 192, 193, 194, 195, 196, 197, 198, 199, 200, 201, 202, 203] [(128, ⟨(.box 61 11), 0, nob⟩), (129, ⟨.im, 0, (.lit (.int .i64 0))⟩), (130, ⟨.im, 0, (.lit (.int .i64 0))⟩), (131, ⟨.im, 0, (.lit (.int .i64 0))⟩), (132, ⟨.im, 0, (.lit (.int .i64 0))⟩), (133, ⟨(.own 3), 0, (.sl 0 [])⟩), (134, ⟨(.own 3), 0, (.sl 0 [])⟩), (135, ⟨(.own 3), 0, (.sl 0 [])⟩), (136, ⟨(.own 105), 0, (.sl 0 [])⟩), (137, ⟨(.own 107), 0, (.sl 0 [])⟩), (138, ⟨(.own 110), 0, (.sl 0 [])⟩), (139, ⟨(.own 154), 0, (.sl 0 [])⟩), (192, ⟨(.box 61 11), 0, nob⟩), (193, ⟨.im, 0, (.lit (.int .i64 a1.Id))⟩), (194, ⟨.im, 0, (.lit (.int .i64 a1.Goal))⟩), (195, ⟨.im, 0, (.lit (.int .i64 a1.Until))⟩), (196, ⟨.im, 0, (.lit (.int .i64 a1.T.Epoch))⟩), (197, ⟨.im, 0, (.sl (len a1.T.Owners) (flat (eInt .i64) a1.T.Owners))⟩), (198, ⟨.im, 0, (.sl (len a1.T.Ids) (flat (eInt .i64) a1.T.Ids))⟩), (199, ⟨.im, 0, (.sl (len a1.T.Incs) (flat (eInt .i64) a1.T.Incs))⟩), (200, ⟨(.own 105), 0, (.sl (len w3) (flat eGHeld w3))⟩), (201, ⟨(.own 107), 0, (.sl (len w4) (flat eGData w4))⟩), (202, ⟨(.own 110), 0, (.sl (len w5) (flat eGComing w5))⟩), (203, ⟨(.own 154), 0, (.sl (len r2) (flat eGPost153 r2))⟩)]
theorem F16_l2_2_ok (K : Nat) (a1 : GWorker) (r2 : List GPost153) (w3 : List GHeld) (w4 : List GData) : ∀ (k : Nat) (v5 : List GComing) (v6 : Int) (r : List GComing), F16_l2_2 K a1 r2 w3 w4 k v5 v6 = some r → LoopEv E H hn16 4 c16_2 (F16_l2_2_S a1 r2 w3 w4 v5 v6) (.exit 4) (F16_l2_2_X0 a1 r2 w3 w4 r) := by
 intro k
 induction k with
 | zero => intro v5 v6 r hF; cases hF
 | succ k ih =>
  intro v5 v6 r hF
  rw [F16_l2_2] at hF
  cs h7
  ·
   cn h8
   bs x9 h10
   cn h11
   exact lN1 (zi (nl a1.Coming) <| zT h7 <| zT h8 <| zU eGComing_len h10 0 1 <| zT h8 <| zU eGComing_len h10 1 5 <| zX (tt (leqm [(i6 x9.Epoch), (i6 x9.X.P), (i6 x9.X.Step), (.sl (len x9.X.Vals) (flat (eInt .i64) x9.X.Vals)), (.sl (len x9.X.Rest) (flat eBool x9.X.Rest)), (.sl (len x9.X.In) (flat eGMsg x9.X.In))] 1 6)) rfl <| zT h11 <| zV (app_ok (enc := eGComing) (v5 : List GComing) [x9]) <| zi (wadd .i64 v6 1) <| z0) (ih _ _ _ hF)
  ob
  exact lE <| zi (nl a1.Coming) <| zF h7 <| z0
def F16 (K : Nat) (a1 : GWorker) : Option (GWorker60) :=
 (F38 K a1.Out).bind fun r2 =>
 (F16_l0_0 K a1 r2 K [] 0).bind fun w3 =>
 (F16_l1_1 K a1 r2 w3 K [] 0).bind fun w4 =>
 (F16_l2_2 K a1 r2 w3 w4 K [] 0).bind fun w5 =>
 some (GWorker60.mk a1.Id a1.Goal a1.Until a1.T w3 w4 w5 r2)
theorem F16_ok (K : Nat) (a1 : GWorker) (r : GWorker60) (hF : F16 K a1 = some r) : Evt E H 16 [.agg (eGWorker a1)] (F16_res r) := by
 rw [F16] at hF
 bs r2 h3
 bs w5 h4
 bs w7 h6
 bs w9 h8
 ob
 exact fpC hn16 <| zc (F38_ok K a1.Out _ h3) <| zo (F16_l0_0_ok K a1 r2 K [] 0 _ h4) <| zo (F16_l1_1_ok K a1 r2 w5 K [] 0 _ h6) <| zo (F16_l2_2_ok K a1 r2 w5 w7 K [] 0 _ h8) <| z0
noncomputable def hn64 : Hint := { H 64 with nt := 26, prot := 0, kp := 0 }
noncomputable def c64_0 : Code := loopOf E 64 0
def F64_res (r1 : Bool) : Res := ⟨[(.one (.im (.lit (.bool r1))))], []⟩
def F64_l0_0 (K : Nat) (a1 : List Int) (a2 : List Int) : Nat → Int → Option ((Unit) ⊕ (Unit))
 | 0, _ => none
 | k + 1, v3 =>
  bif (ilt v3 (nlen (len a1))) then
   (bif (inr v3 (len a1)) then
   (elAt a1 v3).bind fun x4 =>
   bif (inr v3 (len a2)) then
   (elAt a2 v3).bind fun x5 =>
   bif (ieq x4 x5) then
    (F64_l0_0 K a1 a2 k (wadd .i64 v3 1))
   else
   some (.inl ())
   else none
   else none)
  else
  some (.inr ())
def F64_l0_0_S (a1 : List Int) (a2 : List Int) (v3 : Int) : TS := .on [0, 1, 64, 65, 320, 321] [(0, ⟨.one, 0, nob⟩), (1, ⟨.im, 0, (.sl (len a1) (flat (eInt .i64) a1))⟩), (64, ⟨.one, 0, nob⟩), (65, ⟨.im, 0, (.sl (len a2) (flat (eInt .i64) a2))⟩), (320, ⟨.one, 0, nob⟩), (321, ⟨.im, 0, (.lit (.int .i64 v3))⟩)]
def F64_l0_0_X0 (a1 : List Int) (a2 : List Int) (w3 : Unit) : TS := .on [256, 257] [(256, ⟨.one, 0, nob⟩), (257, ⟨.im, 0, (.lit (.bool false))⟩)]
def F64_l0_0_X1 (a1 : List Int) (a2 : List Int) (w3 : Unit) : TS := .on [] []
theorem F64_l0_0_ok (K : Nat) (a1 : List Int) (a2 : List Int) : ∀ (k : Nat) (v3 : Int) (r : (Unit) ⊕ (Unit)), F64_l0_0 K a1 a2 k v3 = some r → (Sum.elim (fun w => LoopEv E H hn64 0 c64_0 (F64_l0_0_S a1 a2 v3) .ret (F64_l0_0_X0 a1 a2 w)) (fun w => LoopEv E H hn64 0 c64_0 (F64_l0_0_S a1 a2 v3) (.exit 0) (F64_l0_0_X1 a1 a2 w))) r := by
 intro k
 induction k with
 | zero => intro v3 r hF; cases hF
 | succ k ih =>
  intro v3 r hF
  rw [F64_l0_0] at hF
  cs h4
  ·
   cn h5
   bs x6 h7
   cn h8
   bs x9 h10
   have q12 {l} (z : HA hn64 l) := zi (nl a1) <| zT h4 <| zT h5 <| zX (.sub (flat (eInt .i64) a1) (nidx v3 1) 1 [(i6 x6)]) ⟨rfl, sub_flat0 (eInt_len _) h7 1 (by decide)⟩ <| zT h8 <| zX (.sub (flat (eInt .i64) a2) (nidx v3 1) 1 [(i6 x9)]) ⟨rfl, sub_flat0 (eInt_len _) h10 1 (by decide)⟩ <| z
   cs h11
   ·
    exact lN2 (q12 <| zF (ine_t h11) <| zi (wadd .i64 v3 1) <| z0) (ih _ _ hF)
   ob
   exact lE <| q12 <| zT (ine_f h11) <| z0
  ob
  exact lE <| zi (nl a1) <| zF h4 <| z0
def F64 (K : Nat) (a1 : List Int) (a2 : List Int) : Option (Bool) :=
 bif (ieq (nlen (len a1)) (nlen (len a2))) then
  ((F64_l0_0 K a1 a2 K 0).bind fun y3 =>
  Sum.elim (fun w4 =>
   some false)
   (fun w5 =>
   some true) y3)
 else
 some false
theorem F64_ok (K : Nat) (a1 : List Int) (a2 : List Int) (r : Bool) (hF : F64 K a1 a2 = some r) : Evt E H 64 [.one (.sl (len a1) (flat (eInt .i64) a1)), .one (.sl (len a2) (flat (eInt .i64) a2))] (F64_res r) := by
 rw [F64] at hF
 cs h3
 ·
  have q8 {l} (z : HA hn64 l) := zi (nl a1) <| zi (nl a2) <| zF (ine_t h3) <| z
  bs y5 h4
  ss w6 w7
  ·
   subst hx
   ob
   exact fpC hn64 <| q8 <| zo (F64_l0_0_ok K a1 a2 K 0 _ h4) <| z0
  subst hx
  ob
  exact fpC hn64 <| q8 <| zo (F64_l0_0_ok K a1 a2 K 0 _ h4) <| z0
 ob
 exact fpC hn64 <| zi (nl a1) <| zi (nl a2) <| zT (ine_f h3) <| z0
noncomputable def hn35 : Hint := { H 35 with nt := 31, prot := 0, kp := 0 }
def F35_res (r1 : Bool) : Res := ⟨[(.one (.im (.lit (.bool r1))))], []⟩
def F35 (K : Nat) (a1 : GTable) (a2 : GTable) : Option (Bool) :=
 bif (ieq a1.Epoch a2.Epoch) then
  ((F64 K a1.Owners a2.Owners).bind fun r3 =>
  bif r3 then
   ((F64 K a1.Ids a2.Ids).bind fun r4 =>
   bif r4 then
    ((F64 K a1.Incs a2.Incs).bind fun r5 =>
    some r5)
   else
   some false)
  else
  some false)
 else
 some false
theorem F35_ok (K : Nat) (a1 : GTable) (a2 : GTable) (r : Bool) (hF : F35 K a1 a2 = some r) : Evt E H 35 [.agg (eGTable a1), .agg (eGTable a2)] (F35_res r) := by
 rw [F35] at hF
 cs h3
 ·
  bs r4 h5
  have q12 {l} (z : HA hn35 l) := zC5 h3 <| zl (F64_ok K a1.Owners a2.Owners _ h5) <| zT h3 <| z
  cs h6
  ·
   bs r7 h8
   have q13 {l} (z : HA hn35 l) := zC5 h6 <| zl (F64_ok K a1.Ids a2.Ids _ h8) <| zT h6 <| z
   cs h9
   ·
    bs r10 h11
    ob
    exact fpC hn35 <| q12 <| q13 <| zC5 h9 <| zl (F64_ok K a1.Incs a2.Incs _ h11) <| zT h9 <| z0
   ob
   exact fpC hn35 <| q12 <| q13 <| zD5x h9 <| z0
  ob
  exact fpC hn35 <| q12 <| zD5x h6 <| zk5 <| zf1 <| z0
 ob
 exact fpC hn35 <| zD5x h3 <| zk5 <| zf1 <| zk5 <| zf1 <| z0
noncomputable def hn52 : Hint := { H 52 with nt := 26, prot := 0, kp := 0 }
noncomputable def c52_0 : Code := loopOf E 52 0
def F52_res (r1 : Bool) : Res := ⟨[(.one (.im (.lit (.bool r1))))], []⟩
def F52_l0_0 (K : Nat) (a1 : List Int) (a2 : List Int) : Nat → Int → Option ((Unit) ⊕ (Unit))
 | 0, _ => none
 | k + 1, v3 =>
  bif (ilt v3 (nlen (len a1))) then
   (bif (inr v3 (len a1)) then
   (elAt a1 v3).bind fun x4 =>
   bif (inr v3 (len a2)) then
   (elAt a2 v3).bind fun x5 =>
   bif (ieq x4 x5) then
    (F52_l0_0 K a1 a2 k (wadd .i64 v3 1))
   else
   some (.inl ())
   else none
   else none)
  else
  some (.inr ())
def F52_l0_0_S (a1 : List Int) (a2 : List Int) (v3 : Int) : TS := .on [0, 1, 64, 65, 320, 321] [(0, ⟨.one, 0, nob⟩), (1, ⟨.im, 0, (.sl (len a1) (flat (eInt .i64) a1))⟩), (64, ⟨.one, 0, nob⟩), (65, ⟨.im, 0, (.sl (len a2) (flat (eInt .i64) a2))⟩), (320, ⟨.one, 0, nob⟩), (321, ⟨.im, 0, (.lit (.int .i64 v3))⟩)]
def F52_l0_0_X0 (a1 : List Int) (a2 : List Int) (w3 : Unit) : TS := .on [256, 257] [(256, ⟨.one, 0, nob⟩), (257, ⟨.im, 0, (.lit (.bool false))⟩)]
def F52_l0_0_X1 (a1 : List Int) (a2 : List Int) (w3 : Unit) : TS := .on [] []
theorem F52_l0_0_ok (K : Nat) (a1 : List Int) (a2 : List Int) : ∀ (k : Nat) (v3 : Int) (r : (Unit) ⊕ (Unit)), F52_l0_0 K a1 a2 k v3 = some r → (Sum.elim (fun w => LoopEv E H hn52 0 c52_0 (F52_l0_0_S a1 a2 v3) .ret (F52_l0_0_X0 a1 a2 w)) (fun w => LoopEv E H hn52 0 c52_0 (F52_l0_0_S a1 a2 v3) (.exit 0) (F52_l0_0_X1 a1 a2 w))) r := by
 intro k
 induction k with
 | zero => intro v3 r hF; cases hF
 | succ k ih =>
  intro v3 r hF
  rw [F52_l0_0] at hF
  cs h4
  ·
   cn h5
   bs x6 h7
   cn h8
   bs x9 h10
   have q12 {l} (z : HA hn52 l) := zi (nl a1) <| zT h4 <| zT h5 <| zX (.sub (flat (eInt .i64) a1) (nidx v3 1) 1 [(i6 x6)]) ⟨rfl, sub_flat0 (eInt_len _) h7 1 (by decide)⟩ <| zT h8 <| zX (.sub (flat (eInt .i64) a2) (nidx v3 1) 1 [(i6 x9)]) ⟨rfl, sub_flat0 (eInt_len _) h10 1 (by decide)⟩ <| z
   cs h11
   ·
    exact lN2 (q12 <| zF (ine_t h11) <| zi (wadd .i64 v3 1) <| z0) (ih _ _ hF)
   ob
   exact lE <| q12 <| zT (ine_f h11) <| z0
  ob
  exact lE <| zi (nl a1) <| zF h4 <| z0
def F52 (K : Nat) (a1 : List Int) (a2 : List Int) : Option (Bool) :=
 bif (ieq (nlen (len a1)) (nlen (len a2))) then
  ((F52_l0_0 K a1 a2 K 0).bind fun y3 =>
  Sum.elim (fun w4 =>
   some false)
   (fun w5 =>
   some true) y3)
 else
 some false
theorem F52_ok (K : Nat) (a1 : List Int) (a2 : List Int) (r : Bool) (hF : F52 K a1 a2 = some r) : Evt E H 52 [.one (.sl (len a1) (flat (eInt .i64) a1)), .one (.sl (len a2) (flat (eInt .i64) a2))] (F52_res r) := by
 rw [F52] at hF
 cs h3
 ·
  have q8 {l} (z : HA hn52 l) := zi (nl a1) <| zi (nl a2) <| zF (ine_t h3) <| z
  bs y5 h4
  ss w6 w7
  ·
   subst hx
   ob
   exact fpC hn52 <| q8 <| zo (F52_l0_0_ok K a1 a2 K 0 _ h4) <| z0
  subst hx
  ob
  exact fpC hn52 <| q8 <| zo (F52_l0_0_ok K a1 a2 K 0 _ h4) <| z0
 ob
 exact fpC hn52 <| zi (nl a1) <| zi (nl a2) <| zT (ine_f h3) <| z0
noncomputable def hn53 : Hint := { H 53 with nt := 26, prot := 0, kp := 0 }
noncomputable def c53_0 : Code := loopOf E 53 0
def F53_res (r1 : Bool) : Res := ⟨[(.one (.im (.lit (.bool r1))))], []⟩
def F53_l0_0 (K : Nat) (a1 : List Bool) (a2 : List Bool) : Nat → Int → Option ((Unit) ⊕ (Unit))
 | 0, _ => none
 | k + 1, v3 =>
  bif (ilt v3 (nlen (len a1))) then
   (bif (inr v3 (len a1)) then
   (elAt a1 v3).bind fun x4 =>
   bif (inr v3 (len a2)) then
   (elAt a2 v3).bind fun x5 =>
   bif (beqb x4 x5) then
    (F53_l0_0 K a1 a2 k (wadd .i64 v3 1))
   else
   some (.inl ())
   else none
   else none)
  else
  some (.inr ())
def F53_l0_0_S (a1 : List Bool) (a2 : List Bool) (v3 : Int) : TS := .on [0, 1, 64, 65, 320, 321] [(0, ⟨.one, 0, nob⟩), (1, ⟨.im, 0, (.sl (len a1) (flat eBool a1))⟩), (64, ⟨.one, 0, nob⟩), (65, ⟨.im, 0, (.sl (len a2) (flat eBool a2))⟩), (320, ⟨.one, 0, nob⟩), (321, ⟨.im, 0, (.lit (.int .i64 v3))⟩)]
def F53_l0_0_X0 (a1 : List Bool) (a2 : List Bool) (w3 : Unit) : TS := .on [256, 257] [(256, ⟨.one, 0, nob⟩), (257, ⟨.im, 0, (.lit (.bool false))⟩)]
def F53_l0_0_X1 (a1 : List Bool) (a2 : List Bool) (w3 : Unit) : TS := .on [] []
theorem F53_l0_0_ok (K : Nat) (a1 : List Bool) (a2 : List Bool) : ∀ (k : Nat) (v3 : Int) (r : (Unit) ⊕ (Unit)), F53_l0_0 K a1 a2 k v3 = some r → (Sum.elim (fun w => LoopEv E H hn53 0 c53_0 (F53_l0_0_S a1 a2 v3) .ret (F53_l0_0_X0 a1 a2 w)) (fun w => LoopEv E H hn53 0 c53_0 (F53_l0_0_S a1 a2 v3) (.exit 0) (F53_l0_0_X1 a1 a2 w))) r := by
 intro k
 induction k with
 | zero => intro v3 r hF; cases hF
 | succ k ih =>
  intro v3 r hF
  rw [F53_l0_0] at hF
  cs h4
  ·
   cn h5
   bs x6 h7
   cn h8
   bs x9 h10
   have q12 {l} (z : HA hn53 l) := zi (nl a1) <| zT h4 <| zT h5 <| zS eBool_len h7 1 <| zT h8 <| zS eBool_len h10 1 <| z
   cs h11
   ·
    exact lN2 (q12 <| zF (bnot_t h11) <| zi (wadd .i64 v3 1) <| z0) (ih _ _ hF)
   ob
   exact lE <| q12 <| zT (bnot_f h11) <| z0
  ob
  exact lE <| zi (nl a1) <| zF h4 <| z0
def F53 (K : Nat) (a1 : List Bool) (a2 : List Bool) : Option (Bool) :=
 bif (ieq (nlen (len a1)) (nlen (len a2))) then
  ((F53_l0_0 K a1 a2 K 0).bind fun y3 =>
  Sum.elim (fun w4 =>
   some false)
   (fun w5 =>
   some true) y3)
 else
 some false
theorem F53_ok (K : Nat) (a1 : List Bool) (a2 : List Bool) (r : Bool) (hF : F53 K a1 a2 = some r) : Evt E H 53 [.one (.sl (len a1) (flat eBool a1)), .one (.sl (len a2) (flat eBool a2))] (F53_res r) := by
 rw [F53] at hF
 cs h3
 ·
  have q8 {l} (z : HA hn53 l) := zi (nl a1) <| zi (nl a2) <| zF (ine_t h3) <| z
  bs y5 h4
  ss w6 w7
  ·
   subst hx
   ob
   exact fpC hn53 <| q8 <| zo (F53_l0_0_ok K a1 a2 K 0 _ h4) <| z0
  subst hx
  ob
  exact fpC hn53 <| q8 <| zo (F53_l0_0_ok K a1 a2 K 0 _ h4) <| z0
 ob
 exact fpC hn53 <| zi (nl a1) <| zi (nl a2) <| zT (ine_f h3) <| z0
noncomputable def hn37 : Hint := { H 37 with nt := 26, prot := 0, kp := 0 }
noncomputable def c37_0 : Code := loopOf E 37 0
def F37_res (r1 : Bool) : Res := ⟨[(.one (.im (.lit (.bool r1))))], []⟩
def F37_l0_0 (K : Nat) (a1 : List GMsg) (a2 : List GMsg) : Nat → Int → Option ((Unit) ⊕ (Unit))
 | 0, _ => none
 | k + 1, v3 =>
  bif (ilt v3 (nlen (len a1))) then
   (bif (inr v3 (len a1)) then
   (elAt a1 v3).bind fun x4 =>
   bif (inr v3 (len a2)) then
   (elAt a2 v3).bind fun x5 =>
   bif (ieq x4.To x5.To) then
    (bif (ieq x4.V x5.V) then
     (F37_l0_0 K a1 a2 k (wadd .i64 v3 1))
    else
    some (.inl ()))
   else
   some (.inl ())
   else none
   else none)
  else
  some (.inr ())
def F37_l0_0_S (a1 : List GMsg) (a2 : List GMsg) (v3 : Int) : TS := .on [0, 1, 64, 65, 320, 321] [(0, ⟨.one, 0, nob⟩), (1, ⟨.im, 0, (.sl (len a1) (flat eGMsg a1))⟩), (64, ⟨.one, 0, nob⟩), (65, ⟨.im, 0, (.sl (len a2) (flat eGMsg a2))⟩), (320, ⟨.one, 0, nob⟩), (321, ⟨.im, 0, (.lit (.int .i64 v3))⟩)]
def F37_l0_0_X0 (a1 : List GMsg) (a2 : List GMsg) (w3 : Unit) : TS := .on [256, 257] [(256, ⟨.one, 0, nob⟩), (257, ⟨.im, 0, (.lit (.bool false))⟩)]
def F37_l0_0_X1 (a1 : List GMsg) (a2 : List GMsg) (w3 : Unit) : TS := .on [] []
theorem F37_l0_0_ok (K : Nat) (a1 : List GMsg) (a2 : List GMsg) : ∀ (k : Nat) (v3 : Int) (r : (Unit) ⊕ (Unit)), F37_l0_0 K a1 a2 k v3 = some r → (Sum.elim (fun w => LoopEv E H hn37 0 c37_0 (F37_l0_0_S a1 a2 v3) .ret (F37_l0_0_X0 a1 a2 w)) (fun w => LoopEv E H hn37 0 c37_0 (F37_l0_0_S a1 a2 v3) (.exit 0) (F37_l0_0_X1 a1 a2 w))) r := by
 intro k
 induction k with
 | zero => intro v3 r hF; cases hF
 | succ k ih =>
  intro v3 r hF
  rw [F37_l0_0] at hF
  cs h4
  ·
   cn h5
   bs x6 h7
   cn h8
   bs x9 h10
   have q13 {l} (z : HA hn37 l) := zi (nl a1) <| zT h4 <| zT h5 <| zS eGMsg_len h7 2 <| zT h8 <| zS eGMsg_len h10 2 <| z
   cs h11
   ·
    cs h12
    ·
     exact lN2 (q13 <| zX (ff (bnot (band (ieq x6.To x9.To) (band (ieq x6.V x9.V) true)))) (bnot_t (band_tt h11 (band_tt h12 rfl))) <| zi (wadd .i64 v3 1) <| z0) (ih _ _ hF)
    ob
    exact lE <| q13 <| zX (tt (bnot (band (ieq x6.To x9.To) (band (ieq x6.V x9.V) true)))) (bnot_f (band_f2 h11 (band_f1 h12))) <| z0
   ob
   exact lE <| q13 <| zX (tt (bnot (band (ieq x6.To x9.To) (band (ieq x6.V x9.V) true)))) (bnot_f (band_f1 h11)) <| z0
  ob
  exact lE <| zi (nl a1) <| zF h4 <| z0
def F37 (K : Nat) (a1 : List GMsg) (a2 : List GMsg) : Option (Bool) :=
 bif (ieq (nlen (len a1)) (nlen (len a2))) then
  ((F37_l0_0 K a1 a2 K 0).bind fun y3 =>
  Sum.elim (fun w4 =>
   some false)
   (fun w5 =>
   some true) y3)
 else
 some false
theorem F37_ok (K : Nat) (a1 : List GMsg) (a2 : List GMsg) (r : Bool) (hF : F37 K a1 a2 = some r) : Evt E H 37 [.one (.sl (len a1) (flat eGMsg a1)), .one (.sl (len a2) (flat eGMsg a2))] (F37_res r) := by
 rw [F37] at hF
 cs h3
 ·
  have q8 {l} (z : HA hn37 l) := zi (nl a1) <| zi (nl a2) <| zF (ine_t h3) <| z
  bs y5 h4
  ss w6 w7
  ·
   subst hx
   ob
   exact fpC hn37 <| q8 <| zo (F37_l0_0_ok K a1 a2 K 0 _ h4) <| z0
  subst hx
  ob
  exact fpC hn37 <| q8 <| zo (F37_l0_0_ok K a1 a2 K 0 _ h4) <| z0
 ob
 exact fpC hn37 <| zi (nl a1) <| zi (nl a2) <| zT (ine_f h3) <| z0
noncomputable def hn28 : Hint := { H 28 with nt := 38, prot := 0, kp := 0 }
def F28_res (r1 : Bool) : Res := ⟨[(.one (.im (.lit (.bool r1))))], []⟩
def F28 (K : Nat) (a1 : GPart) (a2 : GPart) : Option (Bool) :=
 bif (ieq a1.P a2.P) then
  (bif (ieq a1.Step a2.Step) then
   ((F52 K a1.Vals a2.Vals).bind fun r3 =>
   bif r3 then
    ((F53 K a1.Rest a2.Rest).bind fun r4 =>
    bif r4 then
     ((F37 K a1.In a2.In).bind fun r5 =>
     some r5)
    else
    some false)
   else
   some false)
  else
  some false)
 else
 some false
theorem F28_ok (K : Nat) (a1 : GPart) (a2 : GPart) (r : Bool) (hF : F28 K a1 a2 = some r) : Evt E H 28 [.agg (eGPart a1), .agg (eGPart a2)] (F28_res r) := by
 rw [F28] at hF
 cs h3
 ·
  have q13 {l} (z : HA hn28 l) := zC5x h3 <| z
  cs h4
  ·
   bs r5 h6
   have q14 {l} (z : HA hn28 l) := zC5 h4 <| zl (F52_ok K a1.Vals a2.Vals _ h6) <| zT h4 <| z
   cs h7
   ·
    bs r8 h9
    have q15 {l} (z : HA hn28 l) := zC5 h7 <| zl (F53_ok K a1.Rest a2.Rest _ h9) <| zT h7 <| z
    cs h10
    ·
     bs r11 h12
     ob
     exact fpC hn28 <| q13 <| q14 <| q15 <| zC5 h10 <| zl (F37_ok K a1.In a2.In _ h12) <| zT h10 <| z0
    ob
    exact fpC hn28 <| q13 <| q14 <| q15 <| zD5x h10 <| z0
   ob
   exact fpC hn28 <| q13 <| q14 <| zD5x h7 <| zk5 <| zf1 <| z0
  ob
  exact fpC hn28 <| q13 <| zD5x h4 <| zk5 <| zf1 <| zk5 <| zf1 <| z0
 ob
 exact fpC hn28 <| zD5x h3 <| zk5 <| zf1 <| zk5 <| zf1 <| zk5 <| zf1 <| z0
noncomputable def hn65 : Hint := { H 65 with nt := 94, prot := 0, kp := 0 }
def F65_res (r1 : Bool) : Res := ⟨[(.one (.im (.lit (.bool r1))))], []⟩
def F65 (K : Nat) (a1 : GMail) (a2 : GMail) : Option (Bool) :=
 bif (ieq a1.Kind a2.Kind) then
  (bif (ieq a1.Epoch a2.Epoch) then
   (bif (ieq a1.Fresh a2.Fresh) then
    (bif (ieq a1.Step a2.Step) then
     (bif (ieq a1.P a2.P) then
      (bif (ieq a1.Q a2.Q) then
       (bif (ieq a1.To a2.To) then
        (bif (ieq a1.E a2.E) then
         ((F64 K a1.Owners a2.Owners).bind fun r3 =>
         bif r3 then
          ((F64 K a1.Ids a2.Ids).bind fun r4 =>
          bif r4 then
           ((F64 K a1.Incs a2.Incs).bind fun r5 =>
           bif r5 then
            ((F28 K a1.X a2.X).bind fun r6 =>
            bif r6 then
             ((F37 K a1.Msgs a2.Msgs).bind fun r7 =>
             some r7)
            else
            some false)
           else
           some false)
          else
          some false)
         else
         some false)
        else
        some false)
       else
       some false)
      else
      some false)
     else
     some false)
    else
    some false)
   else
   some false)
  else
  some false)
 else
 some false
theorem F65_ok (K : Nat) (a1 : GMail) (a2 : GMail) (r : Bool) (hF : F65 K a1 a2 = some r) : Evt E H 65 [.agg (eGMail a1), .agg (eGMail a2)] (F65_res r) := by
 rw [F65] at hF
 cs h3
 ·
  have q25 {l} (z : HA hn65 l) := zC5x h3 <| z
  cs h4
  ·
   have q26 {l} (z : HA hn65 l) := zC5x h4 <| z
   cs h5
   ·
    have q27 {l} (z : HA hn65 l) := zC5x h5 <| z
    cs h6
    ·
     have q28 {l} (z : HA hn65 l) := zC5x h6 <| z
     cs h7
     ·
      have q29 {l} (z : HA hn65 l) := zC5x h7 <| z
      cs h8
      ·
       have q30 {l} (z : HA hn65 l) := zC5x h8 <| z
       cs h9
       ·
        have q31 {l} (z : HA hn65 l) := zC5x h9 <| z
        cs h10
        ·
         bs r11 h12
         have q32 {l} (z : HA hn65 l) := zC5 h10 <| zl (F64_ok K a1.Owners a2.Owners _ h12) <| zT h10 <| z
         cs h13
         ·
          bs r14 h15
          have q33 {l} (z : HA hn65 l) := zC5 h13 <| zl (F64_ok K a1.Ids a2.Ids _ h15) <| zT h13 <| z
          cs h16
          ·
           bs r17 h18
           have q34 {l} (z : HA hn65 l) := zC5 h16 <| zl (F64_ok K a1.Incs a2.Incs _ h18) <| zT h16 <| z
           cs h19
           ·
            bs r20 h21
            have q35 {l} (z : HA hn65 l) := zC5 h19 <| zl (F28_ok K a1.X a2.X _ h21) <| zT h19 <| z
            cs h22
            ·
             bs r23 h24
             ob
             exact fpC hn65 <| q25 <| q26 <| q27 <| q28 <| q29 <| q30 <| q31 <| q32 <| q33 <| q34 <| q35 <| zC5 h22 <| zl (F37_ok K a1.Msgs a2.Msgs _ h24) <| zT h22 <| z0
            ob
            exact fpC hn65 <| q25 <| q26 <| q27 <| q28 <| q29 <| q30 <| q31 <| q32 <| q33 <| q34 <| q35 <| zD5x h22 <| z0
           ob
           exact fpC hn65 <| q25 <| q26 <| q27 <| q28 <| q29 <| q30 <| q31 <| q32 <| q33 <| q34 <| zD5x h19 <| zk5 <| zf1 <| z0
          ob
          exact fpC hn65 <| q25 <| q26 <| q27 <| q28 <| q29 <| q30 <| q31 <| q32 <| q33 <| zD5x h16 <| zk5 <| zf1 <| zk5 <| zf1 <| z0
         ob
         exact fpC hn65 <| q25 <| q26 <| q27 <| q28 <| q29 <| q30 <| q31 <| q32 <| zD5x h13 <| zk5 <| zf1 <| zk5 <| zf1 <| zk5 <| zf1 <| z0
        ob
        exact fpC hn65 <| q25 <| q26 <| q27 <| q28 <| q29 <| q30 <| q31 <| zD5x h10 <| zk5 <| zf1 <| zk5 <| zf1 <| zk5 <| zf1 <| zk5 <| zf1 <| z0
       ob
       exact fpC hn65 <| q25 <| q26 <| q27 <| q28 <| q29 <| q30 <| zD5x h9 <| zk5 <| zf1 <| zk5 <| zf1 <| zk5 <| zf1 <| zk5 <| zf1 <| zk5 <| zf1 <| z0
      ob
      exact fpC hn65 <| q25 <| q26 <| q27 <| q28 <| q29 <| zD5x h8 <| zk5 <| zf1 <| zk5 <| zf1 <| zk5 <| zf1 <| zk5 <| zf1 <| zk5 <| zf1 <| zk5 <| zf1 <| z0
     ob
     exact fpC hn65 <| q25 <| q26 <| q27 <| q28 <| zD5x h7 <| zk5 <| zf1 <| zk5 <| zf1 <| zk5 <| zf1 <| zk5 <| zf1 <| zk5 <| zf1 <| zk5 <| zf1 <| zk5 <| zf1 <| z0
    ob
    exact fpC hn65 <| q25 <| q26 <| q27 <| zD5x h6 <| zk5 <| zf1 <| zk5 <| zf1 <| zk5 <| zf1 <| zk5 <| zf1 <| zk5 <| zf1 <| zk5 <| zf1 <| zk5 <| zf1 <| zk5 <| zf1 <| z0
   ob
   exact fpC hn65 <| q25 <| q26 <| zD5x h5 <| zk5 <| zf1 <| zk5 <| zf1 <| zk5 <| zf1 <| zk5 <| zf1 <| zk5 <| zf1 <| zk5 <| zf1 <| zk5 <| zf1 <| zk5 <| zf1 <| zk5 <| zf1 <| z0
  ob
  exact fpC hn65 <| q25 <| zD5x h4 <| zk5 <| zf1 <| zk5 <| zf1 <| zk5 <| zf1 <| zk5 <| zf1 <| zk5 <| zf1 <| zk5 <| zf1 <| zk5 <| zf1 <| zk5 <| zf1 <| zk5 <| zf1 <| zk5 <| zf1 <| z0
 ob
 exact fpC hn65 <| zD5x h3 <| zk5 <| zf1 <| zk5 <| zf1 <| zk5 <| zf1 <| zk5 <| zf1 <| zk5 <| zf1 <| zk5 <| zf1 <| zk5 <| zf1 <| zk5 <| zf1 <| zk5 <| zf1 <| zk5 <| zf1 <| zk5 <| zf1 <| z0
noncomputable def hn36 : Hint := { H 36 with nt := 55, prot := 0, kp := 0 }
noncomputable def c36_0 : Code := loopOf E 36 0
def F36_res (r1 : Bool) : Res := ⟨[(.one (.im (.lit (.bool r1))))], []⟩
def F36_l0_0 (K : Nat) (a1 : List GPost153) (a2 : List GPost153) : Nat → Int → Option ((Unit) ⊕ (Unit))
 | 0, _ => none
 | k + 1, v3 =>
  bif (ilt v3 (nlen (len a1))) then
   (bif (inr v3 (len a1)) then
   (elAt a1 v3).bind fun x4 =>
   bif (inr v3 (len a2)) then
   (elAt a2 v3).bind fun x5 =>
   bif (ieq x4.To x5.To) then
    (bif (ieq x4.Inc x5.Inc) then
     ((F65 K x4.M x5.M).bind fun r6 =>
     bif r6 then
      (F36_l0_0 K a1 a2 k (wadd .i64 v3 1))
     else
     some (.inl ()))
    else
    some (.inl ()))
   else
   some (.inl ())
   else none
   else none)
  else
  some (.inr ())
def F36_l0_0_S (a1 : List GPost153) (a2 : List GPost153) (v3 : Int) : TS := .on [0, 1, 64, 65, 320, 321] [(0, ⟨.one, 0, nob⟩), (1, ⟨.im, 0, (.sl (len a1) (flat eGPost153 a1))⟩), (64, ⟨.one, 0, nob⟩), (65, ⟨.im, 0, (.sl (len a2) (flat eGPost153 a2))⟩), (320, ⟨.one, 0, nob⟩), (321, ⟨.im, 0, (.lit (.int .i64 v3))⟩)]
def F36_l0_0_X0 (a1 : List GPost153) (a2 : List GPost153) (w3 : Unit) : TS := .on [256, 257] [(256, ⟨.one, 0, nob⟩), (257, ⟨.im, 0, (.lit (.bool false))⟩)]
def F36_l0_0_X1 (a1 : List GPost153) (a2 : List GPost153) (w3 : Unit) : TS := .on [] []
theorem F36_l0_0_ok (K : Nat) (a1 : List GPost153) (a2 : List GPost153) : ∀ (k : Nat) (v3 : Int) (r : (Unit) ⊕ (Unit)), F36_l0_0 K a1 a2 k v3 = some r → (Sum.elim (fun w => LoopEv E H hn36 0 c36_0 (F36_l0_0_S a1 a2 v3) .ret (F36_l0_0_X0 a1 a2 w)) (fun w => LoopEv E H hn36 0 c36_0 (F36_l0_0_S a1 a2 v3) (.exit 0) (F36_l0_0_X1 a1 a2 w))) r := by
 intro k
 induction k with
 | zero => intro v3 r hF; cases hF
 | succ k ih =>
  intro v3 r hF
  rw [F36_l0_0] at hF
  cs h4
  ·
   cn h5
   bs x6 h7
   cn h8
   bs x9 h10
   have q16 {l} (z : HA hn36 l) := zi (nl a1) <| zT h4 <| zT h5 <| zU eGPost153_len h7 0 1 <| zT h8 <| zU eGPost153_len h10 0 1 <| z
   cs h11
   ·
    have q17 {l} (z : HA hn36 l) := zB3 (ine_t h11) <| zT h5 <| zB2 (ine_t h11) <| zU eGPost153_len h7 1 1 <| zB3 (ine_t h11) <| zT h8 <| zB2 (ine_t h11) <| zU eGPost153_len h10 1 1 <| zB1x (ine_t h11) <| z
    cs h12
    ·
     bs r13 h14
     have q18 {l} (z : HA hn36 l) := zB3 (ine_t h12) <| zT h5 <| zB2 (ine_t h12) <| zU eGPost153_len h7 2 17 <| zB3 (ine_t h12) <| zT h8 <| zB2 (ine_t h12) <| zU eGPost153_len h10 2 17 <| zB1 (ine_t h12) <| zl (F65_ok K x6.M x9.M _ h14) <| zB1x (ine_t h12) <| z
     cs h15
     ·
      exact lN2 (q16 <| q17 <| q18 <| zF (bnot_t h15) <| zi (wadd .i64 v3 1) <| z0) (ih _ _ hF)
     ob
     exact lE <| q16 <| q17 <| q18 <| zT (bnot_f h15) <| z0
    ob
    exact lE <| q16 <| q17 <| zA6 (ine_f h12) <| zA6x (ine_f h12) <| zr1 <| z0
   ob
   exact lE <| q16 <| zA6 (ine_f h11) <| zA5x (ine_f h11) <| zt6 <| zt6 <| zr2 <| z0
  ob
  exact lE <| zi (nl a1) <| zF h4 <| z0
def F36 (K : Nat) (a1 : List GPost153) (a2 : List GPost153) : Option (Bool) :=
 bif (ieq (nlen (len a1)) (nlen (len a2))) then
  ((F36_l0_0 K a1 a2 K 0).bind fun y3 =>
  Sum.elim (fun w4 =>
   some false)
   (fun w5 =>
   some true) y3)
 else
 some false
theorem F36_ok (K : Nat) (a1 : List GPost153) (a2 : List GPost153) (r : Bool) (hF : F36 K a1 a2 = some r) : Evt E H 36 [.one (.sl (len a1) (flat eGPost153 a1)), .one (.sl (len a2) (flat eGPost153 a2))] (F36_res r) := by
 rw [F36] at hF
 cs h3
 ·
  have q8 {l} (z : HA hn36 l) := zi (nl a1) <| zi (nl a2) <| zF (ine_t h3) <| z
  bs y5 h4
  ss w6 w7
  ·
   subst hx
   ob
   exact fpC hn36 <| q8 <| zo (F36_l0_0_ok K a1 a2 K 0 _ h4) <| z0
  subst hx
  ob
  exact fpC hn36 <| q8 <| zo (F36_l0_0_ok K a1 a2 K 0 _ h4) <| z0
 ob
 exact fpC hn36 <| zi (nl a1) <| zi (nl a2) <| zT (ine_f h3) <| z0
noncomputable def hn15 : Hint := { H 15 with nt := 210, prot := 0, kp := 0 }
noncomputable def c15_0 : Code := loopOf E 15 0
noncomputable def c15_1 : Code := loopOf E 15 1
noncomputable def c15_2 : Code := loopOf E 15 2
def F15_res (r1 : Bool) : Res := ⟨[(.one (.im (.lit (.bool r1))))], []⟩
def F15_l0_0 (K : Nat) (a1 : GWorker60) (a2 : GWorker60) : Nat → Int → Option ((Unit) ⊕ (Unit))
 | 0, _ => none
 | k + 1, v3 =>
  bif (ilt v3 (nlen (len a1.Held))) then
   (bif (inr v3 (len a1.Held)) then
   (elAt a1.Held v3).bind fun x4 =>
   bif (inr v3 (len a2.Held)) then
   (elAt a2.Held v3).bind fun x5 =>
   bif (beqb x4.Wait x5.Wait) then
    (bif (beqb x4.Given x5.Given) then
     ((F28 K x4.X x5.X).bind fun r6 =>
     bif r6 then
      (F15_l0_0 K a1 a2 k (wadd .i64 v3 1))
     else
     some (.inl ()))
    else
    some (.inl ()))
   else
   some (.inl ())
   else none
   else none)
  else
  some (.inr ())
def F15_l0_0_S (a1 : GWorker60) (a2 : GWorker60) (v3 : Int) : TS := .on [128, 129, 130, 131, 132, 133, 134, 135, 136, 137, 138, 139, 192, 193, 194, 195, 196, 197, 198, 199, 200, 201, 202, 203, 320, 321] [(128, ⟨(.box 61 11), 0, nob⟩), (129, ⟨.im, 0, (.lit (.int .i64 a1.Id))⟩), (130, ⟨.im, 0, (.lit (.int .i64 a1.Goal))⟩), (131, ⟨.im, 0, (.lit (.int .i64 a1.Until))⟩), (132, ⟨.im, 0, (.lit (.int .i64 a1.T.Epoch))⟩), (133, ⟨.im, 0, (.sl (len a1.T.Owners) (flat (eInt .i64) a1.T.Owners))⟩), (134, ⟨.im, 0, (.sl (len a1.T.Ids) (flat (eInt .i64) a1.T.Ids))⟩), (135, ⟨.im, 0, (.sl (len a1.T.Incs) (flat (eInt .i64) a1.T.Incs))⟩), (136, ⟨.im, 0, (.sl (len a1.Held) (flat eGHeld a1.Held))⟩), (137, ⟨.im, 0, (.sl (len a1.Buf) (flat eGData a1.Buf))⟩), (138, ⟨.im, 0, (.sl (len a1.Coming) (flat eGComing a1.Coming))⟩), (139, ⟨.im, 0, (.sl (len a1.Out) (flat eGPost153 a1.Out))⟩), (192, ⟨(.box 61 11), 0, nob⟩), (193, ⟨.im, 0, (.lit (.int .i64 a2.Id))⟩), (194, ⟨.im, 0, (.lit (.int .i64 a2.Goal))⟩), (195, ⟨.im, 0, (.lit (.int .i64 a2.Until))⟩), (196, ⟨.im, 0, (.lit (.int .i64 a2.T.Epoch))⟩), (197, ⟨.im, 0, (.sl (len a2.T.Owners) (flat (eInt .i64) a2.T.Owners))⟩), (198, ⟨.im, 0, (.sl (len a2.T.Ids) (flat (eInt .i64) a2.T.Ids))⟩), (199, ⟨.im, 0, (.sl (len a2.T.Incs) (flat (eInt .i64) a2.T.Incs))⟩), (200, ⟨.im, 0, (.sl (len a2.Held) (flat eGHeld a2.Held))⟩), (201, ⟨.im, 0, (.sl (len a2.Buf) (flat eGData a2.Buf))⟩), (202, ⟨.im, 0, (.sl (len a2.Coming) (flat eGComing a2.Coming))⟩), (203, ⟨.im, 0, (.sl (len a2.Out) (flat eGPost153 a2.Out))⟩), (320, ⟨.one, 0, nob⟩), (321, ⟨.im, 0, (.lit (.int .i64 v3))⟩)]
def F15_l0_0_X0 (a1 : GWorker60) (a2 : GWorker60) (w3 : Unit) : TS := .on [256, 257] [(256, ⟨.one, 0, nob⟩), (257, ⟨.im, 0, (.lit (.bool false))⟩)]
def F15_l0_0_X1 (a1 : GWorker60) (a2 : GWorker60) (w3 : Unit) : TS := .on [128, 129, 130, 131, 132, 133, 134, 135, 136, 137, 138, 139, 192, 193, 194, 195, 196, 197, 198, 199, 200, 201, 202, 203] [(128, ⟨(.box 61 11), 0, nob⟩), (129, ⟨.im, 0, (.lit (.int .i64 a1.Id))⟩), (130, ⟨.im, 0, (.lit (.int .i64 a1.Goal))⟩), (131, ⟨.im, 0, (.lit (.int .i64 a1.Until))⟩), (132, ⟨.im, 0, (.lit (.int .i64 a1.T.Epoch))⟩), (133, ⟨.im, 0, (.sl (len a1.T.Owners) (flat (eInt .i64) a1.T.Owners))⟩), (134, ⟨.im, 0, (.sl (len a1.T.Ids) (flat (eInt .i64) a1.T.Ids))⟩), (135, ⟨.im, 0, (.sl (len a1.T.Incs) (flat (eInt .i64) a1.T.Incs))⟩), (136, ⟨.im, 0, (.sl (len a1.Held) (flat eGHeld a1.Held))⟩), (137, ⟨.im, 0, (.sl (len a1.Buf) (flat eGData a1.Buf))⟩), (138, ⟨.im, 0, (.sl (len a1.Coming) (flat eGComing a1.Coming))⟩), (139, ⟨.im, 0, (.sl (len a1.Out) (flat eGPost153 a1.Out))⟩), (192, ⟨(.box 61 11), 0, nob⟩), (193, ⟨.im, 0, (.lit (.int .i64 a2.Id))⟩), (194, ⟨.im, 0, (.lit (.int .i64 a2.Goal))⟩), (195, ⟨.im, 0, (.lit (.int .i64 a2.Until))⟩), (196, ⟨.im, 0, (.lit (.int .i64 a2.T.Epoch))⟩), (197, ⟨.im, 0, (.sl (len a2.T.Owners) (flat (eInt .i64) a2.T.Owners))⟩), (198, ⟨.im, 0, (.sl (len a2.T.Ids) (flat (eInt .i64) a2.T.Ids))⟩), (199, ⟨.im, 0, (.sl (len a2.T.Incs) (flat (eInt .i64) a2.T.Incs))⟩), (200, ⟨.im, 0, (.sl (len a2.Held) (flat eGHeld a2.Held))⟩), (201, ⟨.im, 0, (.sl (len a2.Buf) (flat eGData a2.Buf))⟩), (202, ⟨.im, 0, (.sl (len a2.Coming) (flat eGComing a2.Coming))⟩), (203, ⟨.im, 0, (.sl (len a2.Out) (flat eGPost153 a2.Out))⟩)]
theorem F15_l0_0_ok (K : Nat) (a1 : GWorker60) (a2 : GWorker60) : ∀ (k : Nat) (v3 : Int) (r : (Unit) ⊕ (Unit)), F15_l0_0 K a1 a2 k v3 = some r → (Sum.elim (fun w => LoopEv E H hn15 0 c15_0 (F15_l0_0_S a1 a2 v3) .ret (F15_l0_0_X0 a1 a2 w)) (fun w => LoopEv E H hn15 0 c15_0 (F15_l0_0_S a1 a2 v3) (.exit 0) (F15_l0_0_X1 a1 a2 w))) r := by
 intro k
 induction k with
 | zero => intro v3 r hF; cases hF
 | succ k ih =>
  intro v3 r hF
  rw [F15_l0_0] at hF
  cs h4
  ·
   cn h5
   bs x6 h7
   cn h8
   bs x9 h10
   have q16 {l} (z : HA hn15 l) := zi (nl a1.Held) <| zT h4 <| zT h5 <| zU eGHeld_len h7 5 1 <| zT h8 <| zU eGHeld_len h10 5 1 <| z
   cs h11
   ·
    have q17 {l} (z : HA hn15 l) := zB4 (bnot_t h11) <| zT h5 <| zB2 (bnot_t h11) <| zU eGHeld_len h7 6 1 <| zB4 (bnot_t h11) <| zT h8 <| zB2 (bnot_t h11) <| zU eGHeld_len h10 6 1 <| zB1x (bnot_t h11) <| z
    cs h12
    ·
     bs r13 h14
     have q18 {l} (z : HA hn15 l) := zB4 (bnot_t h12) <| zT h5 <| zB2 (bnot_t h12) <| zU eGHeld_len h7 0 5 <| zB4 (bnot_t h12) <| zT h8 <| zB2 (bnot_t h12) <| zU eGHeld_len h10 0 5 <| zB1 (bnot_t h12) <| zl (F28_ok K x6.X x9.X _ h14) <| zB1x (bnot_t h12) <| z
     cs h15
     ·
      exact lN2 (q16 <| q17 <| q18 <| zF (bnot_t h15) <| zi (wadd .i64 v3 1) <| z0) (ih _ _ hF)
     ob
     exact lE <| q16 <| q17 <| q18 <| zT (bnot_f h15) <| z0
    ob
    exact lE <| q16 <| q17 <| zA6 (bnot_f h12) <| zA6 (bnot_f h12) <| zA2x (bnot_f h12) <| zr1 <| z0
   ob
   exact lE <| q16 <| zA6 (bnot_f h11) <| zA6 (bnot_f h11) <| zA1x (bnot_f h11) <| zt6 <| zt6 <| zt2 <| zr2 <| z0
  ob
  exact lE <| zi (nl a1.Held) <| zF h4 <| z0
def F15_l1_1 (K : Nat) (a1 : GWorker60) (a2 : GWorker60) : Nat → Int → Option ((Unit) ⊕ (Unit))
 | 0, _ => none
 | k + 1, v3 =>
  bif (ilt v3 (nlen (len a1.Buf))) then
   (bif (inr v3 (len a1.Buf)) then
   (elAt a1.Buf v3).bind fun x4 =>
   bif (inr v3 (len a2.Buf)) then
   (elAt a2.Buf v3).bind fun x5 =>
   bif (ieq x4.Epoch x5.Epoch) then
    (bif (ieq x4.Step x5.Step) then
     (bif (ieq x4.Q x5.Q) then
      (bif (ieq x4.P x5.P) then
       ((F37 K x4.Msgs x5.Msgs).bind fun r6 =>
       bif r6 then
        (F15_l1_1 K a1 a2 k (wadd .i64 v3 1))
       else
       some (.inl ()))
      else
      some (.inl ()))
     else
     some (.inl ()))
    else
    some (.inl ()))
   else
   some (.inl ())
   else none
   else none)
  else
  some (.inr ())
def F15_l1_1_S (a1 : GWorker60) (a2 : GWorker60) (v3 : Int) : TS := .on [128, 129, 130, 131, 132, 133, 134, 135, 136, 137, 138, 139, 192, 193, 194, 195, 196, 197, 198, 199, 200, 201, 202, 203, 384, 385] [(128, ⟨(.box 61 11), 0, nob⟩), (129, ⟨.im, 0, (.lit (.int .i64 a1.Id))⟩), (130, ⟨.im, 0, (.lit (.int .i64 a1.Goal))⟩), (131, ⟨.im, 0, (.lit (.int .i64 a1.Until))⟩), (132, ⟨.im, 0, (.lit (.int .i64 a1.T.Epoch))⟩), (133, ⟨.im, 0, (.sl (len a1.T.Owners) (flat (eInt .i64) a1.T.Owners))⟩), (134, ⟨.im, 0, (.sl (len a1.T.Ids) (flat (eInt .i64) a1.T.Ids))⟩), (135, ⟨.im, 0, (.sl (len a1.T.Incs) (flat (eInt .i64) a1.T.Incs))⟩), (136, ⟨.im, 0, (.sl (len a1.Held) (flat eGHeld a1.Held))⟩), (137, ⟨.im, 0, (.sl (len a1.Buf) (flat eGData a1.Buf))⟩), (138, ⟨.im, 0, (.sl (len a1.Coming) (flat eGComing a1.Coming))⟩), (139, ⟨.im, 0, (.sl (len a1.Out) (flat eGPost153 a1.Out))⟩), (192, ⟨(.box 61 11), 0, nob⟩), (193, ⟨.im, 0, (.lit (.int .i64 a2.Id))⟩), (194, ⟨.im, 0, (.lit (.int .i64 a2.Goal))⟩), (195, ⟨.im, 0, (.lit (.int .i64 a2.Until))⟩), (196, ⟨.im, 0, (.lit (.int .i64 a2.T.Epoch))⟩), (197, ⟨.im, 0, (.sl (len a2.T.Owners) (flat (eInt .i64) a2.T.Owners))⟩), (198, ⟨.im, 0, (.sl (len a2.T.Ids) (flat (eInt .i64) a2.T.Ids))⟩), (199, ⟨.im, 0, (.sl (len a2.T.Incs) (flat (eInt .i64) a2.T.Incs))⟩), (200, ⟨.im, 0, (.sl (len a2.Held) (flat eGHeld a2.Held))⟩), (201, ⟨.im, 0, (.sl (len a2.Buf) (flat eGData a2.Buf))⟩), (202, ⟨.im, 0, (.sl (len a2.Coming) (flat eGComing a2.Coming))⟩), (203, ⟨.im, 0, (.sl (len a2.Out) (flat eGPost153 a2.Out))⟩), (384, ⟨.one, 0, nob⟩), (385, ⟨.im, 0, (.lit (.int .i64 v3))⟩)]
def F15_l1_1_X0 (a1 : GWorker60) (a2 : GWorker60) (w3 : Unit) : TS := .on [256, 257] [(256, ⟨.one, 0, nob⟩), (257, ⟨.im, 0, (.lit (.bool false))⟩)]
def F15_l1_1_X1 (a1 : GWorker60) (a2 : GWorker60) (w3 : Unit) : TS := .on [128, 129, 130, 131, 132, 133, 134, 135, 136, 137, 138, 139, 192, 193, 194, 195, 196, 197, 198, 199, 200, 201, 202, 203] [(128, ⟨(.box 61 11), 0, nob⟩), (129, ⟨.im, 0, (.lit (.int .i64 a1.Id))⟩), (130, ⟨.im, 0, (.lit (.int .i64 a1.Goal))⟩), (131, ⟨.im, 0, (.lit (.int .i64 a1.Until))⟩), (132, ⟨.im, 0, (.lit (.int .i64 a1.T.Epoch))⟩), (133, ⟨.im, 0, (.sl (len a1.T.Owners) (flat (eInt .i64) a1.T.Owners))⟩), (134, ⟨.im, 0, (.sl (len a1.T.Ids) (flat (eInt .i64) a1.T.Ids))⟩), (135, ⟨.im, 0, (.sl (len a1.T.Incs) (flat (eInt .i64) a1.T.Incs))⟩), (136, ⟨.im, 0, (.sl (len a1.Held) (flat eGHeld a1.Held))⟩), (137, ⟨.im, 0, (.sl (len a1.Buf) (flat eGData a1.Buf))⟩), (138, ⟨.im, 0, (.sl (len a1.Coming) (flat eGComing a1.Coming))⟩), (139, ⟨.im, 0, (.sl (len a1.Out) (flat eGPost153 a1.Out))⟩), (192, ⟨(.box 61 11), 0, nob⟩), (193, ⟨.im, 0, (.lit (.int .i64 a2.Id))⟩), (194, ⟨.im, 0, (.lit (.int .i64 a2.Goal))⟩), (195, ⟨.im, 0, (.lit (.int .i64 a2.Until))⟩), (196, ⟨.im, 0, (.lit (.int .i64 a2.T.Epoch))⟩), (197, ⟨.im, 0, (.sl (len a2.T.Owners) (flat (eInt .i64) a2.T.Owners))⟩), (198, ⟨.im, 0, (.sl (len a2.T.Ids) (flat (eInt .i64) a2.T.Ids))⟩), (199, ⟨.im, 0, (.sl (len a2.T.Incs) (flat (eInt .i64) a2.T.Incs))⟩), (200, ⟨.im, 0, (.sl (len a2.Held) (flat eGHeld a2.Held))⟩), (201, ⟨.im, 0, (.sl (len a2.Buf) (flat eGData a2.Buf))⟩), (202, ⟨.im, 0, (.sl (len a2.Coming) (flat eGComing a2.Coming))⟩), (203, ⟨.im, 0, (.sl (len a2.Out) (flat eGPost153 a2.Out))⟩)]
theorem F15_l1_1_ok (K : Nat) (a1 : GWorker60) (a2 : GWorker60) : ∀ (k : Nat) (v3 : Int) (r : (Unit) ⊕ (Unit)), F15_l1_1 K a1 a2 k v3 = some r → (Sum.elim (fun w => LoopEv E H hn15 2 c15_1 (F15_l1_1_S a1 a2 v3) .ret (F15_l1_1_X0 a1 a2 w)) (fun w => LoopEv E H hn15 2 c15_1 (F15_l1_1_S a1 a2 v3) (.exit 2) (F15_l1_1_X1 a1 a2 w))) r := by
 intro k
 induction k with
 | zero => intro v3 r hF; cases hF
 | succ k ih =>
  intro v3 r hF
  rw [F15_l1_1] at hF
  cs h4
  ·
   cn h5
   bs x6 h7
   cn h8
   bs x9 h10
   have q18 {l} (z : HA hn15 l) := zi (nl a1.Buf) <| zT h4 <| zT h5 <| zS eGData_len h7 5 <| zT h8 <| zS eGData_len h10 5 <| z
   cs h11
   ·
    have q19 {l} (z : HA hn15 l) := zB5x (ine_t h11) <| z
    cs h12
    ·
     have q20 {l} (z : HA hn15 l) := zB5x (ine_t h12) <| z
     cs h13
     ·
      have q21 {l} (z : HA hn15 l) := zB5x (ine_t h13) <| z
      cs h14
      ·
       bs r15 h16
       have q22 {l} (z : HA hn15 l) := zB5 (ine_t h14) <| zl (F37_ok K x6.Msgs x9.Msgs _ h16) <| zB1x (ine_t h14) <| z
       cs h17
       ·
        exact lN2 (q18 <| q19 <| q20 <| q21 <| q22 <| zF (bnot_t h17) <| zi (wadd .i64 v3 1) <| z0) (ih _ _ hF)
       ob
       exact lE <| q18 <| q19 <| q20 <| q21 <| q22 <| zT (bnot_f h17) <| z0
      ob
      exact lE <| q18 <| q19 <| q20 <| q21 <| zA6x (ine_f h14) <| zr1 <| z0
     ob
     exact lE <| q18 <| q19 <| q20 <| zA5x (ine_f h13) <| zt6 <| zr2 <| z0
    ob
    exact lE <| q18 <| q19 <| zA5x (ine_f h12) <| zt5 <| zr1 <| zt6 <| zr2 <| z0
   ob
   exact lE <| q18 <| zA5x (ine_f h11) <| zt5 <| zr1 <| zt5 <| zr1 <| zt6 <| zr2 <| z0
  ob
  exact lE <| zi (nl a1.Buf) <| zF h4 <| z0
def F15_l2_2 (K : Nat) (a1 : GWorker60) (a2 : GWorker60) : Nat → Int → Option ((Unit) ⊕ (Unit))
 | 0, _ => none
 | k + 1, v3 =>
  bif (ilt v3 (nlen (len a1.Coming))) then
   (bif (inr v3 (len a1.Coming)) then
   (elAt a1.Coming v3).bind fun x4 =>
   bif (inr v3 (len a2.Coming)) then
   (elAt a2.Coming v3).bind fun x5 =>
   bif (ieq x4.Epoch x5.Epoch) then
    ((F28 K x4.X x5.X).bind fun r6 =>
    bif r6 then
     (F15_l2_2 K a1 a2 k (wadd .i64 v3 1))
    else
    some (.inl ()))
   else
   some (.inl ())
   else none
   else none)
  else
  some (.inr ())
def F15_l2_2_S (a1 : GWorker60) (a2 : GWorker60) (v3 : Int) : TS := .on [128, 129, 130, 131, 132, 133, 134, 135, 136, 137, 138, 139, 192, 193, 194, 195, 196, 197, 198, 199, 200, 201, 202, 203, 576, 577] [(128, ⟨(.box 61 11), 0, nob⟩), (129, ⟨.im, 0, (.lit (.int .i64 a1.Id))⟩), (130, ⟨.im, 0, (.lit (.int .i64 a1.Goal))⟩), (131, ⟨.im, 0, (.lit (.int .i64 a1.Until))⟩), (132, ⟨.im, 0, (.lit (.int .i64 a1.T.Epoch))⟩), (133, ⟨.im, 0, (.sl (len a1.T.Owners) (flat (eInt .i64) a1.T.Owners))⟩), (134, ⟨.im, 0, (.sl (len a1.T.Ids) (flat (eInt .i64) a1.T.Ids))⟩), (135, ⟨.im, 0, (.sl (len a1.T.Incs) (flat (eInt .i64) a1.T.Incs))⟩), (136, ⟨.im, 0, (.sl (len a1.Held) (flat eGHeld a1.Held))⟩), (137, ⟨.im, 0, (.sl (len a1.Buf) (flat eGData a1.Buf))⟩), (138, ⟨.im, 0, (.sl (len a1.Coming) (flat eGComing a1.Coming))⟩), (139, ⟨.im, 0, (.sl (len a1.Out) (flat eGPost153 a1.Out))⟩), (192, ⟨(.box 61 11), 0, nob⟩), (193, ⟨.im, 0, (.lit (.int .i64 a2.Id))⟩), (194, ⟨.im, 0, (.lit (.int .i64 a2.Goal))⟩), (195, ⟨.im, 0, (.lit (.int .i64 a2.Until))⟩), (196, ⟨.im, 0, (.lit (.int .i64 a2.T.Epoch))⟩), (197, ⟨.im, 0, (.sl (len a2.T.Owners) (flat (eInt .i64) a2.T.Owners))⟩), (198, ⟨.im, 0, (.sl (len a2.T.Ids) (flat (eInt .i64) a2.T.Ids))⟩), (199, ⟨.im, 0, (.sl (len a2.T.Incs) (flat (eInt .i64) a2.T.Incs))⟩), (200, ⟨.im, 0, (.sl (len a2.Held) (flat eGHeld a2.Held))⟩), (201, ⟨.im, 0, (.sl (len a2.Buf) (flat eGData a2.Buf))⟩), (202, ⟨.im, 0, (.sl (len a2.Coming) (flat eGComing a2.Coming))⟩), (203, ⟨.im, 0, (.sl (len a2.Out) (flat eGPost153 a2.Out))⟩), (576, ⟨.one, 0, nob⟩), (577, ⟨.im, 0, (.lit (.int .i64 v3))⟩)]
def F15_l2_2_X0 (a1 : GWorker60) (a2 : GWorker60) (w3 : Unit) : TS := .on [256, 257] [(256, ⟨.one, 0, nob⟩), (257, ⟨.im, 0, (.lit (.bool false))⟩)]
def F15_l2_2_X1 (a1 : GWorker60) (a2 : GWorker60) (w3 : Unit) : TS := .on [] []
theorem F15_l2_2_ok (K : Nat) (a1 : GWorker60) (a2 : GWorker60) : ∀ (k : Nat) (v3 : Int) (r : (Unit) ⊕ (Unit)), F15_l2_2 K a1 a2 k v3 = some r → (Sum.elim (fun w => LoopEv E H hn15 4 c15_2 (F15_l2_2_S a1 a2 v3) .ret (F15_l2_2_X0 a1 a2 w)) (fun w => LoopEv E H hn15 4 c15_2 (F15_l2_2_S a1 a2 v3) (.exit 4) (F15_l2_2_X1 a1 a2 w))) r := by
 intro k
 induction k with
 | zero => intro v3 r hF; cases hF
 | succ k ih =>
  intro v3 r hF
  rw [F15_l2_2] at hF
  cs h4
  ·
   cn h5
   bs x6 h7
   cn h8
   bs x9 h10
   have q15 {l} (z : HA hn15 l) := zi (nl a1.Coming) <| zT h4 <| zT h5 <| zU eGComing_len h7 0 1 <| zT h8 <| zU eGComing_len h10 0 1 <| z
   cs h11
   ·
    bs r12 h13
    have q16 {l} (z : HA hn15 l) := zB4 (ine_t h11) <| zT h5 <| zB2 (ine_t h11) <| zU eGComing_len h7 1 5 <| zB4 (ine_t h11) <| zT h8 <| zB2 (ine_t h11) <| zU eGComing_len h10 1 5 <| zB1 (ine_t h11) <| zl (F28_ok K x6.X x9.X _ h13) <| zB1x (ine_t h11) <| z
    cs h14
    ·
     exact lN2 (q15 <| q16 <| zF (bnot_t h14) <| zi (wadd .i64 v3 1) <| z0) (ih _ _ hF)
    ob
    exact lE <| q15 <| q16 <| zT (bnot_f h14) <| z0
   ob
   exact lE <| q15 <| zA6 (ine_f h11) <| zA6 (ine_f h11) <| zA2x (ine_f h11) <| zr1 <| z0
  ob
  exact lE <| zi (nl a1.Coming) <| zF h4 <| z0
def F15 (K : Nat) (a1 : GWorker60) (a2 : GWorker60) : Option (Bool) :=
 bif (ieq a1.Id a2.Id) then
  (bif (ieq a1.Goal a2.Goal) then
   (bif (ieq a1.Until a2.Until) then
    ((F35 K a1.T a2.T).bind fun r3 =>
    bif r3 then
     (bif (ieq (nlen (len a1.Held)) (nlen (len a2.Held))) then
      (bif (ieq (nlen (len a1.Buf)) (nlen (len a2.Buf))) then
       (bif (ieq (nlen (len a1.Coming)) (nlen (len a2.Coming))) then
        ((F36 K a1.Out a2.Out).bind fun r4 =>
        bif r4 then
         ((F15_l0_0 K a1 a2 K 0).bind fun y5 =>
         Sum.elim (fun w6 =>
          some false)
          (fun w7 =>
          (F15_l1_1 K a1 a2 K 0).bind fun y8 =>
          Sum.elim (fun w9 =>
           some false)
           (fun w10 =>
           (F15_l2_2 K a1 a2 K 0).bind fun y11 =>
           Sum.elim (fun w12 =>
            some false)
            (fun w13 =>
            some true) y11) y8) y5)
        else
        some false)
       else
       some false)
      else
      some false)
     else
     some false)
    else
    some false)
   else
   some false)
  else
  some false)
 else
 some false
theorem F15_ok (K : Nat) (a1 : GWorker60) (a2 : GWorker60) (r : Bool) (hF : F15 K a1 a2 = some r) : Evt E H 15 [.agg (eGWorker60 a1), .agg (eGWorker60 a2)] (F15_res r) := by
 rw [F15] at hF
 cs h3
 ·
  have q27 {l} (z : HA hn15 l) := zB5x (ine_t h3) <| z
  cs h4
  ·
   have q28 {l} (z : HA hn15 l) := zB5x (ine_t h4) <| z
   cs h5
   ·
    bs r6 h7
    have q29 {l} (z : HA hn15 l) := zB5 (ine_t h5) <| zl (F35_ok K a1.T a2.T _ h7) <| zB1x (ine_t h5) <| z
    cs h8
    ·
     have q30 {l} (z : HA hn15 l) := zB3 (bnot_t h8) <| zi (nl a1.Held) <| zB3 (bnot_t h8) <| zi (nl a2.Held) <| zB1x (bnot_t h8) <| z
     cs h9
     ·
      have q31 {l} (z : HA hn15 l) := zB3 (ine_t h9) <| zi (nl a1.Buf) <| zB3 (ine_t h9) <| zi (nl a2.Buf) <| zB1x (ine_t h9) <| z
      cs h10
      ·
       have q32 {l} (z : HA hn15 l) := zB3 (ine_t h10) <| zi (nl a1.Coming) <| zB3 (ine_t h10) <| zi (nl a2.Coming) <| zB1x (ine_t h10) <| z
       cs h11
       ·
        bs r12 h13
        have q33 {l} (z : HA hn15 l) := zB5 (ine_t h11) <| zl (F36_ok K a1.Out a2.Out _ h13) <| zB1x (ine_t h11) <| z
        cs h14
        ·
         bs y16 h15
         ss w17 w18
         ·
          subst hx
          ob
          exact fpC hn15 <| q27 <| q28 <| q29 <| q30 <| q31 <| q32 <| q33 <| zF (bnot_t h14) <| zo (F15_l0_0_ok K a1 a2 K 0 _ h15) <| z0
         subst hx
         bs y20 h19
         ss w21 w22
         ·
          subst hx
          ob
          exact fpC hn15 <| q27 <| q28 <| q29 <| q30 <| q31 <| q32 <| q33 <| zF (bnot_t h14) <| zo (F15_l0_0_ok K a1 a2 K 0 _ h15) <| zo (F15_l1_1_ok K a1 a2 K 0 _ h19) <| z0
         subst hx
         have q34 {l} (z : HA hn15 l) := zF (bnot_t h14) <| zo (F15_l0_0_ok K a1 a2 K 0 _ h15) <| zo (F15_l1_1_ok K a1 a2 K 0 _ h19) <| z
         bs y24 h23
         ss w25 w26
         ·
          subst hx
          ob
          exact fpC hn15 <| q27 <| q28 <| q29 <| q30 <| q31 <| q32 <| q33 <| q34 <| zo (F15_l2_2_ok K a1 a2 K 0 _ h23) <| z0
         subst hx
         ob
         exact fpC hn15 <| q27 <| q28 <| q29 <| q30 <| q31 <| q32 <| q33 <| q34 <| zo (F15_l2_2_ok K a1 a2 K 0 _ h23) <| z0
        ob
        exact fpC hn15 <| q27 <| q28 <| q29 <| q30 <| q31 <| q32 <| q33 <| zT (bnot_f h14) <| z0
       ob
       exact fpC hn15 <| q27 <| q28 <| q29 <| q30 <| q31 <| q32 <| zA6x (ine_f h11) <| zr1 <| z0
      ob
      exact fpC hn15 <| q27 <| q28 <| q29 <| q30 <| q31 <| zA6 (ine_f h10) <| zA1x (ine_f h10) <| zt6 <| zr2 <| z0
     ob
     exact fpC hn15 <| q27 <| q28 <| q29 <| q30 <| zA6 (ine_f h9) <| zA1x (ine_f h9) <| zt6 <| zt1 <| zr1 <| zt6 <| zr2 <| z0
    ob
    exact fpC hn15 <| q27 <| q28 <| q29 <| zA6 (bnot_f h8) <| zA1x (bnot_f h8) <| zt6 <| zt1 <| zr1 <| zt6 <| zt1 <| zr1 <| zt6 <| zr2 <| z0
   ob
   exact fpC hn15 <| q27 <| q28 <| zA6x (ine_f h5) <| zt6 <| zt1 <| zr1 <| zt6 <| zt1 <| zr1 <| zt6 <| zt1 <| zr1 <| zt6 <| zr2 <| z0
  ob
  exact fpC hn15 <| q27 <| zA5x (ine_f h4) <| zt6 <| zr1 <| zt6 <| zt1 <| zr1 <| zt6 <| zt1 <| zr1 <| zt6 <| zt1 <| zr1 <| zt6 <| zr2 <| z0
 ob
 exact fpC hn15 <| zA5x (ine_f h3) <| zt5 <| zr1 <| zt6 <| zr1 <| zt6 <| zt1 <| zr1 <| zt6 <| zt1 <| zr1 <| zt6 <| zt1 <| zr1 <| zt6 <| zr2 <| z0
def F109 (K : Nat) (a1 : Int) (a2 : Int) : Option (Int × Bool) :=
 bif (ieq a1 0) then
  (some (0, true))
 else
 bif (ieq a2 0) then
  (some (0, true))
 else
 bif (ieq a1 (-1)) then
  (bif (ieq a1 (-9223372036854775808)) then
   (some (0, false))
  else
  bif (ieq a2 (-9223372036854775808)) then
   (some (0, false))
  else
  some ((wmul .i64 a1 a2), true))
 else
 bif (ieq a2 (-1)) then
  (bif (ieq a1 (-9223372036854775808)) then
   (some (0, false))
  else
  bif (ieq a2 (-9223372036854775808)) then
   (some (0, false))
  else
  some ((wmul .i64 a1 a2), true))
 else
 bif (izero a2) then none else
 bif (ieq (wquo .i64 (wmul .i64 a1 a2) a2) a1) then
  (some ((wmul .i64 a1 a2), true))
 else
 some (0, false)
def F101 (K : Nat) (a1 : Int) (a2 : Int) (a3 : Int) : Option (Int × Bool) :=
 bif (ilt a3 1) then
  (some (0, false))
 else
 (F109 K a1 a2).bind fun r4 =>
 bif r4.2 then
  (bif (izero a3) then none else
  some ((wquo .i64 r4.1 a3), true))
 else
 some (0, false)
def F102 (K : Nat) (a1 : Int) (a2 : Int) : Option (Int × Bool) :=
 bif (ilt 0 a2) then
  (bif (ilt (wsub .i64 9223372036854775807 a2) a1) then
   (some (0, false))
  else
  bif (ilt a2 0) then
   (bif (ilt a1 (wsub .i64 (-9223372036854775808) a2)) then
    (some (0, false))
   else
   some ((wadd .i64 a1 a2), true))
  else
  some ((wadd .i64 a1 a2), true))
 else
 bif (ilt a2 0) then
  (bif (ilt a1 (wsub .i64 (-9223372036854775808) a2)) then
   (some (0, false))
  else
  some ((wadd .i64 a1 a2), true))
 else
 some ((wadd .i64 a1 a2), true)
def F76 (K : Nat) (a1 : Int) (a2 : Int) (a3 : GEdge) (a4 : Int) : Option (Int × Bool) :=
 bif (ieq a1 1) then
  ((F102 K a2 a3.W).bind fun r5 =>
  some (r5.1, r5.2))
 else
 bif (ieq a1 3) then
  ((F102 K a2 1).bind fun r6 =>
  some (r6.1, r6.2))
 else
 bif (ieq a1 5) then
  ((F101 K a2 1 a4).bind fun r7 =>
  some (r7.1, r7.2))
 else
 some (a2, true)
def F50_l0_0 (K : Nat) (v1 : Int) (v2 : Int) (v3 : Int) (v4 : Int) (v5 : Int) (v6 : Bool) (v7 : List GEdge) : Nat → List GMsg → Int → Option ((Unit) ⊕ (List GMsg))
 | 0, _, _ => none
 | k + 1, v8, v9 =>
  bif (ilt v9 (nlen (len v7))) then
   (bif v6 then
    (bif (inr v9 (len v7)) then
    (elAt v7 v9).bind fun x10 =>
    (F76 K v2 v1 x10 (nlen (len v7))).bind fun r11 =>
    bif r11.2 then
     (bif (apok (len v8) 1 16) then
     F50_l0_0 K v1 v2 v3 v4 v5 v6 v7 k (appL v8 [(GMsg.mk x10.To r11.1)]) (wadd .i64 v9 1)
     else none)
    else
    some (.inl ())
    else none)
   else
   some (.inr v8))
  else
  some (.inr v8)
def F50_l0_1 (K : Nat) (v1 : Int) (v2 : Int) (v3 : Int) (v4 : Int) (v5 : Int) (v6 : List GEdge) : Nat → List GMsg → Int → Option ((Unit) ⊕ (List GMsg))
 | 0, _, _ => none
 | k + 1, v7, v8 =>
  bif (ilt v8 (nlen (len v6))) then
   (bif (inr v8 (len v6)) then
   (elAt v6 v8).bind fun x9 =>
   (F76 K v2 v1 x9 (nlen (len v6))).bind fun r10 =>
   bif r10.2 then
    (bif (apok (len v7) 1 16) then
    F50_l0_1 K v1 v2 v3 v4 v5 v6 k (appL v7 [(GMsg.mk x9.To r10.1)]) (wadd .i64 v8 1)
    else none)
   else
   some (.inl ())
   else none)
  else
  some (.inr v7)
def F50_l0_2 (K : Nat) (v1 : Int) (v2 : Int) (v3 : Int) (v4 : Int) (v5 : Int) (v6 : Bool) (v7 : List GEdge) : Nat → List GMsg → Int → Option ((Unit) ⊕ (List GMsg))
 | 0, _, _ => none
 | k + 1, v8, v9 =>
  bif (ilt v9 (nlen (len v7))) then
   (bif v6 then
    (bif (inr v9 (len v7)) then
    (elAt v7 v9).bind fun x10 =>
    (F76 K v2 v1 x10 (nlen (len v7))).bind fun r11 =>
    bif r11.2 then
     (bif (apok (len v8) 1 16) then
     F50_l0_2 K v1 v2 v3 v4 v5 v6 v7 k (appL v8 [(GMsg.mk x10.To r11.1)]) (wadd .i64 v9 1)
     else none)
    else
    some (.inl ())
    else none)
   else
   some (.inr v8))
  else
  some (.inr v8)
def F50_l0_3 (K : Nat) (v1 : Int) (v2 : Int) (v3 : Int) (v4 : Int) (v5 : Int) (v6 : List GEdge) : Nat → List GMsg → Int → Option (((List GMsg)) ⊕ (Unit))
 | 0, _, _ => none
 | k + 1, v7, v8 =>
  bif (ilt v8 (nlen (len v6))) then
   (bif (ieq v1 v1) then
    (some (.inl v7))
   else
   bif (inr v8 (len v6)) then
   (elAt v6 v8).bind fun x9 =>
   (F76 K v2 v1 x9 (nlen (len v6))).bind fun r10 =>
   bif r10.2 then
    (bif (apok (len v7) 1 16) then
    F50_l0_3 K v1 v2 v3 v4 v5 v6 k (appL v7 [(GMsg.mk x9.To r10.1)]) (wadd .i64 v8 1)
    else none)
   else
   some (.inr ())
   else none)
  else
  some (.inl v7)
def goI {α σ β : Type} (step : Nat → α → σ → (σ → Option β) → Option β) (fin : σ → Option β) : Nat → List α → σ → Option β
 | _, [], s => fin s
 | i, x :: r, s => step i x s (goI step fin (i + 1) r)
def goL {α σ β : Type} (step : α → σ → (σ → Option β) → Option β) (fin : σ → Option β) : List α → σ → Option β
 | [], s => fin s
 | x :: r, s => step x s (goL step fin r)
theorem lt_of_drop' {α : Type} {l : List α} {i : Nat} {x : α} {r : List α} (h : l.drop i = x :: r) : i < l.length := by
 rcases Nat.lt_or_ge i l.length with g | g
 · exact g
 · rw [List.drop_eq_nil_of_le g] at h; cases h
theorem scanI {α σ β : Type} {l : List α} {L : Nat → σ → Int → Option β} (step : Nat → α → σ → (σ → Option β) → Option β) (fin : σ → Option β)
 (h : ∀ k s (i : Nat), i ≤ l.length → L (k + 1) s i = bif ilt i (nlen (len l)) then (bif inr i (len l) then (elAt l i).bind fun x => step i x s (fun s' => L k s' (wadd .i64 i 1)) else none) else fin s)
 (hl : l.length < 4611686018427387904) : ∀ (k : Nat) (s : σ) (i : Nat), l.length - i < k → i ≤ l.length → L k s i = goI step fin i (l.drop i) s := by
 intro k
 induction k with
 | zero => intro s i h; omega
 | succ k ih =>
  intro s i hk hi
  rw [h k s i hi]
  rcases at_idx l i with ⟨x, e1, e2, e3, e4⟩ | ⟨e1, e2⟩
  · have hlt := lt_of_drop' e1
    rw [e1, e2, e3, e4]
    simp only [cond_true, Option.bind_some, goI]
    congr 1
    funext s'
    rw [wadd_nat (by omega)]
    exact ih s' (i + 1) (by omega) (by omega)
  · rw [e1, e2]; rfl
theorem scanL {α σ β : Type} {l : List α} {L : Nat → σ → Int → Option β} (step : α → σ → (σ → Option β) → Option β) (fin : σ → Option β)
 (h : ∀ k s (i : Nat), i ≤ l.length → L (k + 1) s i = bif ilt i (nlen (len l)) then (bif inr i (len l) then (elAt l i).bind fun x => step x s (fun s' => L k s' (wadd .i64 i 1)) else none) else fin s)
 (hl : l.length < 4611686018427387904) {K : Nat} (hK : l.length < K) (s : σ) : L K s 0 = goL step fin l s := by
 have e : ∀ (i : Nat) (r : List α) (s : σ), goI (fun _ => step) fin i r s = goL step fin r s := by
  intro i r
  induction r generalizing i with
  | nil => intro s; rfl
  | cons x r ih =>
   intro s
   simp only [goI, goL]
   congr 1
   funext s'
   exact ih (i + 1) s'
 have := scanI (fun _ => step) fin h hl K s 0 (by omega) (by omega)
 rw [e, List.drop_zero] at this
 exact this
theorem ilt_not' (a b : Int) : ilt a b = !(ile b a) := by
 unfold ilt ile
 by_cases h : a < b <;> simp [h] <;> omega
theorem ieq_refl (a : Int) : ieq a a = true := by simp [ieq]
theorem beqb_refl (a : Bool) : beqb a a = true := by cases a <;> rfl
theorem ile_iff {a b : Int} : ile a b = true ↔ a ≤ b := decide_eq_true_iff
theorem ilt_iff {a b : Int} : ilt a b = true ↔ a < b := decide_eq_true_iff
theorem ieq_iff {a b : Int} : ieq a b = true ↔ a = b := by simp [ieq]
theorem ile_f {a b : Int} : ile a b = false ↔ b < a := by simp [ile]
theorem ilt_f {a b : Int} : ilt a b = false ↔ b ≤ a := by simp [ilt]
theorem ieq_f {a b : Int} : ieq a b = false ↔ a ≠ b := by simp [ieq]
def badE (n : Int) (e : GEdge) : Int :=
 bif ilt e.From 0 || ile n e.From || ilt e.To 0 || ile n e.To then 4 else bif ilt e.W 0 || ilt 4611686018427387904 e.W then 1 else 0
def ordE (d e : GEdge) : Int := bif ieq d.From e.From && ieq d.To e.To then 5 else bif ilt e.From d.From || (ieq d.From e.From && ilt e.To d.To) then 6 else 0
def gchk (n : Int) : Option GEdge → List GEdge → Int
 | _, [] => 0
 | prev, e :: r => bif ieq (badE n e) 0 then (match prev with
  | none => gchk n (some e) r
  | some d => bif ieq (ordE d e) 0 then gchk n (some e) r else ordE d e) else badE n e
def gcheck (g : GGraph) : Int := bif ilt g.N 1 || ilt 24 g.N then 1 else bif ilt 80 (nlen (len g.Edges)) then 3 else gchk g.N none g.Edges
def prevOf {α : Type} (l : List α) : Nat → Option α
 | 0 => none
 | i + 1 => l[i]?
theorem wsub_one {i : Nat} (h0 : 0 < i) (h : i < 4611686018427387904) : wsub .i64 (i : Int) 1 = ((i - 1 : Nat) : Int) := by
 show IntKind.i64.wrap ((i : Int) - 1) = _
 rw [IntKind.wrap_i64]; omega
theorem prev_at {α : Type} {l : List α} {i : Nat} (h0 : 0 < i) (hi : i < l.length) (hl : l.length < 4611686018427387904) :
 ∃ d, prevOf l i = some d ∧ wsub .i64 (i : Int) 1 = ((i - 1 : Nat) : Int) ∧ inr ((i - 1 : Nat) : Int) (len l) = true ∧ elAt l ((i - 1 : Nat) : Int) = some d := by
 obtain ⟨j, rfl⟩ : ∃ j, i = j + 1 := ⟨i - 1, by omega⟩
 refine ⟨l[j], by simp [prevOf], wsub_one h0 (by omega), decide_eq_true ⟨by omega, by show ((j + 1 - 1 : Nat) : Int) < (l.length : Int); omega⟩, ?_⟩
 rw [elAt_nat]
 simp
theorem prev_next {α : Type} {l : List α} {i : Nat} {x : α} {r : List α} (h : l.drop i = x :: r) : prevOf l (i + 1) = some x ∧ l.drop (i + 1) = r ∧ i < l.length := by
 have hi := lt_of_drop' h
 have := List.drop_eq_getElem_cons hi
 rw [h] at this
 injection this with a b
 exact ⟨by simp [prevOf, hi, a], b.symm, hi⟩
def sumI (v : Int) : Int ⊕ Unit := bif ieq v 0 then .inr () else .inl v
theorem F79_spec (K : Nat) (e : GEdge) (n : Int) : F79 K e n = some (badE n e) := by
 rw [F79, badE]
 cases ilt e.From 0 <;> cases ile n e.From <;> cases ilt e.To 0 <;> cases ile n e.To <;> cases ilt e.W 0 <;> cases ilt 4611686018427387904 e.W <;> rfl
theorem badE_ok {n : Int} {e : GEdge} (h : ieq (badE n e) 0 = true) : 0 ≤ e.From ∧ e.From < n ∧ 0 ≤ e.To ∧ e.To < n ∧ 0 ≤ e.W ∧ e.W ≤ 4611686018427387904 := by
 rw [badE] at h
 cases h1 : ilt e.From 0 || ile n e.From || ilt e.To 0 || ile n e.To
 · cases h2 : ilt e.W 0 || ilt 4611686018427387904 e.W
   · simp only [Bool.or_eq_false_iff, ilt_f, ile_f] at h1 h2
     omega
   · rw [h1, h2] at h; cases h
 · rw [h1] at h; cases h
theorem F80_spec (K : Nat) {n : Int} {d e : GEdge} (hn : n ≤ 24) (hd : ieq (badE n d) 0 = true) (he : ieq (badE n e) 0 = true) :
 F80 K d e = some (bif ieq d.From e.From then d.To - e.To else d.From - e.From) := by
 have h1 := badE_ok hd
 have h2 := badE_ok he
 rw [F80]
 have e1 : wsub .i64 d.To e.To = d.To - e.To := by show IntKind.i64.wrap _ = _; rw [IntKind.wrap_i64]; omega
 have e2 : wsub .i64 d.From e.From = d.From - e.From := by show IntKind.i64.wrap _ = _; rw [IntKind.wrap_i64]; omega
 rw [e1, e2]
 cases ieq d.From e.From <;> rfl
theorem F56_loop {K : Nat} (hK : 100 ≤ K) (g : GGraph) (hl : g.Edges.length ≤ 80) (hn : g.N ≤ 24) : F56_l0_0 K g K 0 = some (sumI (gchk g.N none g.Edges)) := by
 let step : Nat → GEdge → Unit → (Unit → Option (Int ⊕ Unit)) → Option (Int ⊕ Unit) := fun i x _ c =>
  (F79 K x g.N).bind fun r => bif (ieq r 0) then (bif (ieq (i : Int) 0) then c () else bif (inr (wsub .i64 (i : Int) 1) (len g.Edges)) then
   (elAt g.Edges (wsub .i64 (i : Int) 1)).bind fun d => (F80 K d x).bind fun r => bif (ieq r 0) then (some (.inl 5)) else bif (ilt 0 r) then (some (.inl 6)) else c ()
   else none) else some (.inl r)
 let fin : Unit → Option (Int ⊕ Unit) := fun _ => some (.inr ())
 have h := scanI (l := g.Edges) (L := fun k (_ : Unit) i => F56_l0_0 K g k i) step fin (fun k st i hi => rfl) (by omega) K () 0 (by omega) (by omega)
 have hw : ∀ (r : List GEdge) (i : Nat), g.Edges.drop i = r → (∀ d, prevOf g.Edges i = some d → ieq (badE g.N d) 0 = true) → (i = 0 ∨ i ≤ g.Edges.length) → goI step fin i r () = some (sumI (gchk g.N (prevOf g.Edges i) r)) := by
  intro r
  induction r with
  | nil => intro i _ _ _; rfl
  | cons x r ih =>
   intro i hr hp _
   obtain ⟨n1, n2, hi⟩ := prev_next hr
   rw [goI]
   show ((F79 K x g.N).bind fun r' => bif (ieq r' 0) then (bif (ieq (i : Int) 0) then goI step fin (i + 1) r () else bif (inr (wsub .i64 (i : Int) 1) (len g.Edges)) then
    (elAt g.Edges (wsub .i64 (i : Int) 1)).bind fun d => (F80 K d x).bind fun r' => bif (ieq r' 0) then (some (.inl 5)) else bif (ilt 0 r') then (some (.inl 6)) else goI step fin (i + 1) r ()
    else none) else some (.inl r')) = _
   rw [F79_spec, Option.bind_some]
   cases hb : ieq (badE g.N x) 0
   · have hne : badE g.N x ≠ 0 := ieq_f.1 hb
     cases prevOf g.Edges i <;> simp only [gchk, hb, cond_false, sumI]
   · have nx : goI step fin (i + 1) r () = some (sumI (gchk g.N (some x) r)) := by
      have := ih (i + 1) n2 (fun d hd => by rw [n1] at hd; cases hd; exact hb) (.inr (by omega))
      rw [n1] at this; exact this
     rw [cond_true, nx]
     cases i with
     | zero =>
      have : ieq ((0 : Nat) : Int) 0 = true := rfl
      rw [this, cond_true]
      show _ = some (sumI (gchk g.N none (x :: r)))
      rw [gchk, hb]; rfl
     | succ j =>
      obtain ⟨d, p1, p2, p3, p4⟩ := prev_at (l := g.Edges) (i := j + 1) (by omega) hi (by omega)
      have hd := hp d p1
      have : ieq ((j + 1 : Nat) : Int) 0 = false := ieq_f.2 (by omega)
      rw [this, cond_false, p2, p3, cond_true, p4, Option.bind_some, F80_spec K hn hd hb, Option.bind_some, p1, gchk, hb, cond_true]
      have b1 := badE_ok hd
      have b2 := badE_ok hb
      by_cases q1 : d.From = x.From
      · have i1 : ieq d.From x.From = true := ieq_iff.2 q1
        rw [i1, cond_true]
        by_cases q2 : d.To = x.To
        · have o5 : ordE d x = 5 := by simp [ordE, ieq_iff.2 q1, ieq_iff.2 q2]
          have : ieq (d.To - x.To) 0 = true := ieq_iff.2 (by omega)
          rw [this, cond_true, o5]; rfl
        · have : ieq (d.To - x.To) 0 = false := ieq_f.2 (by omega)
          rw [this, cond_false]
          have j2 : ieq d.To x.To = false := ieq_f.2 q2
          by_cases q3 : x.To < d.To
          · have o6 : ordE d x = 6 := by simp [ordE, i1, j2, ilt_iff.2 q3]
            have : ilt 0 (d.To - x.To) = true := ilt_iff.2 (by omega)
            rw [this, cond_true, o6]; rfl
          · have o0 : ordE d x = 0 := by simp [ordE, i1, j2, ilt_f.2 (show d.To ≤ x.To by omega), ilt_f.2 (show d.From ≤ x.From by omega)]
            have : ilt 0 (d.To - x.To) = false := ilt_f.2 (by omega)
            rw [this, cond_false, o0]; rfl
      · have i1 : ieq d.From x.From = false := ieq_f.2 q1
        rw [i1, cond_false]
        have : ieq (d.From - x.From) 0 = false := ieq_f.2 (by omega)
        rw [this, cond_false]
        by_cases q3 : x.From < d.From
        · have o6 : ordE d x = 6 := by simp [ordE, i1, ilt_iff.2 q3]
          have : ilt 0 (d.From - x.From) = true := ilt_iff.2 (by omega)
          rw [this, cond_true, o6]; rfl
        · have o0 : ordE d x = 0 := by simp [ordE, i1, ilt_f.2 (show d.From ≤ x.From by omega)]
          have : ilt 0 (d.From - x.From) = false := ilt_f.2 (by omega)
          rw [this, cond_false, o0]; rfl
 have := hw g.Edges 0 rfl (fun d hd => by cases hd) (.inl rfl)
 rw [List.drop_zero, this] at h
 exact h
theorem sumI_elim (v : Int) : (some (sumI v)).bind (fun y => Sum.elim (fun w => some w) (fun w => some 0) y) = some v := by
 unfold sumI
 cases h : ieq v 0
 · rfl
 · have : v = 0 := ieq_iff.1 h
   subst this; rfl
theorem F56_spec {K : Nat} (hK : 100 ≤ K) (g : GGraph) : F56 K g = some (gcheck g) := by
 rw [F56, gcheck]
 cases ilt g.N 1
 · cases h2 : ilt 24 g.N
   · cases h3 : ilt 80 (nlen (len g.Edges))
     · have hl : g.Edges.length ≤ 80 := by have := ilt_f.1 h3; simp only [nlen, len] at this; omega
       have hn := ilt_f.1 h2
       rw [F56_loop hK g hl hn]
       exact sumI_elim _
     · rfl
   · rfl
 · rfl
theorem gcheck_ok {g : GGraph} (h : ieq (gcheck g) 0 = true) : 1 ≤ g.N ∧ g.N ≤ 24 ∧ g.Edges.length ≤ 80 ∧ gchk g.N none g.Edges = 0 := by
 rw [gcheck] at h
 cases h1 : ilt g.N 1 || ilt 24 g.N
 · rw [h1, cond_false] at h
   cases h2 : ilt 80 (nlen (len g.Edges))
   · rw [h2, cond_false] at h
     simp only [Bool.or_eq_false_iff, ilt_f] at h1
     have := ilt_f.1 h2
     simp only [nlen, len] at this
     exact ⟨by omega, by omega, by omega, ieq_iff.1 h⟩
   · rw [h2] at h; cases h
 · rw [h1] at h; cases h
theorem gchk_mem {n : Int} : ∀ {l : List GEdge} {p : Option GEdge}, gchk n p l = 0 → ∀ e ∈ l, ieq (badE n e) 0 = true
 | [], _, _, e, h => by cases h
 | x :: l, p, h, e, he => by
  unfold gchk at h
  cases hb : ieq (badE n x) 0
  · rw [hb, cond_false] at h; rw [h] at hb; cases hb
  · rw [hb, cond_true] at h
    rcases List.mem_cons.1 he with q | q
    · subst q; exact hb
    · cases p with
      | none => exact gchk_mem h e q
      | some d =>
       dsimp only at h
       cases ho : ieq (ordE d x) 0
       · rw [ho, cond_false] at h; rw [h] at ho; cases ho
       · rw [ho, cond_true] at h; exact gchk_mem h e q
theorem af_1_1 : areFns [(fnV 81), (fnV 82), (fnV 83)] [81, 82, 83] = true := rfl
theorem af_1_3 : areFns [(fnV 81), (fnV 82), (fnV 83)] [81, 82, 85] = false := rfl
theorem af_1_2 : areFns [(fnV 81), (fnV 82), (fnV 83)] [86, 82, 87] = false := rfl
theorem af_1_4 : areFns [(fnV 81), (fnV 82), (fnV 83)] [88, 89, 87] = false := rfl
theorem af_1_5 : areFns [(fnV 81), (fnV 82), (fnV 83)] [90, 0, 87] = false := rfl
theorem af_1_0 : areFns [(fnV 81), (fnV 82), (fnV 83)] [0, 0, 0] = false := rfl
theorem af_3_1 : areFns [(fnV 81), (fnV 82), (fnV 85)] [81, 82, 83] = false := rfl
theorem af_3_3 : areFns [(fnV 81), (fnV 82), (fnV 85)] [81, 82, 85] = true := rfl
theorem af_3_2 : areFns [(fnV 81), (fnV 82), (fnV 85)] [86, 82, 87] = false := rfl
theorem af_3_4 : areFns [(fnV 81), (fnV 82), (fnV 85)] [88, 89, 87] = false := rfl
theorem af_3_5 : areFns [(fnV 81), (fnV 82), (fnV 85)] [90, 0, 87] = false := rfl
theorem af_3_0 : areFns [(fnV 81), (fnV 82), (fnV 85)] [0, 0, 0] = false := rfl
theorem af_2_1 : areFns [(fnV 86), (fnV 82), (fnV 87)] [81, 82, 83] = false := rfl
theorem af_2_3 : areFns [(fnV 86), (fnV 82), (fnV 87)] [81, 82, 85] = false := rfl
theorem af_2_2 : areFns [(fnV 86), (fnV 82), (fnV 87)] [86, 82, 87] = true := rfl
theorem af_2_4 : areFns [(fnV 86), (fnV 82), (fnV 87)] [88, 89, 87] = false := rfl
theorem af_2_5 : areFns [(fnV 86), (fnV 82), (fnV 87)] [90, 0, 87] = false := rfl
theorem af_2_0 : areFns [(fnV 86), (fnV 82), (fnV 87)] [0, 0, 0] = false := rfl
theorem af_4_1 : areFns [(fnV 88), (fnV 89), (fnV 87)] [81, 82, 83] = false := rfl
theorem af_4_3 : areFns [(fnV 88), (fnV 89), (fnV 87)] [81, 82, 85] = false := rfl
theorem af_4_2 : areFns [(fnV 88), (fnV 89), (fnV 87)] [86, 82, 87] = false := rfl
theorem af_4_4 : areFns [(fnV 88), (fnV 89), (fnV 87)] [88, 89, 87] = true := rfl
theorem af_4_5 : areFns [(fnV 88), (fnV 89), (fnV 87)] [90, 0, 87] = false := rfl
theorem af_4_0 : areFns [(fnV 88), (fnV 89), (fnV 87)] [0, 0, 0] = false := rfl
theorem af_5_1 : areFns [(fnV 90), .nilFunc, (fnV 87)] [81, 82, 83] = false := rfl
theorem af_5_3 : areFns [(fnV 90), .nilFunc, (fnV 87)] [81, 82, 85] = false := rfl
theorem af_5_2 : areFns [(fnV 90), .nilFunc, (fnV 87)] [86, 82, 87] = false := rfl
theorem af_5_4 : areFns [(fnV 90), .nilFunc, (fnV 87)] [88, 89, 87] = false := rfl
theorem af_5_5 : areFns [(fnV 90), .nilFunc, (fnV 87)] [90, 0, 87] = true := rfl
theorem af_5_0 : areFns [(fnV 90), .nilFunc, (fnV 87)] [0, 0, 0] = false := rfl
theorem af_0_1 : areFns [.nilFunc, .nilFunc, .nilFunc] [81, 82, 83] = false := rfl
theorem af_0_3 : areFns [.nilFunc, .nilFunc, .nilFunc] [81, 82, 85] = false := rfl
theorem af_0_2 : areFns [.nilFunc, .nilFunc, .nilFunc] [86, 82, 87] = false := rfl
theorem af_0_4 : areFns [.nilFunc, .nilFunc, .nilFunc] [88, 89, 87] = false := rfl
theorem af_0_5 : areFns [.nilFunc, .nilFunc, .nilFunc] [90, 0, 87] = false := rfl
theorem af_0_0 : areFns [.nilFunc, .nilFunc, .nilFunc] [0, 0, 0] = true := rfl
theorem F143_1 (K : Nat) : F57 K 1 = some (Grule.mk (fnV 81) (fnV 82) true (fnV 83), true) := rfl
theorem F143_2 (K : Nat) : F57 K 2 = some (Grule.mk (fnV 86) (fnV 82) false (fnV 87), true) := rfl
theorem F143_3 (K : Nat) : F57 K 3 = some (Grule.mk (fnV 81) (fnV 82) true (fnV 85), true) := rfl
theorem F143_4 (K : Nat) : F57 K 4 = some (Grule.mk (fnV 88) (fnV 89) false (fnV 87), true) := rfl
theorem F143_5 (K : Nat) : F57 K 5 = some (Grule.mk (fnV 90) .nilFunc false (fnV 87), true) := rfl
theorem F143_0 (K : Nat) {p : Int} (h : p < 1 ∨ 5 < p) : F57 K p = some (Grule.mk .nilFunc .nilFunc false .nilFunc, false) := by
 rw [F57, ieq_f.2 (by omega : p ≠ 1), ieq_f.2 (by omega : p ≠ 3), ieq_f.2 (by omega : p ≠ 2), ieq_f.2 (by omega : p ≠ 4), ieq_f.2 (by omega : p ≠ 5)]; rfl
theorem prog_cases (p : Int) : p = 1 ∨ p = 2 ∨ p = 3 ∨ p = 4 ∨ p = 5 ∨ (p < 1 ∨ 5 < p) := by omega
def jbad (n : Int) (j : GJob) : Bool := ilt j.Source 0 || (ile n j.Source || (ilt j.Limit 0 || (ilt 40 j.Limit || (ilt j.Parts 1 || ilt 6 j.Parts))))
def pbad (p : Int) : Bool := ilt p 1 || ilt 5 p
def jcheck (g : GGraph) (j : GJob) : Int := bif ieq (gcheck g) 0 then (bif pbad j.Prog || jbad g.N j then 1 else 0) else gcheck g
theorem jtail (n : Int) (j : GJob) : (bif (ilt j.Source 0) then (some 1) else bif (ile n j.Source) then (some 1) else bif (ilt j.Limit 0) then (some 1) else bif (ilt 40 j.Limit) then (some 1) else bif (ilt j.Parts 1) then (some 1) else bif (ilt 6 j.Parts) then (some 1) else some 0) = some (bif jbad n j then 1 else 0 : Int) := by
 unfold jbad
 cases ilt j.Source 0 <;> cases ile n j.Source <;> cases ilt j.Limit 0 <;> cases ilt 40 j.Limit <;> cases ilt j.Parts 1 <;> cases ilt 6 j.Parts <;> rfl
theorem F31_spec {K : Nat} (hK : 100 ≤ K) (g : GGraph) (j : GJob) : F31 K g j = some (jcheck g j) := by
 rw [F31, F56_spec hK, Option.bind_some, jcheck]
 cases ieq (gcheck g) 0
 · rfl
 · rw [cond_true, cond_true]
   rcases prog_cases j.Prog with h | h | h | h | h | h
   · have hb : pbad j.Prog = false := by rw [h]; rfl
     rw [hb, Bool.false_or, h, F143_1]
     simp only [Option.bind_some, cond_true, cond_false, af_1_1, af_1_3, af_1_2, af_1_4, af_1_5, af_1_0, af_3_1, af_3_3, af_3_2, af_3_4, af_3_5, af_3_0, af_2_1, af_2_3, af_2_2, af_2_4, af_2_5, af_2_0, af_4_1, af_4_3, af_4_2, af_4_4, af_4_5, af_4_0, af_5_1, af_5_3, af_5_2, af_5_4, af_5_5, af_5_0, af_0_1, af_0_3, af_0_2, af_0_4, af_0_5, af_0_0, jtail]
   · have hb : pbad j.Prog = false := by rw [h]; rfl
     rw [hb, Bool.false_or, h, F143_2]
     simp only [Option.bind_some, cond_true, cond_false, af_1_1, af_1_3, af_1_2, af_1_4, af_1_5, af_1_0, af_3_1, af_3_3, af_3_2, af_3_4, af_3_5, af_3_0, af_2_1, af_2_3, af_2_2, af_2_4, af_2_5, af_2_0, af_4_1, af_4_3, af_4_2, af_4_4, af_4_5, af_4_0, af_5_1, af_5_3, af_5_2, af_5_4, af_5_5, af_5_0, af_0_1, af_0_3, af_0_2, af_0_4, af_0_5, af_0_0, jtail]
   · have hb : pbad j.Prog = false := by rw [h]; rfl
     rw [hb, Bool.false_or, h, F143_3]
     simp only [Option.bind_some, cond_true, cond_false, af_1_1, af_1_3, af_1_2, af_1_4, af_1_5, af_1_0, af_3_1, af_3_3, af_3_2, af_3_4, af_3_5, af_3_0, af_2_1, af_2_3, af_2_2, af_2_4, af_2_5, af_2_0, af_4_1, af_4_3, af_4_2, af_4_4, af_4_5, af_4_0, af_5_1, af_5_3, af_5_2, af_5_4, af_5_5, af_5_0, af_0_1, af_0_3, af_0_2, af_0_4, af_0_5, af_0_0, jtail]
   · have hb : pbad j.Prog = false := by rw [h]; rfl
     rw [hb, Bool.false_or, h, F143_4]
     simp only [Option.bind_some, cond_true, cond_false, af_1_1, af_1_3, af_1_2, af_1_4, af_1_5, af_1_0, af_3_1, af_3_3, af_3_2, af_3_4, af_3_5, af_3_0, af_2_1, af_2_3, af_2_2, af_2_4, af_2_5, af_2_0, af_4_1, af_4_3, af_4_2, af_4_4, af_4_5, af_4_0, af_5_1, af_5_3, af_5_2, af_5_4, af_5_5, af_5_0, af_0_1, af_0_3, af_0_2, af_0_4, af_0_5, af_0_0, jtail]
   · have hb : pbad j.Prog = false := by rw [h]; rfl
     rw [hb, Bool.false_or, h, F143_5]
     simp only [Option.bind_some, cond_true, cond_false, af_1_1, af_1_3, af_1_2, af_1_4, af_1_5, af_1_0, af_3_1, af_3_3, af_3_2, af_3_4, af_3_5, af_3_0, af_2_1, af_2_3, af_2_2, af_2_4, af_2_5, af_2_0, af_4_1, af_4_3, af_4_2, af_4_4, af_4_5, af_4_0, af_5_1, af_5_3, af_5_2, af_5_4, af_5_5, af_5_0, af_0_1, af_0_3, af_0_2, af_0_4, af_0_5, af_0_0, jtail]
   · have hb : pbad j.Prog = true := by
      unfold pbad
      rcases h with h | h
      · rw [ilt_iff.2 h]; rfl
      · rw [ilt_iff.2 h, Bool.or_true]
     rw [hb, Bool.true_or, F143_0 K h]
     simp only [Option.bind_some, cond_true, cond_false, af_1_1, af_1_3, af_1_2, af_1_4, af_1_5, af_1_0, af_3_1, af_3_3, af_3_2, af_3_4, af_3_5, af_3_0, af_2_1, af_2_3, af_2_2, af_2_4, af_2_5, af_2_0, af_4_1, af_4_3, af_4_2, af_4_4, af_4_5, af_4_0, af_5_1, af_5_3, af_5_2, af_5_4, af_5_5, af_5_0, af_0_1, af_0_3, af_0_2, af_0_4, af_0_5, af_0_0]
theorem jcheck_ok {g : GGraph} {j : GJob} (h : ieq (jcheck g j) 0 = true) : ieq (gcheck g) 0 = true ∧ 1 ≤ j.Prog ∧ j.Prog ≤ 5 ∧ 0 ≤ j.Source ∧ j.Source < g.N ∧ 0 ≤ j.Limit ∧ j.Limit ≤ 40 ∧ 1 ≤ j.Parts ∧ j.Parts ≤ 6 := by
 rw [jcheck] at h
 cases hg : ieq (gcheck g) 0
 · rw [hg, cond_false] at h; rw [h] at hg; cases hg
 · rw [hg, cond_true] at h
   cases hb : pbad j.Prog || jbad g.N j
   · simp only [pbad, jbad, Bool.or_eq_false_iff, ilt_f, ile_f] at hb
     obtain ⟨⟨h1, h2⟩, h3, h4, h5, h6, h7, h8⟩ := hb
     exact ⟨rfl, h1, h2, h3, h4, h5, h6, h7, h8⟩
   · rw [hb] at h; cases h
theorem scanN {σ β : Type} {N : Int} {L : Nat → σ → Int → Option β} (step : Nat → σ → (σ → Option β) → Option β) (fin : σ → Option β)
 (h : ∀ k s (i : Nat), i ≤ N.toNat → L (k + 1) s i = bif ilt i N then step i s (fun s' => L k s' (wadd .i64 i 1)) else fin s) (hN : N ≤ 1000000) {K : Nat} (hK : N.toNat < K) (s : σ) :
 L K s 0 = goL step fin (List.range N.toNat) s := by
 have hw : ∀ (k : Nat) (s : σ) (i : Nat), N.toNat - i < k → i ≤ N.toNat → L k s i = goL step fin ((List.range N.toNat).drop i) s := by
  intro k
  induction k with
  | zero => intro s i h; omega
  | succ k ih =>
   intro s i hk hi
   rw [h k s i hi]
   by_cases hlt : i < N.toNat
   · have e : (List.range N.toNat).drop i = i :: (List.range N.toNat).drop (i + 1) := by
      rw [List.drop_eq_getElem_cons (by simpa using hlt)]; simp
     rw [ilt_iff.2 (by omega : (i : Int) < N), cond_true, e, goL]
     congr 1
     funext s'
     rw [wadd_nat (by omega)]
     exact ih s' (i + 1) (by omega) (by omega)
   · have e : (List.range N.toNat).drop i = [] := List.drop_eq_nil_of_le (by simp; omega)
     rw [ilt_f.2 (by omega : N ≤ (i : Int)), cond_false, e]; rfl
 have := hw K s 0 (by omega) (by omega)
 rw [List.drop_zero] at this
 exact this
def homeS (j : GJob) (v : Int) : Int := bif ilt v 0 || (ilt j.Parts 1 || ilt 6 j.Parts) then -1 else v % j.Parts
theorem wrem_emod {a b : Int} (h : 0 ≤ a) : wrem a b = a % b := by
 show Int.tmod _ _ = _
 exact Int.tmod_eq_emod_of_nonneg h
theorem F94_spec (K : Nat) (j : GJob) (v : Int) : F94 K j v = some (homeS j v) := by
 rw [F94, homeS]
 cases h0 : ilt v 0
 · cases h1 : ilt j.Parts 1
   · cases h2 : ilt 6 j.Parts
     · have v0 := ilt_f.1 h0
       have p1 := ilt_f.1 h1
       have hz : izero j.Parts = false := decide_eq_false (by omega)
       rw [hz, wrem_emod v0]; rfl
     · rfl
   · rfl
 · rfl
def vertsN (n parts : Nat) (p : Int) : List Nat := (List.range n).filter fun v => ieq ((v % parts : Nat) : Int) p
def vertsS (g : GGraph) (j : GJob) (p : Int) : List Nat := vertsN g.N.toNat j.Parts.toNat p
theorem cnt_all : ∀ parts < 7, 0 < parts → ∀ n < 25, ∀ p < parts, ((List.range n).filter fun v => v % parts == p).length = (n + parts - 1 - p) / parts := by decide +kernel
def countS (g : GGraph) (j : GJob) (p : Int) : Int := ((vertsS g j p).length : Int)
theorem vertsN_len {n parts : Nat} (h1 : 0 < parts) (h2 : parts < 7) (hn : n < 25) {p : Nat} (hp : p < parts) : (vertsN n parts (p : Int)).length = (n + parts - 1 - p) / parts := by
 rw [← cnt_all parts h2 h1 n hn p hp, vertsN]
 congr 1
 refine List.filter_congr fun v _ => ?_
 rw [Bool.eq_iff_iff, ieq_iff, beq_iff_eq]; omega
theorem vertsN_none {n parts : Nat} (h1 : 0 < parts) {p : Int} (hp : p < 0 ∨ (parts : Int) ≤ p) : vertsN n parts p = [] := by
 rw [vertsN, List.filter_eq_nil_iff]
 intro v _ hc
 have := ieq_iff.1 hc
 have := Nat.mod_lt v h1
 omega
theorem F103_spec {K : Nat} (hK : 100 ≤ K) (g : GGraph) (j : GJob) (p : Int) (hp : -9223372036854775808 ≤ p ∧ p ≤ 9223372036854775807) : F103 K g j p = some (bif ieq (jcheck g j) 0 then countS g j p else 0) := by
 rw [F103, F31_spec hK, Option.bind_some]
 cases hc : ieq (jcheck g j) 0
 · rfl
 · obtain ⟨hg, p1, p2, p3, p4, p5, p6, p7, p8⟩ := jcheck_ok hc
   obtain ⟨g1, g2, _, _⟩ := gcheck_ok hg
   rw [cond_true, cond_true, F110]
   cases h0 : ilt p 0
   · cases h1 : ile j.Parts p
     · have q0 := ilt_f.1 h0
       have q1 := ile_f.1 h1
       obtain ⟨q, rfl⟩ := Int.eq_ofNat_of_zero_le q0
       have hz : izero j.Parts = false := decide_eq_false (by omega)
       have e1 : wsub .i64 g.N (q : Int) = g.N - q := by show IntKind.i64.wrap _ = _; rw [IntKind.wrap_i64]; omega
       have e2 : wadd .i64 (g.N - q) j.Parts = g.N - q + j.Parts := by show IntKind.i64.wrap _ = _; rw [IntKind.wrap_i64]; omega
       have e3 : wsub .i64 (g.N - q + j.Parts) 1 = g.N - q + j.Parts - 1 := by show IntKind.i64.wrap _ = _; rw [IntKind.wrap_i64]; omega
       obtain ⟨n, hn⟩ := Int.eq_ofNat_of_zero_le (show 0 ≤ g.N by omega)
       obtain ⟨m, hm⟩ := Int.eq_ofNat_of_zero_le (show 0 ≤ j.Parts by omega)
       have hnum : g.N - (q : Int) + j.Parts - 1 = ((n + m - 1 - q : Nat) : Int) := by omega
       obtain ⟨d, hd⟩ : ∃ d, (n + m - 1 - q) / m = d := ⟨_, rfl⟩
       have e4 : wquo .i64 (g.N - q + j.Parts - 1) j.Parts = (d : Int) := by
        show IntKind.i64.wrap ((g.N - q + j.Parts - 1).tdiv j.Parts) = _
        rw [hnum, hm, Int.tdiv_eq_ediv_of_nonneg (by omega)]
        have hle : d ≤ n + m - 1 - q := hd ▸ Nat.div_le_self _ _
        have : (((n + m - 1 - q : Nat) : Int) / ((m : Nat) : Int)) = (d : Int) := by rw [← hd]; rfl
        rw [this, IntKind.wrap_i64]; omega
       have ecs : countS g j (q : Int) = (d : Int) := by
        unfold countS vertsS
        have a1 : g.N.toNat = n := by omega
        have a2 : j.Parts.toNat = m := by omega
        rw [a1, a2, vertsN_len (by omega) (by omega) (by omega) (by omega), hd]
       rw [cond_false, cond_false, hz, cond_false, e1, e2, e3, e4, Option.bind_some, ecs]
       cases hpos : ilt 0 (d : Int)
       · have := ilt_f.1 hpos
         have : d = 0 := by omega
         rw [this]; rfl
       · rfl
     · have q1 := ile_iff.1 h1
       have : countS g j p = 0 := by
        unfold countS vertsS
        rw [vertsN_none (by omega) (.inr (by omega))]; rfl
       rw [this]; rfl
   · have q0 := ilt_iff.1 h0
     have : countS g j p = 0 := by
      unfold countS vertsS
      rw [vertsN_none (by omega) (.inl q0)]; rfl
     rw [this]; rfl
theorem mem_verts {g : GGraph} {j : GJob} (h1 : 1 ≤ j.Parts) {p : Int} {v : Nat} : v ∈ vertsS g j p ↔ (v : Int) < g.N ∧ (v : Int) % j.Parts = p := by
 obtain ⟨m, hm⟩ := Int.eq_ofNat_of_zero_le (show 0 ≤ j.Parts by omega)
 simp only [vertsS, vertsN, List.mem_filter, List.mem_range, ieq_iff]
 have : j.Parts.toNat = m := by omega
 rw [this, hm]
 constructor
 · rintro ⟨a, b⟩; exact ⟨by omega, by rw [← b]; simp⟩
 · rintro ⟨a, b⟩; exact ⟨by omega, by rw [← b]; simp⟩
def inOkS (n parts p : Int) : Int → List GMsg → Bool
 | _, [] => true
 | prev, m :: r => ilt prev m.To && (ilt m.To n && (ieq (m.To % parts) p && inOkS n parts p m.To r))
def sumU (b : Bool) : Unit ⊕ Unit := bif b then .inr () else .inl ()
theorem sumU_elim (b : Bool) : (some (sumU b)).bind (fun y => Sum.elim (fun w => some false) (fun w => some true) y) = some b := by cases b <;> rfl
theorem not_ile {a b : Int} : ile a b = !(ilt b a) := by
 unfold ile ilt; by_cases h : b < a <;> simp [h] <;> omega
def partRight (g : GGraph) (j : GJob) (x : GPart) : Bool :=
 ieq (jcheck g j) 0 && (ile 0 x.P && (ilt x.P j.Parts && (ile 0 x.Step && (ile x.Step 40 && (ieq (x.Vals.length : Int) (countS g j x.P) && (ieq (x.Rest.length : Int) (countS g j x.P) && inOkS g.N j.Parts x.P (-1) x.In))))))
theorem F91_loop {K : Nat} (g : GGraph) (j : GJob) (x : GPart) (hp : 1 ≤ j.Parts) (hl : x.In.length < 1000000) (hK : x.In.length < K) : F91_l0_0 K g j x K (-1) 0 = some (sumU (inOkS g.N j.Parts x.P (-1) x.In)) := by
 let step : GMsg → Int → (Int → Option (Unit ⊕ Unit)) → Option (Unit ⊕ Unit) := fun m s c =>
  bif (ile m.To s) then (some (.inl ())) else bif (ile g.N m.To) then (some (.inl ())) else bif (izero j.Parts) then none else bif (ieq (wrem m.To j.Parts) x.P) then c m.To else some (.inl ())
 have h := scanL (l := x.In) (L := fun k s i => F91_l0_0 K g j x k s i) step (fun _ => some (.inr ())) (fun k s i _ => rfl) (by omega) (K := K) hK (-1)
 have hz : izero j.Parts = false := decide_eq_false (by omega)
 have hw : ∀ (l : List GMsg) (s : Int), -1 ≤ s → goL step (fun _ => some (.inr ())) l s = some (sumU (inOkS g.N j.Parts x.P s l)) := by
  intro l
  induction l with
  | nil => intro s _; rfl
  | cons m l ih =>
   intro s hs
   rw [goL]
   show (bif (ile m.To s) then (some (.inl ())) else bif (ile g.N m.To) then (some (.inl ())) else bif (izero j.Parts) then none else bif (ieq (wrem m.To j.Parts) x.P) then goL step (fun _ => some (.inr ())) l m.To else some (.inl ())) = _
   rw [inOkS, hz, not_ile, not_ile]
   cases h1 : ilt s m.To
   · rfl
   · have h1' := ilt_iff.1 h1
     rw [wrem_emod (by omega), ih m.To (by omega)]
     cases ilt m.To g.N <;> cases ieq (m.To % j.Parts) x.P <;> rfl
 rw [hw _ _ (by omega)] at h
 exact h
theorem F91_spec {K : Nat} (hK : 1000 ≤ K) (g : GGraph) (j : GJob) (x : GPart) (hl : x.In.length < 1000000) (hk : x.In.length < K) (hp : -9223372036854775808 ≤ x.P ∧ x.P ≤ 9223372036854775807) : F91 K g j x = some (partRight g j x) := by
 rw [F91, F31_spec (by omega), Option.bind_some, partRight]
 cases hc : ieq (jcheck g j) 0
 · rfl
 · obtain ⟨hg, p1, p2, p3, p4, p5, p6, p7, p8⟩ := jcheck_ok hc
   rw [cond_true, F103_spec (by omega) g j x.P hp, hc, F91_loop g j x p7 hl hk]
   have n1 : nlen (len x.Vals) = (x.Vals.length : Int) := rfl
   have n2 : nlen (len x.Rest) = (x.Rest.length : Int) := rfl
   rw [ilt_not' x.P 0, not_ile (a := j.Parts), ilt_not' x.Step 0, ilt_not' 40 x.Step, n1, n2, cond_true, Option.bind_some, sumU_elim]
   cases ile 0 x.P <;> cases ilt x.P j.Parts <;> cases ile 0 x.Step <;> cases ile x.Step 40 <;> cases ieq (x.Vals.length : Int) (countS g j x.P) <;> cases ieq (x.Rest.length : Int) (countS g j x.P) <;> rfl
theorem verts_len (g : GGraph) (j : GJob) (hn : g.N ≤ 24) (p : Int) : (vertsS g j p).length ≤ 24 := by
 unfold vertsS vertsN
 refine Nat.le_trans (List.length_filter_le _ _) ?_
 simp; omega
theorem self_go {α : Type} {l : List α} (eq : α → α → Option (Unit ⊕ Unit) → Option (Unit ⊕ Unit)) (he : ∀ x ∈ l, ∀ c, eq x x c = c) : ∀ (r : List α) (i : Nat), l.drop i = r →
 goI (fun i x (_ : Unit) c => bif inr (i : Int) (len l) then (elAt l (i : Int)).bind fun y => eq x y (c ()) else none) (fun _ => some (.inr ())) i r () = some (.inr ()) := by
 intro r
 induction r with
 | nil => intro i _; rfl
 | cons x r ih =>
  intro i hr
  have hi := lt_of_drop' hr
  have hd := List.drop_eq_getElem_cons hi
  rw [hr] at hd
  injection hd with a b
  have e1 : inr (i : Int) (len l) = true := decide_eq_true ⟨by omega, by show (i : Int) < (l.length : Int); omega⟩
  have e2 : elAt l (i : Int) = some x := by rw [elAt_nat, a]; simp [hi]
  rw [goI, e1, e2, cond_true, Option.bind_some, he x (by rw [a]; exact List.getElem_mem hi)]
  exact ih (i + 1) b.symm
theorem same140 {K : Nat} (l : List Int) (hl : l.length < 1000000) (hK : l.length < K) : F52 K l l = some true := by
 have h := scanI (l := l) (L := fun k (_ : Unit) i => F52_l0_0 K l l k i) (fun i x (_ : Unit) c => bif inr (i : Int) (len l) then (elAt l (i : Int)).bind fun y => bif ieq x y then c () else some (.inl ()) else none) (fun _ => some (.inr ())) (fun k st i hi => rfl) (by omega) K () 0 (by omega) (by omega)
 have g := self_go (l := l) (fun x y c => bif ieq x y then c else some (.inl ())) (fun x _ c => by rw [ieq_refl]; rfl) l 0 rfl
 have h' : F52_l0_0 K l l K 0 = some (.inr ()) := h.trans g
 rw [F52, ieq_refl, h']; rfl
theorem same141 {K : Nat} (l : List Bool) (hl : l.length < 1000000) (hK : l.length < K) : F53 K l l = some true := by
 have h := scanI (l := l) (L := fun k (_ : Unit) i => F53_l0_0 K l l k i) (fun i x (_ : Unit) c => bif inr (i : Int) (len l) then (elAt l (i : Int)).bind fun y => bif beqb x y then c () else some (.inl ()) else none) (fun _ => some (.inr ())) (fun k st i hi => rfl) (by omega) K () 0 (by omega) (by omega)
 have g := self_go (l := l) (fun x y c => bif beqb x y then c else some (.inl ())) (fun x _ c => by rw [beqb_refl]; rfl) l 0 rfl
 have h' : F53_l0_0 K l l K 0 = some (.inr ()) := h.trans g
 rw [F53, ieq_refl, h']; rfl
theorem same89 {K : Nat} (l : List GMsg) (hl : l.length < 1000000) (hK : l.length < K) : F37 K l l = some true := by
 have h := scanI (l := l) (L := fun k (_ : Unit) i => F37_l0_0 K l l k i) (fun i x (_ : Unit) c => bif inr (i : Int) (len l) then (elAt l (i : Int)).bind fun y => bif ieq x.To y.To then (bif ieq x.V y.V then c () else some (.inl ())) else some (.inl ()) else none) (fun _ => some (.inr ())) (fun k st i hi => rfl) (by omega) K () 0 (by omega) (by omega)
 have g := self_go (l := l) (fun x y c => bif ieq x.To y.To then (bif ieq x.V y.V then c else some (.inl ())) else some (.inl ())) (fun x _ c => by rw [ieq_refl, ieq_refl]; rfl) l 0 rfl
 have h' : F37_l0_0 K l l K 0 = some (.inr ()) := h.trans g
 rw [F37, ieq_refl, h']; rfl
def fitP (K : Nat) (x : GPart) : Prop := (x.Vals.length < 1000000 ∧ x.Vals.length < K) ∧ (x.Rest.length < 1000000 ∧ x.Rest.length < K) ∧ x.In.length < 1000000 ∧ x.In.length < K
theorem same118 {K : Nat} (x : GPart) (h : fitP K x) : F28 K x x = some true := by
 rw [F28, ieq_refl, ieq_refl, same140 x.Vals h.1.1 h.1.2, same141 x.Rest h.2.1.1 h.2.1.2, same89 x.In h.2.2.1 h.2.2.2]; rfl
def leM (a b : GMsg) : Bool := ilt a.To b.To || (ieq a.To b.To && ile a.V b.V)
theorem leM_iff {a b : GMsg} : leM a b = true ↔ a.To < b.To ∨ a.To = b.To ∧ a.V ≤ b.V := by simp [leM, ilt, ieq, ile]
theorem leM_f {a b : GMsg} : leM a b = false ↔ ¬ (a.To < b.To ∨ a.To = b.To ∧ a.V ≤ b.V) := by rw [← leM_iff]; simp
theorem leM_trans {a b c : GMsg} (h : leM a b = true) (g : leM b c = true) : leM a c = true := by rw [leM_iff] at *; omega
theorem leM_anti {a b : GMsg} (h : leM a b = true) (g : leM b a = true) : a = b := by
 rw [leM_iff] at h g
 cases a; cases b
 simp only [GMsg.mk.injEq]
 dsimp only at h g
 omega
theorem leM_total {a b : GMsg} (h : leM a b = false) : leM b a = true := by rw [leM_f] at h; rw [leM_iff]; omega
def srtM (l : List GMsg) : Prop := l.Pairwise fun a b => leM a b = true
theorem srtM_eq {l l' : List GMsg} (h : srtM l) (h' : srtM l') (hp : l.Perm l') : l = l' :=
 List.Perm.eq_of_pairwise (fun a b _ _ h1 h2 => leM_anti h1 h2) h h' hp
def bubR : List GMsg → GMsg → List GMsg → List GMsg
 | [], x, Q => x :: Q
 | y :: R, x, Q => bif leM y x then (y :: R).reverse ++ x :: Q else bubR R x (y :: Q)
def sortM (l : List GMsg) : List GMsg := l.foldl (fun acc x => bubR acc.reverse x []) []
theorem bubR_perm (x : GMsg) : ∀ (R Q : List GMsg), (bubR R x Q).Perm (R.reverse ++ x :: Q)
 | [], Q => List.Perm.refl _
 | y :: R, Q => by
  rw [bubR]
  cases leM y x
  · refine (bubR_perm x R (y :: Q)).trans ?_
    rw [List.reverse_cons, List.append_assoc]
    exact List.Perm.append_left _ (List.Perm.swap y x Q)
  · exact List.Perm.refl _
theorem bubR_srt (x : GMsg) : ∀ (R Q : List GMsg), srtM (R.reverse ++ Q) → (∀ q ∈ Q, leM x q = true) → srtM (bubR R x Q)
 | [], Q, h, hx => List.pairwise_cons.2 ⟨hx, h⟩
 | y :: R, Q, h, hx => by
  rw [bubR]
  cases hy : leM y x
  · refine bubR_srt x R (y :: Q) ?_ fun q hq => ?_
    · rw [List.reverse_cons, List.append_assoc] at h; exact h
    · rcases List.mem_cons.1 hq with e | e
      · subst e; exact leM_total hy
      · exact hx q e
  · obtain ⟨h1, h2, h3⟩ := List.pairwise_append.1 h
    refine List.pairwise_append.2 ⟨h1, List.pairwise_cons.2 ⟨hx, h2⟩, fun a ha b hb => ?_⟩
    have hay : a = y ∨ leM a y = true := by
     rw [List.reverse_cons] at ha h1
     obtain ⟨_, _, h6⟩ := List.pairwise_append.1 h1
     rcases List.mem_append.1 ha with e | e
     · exact .inr (h6 a e y (by simp))
     · exact .inl (List.mem_singleton.1 e)
    rcases List.mem_cons.1 hb with e | e
    · subst e
      rcases hay with e | e
      · subst e; exact hy
      · exact leM_trans e hy
    · exact h3 a ha b e
theorem sort_go : ∀ (l acc : List GMsg), srtM acc → srtM (l.foldl (fun acc x => bubR acc.reverse x []) acc) ∧ (l.foldl (fun acc x => bubR acc.reverse x []) acc).Perm (acc ++ l)
 | [], acc, h => ⟨h, by simp⟩
 | x :: l, acc, h => by
  have h1 : srtM (bubR acc.reverse x []) := bubR_srt x acc.reverse [] (by simpa using h) (fun q hq => (nomatch hq))
  have h2 : (bubR acc.reverse x []).Perm (acc ++ [x]) := by simpa using bubR_perm x acc.reverse []
  obtain ⟨a, b⟩ := sort_go l _ h1
  refine ⟨a, b.trans ?_⟩
  have := h2.append_right l
  simpa using this
theorem sortM_srt (l : List GMsg) : srtM (sortM l) := (sort_go l [] List.Pairwise.nil).1
theorem sortM_perm (l : List GMsg) : (sortM l).Perm l := by
 have := (sort_go l [] List.Pairwise.nil).2
 rwa [List.nil_append] at this
theorem sortM_len (l : List GMsg) : (sortM l).length = l.length := (sortM_perm l).length_eq
theorem sortM_eq {l r : List GMsg} (h : srtM r) (hp : r.Perm l) : sortM l = r := srtM_eq (sortM_srt l) h ((sortM_perm l).trans hp.symm)
theorem sortM_congr {l l' : List GMsg} (hp : l.Perm l') : sortM l = sortM l' := sortM_eq (sortM_srt l') ((sortM_perm l').trans hp.symm)
def i64 (n : Int) : Prop := -9223372036854775808 ≤ n ∧ n ≤ 9223372036854775807
theorem i64_wf {n : Int} (h : (Lit.int .i64 n).wf = true) : i64 n := bounds_i64 h
theorem wmul_ok {a b : Int} (h : i64 (a * b)) : wmul .i64 a b = a * b := by
 show IntKind.i64.wrap (a * b) = _
 rw [IntKind.wrap_i64]; unfold i64 at h; omega
theorem wadd_i64 {a b : Int} (h : i64 (a + b)) : wadd .i64 a b = a + b := by
 show IntKind.i64.wrap (a + b) = _
 rw [IntKind.wrap_i64]; unfold i64 at h; omega
def fitsB (n : Int) : Bool := decide (-9223372036854775808 ≤ n) && decide (n ≤ 9223372036854775807)
theorem fitsB_iff {n : Int} : fitsB n = true ↔ i64 n := by simp [fitsB, i64]
theorem fitsB_f {n : Int} : fitsB n = false ↔ n < -9223372036854775808 ∨ 9223372036854775807 < n := by
 cases h : fitsB n
 · have : ¬ i64 n := fun q => by rw [fitsB_iff.2 q] at h; cases h
   unfold i64 at this
   simp only [true_iff]; omega
 · have := fitsB_iff.1 h
   unfold i64 at this
   simp only [Bool.true_eq_false, false_iff]; omega
def addS (a b : Int) : Int × Bool := bif fitsB (a + b) then (a + b, true) else (0, false)
theorem F102_spec (K : Nat) {a b : Int} (ha : i64 a) (hb : i64 b) : F102 K a b = some (addS a b) := by
 unfold i64 at ha hb
 rw [F102, addS]
 cases h1 : ilt 0 b
 · have b1 := ilt_f.1 h1
   cases h2 : ilt b 0
   · have b2 := ilt_f.1 h2
     have : b = 0 := by omega
     rw [fitsB_iff.2 (by unfold i64; omega), wadd_i64 (by unfold i64; omega)]; rfl
   · have b2 := ilt_iff.1 h2
     have ew : wsub .i64 (-9223372036854775808) b = -9223372036854775808 - b := by
      show IntKind.i64.wrap _ = _
      rw [IntKind.wrap_i64]; omega
     rw [cond_false, cond_true, ew]
     cases h3 : ilt a (-9223372036854775808 - b)
     · have := ilt_f.1 h3
       rw [fitsB_iff.2 (by unfold i64; omega), wadd_i64 (by unfold i64; omega)]; rfl
     · have := ilt_iff.1 h3
       rw [fitsB_f.2 (by omega)]; rfl
 · have b1 := ilt_iff.1 h1
   have ew : wsub .i64 9223372036854775807 b = 9223372036854775807 - b := by
    show IntKind.i64.wrap _ = _
    rw [IntKind.wrap_i64]; omega
   rw [cond_true, ew, ilt_f.2 (by omega : (0 : Int) ≤ b), cond_false]
   cases h3 : ilt (9223372036854775807 - b) a
   · have := ilt_f.1 h3
     rw [fitsB_iff.2 (by unfold i64; omega), wadd_i64 (by unfold i64; omega)]; rfl
   · have := ilt_iff.1 h3
     rw [fitsB_f.2 (by omega)]; rfl
theorem F84_spec (K : Nat) {a b : Int} (ha : i64 a) (hb : i64 b) : F84 K a b = some (addS a b) := by
 unfold i64 at ha hb
 have ew : wadd .i64 a b = bif fitsB (a + b) then a + b else bif ilt (a + b) 0 then a + b + 18446744073709551616 else a + b - 18446744073709551616 := by
  show IntKind.i64.wrap (a + b) = _
  rw [IntKind.wrap_i64]
  cases h : fitsB (a + b)
  · have := fitsB_f.1 h
    cases h2 : ilt (a + b) 0
    · have := ilt_f.1 h2; simp only [cond_false]; omega
    · have := ilt_iff.1 h2; simp only [cond_false, cond_true]; omega
  · have := fitsB_iff.1 h; unfold i64 at this; simp only [cond_true]; omega
 have eg : ∀ x : Int, ige x 0 = !(ilt x 0) := fun x => by
  unfold ige ilt
  by_cases h : x < 0 <;> simp [h] <;> omega
 rw [F84, addS, eg, eg, eg, ew]
 cases h : fitsB (a + b)
 · have h' := fitsB_f.1 h
   rcases h' with h' | h'
   · rw [ilt_iff.2 (by omega : a < 0), ilt_iff.2 (by omega : b < 0), ilt_iff.2 (by omega : a + b < 0)]
     simp only [cond_false, cond_true]
     rw [ilt_f.2 (by omega : 0 ≤ a + b + 18446744073709551616)]; rfl
   · rw [ilt_f.2 (by omega : 0 ≤ a), ilt_f.2 (by omega : 0 ≤ b), ilt_f.2 (by omega : 0 ≤ a + b)]
     simp only [cond_false, cond_true]
     rw [ilt_iff.2 (by omega : a + b - 18446744073709551616 < 0)]; rfl
 · simp only [cond_true]
   cases h1 : ilt a 0 <;> cases h2 : ilt b 0
   · rw [ilt_f.2 (by have := ilt_f.1 h1; have := ilt_f.1 h2; omega : 0 ≤ a + b)]; rfl
   · rfl
   · rfl
   · rw [ilt_iff.2 (by have := ilt_iff.1 h1; have := ilt_iff.1 h2; omega : a + b < 0)]; rfl
def foldS (p a b : Int) : Int × Int := bif pbad p then (0, 1) else bif ieq p 5 then (bif (addS a b).2 then ((addS a b).1, 0) else (0, 8)) else bif ieq p 4 then (bif ilt a b then (b, 0) else (a, 0)) else bif ilt b a then (b, 0) else (a, 0)
theorem F106_spec (K : Nat) (p : Int) {a b : Int} (ha : i64 a) (hb : i64 b) : F106 K p a b = some (foldS p a b) := by
 rw [F106]
 rcases prog_cases p with q | q | q | q | q | q
 · subst q
   have e5 : ieq 1 5 = false := rfl
   have e4 : ieq 1 4 = false := rfl
   have eb : pbad 1 = false := rfl
   rw [F143_1, foldS, e5, e4, eb]
   simp only [Option.bind_some, cond_true, cond_false, af_1_1, af_1_3, af_1_2, af_1_4, af_1_5, af_1_0, af_3_1, af_3_3, af_3_2, af_3_4, af_3_5, af_3_0, af_2_1, af_2_3, af_2_2, af_2_4, af_2_5, af_2_0, af_4_1, af_4_3, af_4_2, af_4_4, af_4_5, af_4_0, af_5_1, af_5_3, af_5_2, af_5_4, af_5_5, af_5_0, af_0_1, af_0_3, af_0_2, af_0_4, af_0_5, af_0_0, F82]
   cases ilt b a <;> rfl
 · subst q
   have e5 : ieq 2 5 = false := rfl
   have e4 : ieq 2 4 = false := rfl
   have eb : pbad 2 = false := rfl
   rw [F143_2, foldS, e5, e4, eb]
   simp only [Option.bind_some, cond_true, cond_false, af_1_1, af_1_3, af_1_2, af_1_4, af_1_5, af_1_0, af_3_1, af_3_3, af_3_2, af_3_4, af_3_5, af_3_0, af_2_1, af_2_3, af_2_2, af_2_4, af_2_5, af_2_0, af_4_1, af_4_3, af_4_2, af_4_4, af_4_5, af_4_0, af_5_1, af_5_3, af_5_2, af_5_4, af_5_5, af_5_0, af_0_1, af_0_3, af_0_2, af_0_4, af_0_5, af_0_0, F82]
   cases ilt b a <;> rfl
 · subst q
   have e5 : ieq 3 5 = false := rfl
   have e4 : ieq 3 4 = false := rfl
   have eb : pbad 3 = false := rfl
   rw [F143_3, foldS, e5, e4, eb]
   simp only [Option.bind_some, cond_true, cond_false, af_1_1, af_1_3, af_1_2, af_1_4, af_1_5, af_1_0, af_3_1, af_3_3, af_3_2, af_3_4, af_3_5, af_3_0, af_2_1, af_2_3, af_2_2, af_2_4, af_2_5, af_2_0, af_4_1, af_4_3, af_4_2, af_4_4, af_4_5, af_4_0, af_5_1, af_5_3, af_5_2, af_5_4, af_5_5, af_5_0, af_0_1, af_0_3, af_0_2, af_0_4, af_0_5, af_0_0, F82]
   cases ilt b a <;> rfl
 · subst q
   have e5 : ieq 4 5 = false := rfl
   have e4 : ieq 4 4 = true := rfl
   have eb : pbad 4 = false := rfl
   rw [F143_4, foldS, e5, e4, eb]
   simp only [Option.bind_some, cond_true, cond_false, af_1_1, af_1_3, af_1_2, af_1_4, af_1_5, af_1_0, af_3_1, af_3_3, af_3_2, af_3_4, af_3_5, af_3_0, af_2_1, af_2_3, af_2_2, af_2_4, af_2_5, af_2_0, af_4_1, af_4_3, af_4_2, af_4_4, af_4_5, af_4_0, af_5_1, af_5_3, af_5_2, af_5_4, af_5_5, af_5_0, af_0_1, af_0_3, af_0_2, af_0_4, af_0_5, af_0_0, F89, igt]
   have : decide (b > a) = ilt a b := rfl
   rw [this]
   cases ilt a b <;> rfl
 · subst q
   have e5 : ieq 5 5 = true := rfl
   have e4 : ieq 5 4 = false := rfl
   have eb : pbad 5 = false := rfl
   rw [F143_5, foldS, e5, e4, eb]
   simp only [Option.bind_some, cond_true, cond_false, af_1_1, af_1_3, af_1_2, af_1_4, af_1_5, af_1_0, af_3_1, af_3_3, af_3_2, af_3_4, af_3_5, af_3_0, af_2_1, af_2_3, af_2_2, af_2_4, af_2_5, af_2_0, af_4_1, af_4_3, af_4_2, af_4_4, af_4_5, af_4_0, af_5_1, af_5_3, af_5_2, af_5_4, af_5_5, af_5_0, af_0_1, af_0_3, af_0_2, af_0_4, af_0_5, af_0_0, F84_spec K ha hb]
   cases (addS a b).2 <;> rfl
 · have eb : pbad p = true := by
    unfold pbad
    rcases q with q | q
    · rw [ilt_iff.2 q]; rfl
    · rw [ilt_iff.2 q, Bool.or_true]
   rw [F143_0 K q, foldS, eb]
   simp only [Option.bind_some, cond_true, cond_false, af_1_1, af_1_3, af_1_2, af_1_4, af_1_5, af_1_0, af_3_1, af_3_3, af_3_2, af_3_4, af_3_5, af_3_0, af_2_1, af_2_3, af_2_2, af_2_4, af_2_5, af_2_0, af_4_1, af_4_3, af_4_2, af_4_4, af_4_5, af_4_0, af_5_1, af_5_3, af_5_2, af_5_4, af_5_5, af_5_0, af_0_1, af_0_3, af_0_2, af_0_4, af_0_5, af_0_0]
theorem foldS_i64 {p a b : Int} (ha : i64 a) (hb : i64 b) : i64 (foldS p a b).1 := by
 have h0 : i64 0 := by unfold i64; omega
 rw [foldS]
 cases pbad p
 · cases ieq p 5
   · cases ieq p 4
     · simp only [cond_false]
       cases ilt b a
       · exact ha
       · exact hb
     · simp only [cond_false, cond_true]
       cases ilt a b
       · exact ha
       · exact hb
   · simp only [cond_false, cond_true]
     unfold addS
     cases h : fitsB (a + b)
     · exact h0
     · exact fitsB_iff.1 h
 · exact h0
theorem F113_spec (K : Nat) (y x : GMsg) : F113 K y x = some (!(leM x y)) := by
 rw [F113, leM]
 cases h1 : ilt y.To x.To
 · cases h2 : ieq y.To x.To
   · have := ilt_f.1 h1; have := ieq_f.1 h2
     rw [ilt_iff.2 (by omega : x.To < y.To)]; rfl
   · have e := ieq_iff.1 h2
     rw [ilt_f.2 (by omega : y.To ≤ x.To), ieq_iff.2 e.symm]
     simp only [cond_false, cond_true, Bool.false_or, Bool.true_and]
     congr 1
     cases h3 : ilt y.V x.V
     · rw [ile_iff.2 (by have := ilt_f.1 h3; omega)]; rfl
     · rw [ile_f.2 (by have := ilt_iff.1 h3; omega)]; rfl
 · have := ilt_iff.1 h1
   rw [ilt_f.2 (by omega : y.To ≤ x.To), ieq_f.2 (by omega : x.To ≠ y.To)]; rfl
theorem merge_ok {K : Nat} : ∀ (k : Nat) (a b c : List GMsg), a.length + b.length < k → a.length + b.length + c.length < 100000 → srtM (c ++ a) → srtM (c ++ b) →
 ∃ a' b' c', F112_113_l0_0 K k a b c = some (a', (b', c')) ∧ (c' ++ a' ++ b').Perm (c ++ a ++ b) ∧ srtM (c' ++ a' ++ b') := by
 intro k
 induction k with
 | zero => intro a b c h; omega
 | succ k ih =>
  intro a b c hk hl ha hb
  rw [F112_113_l0_0]
  cases a with
  | nil => exact ⟨[], b, c, rfl, List.Perm.refl _, by simpa using hb⟩
  | cons x a =>
   cases b with
   | nil =>
    refine ⟨x :: a, [], c, ?_, List.Perm.refl _, by simpa using ha⟩
    rw [ilt_iff.2 (show (0 : Int) < nlen (len (x :: a)) by show (0 : Int) < ((a.length + 1 : Nat) : Int); omega)]; rfl
   | cons y b =>
    simp only [List.length_cons] at hk hl
    have i1 : ilt 0 (nlen (len (x :: a))) = true := ilt_iff.2 (by show (0 : Int) < ((a.length + 1 : Nat) : Int); omega)
    have i2 : ilt 0 (nlen (len (y :: b))) = true := ilt_iff.2 (by show (0 : Int) < ((b.length + 1 : Nat) : Int); omega)
    have r1 : inr 0 (len (x :: a)) = true := decide_eq_true ⟨by omega, by show (0 : Int) < (((a.length + 1 : Nat)) : Int); omega⟩
    have r2 : inr 0 (len (y :: b)) = true := decide_eq_true ⟨by omega, by show (0 : Int) < (((b.length + 1 : Nat)) : Int); omega⟩
    have g1 : elAt (x :: a) 0 = some x := rfl
    have g2 : elAt (y :: b) 0 = some y := rfl
    have ap : apok (len c) 1 16 = true := decide_eq_true ⟨by show c.length + 1 ≤ _; omega, by show (c.length + 1) * 16 ≤ _; omega⟩
    have b1 : bnd 1 (nlen (len (x :: a))) (len (x :: a)) = true := by simp [bnd, nlen, len]; omega
    have b2 : bnd 1 (nlen (len (y :: b))) (len (y :: b)) = true := by simp [bnd, nlen, len]; omega
    have s1 : subL (x :: a) 1 (nlen (len (x :: a))) = a := by simp [subL, nlen, len]
    have s2 : subL (y :: b) 1 (nlen (len (y :: b))) = b := by simp [subL, nlen, len]
    rw [i1, i2, r1, r2, g1, g2, ap, b1, b2, s1, s2]
    simp only [cond_true, Option.bind_some, F113_spec]
    have ha' := List.pairwise_append.1 ha
    have hb' := List.pairwise_append.1 hb
    have hxa := List.pairwise_cons.1 ha'.2.1
    have hyb := List.pairwise_cons.1 hb'.2.1
    cases hxy : leM x y
    · have hyx := leM_total hxy
      obtain ⟨a', b', c', e, p, q⟩ := ih (x :: a) b (c ++ [y]) (by simp; omega) (by simp; omega)
       (by
        refine List.pairwise_append.2 ⟨List.pairwise_append.2 ⟨hb'.1, List.pairwise_singleton _ _, fun u hu w hw => ?_⟩, ha'.2.1, fun u hu w hw => ?_⟩
        · rw [List.mem_singleton.1 hw]; exact hb'.2.2 u hu y List.mem_cons_self
        · rcases List.mem_append.1 hu with hu | hu
          · exact ha'.2.2 u hu w hw
          · rw [List.mem_singleton.1 hu]
            rcases List.mem_cons.1 hw with rfl | hw
            · exact hyx
            · exact leM_trans hyx (hxa.1 w hw))
       (by rw [List.append_assoc]; exact hb)
      refine ⟨a', b', c', e, p.trans ?_, q⟩
      have : (c ++ [y] ++ (x :: a) ++ b) = c ++ (y :: (x :: a)) ++ b := by simp
      rw [this, List.append_assoc, List.append_assoc]
      exact List.Perm.append_left c (List.perm_middle (l₁ := x :: a) (a := y) (l₂ := b)).symm
    · obtain ⟨a', b', c', e, p, q⟩ := ih a (y :: b) (c ++ [x]) (by simp; omega) (by simp; omega)
       (by rw [List.append_assoc]; exact ha)
       (by
        refine List.pairwise_append.2 ⟨List.pairwise_append.2 ⟨hb'.1, List.pairwise_singleton _ _, fun u hu w hw => ?_⟩, hb'.2.1, fun u hu w hw => ?_⟩
        · rw [List.mem_singleton.1 hw]; exact ha'.2.2 u hu x List.mem_cons_self
        · rcases List.mem_append.1 hu with hu | hu
          · exact hb'.2.2 u hu w hw
          · rw [List.mem_singleton.1 hu]
            rcases List.mem_cons.1 hw with rfl | hw
            · exact hxy
            · exact leM_trans hxy (hyb.1 w hw))
      refine ⟨a', b', c', e, p.trans ?_, q⟩
      have : (c ++ [x] ++ a ++ (y :: b)) = c ++ (x :: a) ++ (y :: b) := by simp
      rw [this]
theorem F112_spec {K : Nat} : ∀ (d : Nat) (l : List GMsg), l.length < d → l.length < K → l.length < 10000 → F112_113 K d l = some (sortM l) := by
 intro d
 induction d with
 | zero => intro l h; omega
 | succ d ih =>
  intro l hd hK hl
  rw [F112_113]
  cases h2 : ilt (nlen (len l)) 2
  · have h2' : 2 ≤ l.length := by have := ilt_f.1 h2; simp only [nlen, len] at this; omega
    have hq : wquo .i64 (nlen (len l)) 2 = ((l.length / 2 : Nat) : Int) := by
     show IntKind.i64.wrap (((l.length : Nat) : Int).tdiv 2) = _
     rw [Int.tdiv_eq_ediv_of_nonneg (by omega), IntKind.wrap_i64]; omega
    have b1 : bnd 0 ((l.length / 2 : Nat) : Int) (len l) = true := by simp [bnd, len]; omega
    have b2 : bnd ((l.length / 2 : Nat) : Int) (nlen (len l)) (len l) = true := by simp [bnd, len, nlen]; omega
    have s1 : subL l 0 ((l.length / 2 : Nat) : Int) = l.take (l.length / 2) := by simp [subL]; omega
    have s2 : subL l ((l.length / 2 : Nat) : Int) (nlen (len l)) = l.drop (l.length / 2) := by
     simp only [subL, nlen, len, Int.toNat_natCast]
     exact List.take_of_length_le (by rw [List.length_drop]; omega)
    have l1 : (l.take (l.length / 2)).length ≤ l.length / 2 := by rw [List.length_take]; omega
    have l2 : (l.drop (l.length / 2)).length = l.length - l.length / 2 := List.length_drop
    have mk : mkok 0 (nlen (len l)) 16 = true := by simp [mkok, nlen, len]; omega
    obtain ⟨a', b', c', e, p, q⟩ := merge_ok (K := K) K (sortM (l.take (l.length / 2))) (sortM (l.drop (l.length / 2))) [] (by rw [sortM_len, sortM_len]; omega) (by rw [sortM_len, sortM_len]; simp only [List.length_nil]; omega) (by simpa using sortM_srt _) (by simpa using sortM_srt _)
    have er : repL (α := GMsg) 0 (GMsg.mk 0 0) = [] := rfl
    have pl : (c' ++ a' ++ b').Perm l := p.trans (by
     rw [List.nil_append]
     have := (sortM_perm (l.take (l.length / 2))).append (sortM_perm (l.drop (l.length / 2)))
     rwa [List.take_append_drop] at this)
    have ln := pl.length_eq
    rw [List.length_append, List.length_append] at ln
    have a1 : apok (len c') (len a') 16 = true := decide_eq_true ⟨by show c'.length + a'.length ≤ _; omega, by show (c'.length + a'.length) * 16 ≤ _; omega⟩
    have a2 : apok (len (appL c' a')) (len b') 16 = true := decide_eq_true ⟨by show (c' ++ a').length + b'.length ≤ _; rw [List.length_append]; omega, by show ((c' ++ a').length + b'.length) * 16 ≤ _; rw [List.length_append]; omega⟩
    rw [cond_false, hq, b1, b2, s1, s2, ih _ (by omega) (by omega) (by omega), ih _ (by omega) (by omega) (by omega), mk, er]
    simp only [cond_true, Option.bind_some, e, a1, a2]
    rw [sortM_eq q pl]; rfl
  · have h2' : l.length < 2 := by have := ilt_iff.1 h2; simp only [nlen, len] at this; omega
    have ap : apok 0 (len l) 16 = true := decide_eq_true ⟨by show 0 + l.length ≤ _; omega, by show (0 + l.length) * 16 ≤ _; omega⟩
    rw [cond_true, ap, cond_true]
    congr 1
    rw [sortM_eq (l := l) (r := l) ?_ (List.Perm.refl l)]; rfl
    match l, h2' with
    | [], _ => exact List.Pairwise.nil
    | [x], _ => exact List.pairwise_singleton _ _
theorem F107_spec {K : Nat} (l : List GMsg) (hK : l.length < K) (hl : l.length < 10000) : F107 K l = some (sortM l) := by
 rw [F107, F112_spec K l hK hK hl]; rfl
def foldC (p : Int) : List GMsg → GMsg → List GMsg → Int ⊕ List GMsg
 | [], cur, done => .inr (done ++ [cur])
 | x :: r, cur, done => bif ieq cur.To x.To then (bif ieq (foldS p cur.V x.V).2 0 then foldC p r (GMsg.mk cur.To (foldS p cur.V x.V).1) done else .inl (foldS p cur.V x.V).2) else foldC p r x (done ++ [cur])
def foldO (p : Int) : List GMsg → List GMsg → Int ⊕ List GMsg
 | [], done => .inr done
 | x :: r, done => foldC p r x done
def boxO : Int ⊕ List GMsg → List GMsg × Int
 | .inl e => ([], e)
 | .inr s => (s, 0)
def boxS (p : Int) (l : List GMsg) : List GMsg × Int := bif pbad p then ([], 1) else boxO (foldO p (sortM l) [])
theorem put_last {α : Type} (d : List α) (c x : α) : inr (wsub .i64 (nlen (len (d ++ [c]))) 1) (len (d ++ [c])) = true ∧ (d.length < 1000000 → elAt (d ++ [c]) (wsub .i64 (nlen (len (d ++ [c]))) 1) = some c ∧ putAt (d ++ [c]) (wsub .i64 (nlen (len (d ++ [c]))) 1) x = d ++ [x]) ∨ ¬ d.length < 1000000 := by
 by_cases h : d.length < 1000000
 · left
   have w : wsub .i64 (nlen (len (d ++ [c]))) 1 = ((d.length : Nat) : Int) := by
    show IntKind.i64.wrap (((d ++ [c]).length : Int) - 1) = _
    rw [List.length_append, IntKind.wrap_i64]; simp; omega
   rw [w]
   refine ⟨decide_eq_true ⟨by omega, by show (d.length : Int) < ((d ++ [c]).length : Int); simp; omega⟩, fun _ => ⟨by rw [elAt_nat]; simp, ?_⟩⟩
   unfold putAt
   rw [Int.toNat_natCast, List.set_append_right (h := by omega)]; simp
 · right; exact h
theorem F95_spec {K : Nat} (p : Int) (l : List GMsg) (hv : ∀ x ∈ l, i64 x.V) (hK : l.length < K) (hl : l.length < 10000) : F95 K p l = some (boxS p l) := by
 have i0 : i64 0 := by unfold i64; omega
 have hz : (foldS p 0 0).2 = bif pbad p then 1 else 0 := by
  rw [foldS]
  cases pbad p
  · have : addS 0 0 = (0, true) := rfl
    have e : ilt 0 0 = false := rfl
    rw [this, e]
    cases ieq p 5 <;> cases ieq p 4 <;> rfl
  · rfl
 rw [F95, F106_spec K p i0 i0, Option.bind_some, hz, boxS, F107_spec l hK hl]
 cases hb : pbad p
 · let step : GMsg → List GMsg → (List GMsg → Option (Int ⊕ List GMsg)) → Option (Int ⊕ List GMsg) := fun x s c =>
    bif (ilt 0 (nlen (len s))) then
     (bif (inr (wsub .i64 (nlen (len s)) 1) (len s)) then
     (elAt s (wsub .i64 (nlen (len s)) 1)).bind fun y =>
     bif (ieq y.To x.To) then
      ((F106 K p y.V x.V).bind fun r =>
      bif (ieq r.2 0) then
       (c (putAt s (wsub .i64 (nlen (len s)) 1) (GMsg.mk y.To r.1)))
      else
      some (.inl r.2))
     else
     bif (apok (len s) 1 16) then
     c (appL s [x])
     else none
     else none)
    else
    bif (apok (len s) 1 16) then
    c (appL s [x])
    else none
   have hsl : (sortM l).length = l.length := sortM_len l
   have h := scanL (l := sortM l) (L := fun k s i => F95_l0_0 K p (sortM l) k s i) step (fun s => some (.inr s)) (fun k s i _ => rfl) (by omega) (K := K) (by omega) []
   have hw : ∀ (r : List GMsg) (d : List GMsg) (c : GMsg), d.length + r.length < 100000 → i64 c.V → (∀ x ∈ r, i64 x.V) → goL step (fun s => some (.inr s)) r (d ++ [c]) = some (foldC p r c d) := by
    intro r
    induction r with
    | nil => intro d c _ _ _; rfl
    | cons x r ih =>
     intro d c hd hc hr
     simp only [List.length_cons] at hd
     have hx := hr x List.mem_cons_self
     have hr' := fun y hy => hr y (List.mem_cons_of_mem _ hy)
     rw [goL]
     show (bif (ilt 0 (nlen (len (d ++ [c])))) then
      (bif (inr (wsub .i64 (nlen (len (d ++ [c]))) 1) (len (d ++ [c]))) then
      (elAt (d ++ [c]) (wsub .i64 (nlen (len (d ++ [c]))) 1)).bind fun y =>
      bif (ieq y.To x.To) then
       ((F106 K p y.V x.V).bind fun q =>
       bif (ieq q.2 0) then
        (goL step (fun s => some (.inr s)) r (putAt (d ++ [c]) (wsub .i64 (nlen (len (d ++ [c]))) 1) (GMsg.mk y.To q.1)))
       else
       some (.inl q.2))
      else
      bif (apok (len (d ++ [c])) 1 16) then
      goL step (fun s => some (.inr s)) r (appL (d ++ [c]) [x])
      else none
      else none)
     else
     bif (apok (len (d ++ [c])) 1 16) then
     goL step (fun s => some (.inr s)) r (appL (d ++ [c]) [x])
     else none) = _
     have i1 : ilt 0 (nlen (len (d ++ [c]))) = true := ilt_iff.2 (by show (0 : Int) < ((d ++ [c]).length : Int); rw [List.length_append]; simp only [List.length_singleton]; omega)
     have ap : apok (len (d ++ [c])) 1 16 = true := decide_eq_true ⟨by show (d ++ [c]).length + 1 ≤ _; rw [List.length_append]; simp only [List.length_singleton]; omega, by show ((d ++ [c]).length + 1) * 16 ≤ _; rw [List.length_append]; simp only [List.length_singleton]; omega⟩
     rcases put_last d c (GMsg.mk c.To (foldS p c.V x.V).1) with ⟨q1, q2⟩ | q
     · obtain ⟨q2, q3⟩ := q2 (by omega)
       rw [i1, q1, q2, ap]
       simp only [cond_true, Option.bind_some, F106_spec K p hc hx, q3]
       rw [foldC]
       cases ieq c.To x.To
       · rw [cond_false, cond_false]
         exact ih (d ++ [c]) x (by rw [List.length_append]; simp only [List.length_singleton]; omega) hx hr'
       · rw [cond_true, cond_true]
         cases ieq (foldS p c.V x.V).2 0
         · rfl
         · rw [cond_true, cond_true]
           exact ih d _ (by omega) (foldS_i64 hc hx) hr'
     · omega
   have h' : F95_l0_0 K p (sortM l) K [] 0 = some (foldO p (sortM l) []) := by
    rw [show F95_l0_0 K p (sortM l) K [] 0 = _ from h]
    have hs : ∀ x ∈ sortM l, i64 x.V := fun x hx => hv x ((sortM_perm l).mem_iff.1 hx)
    generalize sortM l = m at *
    cases m with
    | nil => rfl
    | cons x r =>
     rw [goL]
     show goL step (fun s => some (.inr s)) r (appL [] [x]) = _
     simp only [List.length_cons] at hsl
     exact hw r [] x (by simp only [List.length_nil]; omega) (hs x List.mem_cons_self) (fun y hy => hs y (List.mem_cons_of_mem _ hy))
   have z0 : ieq (bif false then 1 else 0) 0 = true := rfl
   rw [z0, cond_true, Option.bind_some, h', Option.bind_some]
   cases foldO p (sortM l) [] <;> rfl
 · rfl
def atS (l : List GMsg) (v : Int) : Int × Bool := match l.find? (fun m => ieq m.To v) with
 | some m => (m.V, true)
 | none => (0, false)
def sumF : Option GMsg → Int ⊕ Unit
 | some m => .inl m.V
 | none => .inr ()
theorem at_go (l : List GMsg) (v : Int) : goL (fun (x : GMsg) (_ : Unit) c => bif ieq x.To v then some (.inl x.V) else c ()) (fun _ => some (.inr ())) l () = (some (sumF (l.find? fun m => ieq m.To v)) : Option (Int ⊕ Unit)) := by
 induction l with
 | nil => rfl
 | cons x l ih =>
  rw [goL, List.find?_cons]
  cases h : ieq x.To v
  · exact ih
  · rfl
theorem F92_spec {K : Nat} (l : List GMsg) (v : Int) (hl : l.length < 100000) (hK : l.length < K) : F92 K l v = some (atS l v) := by
 have e : F92_l0_0 K l v K 0 = _ := scanL (l := l) (L := fun k (_ : Unit) i => F92_l0_0 K l v k i) (fun x _ c => bif ieq x.To v then some (.inl x.V) else c ()) (fun _ => some (.inr ())) (fun k s i _ => rfl) (by omega) hK ()
 rw [F92, e, at_go, atS]
 cases l.find? fun m => ieq m.To v <;> rfl
theorem atS_i64 {l : List GMsg} {v : Int} (h : ∀ x ∈ l, i64 x.V) : i64 (atS l v).1 := by
 rw [atS]
 cases hq : l.find? fun m => ieq m.To v with
 | none => show i64 0; unfold i64; omega
 | some m => exact h m (List.mem_of_find?_eq_some hq)
def progL : Nat → Nat → Nat → Nat → List Nat
 | 0, _, _, _ => []
 | k + 1, n, parts, v => if v < n then v :: progL k n parts (v + parts) else []
theorem prog_all : ∀ parts < 7, 0 < parts → ∀ n < 25, ∀ p < parts, progL 30 n parts p = (List.range n).filter fun v => v % parts == p := by decide +kernel
theorem prog_verts {n parts : Nat} (h1 : 0 < parts) (h2 : parts < 7) (hn : n < 25) {p : Nat} (hp : p < parts) : progL 30 n parts p = vertsN n parts (p : Int) := by
 rw [prog_all parts h2 h1 n hn p hp, vertsN]
 refine List.filter_congr fun v _ => ?_
 rw [Bool.eq_iff_iff, ieq_iff, beq_iff_eq]; omega
theorem partRight_ok {g : GGraph} {j : GJob} {x : GPart} (h : partRight g j x = true) : ieq (jcheck g j) 0 = true ∧ 0 ≤ x.P ∧ x.P < j.Parts ∧ 0 ≤ x.Step ∧ x.Step ≤ 40 ∧ (x.Vals.length : Int) = countS g j x.P ∧ (x.Rest.length : Int) = countS g j x.P ∧ inOkS g.N j.Parts x.P (-1) x.In = true := by
 simp only [partRight, Bool.and_eq_true, ile_iff, ilt_iff, ieq_iff] at h
 obtain ⟨h1, h2, h3, h4, h5, h6, h7, h8⟩ := h
 exact ⟨ieq_iff.2 h1, h2, h3, h4, h5, h6, h7, h8⟩
theorem inOkS_ok {n parts p : Int} : ∀ {l : List GMsg} {v : Int}, inOkS n parts p v l = true → l.Pairwise (fun a b => a.To < b.To) ∧ (∀ m ∈ l, v < m.To ∧ m.To < n ∧ m.To % parts = p)
 | [], v, _ => ⟨List.Pairwise.nil, fun m h => (nomatch h)⟩
 | m :: l, v, h => by
  simp only [inOkS, Bool.and_eq_true, ilt_iff, ieq_iff] at h
  obtain ⟨h1, h2, h3, h4⟩ := h
  obtain ⟨a, b⟩ := inOkS_ok h4
  refine ⟨List.pairwise_cons.2 ⟨fun x hx => (b x hx).1, a⟩, fun x hx => ?_⟩
  rcases List.mem_cons.1 hx with e | e
  · subst e; exact ⟨h1, h2, h3⟩
  · have := b x e; exact ⟨by omega, this.2⟩
theorem inOkS_mk {n parts p : Int} : ∀ {l : List GMsg} {v : Int}, l.Pairwise (fun a b => a.To < b.To) → (∀ m ∈ l, v < m.To ∧ m.To < n ∧ m.To % parts = p) → inOkS n parts p v l = true
 | [], _, _, _ => rfl
 | m :: l, v, h, hm => by
  obtain ⟨a, b⟩ := List.pairwise_cons.1 h
  have h1 := hm m List.mem_cons_self
  rw [inOkS, ilt_iff.2 h1.1, ilt_iff.2 h1.2.1, ieq_iff.2 h1.2.2]
  exact inOkS_mk b fun x hx => ⟨a x hx, (hm x (List.mem_cons_of_mem _ hx)).2⟩
def zeroP : GPart := GPart.mk 0 0 [] [] []
def takeOk (n parts p : Int) (l : List GMsg) : Bool := l.all fun m => ile 0 m.To && (ilt m.To n && ieq (m.To % parts) p)
def takeB (j : GJob) (x : GPart) (l : List GMsg) : GPart × Int := bif ieq (boxS j.Prog l).2 0 then (GPart.mk x.P x.Step x.Vals x.Rest (boxS j.Prog l).1, 0) else (zeroP, (boxS j.Prog l).2)
def takeS (g : GGraph) (j : GJob) (x : GPart) (l : List GMsg) : GPart × Int :=
 bif ieq (jcheck g j) 0 then (bif partRight g j x then (bif ieq (nlen (len x.In)) 0 then (bif takeOk g.N j.Parts x.P l then takeB j x l else (zeroP, 1)) else (zeroP, 1)) else (zeroP, 1)) else (zeroP, jcheck g j)
theorem takeOk_perm {n parts p : Int} {l l' : List GMsg} (h : l.Perm l') : takeOk n parts p l = takeOk n parts p l' := by
 rw [Bool.eq_iff_iff]
 simp only [takeOk, List.all_eq_true]
 exact ⟨fun q m hm => q m (h.mem_iff.2 hm), fun q m hm => q m (h.mem_iff.1 hm)⟩
theorem boxS_perm {p : Int} {l l' : List GMsg} (h : l.Perm l') : boxS p l = boxS p l' := by
 rw [boxS, boxS, sortM_congr h]
theorem F98_spec {K : Nat} (ls : List (List GMsg)) (h1 : ls.length < 10000) (h2 : ls.length < K) (h3 : (ls.flatten).length < 10000) (h4 : (ls.flatten).length < K) : F98 K ls = some (sortM ls.flatten) := by
 let step : List GMsg → List GMsg → (List GMsg → Option (List GMsg)) → Option (List GMsg) := fun x a c => bif (apok (len a) (len x) 16) then c (appL a x) else none
 have h := scanL (l := ls) (L := fun k s i => F98_l0_0 K ls k s i) step (fun s => some s) (fun k s i _ => rfl) (by omega) h2 []
 have hw : ∀ (r : List (List GMsg)) (a : List GMsg), a.length + r.flatten.length < 100000 → goL step (fun s => some s) r a = some (a ++ r.flatten) := by
  intro r
  induction r with
  | nil => intro a _; simp [goL]
  | cons x r ih =>
   intro a ha
   rw [List.flatten_cons, List.length_append] at ha
   rw [goL]
   show (bif (apok (len a) (len x) 16) then goL step (fun s => some s) r (appL a x) else none) = _
   have ap : apok (len a) (len x) 16 = true := decide_eq_true ⟨by show a.length + x.length ≤ _; omega, by show (a.length + x.length) * 16 ≤ _; omega⟩
   rw [ap, cond_true, ih _ (by simp only [appL, List.length_append]; omega)]; simp [appL]
 rw [hw ls [] (by simp only [List.length_nil]; omega), List.nil_append] at h
 have h' : F98_l0_0 K ls K [] 0 = some ls.flatten := h
 rw [F98, h', Option.bind_some, F107_spec _ h4 h3]; rfl
theorem F62_loop {K : Nat} (g : GGraph) (j : GJob) (x : GPart) (l : List GMsg) (hp : 1 ≤ j.Parts) (h6 : j.Parts ≤ 6) (h0 : 0 ≤ x.P) (hl : l.length < 1000000) (hK : l.length < K) : F62_l0_0 K g j x l K 0 = some (sumU (takeOk g.N j.Parts x.P l)) := by
 let step : GMsg → Unit → (Unit → Option (Unit ⊕ Unit)) → Option (Unit ⊕ Unit) := fun m _ c =>
  bif (ile g.N m.To) then (some (.inl ())) else (F94 K j m.To).bind fun r => bif (ieq r x.P) then c () else some (.inl ())
 have h := scanL (l := l) (L := fun k (_ : Unit) i => F62_l0_0 K g j x l k i) step (fun _ => some (.inr ())) (fun k s i _ => rfl) (by omega) (K := K) hK ()
 have hw : ∀ (r : List GMsg), goL step (fun _ => some (.inr ())) r () = some (sumU (takeOk g.N j.Parts x.P r)) := by
  intro r
  induction r with
  | nil => rfl
  | cons m r ih =>
   rw [goL]
   show (bif (ile g.N m.To) then (some (.inl ())) else (F94 K j m.To).bind fun r' => bif (ieq r' x.P) then goL step (fun _ => some (.inr ())) r () else some (.inl ())) = _
   rw [F94_spec, ih, Option.bind_some, not_ile, homeS, ilt_f.2 hp, ilt_f.2 h6, takeOk, takeOk, List.all_cons, ilt_not' m.To 0]
   cases h1 : ilt m.To g.N
   · cases ile 0 m.To <;> rfl
   · cases h2 : ile 0 m.To
     · rw [Bool.not_false, Bool.true_or, cond_true, ieq_f.2 (by omega : (-1 : Int) ≠ x.P)]; rfl
     · simp only [Bool.not_true, Bool.false_or, cond_false, Bool.true_and]
       cases ieq (m.To % j.Parts) x.P <;> rfl
 rw [hw] at h
 exact h
theorem sumU_bind {α : Type} (b : Bool) (x : Option α) (y : Option α) : (some (sumU b)).bind (fun z => Sum.elim (fun _ => x) (fun _ => y) z) = bif b then y else x := by cases b <;> rfl
theorem F62_spec {K : Nat} (hK : 1000 ≤ K) (g : GGraph) (j : GJob) (x : GPart) (ls : List (List GMsg)) (hp : i64 x.P) (hx : x.In.length ≤ 300) (hv : x.Vals.length ≤ 100) (hr : x.Rest.length ≤ 100)
 (h1 : ls.length < 1000) (h3 : (ls.flatten).length < 10000) (h4 : (ls.flatten).length < K) (hs : ∀ m ∈ ls.flatten, i64 m.V) : F62 K g j x ls = some (takeS g j x ls.flatten) := by
 rw [F62, F31_spec (by omega), F91_spec hK g j x (by omega) (by omega) hp, Option.bind_some, Option.bind_some, takeS]
 cases hc : ieq (jcheck g j) 0
 · rfl
 · cases hR : partRight g j x
   · rfl
   · obtain ⟨_, p1, p2, _⟩ := partRight_ok hR
     obtain ⟨hg, _, _, _, _, _, _, p7, p8⟩ := jcheck_ok hc
     have hsl := sortM_len ls.flatten
     have e1 : ilt 0 (nlen (len x.In)) = !(ieq (nlen (len x.In)) 0) := by
      show ilt 0 (x.In.length : Int) = !(ieq (x.In.length : Int) 0)
      cases x.In.length with
      | zero => rfl
      | succ n => rw [ilt_iff.2 (by omega), ieq_f.2 (by omega)]; rfl
     have ap1 : apok 0 (len x.Vals) 8 = true := decide_eq_true ⟨by show 0 + x.Vals.length ≤ _; omega, by show (0 + x.Vals.length) * 8 ≤ _; omega⟩
     have ap2 : apok 0 (len x.Rest) 1 = true := decide_eq_true ⟨by show 0 + x.Rest.length ≤ _; omega, by show (0 + x.Rest.length) * 1 ≤ _; omega⟩
     have hso : ∀ m ∈ sortM ls.flatten, i64 m.V := fun m hm => hs m ((sortM_perm _).mem_iff.1 hm)
     simp only [cond_true, e1, F98_spec ls (show ls.length < 10000 by omega) (show ls.length < K by omega) h3 h4, Option.bind_some]
     rw [F62_loop g j x _ p7 p8 p1 (by omega) (by omega), F95_spec j.Prog (sortM ls.flatten) hso (by omega) (by omega), sumU_bind, F99, ap1, ap2, takeOk_perm (sortM_perm ls.flatten), boxS_perm (sortM_perm ls.flatten)]
     cases ieq (nlen (len x.In)) 0
     · rfl
     · cases takeOk g.N j.Parts x.P ls.flatten
       · rfl
       · rw [takeB]
         simp only [cond_true, Option.bind_some, Bool.not_true, cond_false]
         cases ieq (boxS j.Prog ls.flatten).2 0 <;> rfl
theorem u_add {a b : Int} (h : 0 ≤ a + b) (h2 : a + b < 18446744073709551616) : wadd .u64 a b = a + b := by
 show IntKind.u64.wrap (a + b) = _
 simp [IntKind.wrap, IntKind.signed, IntKind.bits]; omega
theorem u_mul {a b : Int} (h : 0 ≤ a * b) (h2 : a * b < 18446744073709551616) : wmul .u64 a b = a * b := by
 show IntKind.u64.wrap (a * b) = _
 simp only [IntKind.wrap, IntKind.signed, IntKind.bits, Bool.false_and]
 generalize a * b = t at *
 simp; omega
theorem u_quo {a : Int} (h : 0 ≤ a) (h2 : a < 18446744073709551616) : wquo .u64 a 4294967296 = a / 4294967296 := by
 show IntKind.u64.wrap (a.tdiv 4294967296) = _
 rw [Int.tdiv_eq_ediv_of_nonneg h]
 simp [IntKind.wrap, IntKind.signed, IntKind.bits]; omega
theorem u_rem {a : Int} (h : 0 ≤ a) : wrem a 4294967296 = a % 4294967296 := by
 show a.tmod 4294967296 = _
 exact Int.tmod_eq_emod_of_nonneg h
theorem F115_spec (K : Nat) {x b : Int} (hx : 0 ≤ x) (hx2 : x ≤ 9223372036854775808) (hb : 1 ≤ b) (hb2 : b ≤ 1000) :
 ∃ hi lo, F115 K x b = some (GA193.mk hi lo) ∧ hi * 18446744073709551616 + lo = x * b ∧ 0 ≤ lo ∧ lo < 18446744073709551616 ∧ 0 ≤ hi := by
 obtain ⟨u, hu⟩ : ∃ u, x / 4294967296 = u := ⟨_, rfl⟩
 obtain ⟨v, hv⟩ : ∃ v, x % 4294967296 = v := ⟨_, rfl⟩
 have hu0 : 0 ≤ u ∧ u ≤ 2147483648 := by omega
 have hv0 : 0 ≤ v ∧ v < 4294967296 := by omega
 have hxu : x = u * 4294967296 + v := by omega
 obtain ⟨P, hP⟩ : ∃ P, u * b = P := ⟨_, rfl⟩
 obtain ⟨Q, hQ⟩ : ∃ Q, v * b = Q := ⟨_, rfl⟩
 have hP0 : 0 ≤ P := hP ▸ Int.mul_nonneg hu0.1 (by omega)
 have hQ0 : 0 ≤ Q := hQ ▸ Int.mul_nonneg hv0.1 (by omega)
 have hP1 : P ≤ 2147483648 * 1000 := hP ▸ Int.mul_le_mul hu0.2 hb2 (by omega) (by omega)
 have hQ1 : Q ≤ 4294967296 * 1000 := hQ ▸ Int.mul_le_mul (by omega) hb2 (by omega) (by omega)
 have hxb : x * b = P * 4294967296 + Q := by rw [hxu, Int.add_mul, hQ, ← hP, Int.mul_right_comm]
 have a1 : wquo .u64 x 4294967296 = u := by rw [u_quo hx (by omega), hu]
 have a2 : wquo .u64 b 4294967296 = 0 := by rw [u_quo (by omega) (by omega)]; omega
 have a3 : wrem x 4294967296 = v := by rw [u_rem hx, hv]
 have a4 : wrem b 4294967296 = b := by rw [u_rem (by omega)]; omega
 have b1 : wmul .u64 u 0 = 0 := by rw [u_mul (by omega) (by omega)]; omega
 have b2 : wmul .u64 u b = P := by rw [u_mul (by omega) (by omega), hP]
 have b3 : wmul .u64 v 0 = 0 := by rw [u_mul (by omega) (by omega)]; omega
 have b4 : wmul .u64 v b = Q := by rw [u_mul (by omega) (by omega), hQ]
 have c1 : wquo .u64 P 4294967296 = P / 4294967296 := u_quo hP0 (by omega)
 have c2 : wquo .u64 0 4294967296 = 0 := by rw [u_quo (by omega) (by omega)]; omega
 have c3 : wquo .u64 Q 4294967296 = Q / 4294967296 := u_quo hQ0 (by omega)
 have c4 : wrem P 4294967296 = P % 4294967296 := u_rem hP0
 have c5 : wrem 0 4294967296 = 0 := by rw [u_rem (by omega)]; omega
 have c6 : wrem Q 4294967296 = Q % 4294967296 := u_rem hQ0
 have d1 : wadd .u64 (Q / 4294967296) (P % 4294967296) = Q / 4294967296 + P % 4294967296 := u_add (by omega) (by omega)
 have d2 : wadd .u64 (Q / 4294967296 + P % 4294967296) 0 = Q / 4294967296 + P % 4294967296 := by rw [u_add (by omega) (by omega)]; omega
 have d3 : wquo .u64 (Q / 4294967296 + P % 4294967296) 4294967296 = (Q / 4294967296 + P % 4294967296) / 4294967296 := u_quo (by omega) (by omega)
 have d4 : wrem (Q / 4294967296 + P % 4294967296) 4294967296 = (Q / 4294967296 + P % 4294967296) % 4294967296 := u_rem (by omega)
 have d5 : wadd .u64 0 (P / 4294967296) = P / 4294967296 := by rw [u_add (by omega) (by omega)]; omega
 have d6 : wadd .u64 (P / 4294967296) 0 = P / 4294967296 := by rw [u_add (by omega) (by omega)]; omega
 have d7 : wadd .u64 (P / 4294967296) ((Q / 4294967296 + P % 4294967296) / 4294967296) = P / 4294967296 + (Q / 4294967296 + P % 4294967296) / 4294967296 := u_add (by omega) (by omega)
 have d8 : wmul .u64 ((Q / 4294967296 + P % 4294967296) % 4294967296) 4294967296 = (Q / 4294967296 + P % 4294967296) % 4294967296 * 4294967296 := u_mul (by omega) (by omega)
 have d9 : wadd .u64 ((Q / 4294967296 + P % 4294967296) % 4294967296 * 4294967296) (Q % 4294967296) = (Q / 4294967296 + P % 4294967296) % 4294967296 * 4294967296 + Q % 4294967296 := u_add (by omega) (by omega)
 refine ⟨P / 4294967296 + (Q / 4294967296 + P % 4294967296) / 4294967296, (Q / 4294967296 + P % 4294967296) % 4294967296 * 4294967296 + Q % 4294967296, ?_, ?_, by omega, by omega, by omega⟩
 · rw [F115, a1, a2, a3, a4, b1, b2, b3, b4, c1, c2, c3, c4, c5, c6, d1, d2, d3, d4, d5, d6, d7, d8, d9]
 · rw [hxb]; omega
theorem F116_spec (K : Nat) {a : Int} (ha : i64 a) : F116 K a = some (bif ilt a 0 then -a else a) := by
 unfold i64 at ha
 rw [F116]
 cases h : ilt a 0
 · have := ilt_f.1 h
   have e : wconv .u64 a = a := by
    show IntKind.u64.wrap a = _
    simp [IntKind.wrap, IntKind.signed, IntKind.bits]; omega
   rw [e]; rfl
 · have := ilt_iff.1 h
   have e1 : wadd .i64 a 1 = a + 1 := wadd_i64 (by unfold i64; omega)
   have e2 : wneg .i64 (a + 1) = -(a + 1) := by
    show IntKind.i64.wrap (0 - (a + 1)) = _
    rw [IntKind.wrap_i64]; omega
   have e3 : wconv .u64 (-(a + 1)) = -(a + 1) := by
    show IntKind.u64.wrap _ = _
    simp [IntKind.wrap, IntKind.signed, IntKind.bits]; omega
   have e4 : wadd .u64 (-(a + 1)) 1 = -a := by rw [u_add (by omega) (by omega)]; omega
   rw [e1, e2, e3, e4]; rfl
def mulS (a b : Int) : Int × Bool := bif fitsB (a * b) then (a * b, true) else (0, false)
theorem F114_spec (K : Nat) {a b : Int} (ha : i64 a) (hb : 1 ≤ b) (hb2 : b ≤ 1000) : F114 K a b = some (mulS a b) := by
 have hb0 : ilt b 0 = false := ilt_f.2 (by omega)
 have h175 : F116 K b = some b := by rw [F116_spec K (by unfold i64; omega), hb0]; rfl
 have hconv : ∀ n : Int, 0 ≤ n → n ≤ 9223372036854775807 → wconv .i64 n = n := fun n h1 h2 => by
  show IntKind.i64.wrap n = _
  rw [IntKind.wrap_i64]; omega
 rw [F114, F116_spec K ha, h175, mulS, hb0]
 unfold i64 at ha
 cases h : ilt a 0
 · have hn := ilt_f.1 h
   obtain ⟨hi, lo, e, h1, h2, h3, h4⟩ := F115_spec K hn (by omega) hb hb2
   simp only [Option.bind_some, cond_false, e]
   cases c1 : ilt 0 hi
   · have c1' := ilt_f.1 c1
     cases c2 : ilt 9223372036854775808 lo
     · have c2' := ilt_f.1 c2
       cases c3 : ieq lo 9223372036854775808
       · have c3' := ieq_f.1 c3
         have hf : fitsB (a * b) = true := fitsB_iff.2 (by unfold i64; omega)
         have : lo = a * b := by omega
         rw [hf, hconv lo h2 (by omega), this]; rfl
       · have c3' := ieq_iff.1 c3
         have hf : fitsB (a * b) = false := fitsB_f.2 (by omega)
         rw [hf]; rfl
     · have c2' := ilt_iff.1 c2
       have hf : fitsB (a * b) = false := fitsB_f.2 (by omega)
       rw [hf]; rfl
   · have c1' := ilt_iff.1 c1
     have hf : fitsB (a * b) = false := fitsB_f.2 (by omega)
     rw [hf]; rfl
 · have hn := ilt_iff.1 h
   obtain ⟨hi, lo, e, h1, h2, h3, h4⟩ := F115_spec K (x := -a) (by omega) (by omega) hb hb2
   rw [Int.neg_mul] at h1
   simp only [Option.bind_some, cond_true, e]
   cases c1 : ilt 0 hi
   · have c1' := ilt_f.1 c1
     cases c2 : ilt 9223372036854775808 lo
     · have c2' := ilt_f.1 c2
       cases c3 : ieq lo 9223372036854775808
       · have c3' := ieq_f.1 c3
         have hf : fitsB (a * b) = true := fitsB_iff.2 (by unfold i64; omega)
         have hw : wneg .i64 lo = a * b := by
          show IntKind.i64.wrap (0 - lo) = _
          rw [IntKind.wrap_i64]; omega
         rw [hf, hconv lo h2 (by omega), hw]; rfl
       · have c3' := ieq_iff.1 c3
         have hf : fitsB (a * b) = true := fitsB_iff.2 (by unfold i64; omega)
         have : a * b = -9223372036854775808 := by omega
         rw [hf, this]; rfl
     · have c2' := ilt_iff.1 c2
       have hf : fitsB (a * b) = false := fitsB_f.2 (by omega)
       rw [hf]; rfl
   · have c1' := ilt_iff.1 c1
     have hf : fitsB (a * b) = false := fitsB_f.2 (by omega)
     rw [hf]; rfl
theorem tdiv_i64 {a d : Int} (ha : i64 a) (hd : 1 ≤ d) : wquo .i64 a d = a.tdiv d ∧ i64 (a.tdiv d) := by
 unfold i64 at ha
 have h1 : (a.tdiv d).natAbs ≤ a.natAbs := Int.natAbs_tdiv_le_natAbs a d
 have h2 : -9223372036854775808 ≤ a.tdiv d ∧ a.tdiv d ≤ 9223372036854775808 := by omega
 have h3 : 0 ≤ a → 0 ≤ a.tdiv d := fun h => Int.tdiv_nonneg h (by omega)
 have h4 : a ≤ 0 → a.tdiv d ≤ 0 := fun h => by
  have := Int.tdiv_nonneg (show 0 ≤ -a by omega) (show 0 ≤ d by omega)
  rw [Int.neg_tdiv] at this; omega
 have h5 : i64 (a.tdiv d) := by
  unfold i64
  rcases Int.le_total 0 a with h | h
  · have := h3 h; omega
  · have := h4 h; omega
 refine ⟨?_, h5⟩
 unfold i64 at h5
 show IntKind.i64.wrap (a.tdiv d) = _
 rw [IntKind.wrap_i64]; omega
theorem F109_spec (K : Nat) {a b : Int} (ha : i64 a) (hb : 1 ≤ b) (hb2 : b ≤ 1000) : F109 K a b = some (mulS a b) := by
 unfold i64 at ha
 rw [F109, mulS, ieq_f.2 (by omega : b ≠ 0), ieq_f.2 (by omega : b ≠ -1)]
 cases h0 : ieq a 0
 · have h0' := ieq_f.1 h0
   cases h1 : ieq a (-1)
   · have hz : izero b = false := decide_eq_false (by omega)
     simp only [cond_false, hz]
     obtain ⟨t, ht⟩ : ∃ t, a * b = t := ⟨_, rfl⟩
     obtain ⟨p, hp⟩ : ∃ p, wmul .i64 a b = p := ⟨_, rfl⟩
     have hp' : p = if 9223372036854775808 ≤ t % 18446744073709551616 then t % 18446744073709551616 - 18446744073709551616 else t % 18446744073709551616 := by
      rw [← hp, ← ht]
      show IntKind.i64.wrap (a * b) = _
      rw [IntKind.wrap_i64, ht]
      split <;> omega
     have hpr : -9223372036854775808 ≤ p ∧ p ≤ 9223372036854775807 := by rw [hp']; split <;> omega
     obtain ⟨q, hq⟩ : ∃ q, p.tdiv b = q := ⟨_, rfl⟩
     obtain ⟨r, hr⟩ : ∃ r, p.tmod b = r := ⟨_, rfl⟩
     have hdiv : b * q + r = p := by rw [← hq, ← hr]; exact Int.mul_tdiv_add_tmod p b
     have hrb : -1000 < r ∧ r < 1000 := by
      have h1 := Int.tmod_lt_of_pos p (show 0 < b by omega)
      have h2 := Int.lt_tmod_of_pos p (show 0 < b by omega)
      omega
     have hqr : -9223372036854775808 ≤ q ∧ q ≤ 9223372036854775807 := by
      have : i64 (p.tdiv b) := (tdiv_i64 (show i64 p from hpr) hb).2
      unfold i64 at this
      rw [hq] at this; exact this
     have hw : wquo .i64 p b = q := by rw [(tdiv_i64 (show i64 p from hpr) hb).1, hq]
     rw [hp, hw, ht]
     cases hf : fitsB t
     · have hf' := fitsB_f.1 hf
       have hne : ieq q a = false := ieq_f.2 fun hc => by
        have hba : b * q = t := by rw [hc, Int.mul_comm]; exact ht
        rw [hba] at hdiv
        have := hp'
        split at this <;> omega
       rw [hne]; rfl
     · have hf' := fitsB_iff.1 hf
       unfold i64 at hf'
       have hpt : p = t := by rw [hp']; split <;> omega
       have hqa : q = a := by
        rw [← hq, hpt, ← ht]
        exact Int.mul_tdiv_cancel a (by omega)
       rw [hqa, ieq_refl, hpt]; rfl
   · have h1' := ieq_iff.1 h1
     subst h1'
     have e1 : ieq (-1) (-9223372036854775808) = false := rfl
     have e2 : ieq b (-9223372036854775808) = false := ieq_f.2 (by omega)
     have e3 : fitsB (-1 * b) = true := fitsB_iff.2 (by unfold i64; omega)
     have e4 : wmul .i64 (-1) b = -1 * b := wmul_ok (by unfold i64; omega)
     rw [e1, e2, e3, e4]; rfl
 · have h0' := ieq_iff.1 h0
   subst h0'
   have e3 : fitsB (0 * b) = true := fitsB_iff.2 (by unfold i64; omega)
   rw [e3, Int.zero_mul]; rfl
def ratioS (v n d : Int) : Int × Bool := bif ilt d 1 then (0, false) else bif (mulS v n).2 then ((mulS v n).1.tdiv d, true) else (0, false)
theorem mulS_i64 {a b : Int} : i64 (mulS a b).1 := by
 rw [mulS]
 cases h : fitsB (a * b)
 · unfold i64; simp
 · exact fitsB_iff.1 h
theorem ratioS_i64 {v n d : Int} : i64 (ratioS v n d).1 := by
 have h0 : i64 0 := by unfold i64; omega
 rw [ratioS]
 cases hd : ilt d 1
 · cases (mulS v n).2
   · exact h0
   · exact (tdiv_i64 mulS_i64 (ilt_f.1 hd)).2
 · exact h0
theorem F111_spec (K : Nat) {v n : Int} (d : Int) (hv : i64 v) (hn : 1 ≤ n) (hn2 : n ≤ 1000) : F111 K v n d = some (ratioS v n d) := by
 rw [F111, F114_spec K hv hn hn2, Option.bind_some, ratioS]
 cases hd : ilt d 1
 · have hd' := ilt_f.1 hd
   have hz : izero d = false := decide_eq_false (by omega)
   rw [(tdiv_i64 (mulS_i64 (a := v) (b := n)) hd').1, hz]
   cases (mulS v n).2 <;> rfl
 · cases (mulS v n).2 <;> rfl
theorem F101_spec (K : Nat) {v n : Int} (d : Int) (hv : i64 v) (hn : 1 ≤ n) (hn2 : n ≤ 1000) : F101 K v n d = some (ratioS v n d) := by
 rw [F101, F109_spec K hv hn hn2, ratioS]
 cases hd : ilt d 1
 · have hd' := ilt_f.1 hd
   have hz : izero d = false := decide_eq_false (by omega)
   rw [cond_false, cond_false, Option.bind_some, (tdiv_i64 (mulS_i64 (a := v) (b := n)) hd').1, hz]
   cases (mulS v n).2 <;> rfl
 · rfl
def sumS (got : Int) : Int × Bool := bif (ratioS got 85 100).2 then addS 150000 (ratioS got 85 100).1 else (0, false)
theorem addS_i64 {a b : Int} : i64 (addS a b).1 := by
 rw [addS]
 cases h : fitsB (a + b)
 · unfold i64; simp
 · exact fitsB_iff.1 h
theorem sumS_i64 {got : Int} : i64 (sumS got).1 := by
 rw [sumS]
 cases (ratioS got 85 100).2
 · unfold i64; simp
 · exact addS_i64
def outs (g : GGraph) (v : Int) : List GEdge := bif ieq (gcheck g) 0 then g.Edges.filter (fun e => ieq e.From v) else []
theorem out_go (l : List GEdge) (v : Int) : ∀ (s : List GEdge), s.length + l.length ≤ 80 →
 goL (fun x (s : List GEdge) c => bif (ieq x.From v) then (bif (apok (len s) 1 24) then c (appL s [x]) else none) else c s) (fun s => some s) l s = some (s ++ l.filter (fun e => ieq e.From v)) := by
 induction l with
 | nil => intro s _; simp [goL]
 | cons x l ih =>
  intro s hs
  simp only [List.length_cons] at hs
  rw [goL]
  cases hx : ieq x.From v
  · rw [cond_false, ih s (by omega), List.filter_cons, hx]; rfl
  · have ha : apok (len s) 1 24 = true := decide_eq_true ⟨by show s.length + 1 ≤ _; omega, by show (s.length + 1) * 24 ≤ _; omega⟩
    rw [cond_true, ha, cond_true, ih _ (by simp [appL]; omega), List.filter_cons, hx]
    simp [appL]
theorem F104_spec {K : Nat} (hK : 100 ≤ K) (g : GGraph) (v : Int) : F104 K g v = some (outs g v) := by
 rw [F104, F56_spec hK, Option.bind_some, outs]
 cases hc : ieq (gcheck g) 0
 · rfl
 · obtain ⟨h1, h2, h3, h4⟩ := gcheck_ok hc
   have e : F104_l0_0 K g v K [] 0 = _ := scanL (l := g.Edges) (L := fun k s i => F104_l0_0 K g v k s i) (fun x (s : List GEdge) c => bif (ieq x.From v) then (bif (apok (len s) 1 24) then c (appL s [x]) else none) else c s) (fun s => some s) (fun k s i _ => rfl) (by omega) (by omega) []
   rw [cond_true, cond_true, e, out_go _ _ _ (by simpa using h3)]; rfl
theorem outs_len {g : GGraph} {v : Int} : (outs g v).length ≤ 80 := by
 rw [outs]
 cases hc : ieq (gcheck g) 0
 · simp
 · obtain ⟨h1, h2, h3, h4⟩ := gcheck_ok hc
   exact Nat.le_trans (List.length_filter_le _ _) h3
def sendS (p val : Int) (e : GEdge) (many : Int) : Int × Bool := bif ieq p 1 then addS val e.W else bif ieq p 3 then addS val 1 else bif ieq p 5 then ratioS val 1 many else (val, true)
def sendA (p val many : Int) : List GEdge → List GMsg → Option (List GMsg)
 | [], s => some s
 | e :: l, s => bif (sendS p val e many).2 then sendA p val many l (s ++ [GMsg.mk e.To (sendS p val e many).1]) else none
def sumO {α : Type} : Option α → Unit ⊕ α
 | none => .inl ()
 | some s => .inr s
def sendO (rest : Bool) (val : Int) : Option (List GMsg) → Int × List GMsg × Bool × Int
 | none => (0, [], false, 8)
 | some s => (val, s, rest, 0)
theorem sum_elim (rest : Bool) (val : Int) (o : Option (List GMsg)) : (some (sumO o)).bind (fun y => Sum.elim (fun w => some ((0, ([], (false, 8))) : Int × List GMsg × Bool × Int)) (fun w => some (val, (w, (rest, 0)))) y) = some (sendO rest val o) := by
 cases o <;> rfl
theorem sum_elim' (rest : Bool) (val : Int) (o : Option (List GMsg)) : Sum.elim (fun w => some ((0, ([], (false, 8))) : Int × List GMsg × Bool × Int)) (fun w => some (val, (w, (rest, 0)))) (sumO o) = some (sendO rest val o) := by
 cases o <;> rfl
theorem send_go (p val many : Int) (f : GEdge → Option (Int × Bool)) (l : List GEdge) (hf : ∀ e ∈ l, f e = some (sendS p val e many)) : ∀ (s : List GMsg), s.length + l.length ≤ 80 →
 goL (fun e (s : List GMsg) c => (f e).bind fun r => bif r.2 then (bif (apok (len s) 1 16) then c (appL s [(GMsg.mk e.To r.1)]) else none) else some (.inl ())) (fun s => some (.inr s)) l s = some (sumO (sendA p val many l s)) := by
 induction l with
 | nil => intro s _; rfl
 | cons x l ih =>
  intro s hs
  simp only [List.length_cons] at hs
  rw [goL, hf x List.mem_cons_self, Option.bind_some, sendA]
  cases (sendS p val x many).2
  · rfl
  · have ha : apok (len s) 1 16 = true := decide_eq_true ⟨by show s.length + 1 ≤ _; omega, by show (s.length + 1) * 16 ≤ _; omega⟩
    rw [cond_true, ha, cond_true, ih (fun e he => hf e (List.mem_cons_of_mem _ he)) _ (by simp [appL]; omega), cond_true]; rfl
theorem outs_W {g : GGraph} {v : Int} {e : GEdge} (h : e ∈ outs g v) : 0 ≤ e.W ∧ e.W ≤ 4611686018427387904 := by
 rw [outs] at h
 cases hc : ieq (gcheck g) 0
 · rw [hc] at h; cases h
 · obtain ⟨h1, h2, h3, h4⟩ := gcheck_ok hc
   rw [hc] at h
   have := badE_ok (gchk_mem h4 e (List.mem_filter.1 h).1)
   omega
theorem F83_spec (K : Nat) {val : Int} {e : GEdge} (many : Int) (hv : i64 val) (he : i64 e.W) : F83 K val e = some (sendS 1 val e many) := by
 rw [F83, F84_spec K hv he]; rfl
theorem F85_spec (K : Nat) {val : Int} (e : GEdge) (many : Int) (hv : i64 val) : F85 K val e = some (sendS 3 val e many) := by
 rw [F85, F84_spec K hv (by unfold i64; omega)]; rfl
theorem F76_spec (K : Nat) (p : Int) {val many : Int} {e : GEdge} (hv : i64 val) (he : i64 e.W) : F76 K p val e many = some (sendS p val e many) := by
 rw [F76, sendS, F102_spec K hv he, F102_spec K hv (show i64 1 by unfold i64; omega), F101_spec K many hv (show (1 : Int) ≤ 1 by omega) (show (1 : Int) ≤ 1000 by omega)]
 cases ieq p 1 <;> cases ieq p 3 <;> cases ieq p 5 <;> rfl
def manyO (g : GGraph) (v : Int) : Int := nlen (len (outs g v))
section loops
variable {K : Nat} (hK : 100 ≤ K) (g : GGraph) (v : Int) {val : Int} (hv : i64 val)
include hK hv
theorem loop99_0 (b : Bool) : F93_l0_0 K val b (outs g v) K [] 0 = some (sumO (sendA 1 val (manyO g v) (outs g v) [])) := by
 have hl := outs_len (g := g) (v := v)
 have e := scanL (l := outs g v) (L := fun k s i => F93_l0_0 K val b (outs g v) k s i) (fun e (s : List GMsg) c => (F83 K val e).bind fun r => bif r.2 then (bif (apok (len s) 1 16) then c (appL s [(GMsg.mk e.To r.1)]) else none) else some (.inl ())) (fun s => some (.inr s)) (fun k s i _ => rfl) (K := K) (by omega) (by omega) []
 exact e.trans (send_go 1 val (manyO g v) (F83 K val) _ (fun e he => F83_spec K _ hv (by have := outs_W he; unfold i64; omega)) [] (by simpa using hl))
theorem loop99_1 (b : Bool) : F93_l0_1 K val b (outs g v) K [] 0 = some (sumO (sendA 3 val (manyO g v) (outs g v) [])) := by
 have hl := outs_len (g := g) (v := v)
 have e := scanL (l := outs g v) (L := fun k s i => F93_l0_1 K val b (outs g v) k s i) (fun e (s : List GMsg) c => (F85 K val e).bind fun r => bif r.2 then (bif (apok (len s) 1 16) then c (appL s [(GMsg.mk e.To r.1)]) else none) else some (.inl ())) (fun s => some (.inr s)) (fun k s i _ => rfl) (K := K) (by omega) (by omega) []
 exact e.trans (send_go 3 val (manyO g v) (F85 K val) _ (fun e he => F85_spec K e _ hv) [] (by simpa using hl))
omit hv in
theorem loop99_2 (val : Int) (b : Bool) : F93_l0_2 K val b (outs g v) K [] 0 = some (sumO (sendA 2 val (manyO g v) (outs g v) [])) := by
 have hl := outs_len (g := g) (v := v)
 have e := scanL (l := outs g v) (L := fun k s i => F93_l0_2 K val b (outs g v) k s i) (fun e (s : List GMsg) c => (F87 K val e).bind fun r => bif r.2 then (bif (apok (len s) 1 16) then c (appL s [(GMsg.mk e.To r.1)]) else none) else some (.inl ())) (fun s => some (.inr s)) (fun k s i _ => rfl) (K := K) (by omega) (by omega) []
 exact e.trans (send_go 2 val (manyO g v) (F87 K val) _ (fun e he => rfl) [] (by simpa using hl))
omit hv in
theorem loop99_3 (val : Int) (b : Bool) : F93_l0_3 K val b (outs g v) K [] 0 = some (sumO (sendA 4 val (manyO g v) (outs g v) [])) := by
 have hl := outs_len (g := g) (v := v)
 have e := scanL (l := outs g v) (L := fun k s i => F93_l0_3 K val b (outs g v) k s i) (fun e (s : List GMsg) c => (F87 K val e).bind fun r => bif r.2 then (bif (apok (len s) 1 16) then c (appL s [(GMsg.mk e.To r.1)]) else none) else some (.inl ())) (fun s => some (.inr s)) (fun k s i _ => rfl) (K := K) (by omega) (by omega) []
 exact e.trans (send_go 4 val (manyO g v) (F87 K val) _ (fun e he => rfl) [] (by simpa using hl))
theorem loop146 : F105_l0_0 K (outs g v) val K [] 0 = some (sumO (sendA 5 val (manyO g v) (outs g v) [])) := by
 have hl := outs_len (g := g) (v := v)
 have e := scanL (l := outs g v) (L := fun k s i => F105_l0_0 K (outs g v) val k s i) (fun e (s : List GMsg) c => (F111 K val 1 (nlen (len (outs g v)))).bind fun r => bif r.2 then (bif (apok (len s) 1 16) then c (appL s [(GMsg.mk e.To r.1)]) else none) else some (.inl ())) (fun s => some (.inr s)) (fun k s i _ => rfl) (K := K) (by omega) (by omega) []
 exact e.trans (send_go 5 val (manyO g v) (fun _ => F111 K val 1 (nlen (len (outs g v)))) _ (fun e he => F111_spec K _ hv (by omega) (by omega)) [] (by simpa using hl))
theorem loop100_1 (p a b c : Int) : F50_l0_1 K val p a b c (outs g v) K [] 0 = some (sumO (sendA p val (manyO g v) (outs g v) [])) := by
 have hl := outs_len (g := g) (v := v)
 have e := scanL (l := outs g v) (L := fun k s i => F50_l0_1 K val p a b c (outs g v) k s i) (fun e (s : List GMsg) c => (F76 K p val e (nlen (len (outs g v)))).bind fun r => bif r.2 then (bif (apok (len s) 1 16) then c (appL s [(GMsg.mk e.To r.1)]) else none) else some (.inl ())) (fun s => some (.inr s)) (fun k s i _ => rfl) (K := K) (by omega) (by omega) []
 exact e.trans (send_go p val (manyO g v) (fun e => F76 K p val e (nlen (len (outs g v)))) _ (fun e he => F76_spec K p hv (by have := outs_W he; unfold i64; omega)) [] (by simpa using hl))
theorem loop100_0 (p a b c : Int) (m : Bool) : F50_l0_0 K val p a b c m (outs g v) K [] 0 = some (bif m then sumO (sendA p val (manyO g v) (outs g v) []) else .inr []) := by
 have hl := outs_len (g := g) (v := v)
 cases m
 · obtain ⟨k, rfl⟩ : ∃ k, K = k + 1 := ⟨K - 1, by omega⟩
   rw [F50_l0_0]
   cases ilt 0 (nlen (len (outs g v))) <;> rfl
 · have e := scanL (l := outs g v) (L := fun k s i => F50_l0_0 K val p a b c true (outs g v) k s i) (fun e (s : List GMsg) c => (F76 K p val e (nlen (len (outs g v)))).bind fun r => bif r.2 then (bif (apok (len s) 1 16) then c (appL s [(GMsg.mk e.To r.1)]) else none) else some (.inl ())) (fun s => some (.inr s)) (fun k s i _ => rfl) (K := K) (by omega) (by omega) []
   exact e.trans (send_go p val (manyO g v) (fun e => F76 K p val e (nlen (len (outs g v)))) _ (fun e he => F76_spec K p hv (by have := outs_W he; unfold i64; omega)) [] (by simpa using hl))
theorem loop100_2 (p a b c : Int) (m : Bool) : F50_l0_2 K val p a b c m (outs g v) K [] 0 = some (bif m then sumO (sendA p val (manyO g v) (outs g v) []) else .inr []) := by
 have hl := outs_len (g := g) (v := v)
 cases m
 · obtain ⟨k, rfl⟩ : ∃ k, K = k + 1 := ⟨K - 1, by omega⟩
   rw [F50_l0_2]
   cases ilt 0 (nlen (len (outs g v))) <;> rfl
 · have e := scanL (l := outs g v) (L := fun k s i => F50_l0_2 K val p a b c true (outs g v) k s i) (fun e (s : List GMsg) c => (F76 K p val e (nlen (len (outs g v)))).bind fun r => bif r.2 then (bif (apok (len s) 1 16) then c (appL s [(GMsg.mk e.To r.1)]) else none) else some (.inl ())) (fun s => some (.inr s)) (fun k s i _ => rfl) (K := K) (by omega) (by omega) []
   exact e.trans (send_go p val (manyO g v) (fun e => F76 K p val e (nlen (len (outs g v)))) _ (fun e he => F76_spec K p hv (by have := outs_W he; unfold i64; omega)) [] (by simpa using hl))
omit hv in
theorem loop100_3 (val p a b c : Int) : F50_l0_3 K val p a b c (outs g v) K [] 0 = some (.inl []) := by
 obtain ⟨k, rfl⟩ : ∃ k, K = k + 1 := ⟨K - 1, by omega⟩
 rw [F50_l0_3, ieq_refl]
 cases ilt 0 (nlen (len (outs g v))) <;> rfl
end loops
def rankW (step val got : Int) (sm : Bool) : Int × Bool := bif ilt 0 step then sumS (bif sm then got else 0) else (val, true)
def rankS (step : Int) (w : Int × Bool) (many : Int) (l : List GEdge) : Int × List GMsg × Bool × Int :=
 bif w.2 then (bif ile 10 step then (w.1, [], true, 0) else sendO false w.1 (sendA 5 w.1 many l [])) else (0, [], false, 8)
def turnV (p val got : Int) (sm : Bool) : Int := bif sm then (foldS p val got).1 else val
def turnM (p src step v val w : Int) : Bool := bif ieq step 0 && (bif ieq p 1 || ieq p 3 then ieq v src else true) then true else ine w val
def moveS (p : Int) (m : Bool) (w many : Int) (l : List GEdge) : Int × List GMsg × Bool × Int :=
 bif m then sendO true w (sendA p w many l []) else (w, [], true, 0)
def turnS (g : GGraph) (j : GJob) (step v val got : Int) (sm : Bool) : Int × List GMsg × Bool × Int :=
 bif ieq (jcheck g j) 0 then
  (bif ilt v 0 then (0, [], false, 4) else bif ile g.N v then (0, [], false, 4)
   else bif ilt step 0 then (0, [], false, 1) else bif ilt 40 step then (0, [], false, 1)
   else bif ieq j.Prog 5 then rankS step (rankW step val got sm) (manyO g v) (outs g v)
   else moveS j.Prog (turnM j.Prog j.Source step v val (turnV j.Prog val got sm)) (turnV j.Prog val got sm) (manyO g v) (outs g v))
 else (0, [], false, jcheck g j)
theorem F105_spec {K : Nat} (hK : 100 ≤ K) (g : GGraph) (v step : Int) {val got : Int} (hv : i64 val) (hg : i64 got) : F105 K (outs g v) step val got = some (rankS step (rankW step val got true) (manyO g v) (outs g v)) := by
 rw [F105, F111_spec K 100 hg (by omega) (by omega), Option.bind_some, F84_spec K (by unfold i64; omega) ratioS_i64, rankW, rankS]
 cases hs : ilt 0 step
 · rw [loop146 hK g v hv, sum_elim]
   cases ile 10 step <;> rfl
 · rw [cond_true, cond_true, Option.bind_some, cond_true, sumS]
   cases (ratioS got 85 100).2
   · rfl
   · cases h2 : (addS 150000 (ratioS got 85 100).1).2
     · rw [cond_true, cond_true, h2]; rfl
     · rw [cond_true, cond_true, cond_true, h2, cond_true, loop146 hK g v addS_i64, sum_elim]
       cases ile 10 step <;> rfl
theorem F93_spec {K : Nat} (hK : 100 ≤ K) (g : GGraph) (j : GJob) (step v : Int) {val got : Int} (sm : Bool) (hv : i64 val) (hg : i64 got) : F93 K g j step v val got sm = some (turnS g j step v val got sm) := by
 rw [F93, F31_spec hK, Option.bind_some, turnS]
 cases hc : ieq (jcheck g j) 0
 · rfl
 · obtain ⟨hgc, p1, p2, p3, p4, p5, p6, p7, p8⟩ := jcheck_ok hc
   rw [cond_true, cond_true]
   cases h1 : ilt v 0
   · cases h2 : ile g.N v
     · cases h3 : ilt step 0
       · cases h4 : ilt 40 step
         · simp only [cond_false]
           rcases prog_cases j.Prog with q | q | q | q | q | q
           · have e5 : ieq 1 5 = false := rfl
             have e4 : ieq 1 4 = false := rfl
             have e1 : ieq 1 1 = true := rfl
             have e3 : ieq 1 3 = false := rfl
             have eb : pbad 1 = false := rfl
             rw [F104_spec hK, q, F143_1, turnM, turnV, foldS, e5, e4, e1, e3, eb, moveS]
             simp only [Option.bind_some, cond_true, cond_false, af_1_1, af_1_3, af_1_2, af_1_4, af_1_5, af_1_0, af_3_1, af_3_3, af_3_2, af_3_4, af_3_5, af_3_0, af_2_1, af_2_3, af_2_2, af_2_4, af_2_5, af_2_0, af_4_1, af_4_3, af_4_2, af_4_4, af_4_5, af_4_0, af_5_1, af_5_3, af_5_2, af_5_4, af_5_5, af_5_0, af_0_1, af_0_3, af_0_2, af_0_4, af_0_5, af_0_0, loop99_0 hK g v hv, loop99_0 hK g v hg, F82, sum_elim', Bool.or_true, Bool.true_or, Bool.or_false, Bool.and_true]
             cases sm
             · have : ine val val = false := ine_t (ieq_refl val)
               simp only [cond_false, this]
               cases ieq step 0 <;> cases ieq v j.Source <;> rfl
             · cases hb : ilt got val
               · have : ine val val = false := ine_t (ieq_refl val)
                 simp only [cond_true, cond_false, this]
                 cases ieq step 0 <;> cases ieq v j.Source <;> rfl
               · have : ine got val = true := ine_f (ieq_f.2 (by have := ilt_iff.1 hb; omega))
                 simp only [cond_true, cond_false, this]
                 cases ieq step 0 <;> cases ieq v j.Source <;> rfl
           · have e5 : ieq 2 5 = false := rfl
             have e4 : ieq 2 4 = false := rfl
             have e1 : ieq 2 1 = false := rfl
             have e3 : ieq 2 3 = false := rfl
             have eb : pbad 2 = false := rfl
             rw [F104_spec hK, q, F143_2, turnM, turnV, foldS, e5, e4, e1, e3, eb, moveS]
             simp only [Option.bind_some, cond_true, cond_false, af_1_1, af_1_3, af_1_2, af_1_4, af_1_5, af_1_0, af_3_1, af_3_3, af_3_2, af_3_4, af_3_5, af_3_0, af_2_1, af_2_3, af_2_2, af_2_4, af_2_5, af_2_0, af_4_1, af_4_3, af_4_2, af_4_4, af_4_5, af_4_0, af_5_1, af_5_3, af_5_2, af_5_4, af_5_5, af_5_0, af_0_1, af_0_3, af_0_2, af_0_4, af_0_5, af_0_0, loop99_2 hK g v val, loop99_2 hK g v got, F82, sum_elim', Bool.or_true, Bool.true_or, Bool.or_false, Bool.and_true]
             cases sm
             · have : ine val val = false := ine_t (ieq_refl val)
               simp only [cond_false, this]
               cases ieq step 0 <;> rfl
             · cases hb : ilt got val
               · have : ine val val = false := ine_t (ieq_refl val)
                 simp only [cond_true, cond_false, this]
                 cases ieq step 0 <;> rfl
               · have : ine got val = true := ine_f (ieq_f.2 (by have := ilt_iff.1 hb; omega))
                 simp only [cond_true, cond_false, this]
                 cases ieq step 0 <;> rfl
           · have e5 : ieq 3 5 = false := rfl
             have e4 : ieq 3 4 = false := rfl
             have e1 : ieq 3 1 = false := rfl
             have e3 : ieq 3 3 = true := rfl
             have eb : pbad 3 = false := rfl
             rw [F104_spec hK, q, F143_3, turnM, turnV, foldS, e5, e4, e1, e3, eb, moveS]
             simp only [Option.bind_some, cond_true, cond_false, af_1_1, af_1_3, af_1_2, af_1_4, af_1_5, af_1_0, af_3_1, af_3_3, af_3_2, af_3_4, af_3_5, af_3_0, af_2_1, af_2_3, af_2_2, af_2_4, af_2_5, af_2_0, af_4_1, af_4_3, af_4_2, af_4_4, af_4_5, af_4_0, af_5_1, af_5_3, af_5_2, af_5_4, af_5_5, af_5_0, af_0_1, af_0_3, af_0_2, af_0_4, af_0_5, af_0_0, loop99_1 hK g v hv, loop99_1 hK g v hg, F82, sum_elim', Bool.or_true, Bool.true_or, Bool.or_false, Bool.and_true]
             cases sm
             · have : ine val val = false := ine_t (ieq_refl val)
               simp only [cond_false, this]
               cases ieq step 0 <;> cases ieq v j.Source <;> rfl
             · cases hb : ilt got val
               · have : ine val val = false := ine_t (ieq_refl val)
                 simp only [cond_true, cond_false, this]
                 cases ieq step 0 <;> cases ieq v j.Source <;> rfl
               · have : ine got val = true := ine_f (ieq_f.2 (by have := ilt_iff.1 hb; omega))
                 simp only [cond_true, cond_false, this]
                 cases ieq step 0 <;> cases ieq v j.Source <;> rfl
           · have e5 : ieq 4 5 = false := rfl
             have e4 : ieq 4 4 = true := rfl
             have e1 : ieq 4 1 = false := rfl
             have e3 : ieq 4 3 = false := rfl
             have eb : pbad 4 = false := rfl
             rw [F104_spec hK, q, F143_4, turnM, turnV, foldS, e5, e4, e1, e3, eb, moveS]
             simp only [Option.bind_some, cond_true, cond_false, af_1_1, af_1_3, af_1_2, af_1_4, af_1_5, af_1_0, af_3_1, af_3_3, af_3_2, af_3_4, af_3_5, af_3_0, af_2_1, af_2_3, af_2_2, af_2_4, af_2_5, af_2_0, af_4_1, af_4_3, af_4_2, af_4_4, af_4_5, af_4_0, af_5_1, af_5_3, af_5_2, af_5_4, af_5_5, af_5_0, af_0_1, af_0_3, af_0_2, af_0_4, af_0_5, af_0_0, loop99_3 hK g v val, loop99_3 hK g v got, F89, igt, sum_elim', Bool.or_true, Bool.true_or, Bool.or_false, Bool.and_true]
             have hd : decide (got > val) = ilt val got := rfl
             rw [hd]
             cases sm
             · have : ine val val = false := ine_t (ieq_refl val)
               simp only [cond_false, this]
               cases ieq step 0 <;> rfl
             · cases hb : ilt val got
               · have : ine val val = false := ine_t (ieq_refl val)
                 simp only [cond_true, cond_false, this]
                 cases ieq step 0 <;> rfl
               · have : ine got val = true := ine_f (ieq_f.2 (by have := ilt_iff.1 hb; omega))
                 simp only [cond_true, cond_false, this]
                 cases ieq step 0 <;> rfl
           · have e5 : ieq 5 5 = true := rfl
             rw [F104_spec hK, q, F143_5, e5]
             simp only [Option.bind_some, cond_true, cond_false, af_1_1, af_1_3, af_1_2, af_1_4, af_1_5, af_1_0, af_3_1, af_3_3, af_3_2, af_3_4, af_3_5, af_3_0, af_2_1, af_2_3, af_2_2, af_2_4, af_2_5, af_2_0, af_4_1, af_4_3, af_4_2, af_4_4, af_4_5, af_4_0, af_5_1, af_5_3, af_5_2, af_5_4, af_5_5, af_5_0, af_0_1, af_0_3, af_0_2, af_0_4, af_0_5, af_0_0, F105_spec hK g v step hv hg, F105_spec hK g v step hv (show i64 0 by unfold i64; omega)]
             cases sm <;> rfl
           · omega
         · rfl
       · rfl
     · rfl
   · rfl
theorem sendA_To {p val many : Int} : ∀ {l : List GEdge} {s r : List GMsg}, sendA p val many l s = some r → r.map (·.To) = s.map (·.To) ++ l.map (·.To)
 | [], s, r, h => by injection h with h; subst h; simp
 | e :: l, s, r, h => by
  rw [sendA] at h
  cases hq : (sendS p val e many).2
  · rw [hq] at h; cases h
  · rw [hq, cond_true] at h
    rw [sendA_To h]; simp
theorem turn_out {g : GGraph} {j : GJob} {step v val got : Int} {sm : Bool} (h : ieq (turnS g j step v val got sm).2.2.2 0 = true) :
 (turnS g j step v val got sm).2.1 = [] ∨ ((turnS g j step v val got sm).2.1.map (·.To) = (outs g v).map (·.To)) := by
 have hs : ∀ (b : Bool) (w : Int) (p : Int), (sendO b w (sendA p w (manyO g v) (outs g v) [])).2.1 = [] ∨ (sendO b w (sendA p w (manyO g v) (outs g v) [])).2.1.map (·.To) = (outs g v).map (·.To) := fun b w p => by
  cases hq : sendA p w (manyO g v) (outs g v) []
  · left; rfl
  · right; have := sendA_To hq; simpa [sendO] using this
 rw [turnS]
 cases ieq (jcheck g j) 0
 · left; rfl
 · cases ilt v 0
   · cases ile g.N v
     · cases ilt step 0
       · cases ilt 40 step
         · simp only [cond_true, cond_false]
           cases ieq j.Prog 5
           · rw [cond_false, moveS]
             cases turnM j.Prog j.Source step v val (turnV j.Prog val got sm)
             · left; rfl
             · exact hs _ _ _
           · rw [cond_true, rankS]
             cases (rankW step val got sm).2
             · left; rfl
             · cases ile 10 step
               · exact hs _ _ _
               · left; rfl
         · left; rfl
       · left; rfl
     · left; rfl
   · left; rfl
theorem turn_bad {g : GGraph} {j : GJob} {step v val got : Int} {sm : Bool} (h : ieq (turnS g j step v val got sm).2.2.2 0 = false) : (turnS g j step v val got sm).1 = 0 ∧ (turnS g j step v val got sm).2.1 = [] := by
 have hs : ∀ (b : Bool) (w : Int) (o : Option (List GMsg)), ieq (sendO b w o).2.2.2 0 = false → (sendO b w o).1 = 0 ∧ (sendO b w o).2.1 = [] := fun b w o => by
  cases o
  · intro _; exact ⟨rfl, rfl⟩
  · intro h; cases h
 rw [turnS] at h ⊢
 cases hc : ieq (jcheck g j) 0
 · exact ⟨rfl, rfl⟩
 · rw [hc] at h
   cases h1 : ilt v 0
   · cases h2 : ile g.N v
     · cases h3 : ilt step 0
       · cases h4 : ilt 40 step
         · rw [h1, h2, h3, h4] at h
           simp only [cond_true, cond_false] at h ⊢
           cases h5 : ieq j.Prog 5
           · rw [h5, cond_false, moveS] at h
             rw [cond_false, moveS]
             cases hm : turnM j.Prog j.Source step v val (turnV j.Prog val got sm)
             · rw [hm] at h; cases h
             · rw [hm] at h; exact hs _ _ _ h
           · rw [h5, cond_true, rankS] at h
             rw [cond_true, rankS]
             cases hw : (rankW step val got sm).2
             · exact ⟨rfl, rfl⟩
             · rw [hw] at h
               cases h10 : ile 10 step
               · rw [h10] at h; exact hs _ _ _ h
               · rw [h10] at h; cases h
         · exact ⟨rfl, rfl⟩
       · exact ⟨rfl, rfl⟩
     · exact ⟨rfl, rfl⟩
   · exact ⟨rfl, rfl⟩
theorem turn_len {g : GGraph} {j : GJob} {step v val got : Int} {sm : Bool} : (turnS g j step v val got sm).2.1.length ≤ 80 := by
 have ho := outs_len (g := g) (v := v)
 cases h : ieq (turnS g j step v val got sm).2.2.2 0
 · rw [(turn_bad h).2]; simp
 · rcases turn_out h with hz | hz
   · rw [hz]; simp
   · have := congrArg List.length hz
     simp only [List.length_map] at this
     omega
abbrev Tri := List Int × List Bool × List GMsg
theorem sendS_i64 {p val many : Int} {e : GEdge} (hv : i64 val) : i64 (sendS p val e many).1 := by
 rw [sendS]
 cases ieq p 1
 · cases ieq p 3
   · cases ieq p 5
     · exact hv
     · exact ratioS_i64
   · exact addS_i64
 · exact addS_i64
theorem sendA_i64 {p val many : Int} (hv : i64 val) : ∀ {l : List GEdge} {s r : List GMsg}, (∀ m ∈ s, i64 m.V) → sendA p val many l s = some r → ∀ m ∈ r, i64 m.V
 | [], s, r, hs, h => by injection h with h; subst h; exact hs
 | e :: l, s, r, hs, h => by
  rw [sendA] at h
  cases hq : (sendS p val e many).2
  · rw [hq] at h; cases h
  · rw [hq, cond_true] at h
    refine sendA_i64 hv (fun m hm => ?_) h
    rcases List.mem_append.1 hm with hm | hm
    · exact hs m hm
    · rw [List.mem_singleton.1 hm]; exact sendS_i64 hv
theorem sendO_i64 {p w many : Int} {b : Bool} {l : List GEdge} (hw : i64 w) : i64 (sendO b w (sendA p w many l [])).1 ∧ ∀ m ∈ (sendO b w (sendA p w many l [])).2.1, i64 m.V := by
 have h0 : i64 0 := by unfold i64; omega
 cases hq : sendA p w many l []
 · exact ⟨h0, fun m hm => absurd hm (List.not_mem_nil)⟩
 · exact ⟨hw, sendA_i64 hw (fun m hm => absurd hm (List.not_mem_nil)) hq⟩
theorem turn_i64 {g : GGraph} {j : GJob} {step v val got : Int} {sm : Bool} (hv : i64 val) (hg : i64 got) : i64 (turnS g j step v val got sm).1 ∧ ∀ m ∈ (turnS g j step v val got sm).2.1, i64 m.V := by
 have h0 : i64 0 := by unfold i64; omega
 have hn : ∀ m ∈ ([] : List GMsg), i64 m.V := fun m hm => absurd hm (List.not_mem_nil)
 rw [turnS]
 cases ieq (jcheck g j) 0
 · exact ⟨h0, hn⟩
 · cases ilt v 0
   · cases ile g.N v
     · cases ilt step 0
       · cases ilt 40 step
         · simp only [cond_true, cond_false]
           cases ieq j.Prog 5
           · have hw : i64 (turnV j.Prog val got sm) := by
              rw [turnV]
              cases sm
              · exact hv
              · exact foldS_i64 hv hg
             rw [cond_false, moveS]
             cases turnM j.Prog j.Source step v val (turnV j.Prog val got sm)
             · exact ⟨hw, hn⟩
             · exact sendO_i64 hw
           · have hw : i64 (rankW step val got sm).1 := by
              rw [rankW]
              cases ilt 0 step
              · exact hv
              · exact sumS_i64
             rw [cond_true, rankS]
             cases (rankW step val got sm).2
             · exact ⟨h0, hn⟩
             · cases ile 10 step
               · exact sendO_i64 hw
               · exact ⟨hw, hn⟩
         · exact ⟨h0, hn⟩
       · exact ⟨h0, hn⟩
     · exact ⟨h0, hn⟩
   · exact ⟨h0, hn⟩
theorem elAt_get {α : Type} {l : List α} {i : Nat} (h : i < l.length) (d : α) : inr (i : Int) (len l) = true ∧ elAt l (i : Int) = some (l.getD i d) := by
 refine ⟨decide_eq_true ⟨by omega, by show (i : Int) < (l.length : Int); omega⟩, ?_⟩
 rw [elAt_nat, List.getElem?_eq_getElem h, List.getD_eq_getElem?_getD, List.getElem?_eq_getElem h]; rfl
theorem foldC_rise (p : Int) : ∀ (r : List GMsg) (c : GMsg) (d w : List GMsg), foldC p r c d = .inr w → (∀ x ∈ r, c.To ≤ x.To) → r.Pairwise (fun a b => a.To ≤ b.To) → (d ++ [c]).Pairwise (fun a b => a.To < b.To) →
 w.Pairwise (fun a b => a.To < b.To) ∧ ∀ t ∈ w, ∃ s ∈ d ++ c :: r, s.To = t.To
 | [], c, d, w, h, _, _, hd => by
  injection h with h
  subst h
  exact ⟨hd, fun t ht => ⟨t, ht, rfl⟩⟩
 | x :: r, c, d, w, h, hc, hr, hd => by
  rw [foldC] at h
  obtain ⟨hx, hr'⟩ := List.pairwise_cons.1 hr
  cases h1 : ieq c.To x.To
  · rw [h1, cond_false] at h
    have hne := ieq_f.1 h1
    have hlt := hc x List.mem_cons_self
    obtain ⟨q1, q2⟩ := foldC_rise p r x (d ++ [c]) w h hx hr' (by
     refine List.pairwise_append.2 ⟨hd, List.pairwise_singleton _ _, fun u hu v hv => ?_⟩
     rw [List.mem_singleton.1 hv]
     rcases List.mem_append.1 hu with hu | hu
     · have := (List.pairwise_append.1 hd).2.2 u hu c (List.mem_singleton.2 rfl); omega
     · rw [List.mem_singleton.1 hu]; omega)
    exact ⟨q1, fun t ht => by
     obtain ⟨s, hs, e⟩ := q2 t ht
     exact ⟨s, by simpa using hs, e⟩⟩
  · rw [h1, cond_true] at h
    cases h2 : ieq (foldS p c.V x.V).2 0
    · rw [h2] at h; cases h
    · rw [h2, cond_true] at h
      obtain ⟨q1, q2⟩ := foldC_rise p r (GMsg.mk c.To (foldS p c.V x.V).1) d w h (fun y hy => hc y (List.mem_cons_of_mem _ hy)) hr' (by
       obtain ⟨a, b, e⟩ := List.pairwise_append.1 hd
       exact List.pairwise_append.2 ⟨a, List.pairwise_singleton _ _, fun u hu v hv => by rw [List.mem_singleton.1 hv]; exact e u hu c (List.mem_singleton.2 rfl)⟩)
      refine ⟨q1, fun t ht => ?_⟩
      obtain ⟨s, hs, e⟩ := q2 t ht
      rcases List.mem_append.1 hs with hs | hs
      · exact ⟨s, List.mem_append_left _ hs, e⟩
      · rcases List.mem_cons.1 hs with rfl | hs
        · exact ⟨c, List.mem_append_right _ List.mem_cons_self, e⟩
        · exact ⟨s, List.mem_append_right _ (List.mem_cons_of_mem _ (List.mem_cons_of_mem _ hs)), e⟩
theorem boxS_rise {p : Int} {l : List GMsg} : (boxS p l).1.Pairwise (fun a b => a.To < b.To) ∧ ∀ t ∈ (boxS p l).1, ∃ s ∈ l, s.To = t.To := by
 have hn : (([] : List GMsg).Pairwise (fun a b => a.To < b.To)) ∧ ∀ t ∈ ([] : List GMsg), ∃ s ∈ l, s.To = t.To := ⟨List.Pairwise.nil, fun t ht => absurd ht List.not_mem_nil⟩
 have hp := sortM_perm l
 have hs : (sortM l).Pairwise (fun a b => a.To ≤ b.To) := (sortM_srt l).imp fun {a b} h => by have := leM_iff.1 h; omega
 rw [boxS]
 cases pbad p
 · rw [cond_false]
   generalize sortM l = m at *
   cases m with
   | nil => exact hn
   | cons x r =>
    rw [foldO]
    cases hq : foldC p r x [] with
    | inl e => exact hn
    | inr w =>
     obtain ⟨h1, h2⟩ := List.pairwise_cons.1 hs
     obtain ⟨q1, q2⟩ := foldC_rise p r x [] w hq h1 h2 (List.pairwise_singleton _ _)
     exact ⟨q1, fun t ht => by
      obtain ⟨s, hs, e⟩ := q2 t ht
      exact ⟨s, hp.mem_iff.1 hs, e⟩⟩
 · exact hn
theorem outs_To {g : GGraph} {v : Int} {e : GEdge} (h : e ∈ outs g v) : 0 ≤ e.To ∧ e.To < g.N := by
 rw [outs] at h
 cases hc : ieq (gcheck g) 0
 · rw [hc] at h; cases h
 · obtain ⟨h1, h2, h3, h4⟩ := gcheck_ok hc
   rw [hc] at h
   have := badE_ok (gchk_mem h4 e (List.mem_filter.1 h).1)
   omega
theorem turn_To {g : GGraph} {j : GJob} {step v val got : Int} {sm : Bool} : ∀ m ∈ (turnS g j step v val got sm).2.1, 0 ≤ m.To ∧ m.To < g.N := by
 intro m hm
 cases h : ieq (turnS g j step v val got sm).2.2.2 0
 · rw [(turn_bad h).2] at hm; exact absurd hm List.not_mem_nil
 · rcases turn_out h with hz | hz
   · rw [hz] at hm; exact absurd hm List.not_mem_nil
   · have : m.To ∈ (turnS g j step v val got sm).2.1.map (·.To) := List.mem_map.2 ⟨m, hm, rfl⟩
     rw [hz] at this
     obtain ⟨e, he, q⟩ := List.mem_map.1 this
     rw [← q]; exact outs_To he
def oneP (g : GGraph) (j : GJob) (x : GPart) (i v : Nat) : Int × List GMsg × Bool × Int :=
 bif x.Rest.getD i false && !(atS x.In (v : Int)).2 then (x.Vals.getD i 0, [], true, 0)
 else turnS g j x.Step (v : Int) (x.Vals.getD i 0) (atS x.In (v : Int)).1 (atS x.In (v : Int)).2
def doA (g : GGraph) (j : GJob) (x : GPart) : List Nat → Nat → List Int → List Bool → List GMsg → Int ⊕ Tri
 | [], _, a, b, c => .inr (a, b, c)
 | v :: l, i, a, b, c => bif ieq (oneP g j x i v).2.2.2 0 then doA g j x l (i + 1) (a ++ [(oneP g j x i v).1]) (b ++ [(oneP g j x i v).2.2.1]) (c ++ (oneP g j x i v).2.1) else .inl (oneP g j x i v).2.2.2
def toS (j : GJob) (c : List GMsg) (q : Int) : List GMsg := c.filter fun m => ieq (homeS j m.To) q
def tellS (j : GJob) (c : List GMsg) : List Nat → List (List GMsg) → Int ⊕ List (List GMsg)
 | [], d => .inr d
 | q :: l, d => bif ieq (boxS j.Prog (toS j c (q : Int))).2 0 then tellS j c l (d ++ [(boxS j.Prog (toS j c (q : Int))).1]) else .inl (boxS j.Prog (toS j c (q : Int))).2
abbrev Did := GPart × List (List GMsg) × Int
def doC (x : GPart) (w : Tri) : Int ⊕ List (List GMsg) → Did
 | .inl e => (zeroP, [], e)
 | .inr t => (GPart.mk x.P (x.Step + 1) w.1 w.2.1 [], t, 0)
def doB (j : GJob) (x : GPart) : Int ⊕ Tri → Did
 | .inl e => (zeroP, [], e)
 | .inr w => doC x w (tellS j w.2.2 (List.range j.Parts.toNat) [])
def doS (g : GGraph) (j : GJob) (x : GPart) : Did :=
 bif ieq (jcheck g j) 0 then (bif partRight g j x then (bif ieq x.Step 40 then (zeroP, [], 6) else doB j x (doA g j x (vertsS g j x.P) 0 [] [] [])) else (zeroP, [], 1)) else (zeroP, [], jcheck g j)
def niceP (x : GPart) : Prop := (∀ v ∈ x.Vals, i64 v) ∧ (∀ m ∈ x.In, i64 m.V)
theorem wf_niceP {x : GPart} (h : WGPart x) : niceP x := ⟨fun v hv => i64_wf (h.2.2.1.2 v hv), fun m hm => i64_wf ((h.2.2.2.2.1).2 m hm).2.1⟩
theorem onep_i64 {g : GGraph} {j : GJob} {x : GPart} (hn : niceP x) {i v : Nat} : i64 (oneP g j x i v).1 ∧ ∀ m ∈ (oneP g j x i v).2.1, i64 m.V := by
 have h0 : i64 0 := by unfold i64; omega
 have hx : i64 (x.Vals.getD i 0) := by
  rw [List.getD_eq_getElem?_getD]
  cases hq : x.Vals[i]? with
  | none => exact h0
  | some y => exact hn.1 y (List.mem_of_getElem? hq)
 rw [oneP]
 cases x.Rest.getD i false && !(atS x.In (v : Int)).2
 · exact turn_i64 hx (atS_i64 hn.2)
 · exact ⟨hx, fun m hm => absurd hm (List.not_mem_nil)⟩
theorem onep_outs {g : GGraph} {j : GJob} {x : GPart} {i v : Nat} : (oneP g j x i v).2.1.length ≤ 80 ∧ ∀ m ∈ (oneP g j x i v).2.1, 0 ≤ m.To ∧ m.To < g.N := by
 rw [oneP]
 cases x.Rest.getD i false && !(atS x.In (v : Int)).2
 · exact ⟨turn_len, turn_To⟩
 · exact ⟨Nat.zero_le _, fun m hm => absurd hm (List.not_mem_nil)⟩
structure keepP (g : GGraph) (i : Nat) (a : List Int) (b : List Bool) (c : List GMsg) : Prop where
 la : a.length = i
 lb : b.length = i
 lc : c.length ≤ 80 * i
 va : ∀ v ∈ a, i64 v
 vc : ∀ m ∈ c, i64 m.V
 vt : ∀ m ∈ c, 0 ≤ m.To ∧ m.To < g.N
theorem keepP0 (g : GGraph) : keepP g 0 [] [] [] := ⟨rfl, rfl, Nat.zero_le _, fun v hv => absurd hv (List.not_mem_nil), fun m hm => absurd hm (List.not_mem_nil), fun m hm => absurd hm (List.not_mem_nil)⟩
theorem keepP_next {g : GGraph} {j : GJob} {x : GPart} (hn : niceP x) {i : Nat} (v : Nat) {a : List Int} {b : List Bool} {c : List GMsg} (h : keepP g i a b c) :
 keepP g (i + 1) (a ++ [(oneP g j x i v).1]) (b ++ [(oneP g j x i v).2.2.1]) (c ++ (oneP g j x i v).2.1) := by
 obtain ⟨o1, o2⟩ := onep_i64 (g := g) (j := j) hn (i := i) (v := v)
 obtain ⟨o3, o4⟩ := onep_outs (g := g) (j := j) (x := x) (i := i) (v := v)
 refine ⟨by simp [h.la], by simp [h.lb], ?_, fun v hv => ?_, fun m hm => ?_, fun m hm => ?_⟩
 · have h3 := h.lc
   rw [List.length_append]; omega
 · rcases List.mem_append.1 hv with hv | hv
   · exact h.va v hv
   · rw [List.mem_singleton.1 hv]; exact o1
 · rcases List.mem_append.1 hm with hm | hm
   · exact h.vc m hm
   · exact o2 m hm
 · rcases List.mem_append.1 hm with hm | hm
   · exact h.vt m hm
   · exact o4 m hm
theorem doA_keep {g : GGraph} {j : GJob} {x : GPart} (hn : niceP x) : ∀ (l : List Nat) (i : Nat) (a : List Int) (b : List Bool) (c : List GMsg), keepP g i a b c → ∀ w, doA g j x l i a b c = .inr w → keepP g (i + l.length) w.1 w.2.1 w.2.2 := by
 intro l
 induction l with
 | nil => intro i a b c h w hw; injection hw with hw; subst hw; exact h
 | cons v l ih =>
  intro i a b c h w hw
  rw [doA] at hw
  cases hq : ieq (oneP g j x i v).2.2.2 0
  · rw [hq] at hw; cases hw
  · rw [hq] at hw
    have := ih (i + 1) _ _ _ (keepP_next hn v h) w hw
    rwa [show i + 1 + l.length = i + (l.length + 1) by omega] at this
theorem toS_app (j : GJob) (c d : List GMsg) (q : Int) : toS j (c ++ d) q = toS j c q ++ toS j d q := List.filter_append _ _
theorem toS_len (j : GJob) (c : List GMsg) (q : Int) : (toS j c q).length ≤ c.length := List.length_filter_le _ _
theorem toS_mem {j : GJob} {c : List GMsg} {q : Int} {m : GMsg} (h : m ∈ toS j c q) : m ∈ c ∧ homeS j m.To = q := by
 obtain ⟨a, b⟩ := List.mem_filter.1 h
 exact ⟨a, ieq_iff.1 b⟩
theorem all_go {α : Type} (p : α → Bool) {step : α → Unit → (Unit → Option (Unit ⊕ Unit)) → Option (Unit ⊕ Unit)} : ∀ (l : List α), (∀ x ∈ l, ∀ c, step x () c = bif p x then c () else some (.inl ())) →
 goL step (fun _ => some (.inr ())) l () = some (sumU (l.all p))
 | [], _ => rfl
 | x :: l, h => by
  rw [goL, h x List.mem_cons_self, all_go p l fun y hy => h y (List.mem_cons_of_mem _ hy), List.all_cons]
  cases p x <;> rfl
theorem getD_lt {α : Type} {l : List α} {i : Nat} (h : i < l.length) (d : α) : l.getD i d = l[i] := by rw [List.getD_eq_getElem?_getD, List.getElem?_eq_getElem h]; rfl
def posS {α : Type} (p : α → Bool) (l : List α) : Int := match l.findIdx? p with | some q => (q : Int) | none => -1
theorem find_go {α : Type} (p : α → Bool) {step : Nat → α → Unit → (Unit → Option (Int ⊕ Unit)) → Option (Int ⊕ Unit)} : ∀ (l : List α) (i : Nat), (∀ x ∈ l, ∀ i c, step i x () c = bif p x then some (.inl (i : Int)) else c ()) →
 goI step (fun _ => some (.inr ())) i l () = some (match l.findIdx? p with | some q => .inl ((i + q : Nat) : Int) | none => .inr ())
 | [], _, _ => rfl
 | x :: l, i, h => by
  rw [goI, h x List.mem_cons_self, find_go p l (i + 1) fun y hy => h y (List.mem_cons_of_mem _ hy), List.findIdx?_cons]
  cases hp : p x
  · cases hq : l.findIdx? p with
    | none => simp
    | some q => simp; omega
  · simp
theorem posS_elim {α : Type} {γ : Type} (p : α → Bool) (l : List α) (f : Int → Option γ) : (some (match l.findIdx? p with | some q => Sum.inl ((0 + q : Nat) : Int) | none => Sum.inr ())).bind (fun y => Sum.elim (fun w => f w) (fun (_ : Unit) => f (-1)) y) = f (posS p l) := by
 unfold posS
 cases l.findIdx? p with
 | none => rfl
 | some q => simp
theorem posS_neg {α : Type} (p : α → Bool) (l : List α) : posS p l < 0 ↔ ∀ x ∈ l, p x = false := by
 unfold posS
 cases h : l.findIdx? p with
 | none => simp only [List.findIdx?_eq_none_iff] at h; simpa using h
 | some q =>
  obtain ⟨hq, hp, _⟩ := List.findIdx?_eq_some_iff_getElem.1 h
  constructor
  · intro h'; dsimp only at h'; omega
  · intro h'; have := h' _ (List.getElem_mem hq); rw [this] at hp; cases hp
theorem posS_at {α : Type} {p : α → Bool} {l : List α} (h : ¬ posS p l < 0) : ∃ (q : Nat) (x : α), posS p l = (q : Int) ∧ l[q]? = some x ∧ p x = true := by
 unfold posS at h ⊢
 cases hf : l.findIdx? p with
 | none => rw [hf] at h; exact absurd (by decide) h
 | some q =>
  obtain ⟨hq, hp, _⟩ := List.findIdx?_eq_some_iff_getElem.1 hf
  exact ⟨q, l[q], rfl, List.getElem?_eq_getElem hq, hp⟩
theorem filt_go {α β : Type} (p : α → Bool) (f : α → β) (b : Nat) {step : α → List β → (List β → Option (List β)) → Option (List β)} (hb : b ≤ 1000) (N : Nat) (hN : N ≤ 1000000) : ∀ (l : List α) (a : List β), a.length + l.length ≤ N →
 (∀ x ∈ l, ∀ a c, step x a c = bif p x then (bif apok (len a) 1 b then c (appL a [f x]) else none) else c a) → goL step (fun a => some a) l a = some (a ++ (l.filter p).map f)
 | [], a, _, _ => by rw [goL]; simp
 | x :: l, a, hl, h => by
  rw [List.length_cons] at hl
  rw [goL, h x List.mem_cons_self]
  have hap : apok (len a) 1 b = true := decide_eq_true ⟨by show a.length + 1 ≤ _; omega, by
   show (a.length + 1) * b ≤ _
   have := Nat.mul_le_mul (show a.length + 1 ≤ 1000001 by omega) hb
   omega⟩
  cases hp : p x
  · rw [cond_false, filt_go p f b hb N hN l a (by omega) fun y hy => h y (List.mem_cons_of_mem _ hy), List.filter_cons, hp]; simp
  · rw [cond_true, hap, cond_true, appL, filt_go p f b hb N hN l (a ++ [f x]) (by simp; omega) fun y hy => h y (List.mem_cons_of_mem _ hy), List.filter_cons, hp]; simp
theorem apok_small {n m b : Nat} (h : n + m ≤ 1000000) (hb : b ≤ 1000) : apok n m b = true := decide_eq_true ⟨by omega, by have := Nat.mul_le_mul h hb; omega⟩
def fairS (n : Int) (l : List Int) : Bool := l.all (fun x => !(ilt x 0) && !(ilt 1099511627776 x)) && ile (l.length : Int) n
theorem F66_spec (K : Nat) (n : Int) (l : List Int) (hl : l.length < 1000000) (hK : l.length < K) : F66 K n l = some (fairS n l) := by
 let step : Int → Unit → (Unit → Option (Unit ⊕ Unit)) → Option (Unit ⊕ Unit) := fun x _ c => bif (ilt x 0) then some (.inl ()) else bif (ilt 1099511627776 x) then some (.inl ()) else c ()
 have h := scanL (l := l) (L := fun k (_ : Unit) i => F66_l0_0 K n l k i) step (fun _ => some (.inr ())) (fun k s i _ => rfl) (by omega) hK ()
 have g := all_go (step := step) (fun x => !(ilt x 0) && !(ilt 1099511627776 x)) l (fun x _ c => by show (bif (ilt x 0) then _ else _) = _; cases ilt x 0 <;> cases ilt 1099511627776 x <;> rfl)
 have e : F66_l0_0 K n l K 0 = _ := h.trans g
 rw [F66, e, fairS]
 cases l.all _ <;> rfl
def sentS (l : List GMsg) : Bool := l.all (fun m => fairS 1 [m.To]) && ile (l.length : Int) 24
theorem F67_spec (K : Nat) (l : List GMsg) (hl : l.length < 1000000) (hK : l.length < K) (h1 : 1 < K) : F67 K l = some (sentS l) := by
 let step : GMsg → Unit → (Unit → Option (Unit ⊕ Unit)) → Option (Unit ⊕ Unit) := fun x _ c => (F66 K 1 [x.To]).bind fun r => bif r then c () else some (.inl ())
 have h := scanL (l := l) (L := fun k (_ : Unit) i => F67_l0_0 K l k i) step (fun _ => some (.inr ())) (fun k s i _ => rfl) (by omega) hK ()
 have g := all_go (step := step) (fun m => fairS 1 [m.To]) l (fun x _ c => by show (F66 K 1 [x.To]).bind _ = _; rw [F66_spec K 1 [x.To] (by simp) (by simpa using h1)]; rfl)
 have e : F67_l0_0 K l K 0 = _ := h.trans g
 rw [F67, e, sentS]
 cases l.all _ <;> rfl
def mailR (m : GMail) : Bool :=
 ile 1 m.Kind && (ile m.Kind 11 && (fairS 9 [m.Epoch, m.Fresh, m.Step, m.P, m.Q, m.To, m.E, m.X.P, m.X.Step] && (fairS 6 m.Owners && (fairS 5 m.Ids && (fairS (m.Ids.length : Int) m.Incs && (ieq (m.Incs.length : Int) (m.Ids.length : Int) &&
  (ile (m.X.Vals.length : Int) 24 && (ieq (m.X.Rest.length : Int) (m.X.Vals.length : Int) && (sentS m.X.In && sentS m.Msgs)))))))))
structure FitM (c : Nat) (m : GMail) : Prop where
 o : m.Owners.length ≤ c
 i : m.Ids.length ≤ c
 n : m.Incs.length ≤ c
 v : m.X.Vals.length ≤ c
 r : m.X.Rest.length ≤ c
 x : m.X.In.length ≤ c
 s : m.Msgs.length ≤ c
theorem F40_spec {K : Nat} (hK : 3000 ≤ K) (m : GMail) (h : FitM 2000 m) : F40 K m = some (mailR m) := by
 obtain ⟨h1, h2, h3, h4, h5, h6, h7⟩ := h
 rw [F40, F66_spec K 9 _ (by simp) (by simp; omega), F66_spec K 6 _ (by omega) (by omega), F66_spec K 5 _ (by omega) (by omega), F66_spec K _ m.Incs (by omega) (by omega), F67_spec K m.X.In (by omega) (by omega) (by omega), F67_spec K m.Msgs (by omega) (by omega) (by omega)]
 simp only [Option.bind_some, mailR, nlen_len]
 cases ile 1 m.Kind <;> cases ile m.Kind 11 <;> cases fairS 9 [m.Epoch, m.Fresh, m.Step, m.P, m.Q, m.To, m.E, m.X.P, m.X.Step] <;> try rfl
 cases fairS 6 m.Owners <;> cases fairS 5 m.Ids <;> cases fairS (m.Ids.length : Int) m.Incs <;> cases ieq (m.Incs.length : Int) (m.Ids.length : Int) <;> try rfl
 cases ile (m.X.Vals.length : Int) 24 <;> cases ieq (m.X.Rest.length : Int) (m.X.Vals.length : Int) <;> cases sentS m.X.In <;> rfl
theorem fairS_mem {n : Int} {l : List Int} (h : fairS n l = true) : (∀ x ∈ l, 0 ≤ x ∧ x ≤ 1099511627776) ∧ (l.length : Int) ≤ n := by
 simp only [fairS, Bool.and_eq_true, List.all_eq_true, Bool.not_eq_true', ilt_f, ile_iff] at h
 exact h
def noT : GTable := GTable.mk 0 [] [] []
def risesS : Int → List Int → List Int → Bool
 | _, [], _ => true
 | p, a :: l, n :: r => !(ile a p) && (!(ilt 99 a) && (!(ilt n 1) && (!(ilt 1099511627776 n) && risesS a l r)))
 | _, _ :: _, [] => false
def findS (l : List Int) (a : Int) : Int := posS (fun x => ieq x a) l
theorem F108_spec (K : Nat) (l : List Int) (a : Int) (hl : l.length < 1000000) (hK : l.length < K) : F108 K l a = some (findS l a) := by
 let step : Nat → Int → Unit → (Unit → Option (Int ⊕ Unit)) → Option (Int ⊕ Unit) := fun i x _ c => bif ieq x a then some (.inl (i : Int)) else c ()
 have h := scanI (l := l) (L := fun k (_ : Unit) i => F108_l0_0 K l a k i) step (fun _ => some (.inr ())) (fun k s i _ => rfl) (by omega) K () 0 (by omega) (by omega)
 have g := find_go (step := step) (fun x => ieq x a) l 0 (fun x _ i c => rfl)
 rw [List.drop_zero] at h
 have e : F108_l0_0 K l a K 0 = _ := h.trans g
 rw [F108, e]
 exact posS_elim _ _ fun w => some w
def tabR (t : GTable) : Bool :=
 !(ilt t.Epoch 0) && (!(ilt 1099511627776 t.Epoch) && (!(ilt 5 (t.Ids.length : Int)) && (ieq (t.Incs.length : Int) (t.Ids.length : Int) && (!(ilt 6 (t.Owners.length : Int)) && (risesS 0 t.Ids t.Incs && t.Owners.all fun o => !(ilt (findS t.Ids o) 0))))))
theorem F100_rises {K : Nat} (t : GTable) (hl : t.Ids.length ≤ 5) (he : t.Incs.length = t.Ids.length) (hK : 100 ≤ K) : F100_l0_0 K t.Epoch t.Owners t.Ids t.Incs K 0 0 = some (sumU (risesS 0 t.Ids t.Incs)) := by
 let step : Nat → Int → Int → (Int → Option (Unit ⊕ Unit)) → Option (Unit ⊕ Unit) := fun i x p c =>
  bif (ile x p) then some (.inl ()) else bif (ilt 99 x) then some (.inl ()) else bif (inr (i : Int) (len t.Incs)) then (elAt t.Incs (i : Int)).bind fun n => bif (ilt n 1) then some (.inl ()) else bif (ilt 1099511627776 n) then some (.inl ()) else c x else none
 have h := scanI (l := t.Ids) (L := fun k p i => F100_l0_0 K t.Epoch t.Owners t.Ids t.Incs k p i) step (fun _ => some (.inr ())) (fun k s i _ => rfl) (by omega) K 0 0 (by omega) (by omega)
 have g : ∀ (l : List Int) (i : Nat) (p : Int), t.Ids.drop i = l → goI step (fun _ => some (.inr ())) i l p = some (sumU (risesS p l (t.Incs.drop i))) := by
  intro l
  induction l with
  | nil => intro i p _; rw [goI, risesS]; rfl
  | cons x l ih =>
   intro i p hd
   have hlt := lt_of_drop' hd
   have hn : t.Incs.drop i = t.Incs[i] :: t.Incs.drop (i + 1) := List.drop_eq_getElem_cons (by omega)
   have hd2 : t.Ids.drop (i + 1) = l := by
    have := List.drop_eq_getElem_cons hlt
    rw [hd] at this
    injection this with _ h2; exact h2.symm
   have e1 : inr (i : Int) (len t.Incs) = true := decide_eq_true ⟨by omega, by show (i : Int) < (t.Incs.length : Int); omega⟩
   have e2 : elAt t.Incs (i : Int) = some t.Incs[i] := by rw [elAt_nat]; exact List.getElem?_eq_getElem (by omega)
   rw [goI]
   show (bif (ile x p) then _ else _) = _
   rw [e1, e2, cond_true, Option.bind_some, ih (i + 1) x hd2, hn, risesS]
   cases ile x p <;> cases ilt 99 x <;> cases ilt t.Incs[i] 1 <;> cases ilt 1099511627776 t.Incs[i] <;> rfl
 rw [List.drop_zero] at h
 have e : F100_l0_0 K t.Epoch t.Owners t.Ids t.Incs K 0 0 = _ := h.trans (g t.Ids 0 0 rfl)
 rw [List.drop_zero] at e
 exact e
theorem F100_spec {K : Nat} (hK : 100 ≤ K) (t : GTable) : F100 K t = some (tabR t) := by
 rw [F100, tabR, nlen_len, nlen_len, nlen_len]
 cases h1 : ilt t.Epoch 0
 · cases h2 : ilt 1099511627776 t.Epoch
   · cases h3 : ilt 5 (t.Ids.length : Int)
     · cases h4 : ieq (t.Incs.length : Int) (t.Ids.length : Int)
       · rfl
       · cases h5 : ilt 6 (t.Owners.length : Int)
         · rw [ilt_f] at h3 h5
           rw [ieq_iff] at h4
           rw [F100_rises t (by omega) (by omega) hK]
           cases risesS 0 t.Ids t.Incs
           · rfl
           · let step : Int → Unit → (Unit → Option (Unit ⊕ Unit)) → Option (Unit ⊕ Unit) := fun x _ c => (F108 K t.Ids x).bind fun r => bif ilt r 0 then some (.inl ()) else c ()
             have h := scanL (l := t.Owners) (L := fun k (_ : Unit) i => F100_l1_1 K t.Epoch t.Owners t.Ids t.Incs k i) step (fun _ => some (.inr ())) (fun k s i _ => rfl) (by omega) (K := K) (by omega) ()
             have g := all_go (step := step) (fun o => !(ilt (findS t.Ids o) 0)) t.Owners (fun x _ c => by show (F108 K t.Ids x).bind _ = _; rw [F108_spec K t.Ids x (by omega) (by omega), Option.bind_some]; cases ilt (findS t.Ids x) 0 <;> rfl)
             have e : F100_l1_1 K t.Epoch t.Owners t.Ids t.Incs K 0 = _ := h.trans g
             simp only [cond_true, cond_false, sumU, Option.bind_some, Sum.elim_inr, e]
             cases t.Owners.all _ <;> rfl
         · rfl
     · rfl
   · rfl
 · rfl
theorem tabR_ok {t : GTable} (h : tabR t = true) : 0 ≤ t.Epoch ∧ t.Epoch ≤ 1099511627776 ∧ t.Ids.length ≤ 5 ∧ t.Incs.length = t.Ids.length ∧ t.Owners.length ≤ 6 ∧ risesS 0 t.Ids t.Incs = true ∧ ∀ o ∈ t.Owners, 0 ≤ findS t.Ids o := by
 simp only [tabR, Bool.and_eq_true, Bool.not_eq_true', ilt_f, ieq_iff, List.all_eq_true] at h
 obtain ⟨h1, h2, h3, h4, h5, h6, h7⟩ := h
 exact ⟨h1, h2, by omega, by omega, by omega, h6, h7⟩
def ownT (t : GTable) : GTable := bif tabR t then t else noT
theorem app_nil {α : Type} (l : List α) : appL [] l = l := List.nil_append l
theorem noT_right : tabR noT = true := by decide
theorem ownT_right (t : GTable) : tabR (ownT t) = true := by
 rw [ownT]
 cases h : tabR t
 · exact noT_right
 · exact h
theorem ownT_own (t : GTable) : ownT (ownT t) = ownT t := by
 have := ownT_right t
 generalize ownT t = u at this ⊢
 rw [ownT, this]; rfl
theorem F96_spec {K : Nat} (hK : 100 ≤ K) (t : GTable) : F96 K t = some (ownT t) := by
 rw [F96, F100_spec hK, Option.bind_some, ownT]
 cases h : tabR t
 · rfl
 · obtain ⟨_, _, h3, h4, h5, _⟩ := tabR_ok h
   have e1 : apok 0 (len t.Owners) 8 = true := apok_small (by show 0 + t.Owners.length ≤ _; omega) (by omega)
   have e2 : apok 0 (len t.Ids) 8 = true := apok_small (by show 0 + t.Ids.length ≤ _; omega) (by omega)
   have e3 : apok 0 (len t.Incs) 8 = true := apok_small (by show 0 + t.Incs.length ≤ _; omega) (by omega)
   simp only [cond_true, e1, e2, e3, app_nil]
def incS (t : GTable) (id : Int) : Int := bif ilt (findS (ownT t).Ids id) 0 then 0 else (ownT t).Incs.getD (findS (ownT t).Ids id).toNat 0
theorem F97_spec {K : Nat} (hK : 100 ≤ K) (t : GTable) (id : Int) : F97 K t id = some (incS t id) := by
 obtain ⟨_, _, h3, h4, _⟩ := tabR_ok (ownT_right t)
 rw [F97, F96_spec hK, Option.bind_some, F108_spec K _ id (by omega) (by omega), Option.bind_some, incS]
 cases h : ilt (findS (ownT t).Ids id) 0
 · have hn : ¬ posS (fun x => ieq x id) (ownT t).Ids < 0 := by rw [ilt_f] at h; exact Int.not_lt.2 h
   obtain ⟨q, x, hq, hx, _⟩ := posS_at hn
   have hlt : q < (ownT t).Incs.length := by rw [h4]; exact (List.getElem?_eq_some_iff.1 hx).1
   have hf : findS (ownT t).Ids id = (q : Int) := hq
   have e1 : inr (q : Int) (len (ownT t).Incs) = true := decide_eq_true ⟨by omega, by show (q : Int) < ((ownT t).Incs.length : Int); omega⟩
   have e2 : elAt (ownT t).Incs (q : Int) = some (ownT t).Incs[q] := by rw [elAt_nat]; exact List.getElem?_eq_getElem hlt
   rw [hf, cond_false, cond_false, e1, e2, cond_true, Option.bind_some, Int.toNat_natCast, getD_lt hlt]
 · rfl
def toT (t : GTable) (p : Int) : Int × Int × Int :=
 bif ilt p 0 || ile ((ownT t).Owners.length : Int) p then (0, 0, 4) else ((ownT t).Owners.getD p.toNat 0, incS t ((ownT t).Owners.getD p.toNat 0), 0)
theorem incS_own (t : GTable) (id : Int) : incS (ownT t) id = incS t id := by rw [incS, incS, ownT_own]
theorem F60_spec {K : Nat} (hK : 100 ≤ K) (t : GTable) (p : Int) : F60 K t p = some (toT t p) := by
 rw [F60, F96_spec hK, Option.bind_some, toT, nlen_len]
 cases h1 : ilt p 0
 · cases h2 : ile ((ownT t).Owners.length : Int) p
   · rw [ilt_f] at h1
     rw [ile_f] at h2
     have e1 : inr p (len (ownT t).Owners) = true := decide_eq_true ⟨h1, h2⟩
     have e2 : elAt (ownT t).Owners p = some ((ownT t).Owners.getD p.toNat 0) := by
      show (ownT t).Owners[p.toNat]? = _
      rw [getD_lt (by omega)]; exact List.getElem?_eq_getElem (by omega)
     simp only [cond_false, e1, e2, cond_true, Option.bind_some, F97_spec hK, incS_own, Bool.or_false]
   · rfl
 · rfl
theorem toT_ok {t : GTable} {p : Int} (h : ieq (toT t p).2.2 0 = true) : 0 ≤ p ∧ p < ((ownT t).Owners.length : Int) ∧ (toT t p).1 = (ownT t).Owners.getD p.toNat 0 := by
 rw [toT] at h ⊢
 cases hq : ilt p 0 || ile ((ownT t).Owners.length : Int) p
 · rw [Bool.or_eq_false_iff, ilt_f, ile_f] at hq
   exact ⟨hq.1, hq.2, rfl⟩
 · rw [hq] at h; cases h
abbrev B6 := List GMsg × List GMsg × List GMsg × List GMsg × List GMsg × List GMsg
abbrev S8 := List Int × List Bool × B6
def boxes (j : GJob) (c : List GMsg) : B6 := (toS j c 0, toS j c 1, toS j c 2, toS j c 3, toS j c 4, toS j c 5)
theorem toS_one (j : GJob) (m : GMsg) (q : Int) : toS j [m] q = bif ieq (homeS j m.To) q then [m] else [] := by
 rw [toS, List.filter_cons]
 cases ieq (homeS j m.To) q <;> rfl
def stA (K : Nat) (j : GJob) (m : GMsg) (s : B6) (c : B6 → Option B6) : Option B6 :=
 (F94 K j m.To).bind fun r =>
 bif (ieq r 0) then (bif (apok (len s.1) 1 16) then c (appL s.1 [m], s.2.1, s.2.2.1, s.2.2.2.1, s.2.2.2.2.1, s.2.2.2.2.2) else none) else
 bif (ieq r 1) then (bif (apok (len s.2.1) 1 16) then c (s.1, appL s.2.1 [m], s.2.2.1, s.2.2.2.1, s.2.2.2.2.1, s.2.2.2.2.2) else none) else
 bif (ieq r 2) then (bif (apok (len s.2.2.1) 1 16) then c (s.1, s.2.1, appL s.2.2.1 [m], s.2.2.2.1, s.2.2.2.2.1, s.2.2.2.2.2) else none) else
 bif (ieq r 3) then (bif (apok (len s.2.2.2.1) 1 16) then c (s.1, s.2.1, s.2.2.1, appL s.2.2.2.1 [m], s.2.2.2.2.1, s.2.2.2.2.2) else none) else
 bif (ieq r 4) then (bif (apok (len s.2.2.2.2.1) 1 16) then c (s.1, s.2.1, s.2.2.1, s.2.2.2.1, appL s.2.2.2.2.1 [m], s.2.2.2.2.2) else none) else
 bif (ieq r 5) then bif (apok (len s.2.2.2.2.2) 1 16) then c (s.1, s.2.1, s.2.2.1, s.2.2.2.1, s.2.2.2.2.1, appL s.2.2.2.2.2 [m]) else none else none
theorem route_step {K : Nat} (j : GJob) (m : GMsg) (c : List GMsg) (hl : c.length ≤ 3000) (h0 : 0 ≤ homeS j m.To) (h5 : homeS j m.To ≤ 5) (k : B6 → Option B6) : stA K j m (boxes j c) k = k (boxes j (c ++ [m])) := by
 have ap : ∀ q : Int, apok (len (toS j c q)) 1 16 = true := fun q => by
  have := toS_len j c q
  exact decide_eq_true ⟨by show (toS j c q).length + 1 ≤ _; omega, by show ((toS j c q).length + 1) * 16 ≤ _; omega⟩
 rw [stA, F94_spec, Option.bind_some, boxes, boxes]
 simp only [toS_app, toS_one, ap, cond_true]
 generalize homeS j m.To = q at *
 rcases (by omega : q = 0 ∨ q = 1 ∨ q = 2 ∨ q = 3 ∨ q = 4 ∨ q = 5) with rfl | rfl | rfl | rfl | rfl | rfl <;> simp [ieq, appL]
theorem route_go {K : Nat} (j : GJob) : ∀ (l : List GMsg) (c : List GMsg), c.length + l.length ≤ 3000 → (∀ m ∈ l, 0 ≤ homeS j m.To ∧ homeS j m.To ≤ 5) → goL (stA K j) (fun s => some s) l (boxes j c) = some (boxes j (c ++ l)) := by
 intro l
 induction l with
 | nil => intro c _ _; rw [goL, List.append_nil]
 | cons m l ih =>
  intro c hl hh
  simp only [List.length_cons] at hl
  obtain ⟨h0, h5⟩ := hh m List.mem_cons_self
  rw [goL, route_step j m c (by omega) h0 h5, ih (c ++ [m]) (by simp only [List.length_append, List.length_singleton]; omega) (fun y hy => hh y (List.mem_cons_of_mem _ hy)), List.append_assoc]; rfl
theorem route {K : Nat} (g : GGraph) (j : GJob) (x : GPart) (a : List Int) (b : List Bool) (v : Int) (r : Bool) (l : List GMsg) (i : Int) (c : List GMsg) (hl : c.length + l.length ≤ 3000) (hK : l.length < K) (hh : ∀ m ∈ l, 0 ≤ homeS j m.To ∧ homeS j m.To ≤ 5) :
 F58_l1_1 K g.N g.Edges j.Prog j.Source j.Limit j.Parts x.P x.Step x.Vals x.Rest x.In a b v r l i K (toS j c 0) (toS j c 1) (toS j c 2) (toS j c 3) (toS j c 4) (toS j c 5) 0 = some (boxes j (c ++ l)) := by
 have h := scanL (l := l) (L := fun k (s : B6) p => F58_l1_1 K g.N g.Edges j.Prog j.Source j.Limit j.Parts x.P x.Step x.Vals x.Rest x.In a b v r l i k s.1 s.2.1 s.2.2.1 s.2.2.2.1 s.2.2.2.2.1 s.2.2.2.2.2 p) (stA K j) (fun s => some s) (fun k s p _ => rfl) (by omega) (K := K) hK (boxes j c)
 rw [route_go j l c hl hh] at h
 exact h
def st116 (K : Nat) (g : GGraph) (j : GJob) (x : GPart) (i : Nat) (y : Int) (s : S8) (c : S8 → Option (Int ⊕ S8)) : Option (Int ⊕ S8) :=
 (F92 K x.In (wadd .i64 x.P (wmul .i64 (i : Int) j.Parts))).bind fun r6057 =>
 bif (inr (i : Int) (len x.Rest)) then
 (elAt x.Rest (i : Int)).bind fun x6060 =>
 bif x6060 then
  (bif r6057.2 then
   ((F93 K g j x.Step (wadd .i64 x.P (wmul .i64 (i : Int) j.Parts)) y r6057.1 r6057.2).bind fun r6064 =>
   bif (ieq r6064.2.2.2 0) then
    ((F58_l1_1 K g.N g.Edges j.Prog j.Source j.Limit j.Parts x.P x.Step x.Vals x.Rest x.In s.1 s.2.1 r6064.1 r6064.2.2.1 r6064.2.1 (i : Int) K s.2.2.1 s.2.2.2.1 s.2.2.2.2.1 s.2.2.2.2.2.1 s.2.2.2.2.2.2.1 s.2.2.2.2.2.2.2 0).bind fun w6149 =>
    bif (apok (len s.1) 1 8) then
    bif (apok (len s.2.1) 1 1) then
    c (appL s.1 [r6064.1], appL s.2.1 [r6064.2.2.1], w6149)
    else none
    else none)
   else
   some (.inl r6064.2.2.2))
  else
  bif (apok (len s.1) 1 8) then
  bif (apok (len s.2.1) 1 1) then
  c (appL s.1 [y], appL s.2.1 [true], s.2.2)
  else none
  else none)
 else
 (F93 K g j x.Step (wadd .i64 x.P (wmul .i64 (i : Int) j.Parts)) y r6057.1 r6057.2).bind fun r6160 =>
 bif (ieq r6160.2.2.2 0) then
  ((F58_l1_1 K g.N g.Edges j.Prog j.Source j.Limit j.Parts x.P x.Step x.Vals x.Rest x.In s.1 s.2.1 r6160.1 r6160.2.2.1 r6160.2.1 (i : Int) K s.2.2.1 s.2.2.2.1 s.2.2.2.2.1 s.2.2.2.2.2.1 s.2.2.2.2.2.2.1 s.2.2.2.2.2.2.2 0).bind fun w6193 =>
  bif (apok (len s.1) 1 8) then
  bif (apok (len s.2.1) 1 1) then
  c (appL s.1 [r6160.1], appL s.2.1 [r6160.2.2.1], w6193)
  else none
  else none)
 else
 some (.inl r6160.2.2.2)
 else none
theorem progL_get (n m : Nat) : ∀ (k v i : Nat) (h : i < (progL k n m v).length), (progL k n m v)[i] = v + i * m := by
 intro k
 induction k with
 | zero => intro v i h; exact absurd h (Nat.not_lt_zero _)
 | succ k ih =>
  intro v i h
  by_cases hv : v < n
  · have e : progL (k + 1) n m v = v :: progL k n m (v + m) := by rw [progL, if_pos hv]
    simp only [e] at h ⊢
    cases i with
    | zero => simp
    | succ i =>
     have h' : i < (progL k n m (v + m)).length := by simpa using h
     rw [List.getElem_cons_succ, ih (v + m) i h', Nat.succ_mul]; omega
  · have e : progL (k + 1) n m v = [] := by rw [progL, if_neg hv]
    simp only [e, List.length_nil] at h
    exact absurd h (Nat.not_lt_zero _)
end Go.Proofs.Ytbaihlhoedbpkaa.Tm

/- What the row of SeqAts leans on: printed functions and plain laws. Conditions: none. -/
import Derived.Test.YtnjanliihnadjaaTy
import Derived.Test.YtnjanliihnadjaaTab
import Derived.Test.YtnjanliihnadjaaKn
import Derived.Test.YtnjanliihnadjaaWf
import Derived.IntWalk
import Derived.KernelRfl
import Derived.OpenShut
import Derived.Test.YtnjanliihnadjaaBSeqAts1
set_option linter.unusedVariables false
set_option linter.unusedSimpArgs false
namespace Go.Proofs.Ytnjanliihnadjaa.Tm
open Go
theorem F172_173_ok (K : Nat) : ∀ (d : Nat) (a5294 : List GMsg) (r : List GMsg), F172_173 K d a5294 = some r → Evt E H 172 [.one (.sl (len a5294) (flat eGMsg a5294)), .one (.lit (fnV 173))] (F172_173_res r) := by
 intro d
 induction d with
 | zero => intro a5294 r hF; cases hF
 | succ d ih =>
  intro a5294 r hF
  rw [F172_173] at hF
  refine cond_some hF (fun h5295 hF => ?_) (fun h5295 hF => ?_)
  ·
   refine cond_some hF (fun h5296 hF => ?_) (fun _ hF => nomatch hF)
   obtain rfl := Option.some.inj hF
   have pz : HoldAll E H hn172_173 [.int (nlen (len a5294)) (nlen (len a5294)), .test (ilt (nlen (len a5294)) 2) true, .test (leqm (flat eGMsg a5294) (len a5294) 2) true, .test (apok 0 (len a5294) 16) true, .sl (nadd 0 (len a5294)) (lapp [] (flat eGMsg a5294)) (len (α := GMsg) (appL [] a5294)) (flat eGMsg (appL [] a5294))] := ⟨rfl, h5295, (leqm_flat eGMsg_len _), h5296, (app_ok (enc := eGMsg) ([] : List GMsg) a5294), trivial⟩
   exact fn_playC hn172_173 (r := F172_173_res (appL [] a5294)) pz (by kernel_rfl) (by kernel_rfl)
  refine cond_some hF (fun h5297 hF => ?_) (fun _ hF => nomatch hF)
  refine bind_some hF (fun r5298 h5299 hF => ?_)
  refine cond_some hF (fun h5300 hF => ?_) (fun _ hF => nomatch hF)
  refine bind_some hF (fun r5301 h5302 hF => ?_)
  refine cond_some hF (fun h5303 hF => ?_) (fun _ hF => nomatch hF)
  refine bind_some hF (fun w5351 h5349 hF => ?_)
  refine cond_some hF (fun h5355 hF => ?_) (fun _ hF => nomatch hF)
  refine cond_some hF (fun h5356 hF => ?_) (fun _ hF => nomatch hF)
  obtain rfl := Option.some.inj hF
  have pz : HoldAll E H hn172_173 [.int (nlen (len a5294)) (nlen (len a5294)), .test (ilt (nlen (len a5294)) 2) false, .int (nlen (len a5294)) (nlen (len a5294)), .test (izero 2) false, .int (wquo .i64 (nlen (len a5294)) 2) (wquo .i64 (nlen (len a5294)) 2), .test (bnd 0 (wquo .i64 (nlen (len a5294)) 2) (len a5294)) true, .sl (nsub 0 (wquo .i64 (nlen (len a5294)) 2)) (lsub (flat eGMsg a5294) 0 (wquo .i64 (nlen (len a5294)) 2) 2) (len (α := GMsg) (subL a5294 0 (wquo .i64 (nlen (len a5294)) 2))) (flat eGMsg (subL a5294 0 (wquo .i64 (nlen (len a5294)) 2))), .call 172 [.one (.sl (len (α := GMsg) (subL a5294 0 (wquo .i64 (nlen (len a5294)) 2))) (flat eGMsg (subL a5294 0 (wquo .i64 (nlen (len a5294)) 2)))), .one (.lit (fnV 173))] (F172_173_res r5298), .test (leadsAny (Res.mk [(.one (.own 130 (.sl (len r5298) (flat eGMsg r5298))))] [])) false, .test (bnd (wquo .i64 (nlen (len a5294)) 2) (nlen (len a5294)) (len a5294)) true, .sl (nsub (wquo .i64 (nlen (len a5294)) 2) (nlen (len a5294))) (lsub (flat eGMsg a5294) (wquo .i64 (nlen (len a5294)) 2) (nlen (len a5294)) 2) (len (α := GMsg) (subL a5294 (wquo .i64 (nlen (len a5294)) 2) (nlen (len a5294)))) (flat eGMsg (subL a5294 (wquo .i64 (nlen (len a5294)) 2) (nlen (len a5294)))), .call 172 [.one (.sl (len (α := GMsg) (subL a5294 (wquo .i64 (nlen (len a5294)) 2) (nlen (len a5294)))) (flat eGMsg (subL a5294 (wquo .i64 (nlen (len a5294)) 2) (nlen (len a5294))))), .one (.lit (fnV 173))] (F172_173_res r5301), .test (leadsAny (Res.mk [(.one (.own 130 (.sl (len r5301) (flat eGMsg r5301))))] [])) false, .int (nlen (len a5294)) (nlen (len a5294)), .test (mkok 0 (nlen (len a5294)) 16) true, .sl (nint 0) (lrep 0 [(.lit (.int .i64 0)), (.lit (.int .i64 0))]) (len (α := GMsg) (repL (α := GMsg) 0 (GMsg.mk 0 0))) (flat eGMsg (repL (α := GMsg) 0 (GMsg.mk 0 0))), .loop 0 c172_173_0 (F172_173_l0_0_S  r5298 r5301 (repL (α := GMsg) 0 (GMsg.mk 0 0))) (.exit 0) (F172_173_l0_0_X0  w5351), .test (leqm (flat eGMsg w5351.1) (len w5351.1) 2) true, .test (apok (len w5351.2.2) (len w5351.1) 16) true, .sl (nadd (len w5351.2.2) (len w5351.1)) (lapp (flat eGMsg w5351.2.2) (flat eGMsg w5351.1)) (len (α := GMsg) (appL w5351.2.2 w5351.1)) (flat eGMsg (appL w5351.2.2 w5351.1)), .test (leqm (flat eGMsg w5351.2.1) (len w5351.2.1) 2) true, .test (apok (len (α := GMsg) (appL w5351.2.2 w5351.1)) (len w5351.2.1) 16) true, .sl (nadd (len (α := GMsg) (appL w5351.2.2 w5351.1)) (len w5351.2.1)) (lapp (flat eGMsg (appL w5351.2.2 w5351.1)) (flat eGMsg w5351.2.1)) (len (α := GMsg) (appL (appL w5351.2.2 w5351.1) w5351.2.1)) (flat eGMsg (appL (appL w5351.2.2 w5351.1) w5351.2.1))] := ⟨rfl, h5295, rfl, (by first | exact rfl | (unfold Cond.Holds; decide)), rfl, h5297, (sub_ok eGMsg_len h5297), (ih (subL a5294 0 (wquo .i64 (nlen (len a5294)) 2)) _ h5299), (leads_ok (by simp [leadsAny, RV.leads, RC.leads, leadsT, hasSl_lit, flat_ns eGMsg_ns])), h5300, (sub_ok eGMsg_len h5300), (ih (subL a5294 (wquo .i64 (nlen (len a5294)) 2) (nlen (len a5294))) _ h5302), (leads_ok (by simp [leadsAny, RV.leads, RC.leads, leadsT, hasSl_lit, flat_ns eGMsg_ns])), rfl, h5303, (rep_okC (enc := eGMsg) (n := 0) (x := (GMsg.mk 0 0)) rfl), (F172_173_l0_0_ok K  K r5298 r5301 (repL (α := GMsg) 0 (GMsg.mk 0 0)) _ h5349), (leqm_flat eGMsg_len _), h5355, (app_ok (enc := eGMsg) (w5351.2.2 : List GMsg) w5351.1), (leqm_flat eGMsg_len _), h5356, (app_ok (enc := eGMsg) ((appL w5351.2.2 w5351.1) : List GMsg) w5351.2.1), trivial⟩
  exact fn_playC hn172_173 (r := F172_173_res (appL (appL w5351.2.2 w5351.1) w5351.2.1)) pz (by kernel_rfl) (by kernel_rfl)
noncomputable def hn169 : Hint := { H 169 with nt := 5, prot := 0 }
def F169_res (r5360 : List GMsg) : Res := ⟨[(.one (.own 130 (.sl (len r5360) (flat eGMsg r5360))))], []⟩
def F169 (K : Nat) (a5293 : List GMsg) : Option (List GMsg) :=
 (F172_173 K K a5293).bind fun r5358 =>
 some r5358
theorem F169_ok (K : Nat) (a5293 : List GMsg) (r : List GMsg) (hF : F169 K a5293 = some r) : Evt E H 169 [.one (.sl (len a5293) (flat eGMsg a5293))] (F169_res r) := by
 rw [F169] at hF
 refine bind_some hF (fun r5358 h5359 hF => ?_)
 obtain rfl := Option.some.inj hF
 have pz : HoldAll E H hn169 [.call 172 [.one (.sl (len a5293) (flat eGMsg a5293)), .one (.lit (fnV 173))] (F172_173_res r5358), .test (leadsAny (Res.mk [(.one (.own 130 (.sl (len r5358) (flat eGMsg r5358))))] [])) false] := ⟨(F172_173_ok K K a5293 _ h5359), (leads_ok (by simp [leadsAny, RV.leads, RC.leads, leadsT, hasSl_lit, flat_ns eGMsg_ns])), trivial⟩
 exact fn_playC hn169 (r := F169_res r5358) pz (by kernel_rfl) (by kernel_rfl)
noncomputable def hn150 : Hint := { H 150 with nt := 72, prot := 0 }
noncomputable def c150_0 : Code := loopOf E 150 0
def F150_res (r5414 : List GMsg × Int) : Res := ⟨[(.one (.own 130 (.sl (len r5414.1) (flat eGMsg r5414.1)))), (.one (.im (.lit (.int .i64 r5414.2))))], []⟩
def F150_l0_0 (K : Nat) (a5288 : Int) (r5361 : List GMsg) : Nat → List GMsg → Int → Option ((Int) ⊕ (List GMsg))
 | 0, _, _ => none
 | k + 1, v5384, v5385 =>
  bif (ilt v5385 (nlen (len r5361))) then
   (bif (inr v5385 (len r5361)) then
   (elAt r5361 v5385).bind fun x5388 =>
   bif (ilt 0 (nlen (len v5384))) then
    (bif (inr (wsub .i64 (nlen (len v5384)) 1) (len v5384)) then
    (elAt v5384 (wsub .i64 (nlen (len v5384)) 1)).bind fun x5392 =>
    bif (ieq x5392.To x5388.To) then
     ((F97 K a5288 x5392.V x5388.V).bind fun r5395 =>
     bif (ieq r5395.2 0) then
      (F150_l0_0 K a5288 r5361 k (putAt v5384 (wsub .i64 (nlen (len v5384)) 1) (GMsg.mk x5392.To r5395.1)) (wadd .i64 v5385 1))
     else
     some (.inl r5395.2))
    else
    bif (apok (len v5384) 1 16) then
    F150_l0_0 K a5288 r5361 k (appL v5384 [x5388]) (wadd .i64 v5385 1)
    else none
    else none)
   else
   bif (apok (len v5384) 1 16) then
   F150_l0_0 K a5288 r5361 k (appL v5384 [x5388]) (wadd .i64 v5385 1)
   else none
   else none)
  else
  some (.inr v5384)
def F150_l0_0_S (a5288 : Int) (r5361 : List GMsg) (v5384 : List GMsg) (v5385 : Int) : TS := .on [0, 1, 512, 513, 1472, 1473, 1536, 1537, 1600, 1601] [(0, ⟨.one, 0, nob⟩), (1, ⟨.im, 0, (.lit (.int .i64 a5288))⟩), (512, ⟨.one, 0, nob⟩), (513, ⟨(.own 130), 0, (.sl (len v5384) (flat eGMsg v5384))⟩), (1472, ⟨.one, 0, nob⟩), (1473, ⟨(.own 130), 0, (.sl (len r5361) (flat eGMsg r5361))⟩), (1536, ⟨.one, 0, nob⟩), (1537, ⟨.im, 0, (.lit (.int .i64 (nlen (len r5361))))⟩), (1600, ⟨.one, 0, nob⟩), (1601, ⟨.im, 0, (.lit (.int .i64 v5385))⟩)]
def F150_l0_0_X0 (a5288 : Int) (r5361 : List GMsg) (w5400 : Int) : TS := .on [256, 257, 320, 321] [(256, ⟨.one, 0, nob⟩), (257, ⟨(.own 130), 0, (.sl 0 [])⟩), (320, ⟨.one, 0, nob⟩), (321, ⟨.im, 0, (.lit (.int .i64 w5400))⟩)]
def F150_l0_0_X1 (a5288 : Int) (r5361 : List GMsg) (w5402 : List GMsg) : TS := .on [512, 513] [(512, ⟨.one, 0, nob⟩), (513, ⟨(.own 130), 0, (.sl (len w5402) (flat eGMsg w5402))⟩)]
theorem F150_l0_0_ok (K : Nat) (a5288 : Int) (r5361 : List GMsg) : ∀ (k : Nat) (v5384 : List GMsg) (v5385 : Int) (r : (Int) ⊕ (List GMsg)), F150_l0_0 K a5288 r5361 k v5384 v5385 = some r → (Sum.elim (fun w => LoopEv E H hn150 0 c150_0 (F150_l0_0_S a5288 r5361 v5384 v5385) .ret (F150_l0_0_X0 a5288 r5361 w)) (fun w => LoopEv E H hn150 0 c150_0 (F150_l0_0_S a5288 r5361 v5384 v5385) (.exit 0) (F150_l0_0_X1 a5288 r5361 w))) r := by
 intro k
 induction k with
 | zero => intro v5384 v5385 r hF; cases hF
 | succ k ih =>
  intro v5384 v5385 r hF
  rw [F150_l0_0] at hF
  refine cond_some hF (fun h5386 hF => ?_) (fun h5386 hF => ?_)
  ·
   refine cond_some hF (fun h5387 hF => ?_) (fun _ hF => nomatch hF)
   refine bind_some hF (fun x5388 h5389 hF => ?_)
   have pq5404 : ∀ {l : List Cond}, HoldAll E H hn150 l → HoldAll E H hn150 (.test (ilt v5385 (nlen (len r5361))) true :: .test (inr v5385 (len r5361)) true :: .sub (flat eGMsg r5361) (nidx v5385 2) 2 [(.lit (.int .i64 x5388.To)), (.lit (.int .i64 x5388.V))] :: .int (nlen (len v5384)) (nlen (len v5384)) :: l) := fun z => ⟨h5386, h5387, ⟨rfl, sub_flat0 eGMsg_len h5389 2 (by decide)⟩, rfl, z⟩
   refine cond_some hF (fun h5390 hF => ?_) (fun h5390 hF => ?_)
   ·
    refine cond_some hF (fun h5391 hF => ?_) (fun _ hF => nomatch hF)
    refine bind_some hF (fun x5392 h5393 hF => ?_)
    have pq5405 : ∀ {l : List Cond}, HoldAll E H hn150 l → HoldAll E H hn150 (.test (beqb (igt (nlen (len v5384)) 0) true) true :: .test (beqb (igt (nlen (len v5384)) 0) true) true :: .test (beqb (igt (nlen (len v5384)) 0) true) true :: .int (wsub .i64 (nlen (len v5384)) 1) (wsub .i64 (nlen (len v5384)) 1) :: .test (beqb (igt (nlen (len v5384)) 0) true) true :: .test (inr (wsub .i64 (nlen (len v5384)) 1) (len v5384)) true :: .test (beqb (igt (nlen (len v5384)) 0) true) true :: .test (beqb (igt (nlen (len v5384)) 0) true) true :: .sub (flat eGMsg v5384) (nadd (nidx (wsub .i64 (nlen (len v5384)) 1) 2) 0) 1 [(.lit (.int .i64 x5392.To))] :: .test (beqb (igt (nlen (len v5384)) 0) true) true :: .test (beqb (igt (nlen (len v5384)) 0) true) true :: .test (beqb (igt (nlen (len v5384)) 0) true) true :: .test (igt (nlen (len v5384)) 0) true :: l) := fun z => ⟨(beqb_t (igt_eq h5390)), (beqb_t (igt_eq h5390)), (beqb_t (igt_eq h5390)), rfl, (beqb_t (igt_eq h5390)), h5391, (beqb_t (igt_eq h5390)), (beqb_t (igt_eq h5390)), ⟨rfl, sub_flat eGMsg_len h5393 0 1 (by decide)⟩, (beqb_t (igt_eq h5390)), (beqb_t (igt_eq h5390)), (beqb_t (igt_eq h5390)), (igt_eq h5390), z⟩
    refine cond_some hF (fun h5394 hF => ?_) (fun h5394 hF => ?_)
    ·
     refine bind_some hF (fun r5395 h5396 hF => ?_)
     have pq5406 : ∀ {l : List Cond}, HoldAll E H hn150 l → HoldAll E H hn150 (.test (ieq x5392.To x5388.To) true :: .int (wsub .i64 (nlen (len v5384)) 1) (wsub .i64 (nlen (len v5384)) 1) :: .test (inr (wsub .i64 (nlen (len v5384)) 1) (len v5384)) true :: .sub (flat eGMsg v5384) (nadd (nidx (wsub .i64 (nlen (len v5384)) 1) 2) 1) 1 [(.lit (.int .i64 x5392.V))] :: .call 97 [.one (.lit (.int .i64 a5288)), .one (.lit (.int .i64 x5392.V)), .one (.lit (.int .i64 x5388.V))] (F97_res r5395) :: .test (leadsAny (Res.mk [(.one (.im (.lit (.int .i64 r5395.1)))), (.one (.im (.lit (.int .i64 r5395.2))))] [])) false :: l) := fun z => ⟨h5394, rfl, h5391, ⟨rfl, sub_flat eGMsg_len h5393 1 1 (by decide)⟩, (F97_ok K a5288 x5392.V x5388.V _ h5396), (leads_ok (by simp [leadsAny, RV.leads, RC.leads, leadsT, hasSl_lit, flat_ns eGMsg_ns])), z⟩
     refine cond_some hF (fun h5397 hF => ?_) (fun h5397 hF => ?_)
     ·
      have pz : HoldAll E H hn150 [.test (ine r5395.2 0) false, .int (wsub .i64 (nlen (len v5384)) 1) (wsub .i64 (nlen (len v5384)) 1), .test (inr (wsub .i64 (nlen (len v5384)) 1) (len v5384)) true, .test (lfits (nadd (nidx (wsub .i64 (nlen (len v5384)) 1) 2) 1) 1 (flat eGMsg v5384)) true, .sl (len v5384) (lset (flat eGMsg v5384) (nadd (nidx (wsub .i64 (nlen (len v5384)) 1) 2) 1) [(.lit (.int .i64 r5395.1))]) (len (α := GMsg) (putAt v5384 (wsub .i64 (nlen (len v5384)) 1) (GMsg.mk x5392.To r5395.1))) (flat eGMsg (putAt v5384 (wsub .i64 (nlen (len v5384)) 1) (GMsg.mk x5392.To r5395.1))), .int (wadd .i64 v5385 1) (wadd .i64 v5385 1)] := ⟨(ine_t h5397), rfl, h5391, (lfits_flat eGMsg_len h5393 1 _ (by decide)), (set_ok eGMsg_len h5393 1 _ (by simp) rfl), rfl, trivial⟩
      have h0 := ih _ _ _ hF
      have hn := fun ex ts' => loop_nextC (h := hn150) (l := 0) (c := c150_0) (ts := F150_l0_0_S a5288 r5361 v5384 v5385) (ts1 := (F150_l0_0_S a5288 r5361 (putAt v5384 (wsub .i64 (nlen (len v5384)) 1) (GMsg.mk x5392.To r5395.1)) (wadd .i64 v5385 1))) (ex := ex) (ts' := ts') (pq5404 (pq5405 (pq5406 pz))) (by kernel_rfl)
      cases r with
      | inl w => exact hn _ _ h0
      | inr w => exact hn _ _ h0
     obtain rfl := Option.some.inj hF
     have pz : HoldAll E H hn150 [.test (ine r5395.2 0) true] := ⟨(ine_f h5397), trivial⟩
     exact loop_endC (h := hn150) (l := 0) (c := c150_0) (ts := F150_l0_0_S a5288 r5361 v5384 v5385) (ts' := F150_l0_0_X0 a5288 r5361 r5395.2) (ex := .ret) (pq5404 (pq5405 (pq5406 pz))) (by kernel_rfl) trivial
    refine cond_some hF (fun h5398 hF => ?_) (fun _ hF => nomatch hF)
    have pz : HoldAll E H hn150 [.test (ieq x5392.To x5388.To) false, .test (leqm [(.lit (.int .i64 x5388.To)), (.lit (.int .i64 x5388.V))] 1 2) true, .test (apok (len v5384) 1 16) true, .sl (nadd (len v5384) 1) (lapp (flat eGMsg v5384) [(.lit (.int .i64 x5388.To)), (.lit (.int .i64 x5388.V))]) (len (α := GMsg) (appL v5384 [x5388])) (flat eGMsg (appL v5384 [x5388])), .int (wadd .i64 v5385 1) (wadd .i64 v5385 1)] := ⟨h5394, rfl, h5398, (app_ok (enc := eGMsg) (v5384 : List GMsg) [x5388]), rfl, trivial⟩
    have h0 := ih _ _ _ hF
    have hn := fun ex ts' => loop_nextC (h := hn150) (l := 0) (c := c150_0) (ts := F150_l0_0_S a5288 r5361 v5384 v5385) (ts1 := (F150_l0_0_S a5288 r5361 (appL v5384 [x5388]) (wadd .i64 v5385 1))) (ex := ex) (ts' := ts') (pq5404 (pq5405 pz)) (by kernel_rfl)
    cases r with
    | inl w => exact hn _ _ h0
    | inr w => exact hn _ _ h0
   refine cond_some hF (fun h5399 hF => ?_) (fun _ hF => nomatch hF)
   have pz : HoldAll E H hn150 [.test (beqb (igt (nlen (len v5384)) 0) true) false, .test (beqb (igt (nlen (len v5384)) 0) true) false, .test (beqb (igt (nlen (len v5384)) 0) true) false, .test (beqb (igt (nlen (len v5384)) 0) true) false, .test (beqb (igt (nlen (len v5384)) 0) true) false, .test (beqb (igt (nlen (len v5384)) 0) true) false, .test (beqb (igt (nlen (len v5384)) 0) true) false, .test (beqb (igt (nlen (len v5384)) 0) true) false, .test (beqb (igt (nlen (len v5384)) 0) true) false, .test (igt (nlen (len v5384)) 0) false, .test false false, .test (leqm [(.lit (.int .i64 x5388.To)), (.lit (.int .i64 x5388.V))] 1 2) true, .test (apok (len v5384) 1 16) true, .sl (nadd (len v5384) 1) (lapp (flat eGMsg v5384) [(.lit (.int .i64 x5388.To)), (.lit (.int .i64 x5388.V))]) (len (α := GMsg) (appL v5384 [x5388])) (flat eGMsg (appL v5384 [x5388])), .int (wadd .i64 v5385 1) (wadd .i64 v5385 1)] := ⟨(beqb_t (igt_eq h5390)), (beqb_t (igt_eq h5390)), (beqb_t (igt_eq h5390)), (beqb_t (igt_eq h5390)), (beqb_t (igt_eq h5390)), (beqb_t (igt_eq h5390)), (beqb_t (igt_eq h5390)), (beqb_t (igt_eq h5390)), (beqb_t (igt_eq h5390)), (igt_eq h5390), rfl, rfl, h5399, (app_ok (enc := eGMsg) (v5384 : List GMsg) [x5388]), rfl, trivial⟩
   have h0 := ih _ _ _ hF
   have hn := fun ex ts' => loop_nextC (h := hn150) (l := 0) (c := c150_0) (ts := F150_l0_0_S a5288 r5361 v5384 v5385) (ts1 := (F150_l0_0_S a5288 r5361 (appL v5384 [x5388]) (wadd .i64 v5385 1))) (ex := ex) (ts' := ts') (pq5404 pz) (by kernel_rfl)
   cases r with
   | inl w => exact hn _ _ h0
   | inr w => exact hn _ _ h0
  obtain rfl := Option.some.inj hF
  have pz : HoldAll E H hn150 [.test (ilt v5385 (nlen (len r5361))) false] := ⟨h5386, trivial⟩
  exact loop_endC (h := hn150) (l := 0) (c := c150_0) (ts := F150_l0_0_S a5288 r5361 v5384 v5385) (ts' := F150_l0_0_X1 a5288 r5361 v5384) (ex := (.exit 0)) pz (by kernel_rfl) trivial
def F150 (K : Nat) (a5288 : Int) (a5289 : List GMsg) : Option (List GMsg × Int) :=
 (F97 K a5288 0 0).bind fun r5290 =>
 bif (ieq r5290.2 0) then
  ((F169 K a5289).bind fun r5361 =>
  (F150_l0_0 K a5288 r5361 K [] 0).bind fun y5408 =>
  Sum.elim (fun w5409 =>
   some ([], w5409))
   (fun w5411 =>
   some (w5411, 0)) y5408)
 else
 some ([], r5290.2)
theorem F150_ok (K : Nat) (a5288 : Int) (a5289 : List GMsg) (r : List GMsg × Int) (hF : F150 K a5288 a5289 = some r) : Evt E H 150 [.one (.lit (.int .i64 a5288)), .one (.sl (len a5289) (flat eGMsg a5289))] (F150_res r) := by
 rw [F150] at hF
 refine bind_some hF (fun r5290 h5291 hF => ?_)
 refine cond_some hF (fun h5292 hF => ?_) (fun h5292 hF => ?_)
 ·
  refine bind_some hF (fun r5361 h5362 hF => ?_)
  have pq5413 : ∀ {l : List Cond}, HoldAll E H hn150 l → HoldAll E H hn150 (.call 97 [.one (.lit (.int .i64 a5288)), .one (.lit (.int .i64 0)), .one (.lit (.int .i64 0))] (F97_res r5290) :: .test (leadsAny (Res.mk [(.one (.im (.lit (.int .i64 r5290.1)))), (.one (.im (.lit (.int .i64 r5290.2))))] [])) false :: .test (ine r5290.2 0) false :: .call 169 [.one (.sl (len a5289) (flat eGMsg a5289))] (F169_res r5361) :: .test (leadsAny (Res.mk [(.one (.own 130 (.sl (len r5361) (flat eGMsg r5361))))] [])) false :: .int (nlen (len r5361)) (nlen (len r5361)) :: l) := fun z => ⟨(F97_ok K a5288 0 0 _ h5291), (leads_ok (by simp [leadsAny, RV.leads, RC.leads, leadsT, hasSl_lit, flat_ns eGMsg_ns])), (ine_t h5292), (F169_ok K a5289 _ h5362), (leads_ok (by simp [leadsAny, RV.leads, RC.leads, leadsT, hasSl_lit, flat_ns eGMsg_ns])), rfl, z⟩
  refine bind_some hF (fun y5408 h5407 hF => ?_)
  refine sum_some hF (fun w5409 hx hF => ?_) (fun w5411 hx hF => ?_)
  ·
   subst hx
   obtain rfl := Option.some.inj hF
   have pz : HoldAll E H hn150 [.loop 0 c150_0 (F150_l0_0_S a5288 r5361 [] 0) .ret (F150_l0_0_X0 a5288 r5361 w5409)] := ⟨(F150_l0_0_ok K a5288 r5361 K [] 0 _ h5407), trivial⟩
   exact fn_playC hn150 (r := F150_res ([], w5409)) (pq5413 pz) (by kernel_rfl) (by kernel_rfl)
  subst hx
  obtain rfl := Option.some.inj hF
  have pz : HoldAll E H hn150 [.loop 0 c150_0 (F150_l0_0_S a5288 r5361 [] 0) (.exit 0) (F150_l0_0_X1 a5288 r5361 w5411)] := ⟨(F150_l0_0_ok K a5288 r5361 K [] 0 _ h5407), trivial⟩
  exact fn_playC hn150 (r := F150_res (w5411, 0)) (pq5413 pz) (by kernel_rfl) (by kernel_rfl)
 obtain rfl := Option.some.inj hF
 have pz : HoldAll E H hn150 [.call 97 [.one (.lit (.int .i64 a5288)), .one (.lit (.int .i64 0)), .one (.lit (.int .i64 0))] (F97_res r5290), .test (leadsAny (Res.mk [(.one (.im (.lit (.int .i64 r5290.1)))), (.one (.im (.lit (.int .i64 r5290.2))))] [])) false, .test (ine r5290.2 0) true] := ⟨(F97_ok K a5288 0 0 _ h5291), (leads_ok (by simp [leadsAny, RV.leads, RC.leads, leadsT, hasSl_lit])), (ine_f h5292), trivial⟩
 exact fn_playC hn150 (r := F150_res ([], r5290.2)) pz (by kernel_rfl) (by kernel_rfl)
noncomputable def hn152 : Hint := { H 152 with nt := 68, prot := 0 }
noncomputable def c152_0 : Code := loopOf E 152 0
noncomputable def c152_1 : Code := loopOf E 152 1
def F152_res (r2117 : List GMsg × Int) : Res := ⟨[(.one (.own 130 (.sl (len r2117.1) (flat eGMsg r2117.1)))), (.one (.im (.lit (.int .i64 r2117.2))))], []⟩
def F152_l1_1 (K : Nat) (a1916 : Int) (r2026 : List GMsg) (v2065 : List GMsg) (x2069 : GMsg) : Nat → Int → Int → Option ((Int) ⊕ (Int × Int))
 | 0, _, _ => none
 | k + 1, v2079, v2080 =>
  bif (ilt v2079 (nlen (len r2026))) then
   (bif (inr v2079 (len r2026)) then
   (elAt r2026 v2079).bind fun x2083 =>
   bif (ieq x2083.To x2069.To) then
    ((F98 K a1916 v2080 x2083.V).bind fun r2086 =>
    bif (ieq r2086.2 0) then
     (F152_l1_1 K a1916 r2026 v2065 x2069 k (wadd .i64 v2079 1) r2086.1)
    else
    some (.inl r2086.2))
   else
   some (.inr (v2079, v2080))
   else none)
  else
  some (.inr (v2079, v2080))
def F152_l1_1_S (a1916 : Int) (r2026 : List GMsg) (v2065 : List GMsg) (x2069 : GMsg) (v2079 : Int) (v2080 : Int) : TS := .on [0, 1, 384, 385, 448, 449, 512, 513, 576, 577, 578] [(0, ⟨.one, 0, nob⟩), (1, ⟨.im, 0, (.lit (.int .i64 a1916))⟩), (384, ⟨.one, 0, nob⟩), (385, ⟨(.own 130), 0, (.sl (len r2026) (flat eGMsg r2026))⟩), (448, ⟨.one, 0, nob⟩), (449, ⟨(.own 130), 0, (.sl (len v2065) (flat eGMsg v2065))⟩), (512, ⟨.one, 0, nob⟩), (513, ⟨.im, 0, (.lit (.int .i64 v2079))⟩), (576, ⟨(.box 130 2), 0, nob⟩), (577, ⟨.im, 0, (.lit (.int .i64 x2069.To))⟩), (578, ⟨.im, 0, (.lit (.int .i64 v2080))⟩)]
def F152_l1_1_X0 (a1916 : Int) (r2026 : List GMsg) (v2065 : List GMsg) (x2069 : GMsg) (w2089 : Int) : TS := .on [256, 257, 320, 321] [(256, ⟨.one, 0, nob⟩), (257, ⟨(.own 130), 0, (.sl 0 [])⟩), (320, ⟨.one, 0, nob⟩), (321, ⟨.im, 0, (.lit (.int .i64 w2089))⟩)]
def F152_l1_1_X1 (a1916 : Int) (r2026 : List GMsg) (v2065 : List GMsg) (x2069 : GMsg) (w2091 : Int × Int) : TS := .on [0, 1, 384, 385, 448, 449, 512, 513, 576, 577, 578] [(0, ⟨.one, 0, nob⟩), (1, ⟨.im, 0, (.lit (.int .i64 a1916))⟩), (384, ⟨.one, 0, nob⟩), (385, ⟨(.own 130), 0, (.sl (len r2026) (flat eGMsg r2026))⟩), (448, ⟨.one, 0, nob⟩), (449, ⟨(.own 130), 0, (.sl (len v2065) (flat eGMsg v2065))⟩), (512, ⟨.one, 0, nob⟩), (513, ⟨.im, 0, (.lit (.int .i64 w2091.1))⟩), (576, ⟨(.box 130 2), 0, nob⟩), (577, ⟨.im, 0, (.lit (.int .i64 x2069.To))⟩), (578, ⟨.im, 0, (.lit (.int .i64 w2091.2))⟩)]
theorem F152_l1_1_ok (K : Nat) (a1916 : Int) (r2026 : List GMsg) (v2065 : List GMsg) (x2069 : GMsg) : ∀ (k : Nat) (v2079 : Int) (v2080 : Int) (r : (Int) ⊕ (Int × Int)), F152_l1_1 K a1916 r2026 v2065 x2069 k v2079 v2080 = some r → (Sum.elim (fun w => LoopEv E H hn152 2 c152_1 (F152_l1_1_S a1916 r2026 v2065 x2069 v2079 v2080) .ret (F152_l1_1_X0 a1916 r2026 v2065 x2069 w)) (fun w => LoopEv E H hn152 2 c152_1 (F152_l1_1_S a1916 r2026 v2065 x2069 v2079 v2080) (.exit 2) (F152_l1_1_X1 a1916 r2026 v2065 x2069 w))) r := by
 intro k
 induction k with
 | zero => intro v2079 v2080 r hF; cases hF
 | succ k ih =>
  intro v2079 v2080 r hF
  rw [F152_l1_1] at hF
  refine cond_some hF (fun h2081 hF => ?_) (fun h2081 hF => ?_)
  ·
   refine cond_some hF (fun h2082 hF => ?_) (fun _ hF => nomatch hF)
   refine bind_some hF (fun x2083 h2084 hF => ?_)
   have pq2094 : ∀ {l : List Cond}, HoldAll E H hn152 l → HoldAll E H hn152 (.int (nlen (len r2026)) (nlen (len r2026)) :: .test (beqb (ilt v2079 (nlen (len r2026))) true) true :: .test (beqb (ilt v2079 (nlen (len r2026))) true) true :: .test (beqb (ilt v2079 (nlen (len r2026))) true) true :: .test (inr v2079 (len r2026)) true :: .test (beqb (ilt v2079 (nlen (len r2026))) true) true :: .test (beqb (ilt v2079 (nlen (len r2026))) true) true :: .sub (flat eGMsg r2026) (nadd (nidx v2079 2) 0) 1 [(.lit (.int .i64 x2083.To))] :: .test (beqb (ilt v2079 (nlen (len r2026))) true) true :: .test (beqb (ilt v2079 (nlen (len r2026))) true) true :: .test (beqb (ilt v2079 (nlen (len r2026))) true) true :: .test (ilt v2079 (nlen (len r2026))) true :: l) := fun z => ⟨rfl, (beqb_t h2081), (beqb_t h2081), (beqb_t h2081), h2082, (beqb_t h2081), (beqb_t h2081), ⟨rfl, sub_flat eGMsg_len h2084 0 1 (by decide)⟩, (beqb_t h2081), (beqb_t h2081), (beqb_t h2081), h2081, z⟩
   refine cond_some hF (fun h2085 hF => ?_) (fun h2085 hF => ?_)
   ·
    refine bind_some hF (fun r2086 h2087 hF => ?_)
    have pq2095 : ∀ {l : List Cond}, HoldAll E H hn152 l → HoldAll E H hn152 (.test (ieq x2083.To x2069.To) true :: .test (inr v2079 (len r2026)) true :: .sub (flat eGMsg r2026) (nadd (nidx v2079 2) 1) 1 [(.lit (.int .i64 x2083.V))] :: .call 98 [.one (.lit (.int .i64 a1916)), .one (.lit (.int .i64 v2080)), .one (.lit (.int .i64 x2083.V))] (F98_res r2086) :: .test (leadsAny (Res.mk [(.one (.im (.lit (.int .i64 r2086.1)))), (.one (.im (.lit (.int .i64 r2086.2))))] [])) false :: l) := fun z => ⟨h2085, h2082, ⟨rfl, sub_flat eGMsg_len h2084 1 1 (by decide)⟩, (F98_ok K a1916 v2080 x2083.V _ h2087), (leads_ok (by simp [leadsAny, RV.leads, RC.leads, leadsT, hasSl_lit, flat_ns eGMsg_ns])), z⟩
    refine cond_some hF (fun h2088 hF => ?_) (fun h2088 hF => ?_)
    ·
     have pz : HoldAll E H hn152 [.test (ine r2086.2 0) false, .int (wadd .i64 v2079 1) (wadd .i64 v2079 1)] := ⟨(ine_t h2088), rfl, trivial⟩
     have h0 := ih _ _ _ hF
     have hn := fun ex ts' => loop_nextC (h := hn152) (l := 2) (c := c152_1) (ts := F152_l1_1_S a1916 r2026 v2065 x2069 v2079 v2080) (ts1 := (F152_l1_1_S a1916 r2026 v2065 x2069 (wadd .i64 v2079 1) r2086.1)) (ex := ex) (ts' := ts') (pq2094 (pq2095 pz)) (by kernel_rfl)
     cases r with
     | inl w => exact hn _ _ h0
     | inr w => exact hn _ _ h0
    obtain rfl := Option.some.inj hF
    have pz : HoldAll E H hn152 [.test (ine r2086.2 0) true] := ⟨(ine_f h2088), trivial⟩
    exact loop_endC (h := hn152) (l := 2) (c := c152_1) (ts := F152_l1_1_S a1916 r2026 v2065 x2069 v2079 v2080) (ts' := F152_l1_1_X0 a1916 r2026 v2065 x2069 r2086.2) (ex := .ret) (pq2094 (pq2095 pz)) (by kernel_rfl) trivial
   obtain rfl := Option.some.inj hF
   have pz : HoldAll E H hn152 [.test (ieq x2083.To x2069.To) false] := ⟨h2085, trivial⟩
   exact loop_endC (h := hn152) (l := 2) (c := c152_1) (ts := F152_l1_1_S a1916 r2026 v2065 x2069 v2079 v2080) (ts' := F152_l1_1_X1 a1916 r2026 v2065 x2069 (v2079, v2080)) (ex := (.exit 2)) (pq2094 pz) (by kernel_rfl) trivial
  obtain rfl := Option.some.inj hF
  have pz : HoldAll E H hn152 [.int (nlen (len r2026)) (nlen (len r2026)), .test (beqb (ilt v2079 (nlen (len r2026))) true) false, .test (beqb (ilt v2079 (nlen (len r2026))) true) false, .test (beqb (ilt v2079 (nlen (len r2026))) true) false, .test (beqb (ilt v2079 (nlen (len r2026))) true) false, .test (beqb (ilt v2079 (nlen (len r2026))) true) false, .test (beqb (ilt v2079 (nlen (len r2026))) true) false, .test (beqb (ilt v2079 (nlen (len r2026))) true) false, .test (beqb (ilt v2079 (nlen (len r2026))) true) false, .test (ilt v2079 (nlen (len r2026))) false, .test false false] := ⟨rfl, (beqb_t h2081), (beqb_t h2081), (beqb_t h2081), (beqb_t h2081), (beqb_t h2081), (beqb_t h2081), (beqb_t h2081), (beqb_t h2081), h2081, rfl, trivial⟩
  exact loop_endC (h := hn152) (l := 2) (c := c152_1) (ts := F152_l1_1_S a1916 r2026 v2065 x2069 v2079 v2080) (ts' := F152_l1_1_X1 a1916 r2026 v2065 x2069 (v2079, v2080)) (ex := (.exit 2)) pz (by kernel_rfl) trivial
def F152_l0_0 (K : Nat) (a1916 : Int) (r2026 : List GMsg) : Nat → List GMsg → Int → Option ((Int) ⊕ (List GMsg))
 | 0, _, _ => none
 | k + 1, v2065, v2066 =>
  bif (ilt v2066 (nlen (len r2026))) then
   (bif (inr v2066 (len r2026)) then
   (elAt r2026 v2066).bind fun x2069 =>
   (F152_l1_1 K a1916 r2026 v2065 x2069 K (wadd .i64 v2066 1) x2069.V).bind fun y2097 =>
   Sum.elim (fun w2098 =>
    some (.inl w2098))
    (fun w2100 =>
    bif (apok (len v2065) 1 16) then
    F152_l0_0 K a1916 r2026 k (appL v2065 [(GMsg.mk x2069.To w2100.2)]) w2100.1
    else none) y2097
   else none)
  else
  some (.inr v2065)
def F152_l0_0_S (a1916 : Int) (r2026 : List GMsg) (v2065 : List GMsg) (v2066 : Int) : TS := .on [0, 1, 384, 385, 448, 449, 512, 513] [(0, ⟨.one, 0, nob⟩), (1, ⟨.im, 0, (.lit (.int .i64 a1916))⟩), (384, ⟨.one, 0, nob⟩), (385, ⟨(.own 130), 0, (.sl (len r2026) (flat eGMsg r2026))⟩), (448, ⟨.one, 0, nob⟩), (449, ⟨(.own 130), 0, (.sl (len v2065) (flat eGMsg v2065))⟩), (512, ⟨.one, 0, nob⟩), (513, ⟨.im, 0, (.lit (.int .i64 v2066))⟩)]
def F152_l0_0_X0 (a1916 : Int) (r2026 : List GMsg) (w2104 : Int) : TS := .on [256, 257, 320, 321] [(256, ⟨.one, 0, nob⟩), (257, ⟨(.own 130), 0, (.sl 0 [])⟩), (320, ⟨.one, 0, nob⟩), (321, ⟨.im, 0, (.lit (.int .i64 w2104))⟩)]
def F152_l0_0_X1 (a1916 : Int) (r2026 : List GMsg) (w2106 : List GMsg) : TS := .on [448, 449] [(448, ⟨.one, 0, nob⟩), (449, ⟨(.own 130), 0, (.sl (len w2106) (flat eGMsg w2106))⟩)]
theorem F152_l0_0_ok (K : Nat) (a1916 : Int) (r2026 : List GMsg) : ∀ (k : Nat) (v2065 : List GMsg) (v2066 : Int) (r : (Int) ⊕ (List GMsg)), F152_l0_0 K a1916 r2026 k v2065 v2066 = some r → (Sum.elim (fun w => LoopEv E H hn152 0 c152_0 (F152_l0_0_S a1916 r2026 v2065 v2066) .ret (F152_l0_0_X0 a1916 r2026 w)) (fun w => LoopEv E H hn152 0 c152_0 (F152_l0_0_S a1916 r2026 v2065 v2066) (.exit 0) (F152_l0_0_X1 a1916 r2026 w))) r := by
 intro k
 induction k with
 | zero => intro v2065 v2066 r hF; cases hF
 | succ k ih =>
  intro v2065 v2066 r hF
  rw [F152_l0_0] at hF
  refine cond_some hF (fun h2067 hF => ?_) (fun h2067 hF => ?_)
  ·
   refine cond_some hF (fun h2068 hF => ?_) (fun _ hF => nomatch hF)
   refine bind_some hF (fun x2069 h2070 hF => ?_)
   have pq2108 : ∀ {l : List Cond}, HoldAll E H hn152 l → HoldAll E H hn152 (.int (nlen (len r2026)) (nlen (len r2026)) :: .test (ilt v2066 (nlen (len r2026))) true :: .test (inr v2066 (len r2026)) true :: .sub (flat eGMsg r2026) (nidx v2066 2) 2 [(.lit (.int .i64 x2069.To)), (.lit (.int .i64 x2069.V))] :: .int (wadd .i64 v2066 1) (wadd .i64 v2066 1) :: l) := fun z => ⟨rfl, h2067, h2068, ⟨rfl, sub_flat0 eGMsg_len h2070 2 (by decide)⟩, rfl, z⟩
   refine bind_some hF (fun y2097 h2096 hF => ?_)
   refine sum_some hF (fun w2098 hx hF => ?_) (fun w2100 hx hF => ?_)
   ·
    subst hx
    obtain rfl := Option.some.inj hF
    have pz : HoldAll E H hn152 [.loop 2 c152_1 (F152_l1_1_S a1916 r2026 v2065 x2069 (wadd .i64 v2066 1) x2069.V) .ret (F152_l1_1_X0 a1916 r2026 v2065 x2069 w2098)] := ⟨(F152_l1_1_ok K a1916 r2026 v2065 x2069 K (wadd .i64 v2066 1) x2069.V _ h2096), trivial⟩
    exact loop_endC (h := hn152) (l := 0) (c := c152_0) (ts := F152_l0_0_S a1916 r2026 v2065 v2066) (ts' := F152_l0_0_X0 a1916 r2026 w2098) (ex := .ret) (pq2108 pz) (by kernel_rfl) trivial
   subst hx
   refine cond_some hF (fun h2103 hF => ?_) (fun _ hF => nomatch hF)
   have pz : HoldAll E H hn152 [.loop 2 c152_1 (F152_l1_1_S a1916 r2026 v2065 x2069 (wadd .i64 v2066 1) x2069.V) (.exit 2) (F152_l1_1_X1 a1916 r2026 v2065 x2069 w2100), .test (leqm [(.lit (.int .i64 x2069.To)), (.lit (.int .i64 w2100.2))] 1 2) true, .test (apok (len v2065) 1 16) true, .sl (nadd (len v2065) 1) (lapp (flat eGMsg v2065) [(.lit (.int .i64 x2069.To)), (.lit (.int .i64 w2100.2))]) (len (α := GMsg) (appL v2065 [(GMsg.mk x2069.To w2100.2)])) (flat eGMsg (appL v2065 [(GMsg.mk x2069.To w2100.2)]))] := ⟨(F152_l1_1_ok K a1916 r2026 v2065 x2069 K (wadd .i64 v2066 1) x2069.V _ h2096), rfl, h2103, (app_ok (enc := eGMsg) (v2065 : List GMsg) [(GMsg.mk x2069.To w2100.2)]), trivial⟩
   have h0 := ih _ _ _ hF
   have hn := fun ex ts' => loop_nextC (h := hn152) (l := 0) (c := c152_0) (ts := F152_l0_0_S a1916 r2026 v2065 v2066) (ts1 := (F152_l0_0_S a1916 r2026 (appL v2065 [(GMsg.mk x2069.To w2100.2)]) w2100.1)) (ex := ex) (ts' := ts') (pq2108 pz) (by kernel_rfl)
   cases r with
   | inl w => exact hn _ _ h0
   | inr w => exact hn _ _ h0
  obtain rfl := Option.some.inj hF
  have pz : HoldAll E H hn152 [.int (nlen (len r2026)) (nlen (len r2026)), .test (ilt v2066 (nlen (len r2026))) false] := ⟨rfl, h2067, trivial⟩
  exact loop_endC (h := hn152) (l := 0) (c := c152_0) (ts := F152_l0_0_S a1916 r2026 v2065 v2066) (ts' := F152_l0_0_X1 a1916 r2026 v2065) (ex := (.exit 0)) pz (by kernel_rfl) trivial
def F152 (K : Nat) (a1916 : Int) (a1917 : List GMsg) : Option (List GMsg × Int) :=
 bif (ilt a1916 1) then
  (some ([], 1))
 else
 bif (ilt 5 a1916) then
  (some ([], 1))
 else
 (F91 K a1917).bind fun r2026 =>
 (F152_l0_0 K a1916 r2026 K [] 0).bind fun y2110 =>
 Sum.elim (fun w2111 =>
  some ([], w2111))
  (fun w2113 =>
  some (w2113, 0)) y2110
theorem F152_ok (K : Nat) (a1916 : Int) (a1917 : List GMsg) (r : List GMsg × Int) (hF : F152 K a1916 a1917 = some r) : Evt E H 152 [.one (.lit (.int .i64 a1916)), .one (.sl (len a1917) (flat eGMsg a1917))] (F152_res r) := by
 rw [F152] at hF
 refine cond_some hF (fun h1918 hF => ?_) (fun h1918 hF => ?_)
 ·
  obtain rfl := Option.some.inj hF
  have pz : HoldAll E H hn152 [.test (beqb (ilt a1916 1) false) false, .test (beqb (ilt a1916 1) false) false, .test (ilt a1916 1) true, .test true true] := ⟨(beqb_ft h1918), (beqb_ft h1918), h1918, rfl, trivial⟩
  exact fn_playC hn152 (r := F152_res ([], 1)) pz (by kernel_rfl) (by kernel_rfl)
 have pq2115 : ∀ {l : List Cond}, HoldAll E H hn152 l → HoldAll E H hn152 (.test (beqb (ilt a1916 1) false) true :: .test (beqb (ilt a1916 1) false) true :: .test (ilt a1916 1) false :: l) := fun z => ⟨(beqb_ff h1918), (beqb_ff h1918), h1918, z⟩
 refine cond_some hF (fun h1919 hF => ?_) (fun h1919 hF => ?_)
 ·
  obtain rfl := Option.some.inj hF
  have pz : HoldAll E H hn152 [.test (igt a1916 5) true] := ⟨(igt_eq h1919), trivial⟩
  exact fn_playC hn152 (r := F152_res ([], 1)) (pq2115 pz) (by kernel_rfl) (by kernel_rfl)
 refine bind_some hF (fun r2026 h2027 hF => ?_)
 have pq2116 : ∀ {l : List Cond}, HoldAll E H hn152 l → HoldAll E H hn152 (.test (igt a1916 5) false :: .call 91 [.one (.sl (len a1917) (flat eGMsg a1917))] (F91_res r2026) :: .test (leadsAny (Res.mk [(.one (.own 130 (.sl (len r2026) (flat eGMsg r2026))))] [])) false :: l) := fun z => ⟨(igt_eq h1919), (F91_ok K a1917 _ h2027), (leads_ok (by simp [leadsAny, RV.leads, RC.leads, leadsT, hasSl_lit, flat_ns eGMsg_ns])), z⟩
 refine bind_some hF (fun y2110 h2109 hF => ?_)
 refine sum_some hF (fun w2111 hx hF => ?_) (fun w2113 hx hF => ?_)
 ·
  subst hx
  obtain rfl := Option.some.inj hF
  have pz : HoldAll E H hn152 [.loop 0 c152_0 (F152_l0_0_S a1916 r2026 [] 0) .ret (F152_l0_0_X0 a1916 r2026 w2111)] := ⟨(F152_l0_0_ok K a1916 r2026 K [] 0 _ h2109), trivial⟩
  exact fn_playC hn152 (r := F152_res ([], w2111)) (pq2115 (pq2116 pz)) (by kernel_rfl) (by kernel_rfl)
 subst hx
 obtain rfl := Option.some.inj hF
 have pz : HoldAll E H hn152 [.loop 0 c152_0 (F152_l0_0_S a1916 r2026 [] 0) (.exit 0) (F152_l0_0_X1 a1916 r2026 w2113)] := ⟨(F152_l0_0_ok K a1916 r2026 K [] 0 _ h2109), trivial⟩
 exact fn_playC hn152 (r := F152_res (w2113, 0)) (pq2115 (pq2116 pz)) (by kernel_rfl) (by kernel_rfl)
theorem F173_spec (K : Nat) (y x : GMsg) : F173 K y x = some (!(leM x y)) := by
 rw [F173, leM]
 cases h1 : ilt y.To x.To
 · cases h2 : ieq y.To x.To
   · have := ilt_f.1 h1; have := ieq_f.1 h2
     rw [ilt_iff.2 (by omega : x.To < y.To)]; rfl
   · have e := ieq_iff.1 h2
     rw [ilt_f.2 (by omega : y.To ≤ x.To), ieq_iff.2 e.symm]
     simp only [cond_false, cond_true, Bool.false_or, Bool.true_and]
     congr 1
     cases h3 : ilt y.V x.V
     · rw [ile_iff.2 (by have := ilt_f.1 h3; omega)]; rfl
     · rw [ile_f.2 (by have := ilt_iff.1 h3; omega)]; rfl
 · have := ilt_iff.1 h1
   rw [ilt_f.2 (by omega : y.To ≤ x.To), ieq_f.2 (by omega : x.To ≠ y.To)]; rfl
theorem merge_ok {K : Nat} : ∀ (k : Nat) (a b c : List GMsg), a.length + b.length < k → a.length + b.length + c.length < 100000 → srtM (c ++ a) → srtM (c ++ b) →
   ∃ a' b' c', F172_173_l0_0 K k a b c = some (a', (b', c')) ∧ (c' ++ a' ++ b').Perm (c ++ a ++ b) ∧ srtM (c' ++ a' ++ b') := by
 intro k
 induction k with
 | zero => intro a b c h; omega
 | succ k ih =>
   intro a b c hk hl ha hb
   rw [F172_173_l0_0]
   cases a with
   | nil => exact ⟨[], b, c, rfl, List.Perm.refl _, by simpa using hb⟩
   | cons x a =>
     cases b with
     | nil =>
       refine ⟨x :: a, [], c, ?_, List.Perm.refl _, by simpa using ha⟩
       rw [ilt_iff.2 (show (0 : Int) < nlen (len (x :: a)) by show (0 : Int) < ((a.length + 1 : Nat) : Int); omega)]; rfl
     | cons y b =>
       simp only [List.length_cons] at hk hl
       have i1 : ilt 0 (nlen (len (x :: a))) = true := ilt_iff.2 (by show (0 : Int) < ((a.length + 1 : Nat) : Int); omega)
       have i2 : ilt 0 (nlen (len (y :: b))) = true := ilt_iff.2 (by show (0 : Int) < ((b.length + 1 : Nat) : Int); omega)
       have r1 : inr 0 (len (x :: a)) = true := decide_eq_true ⟨by omega, by show (0 : Int) < (((a.length + 1 : Nat)) : Int); omega⟩
       have r2 : inr 0 (len (y :: b)) = true := decide_eq_true ⟨by omega, by show (0 : Int) < (((b.length + 1 : Nat)) : Int); omega⟩
       have g1 : elAt (x :: a) 0 = some x := rfl
       have g2 : elAt (y :: b) 0 = some y := rfl
       have ap : apok (len c) 1 16 = true := decide_eq_true ⟨by show c.length + 1 ≤ _; omega, by show (c.length + 1) * 16 ≤ _; omega⟩
       have b1 : bnd 1 (nlen (len (x :: a))) (len (x :: a)) = true := by simp [bnd, nlen, len]; omega
       have b2 : bnd 1 (nlen (len (y :: b))) (len (y :: b)) = true := by simp [bnd, nlen, len]; omega
       have s1 : subL (x :: a) 1 (nlen (len (x :: a))) = a := by simp [subL, nlen, len]
       have s2 : subL (y :: b) 1 (nlen (len (y :: b))) = b := by simp [subL, nlen, len]
       rw [i1, i2, r1, r2, g1, g2, ap, b1, b2, s1, s2]
       simp only [cond_true, Option.bind_some, F173_spec]
       have ha' := List.pairwise_append.1 ha
       have hb' := List.pairwise_append.1 hb
       have hxa := List.pairwise_cons.1 ha'.2.1
       have hyb := List.pairwise_cons.1 hb'.2.1
       cases hxy : leM x y
       · have hyx := leM_total hxy
         obtain ⟨a', b', c', e, p, q⟩ := ih (x :: a) b (c ++ [y]) (by simp; omega) (by simp; omega)
           (by
             refine List.pairwise_append.2 ⟨List.pairwise_append.2 ⟨hb'.1, List.pairwise_singleton _ _, fun u hu w hw => ?_⟩, ha'.2.1, fun u hu w hw => ?_⟩
             · rw [List.mem_singleton.1 hw]; exact hb'.2.2 u hu y List.mem_cons_self
             · rcases List.mem_append.1 hu with hu | hu
               · exact ha'.2.2 u hu w hw
               · rw [List.mem_singleton.1 hu]
                 rcases List.mem_cons.1 hw with rfl | hw
                 · exact hyx
                 · exact leM_trans hyx (hxa.1 w hw))
           (by rw [List.append_assoc]; exact hb)
         refine ⟨a', b', c', e, p.trans ?_, q⟩
         have : (c ++ [y] ++ (x :: a) ++ b) = c ++ (y :: (x :: a)) ++ b := by simp
         rw [this, List.append_assoc, List.append_assoc]
         exact List.Perm.append_left c (List.perm_middle (l₁ := x :: a) (a := y) (l₂ := b)).symm
       · obtain ⟨a', b', c', e, p, q⟩ := ih a (y :: b) (c ++ [x]) (by simp; omega) (by simp; omega)
           (by rw [List.append_assoc]; exact ha)
           (by
             refine List.pairwise_append.2 ⟨List.pairwise_append.2 ⟨hb'.1, List.pairwise_singleton _ _, fun u hu w hw => ?_⟩, hb'.2.1, fun u hu w hw => ?_⟩
             · rw [List.mem_singleton.1 hw]; exact ha'.2.2 u hu x List.mem_cons_self
             · rcases List.mem_append.1 hu with hu | hu
               · exact hb'.2.2 u hu w hw
               · rw [List.mem_singleton.1 hu]
                 rcases List.mem_cons.1 hw with rfl | hw
                 · exact hxy
                 · exact leM_trans hxy (hyb.1 w hw))
         refine ⟨a', b', c', e, p.trans ?_, q⟩
         have : (c ++ [x] ++ a ++ (y :: b)) = c ++ (x :: a) ++ (y :: b) := by simp
         rw [this]
theorem F172_spec {K : Nat} : ∀ (d : Nat) (l : List GMsg), l.length < d → l.length < K → l.length < 10000 → F172_173 K d l = some (sortM l) := by
 intro d
 induction d with
 | zero => intro l h; omega
 | succ d ih =>
   intro l hd hK hl
   rw [F172_173]
   cases h2 : ilt (nlen (len l)) 2
   · have h2' : 2 ≤ l.length := by have := ilt_f.1 h2; simp only [nlen, len] at this; omega
     have hq : wquo .i64 (nlen (len l)) 2 = ((l.length / 2 : Nat) : Int) := by
       show IntKind.i64.wrap (((l.length : Nat) : Int).tdiv 2) = _
       rw [Int.tdiv_eq_ediv_of_nonneg (by omega), IntKind.wrap_i64]; omega
     have b1 : bnd 0 ((l.length / 2 : Nat) : Int) (len l) = true := by simp [bnd, len]; omega
     have b2 : bnd ((l.length / 2 : Nat) : Int) (nlen (len l)) (len l) = true := by simp [bnd, len, nlen]; omega
     have s1 : subL l 0 ((l.length / 2 : Nat) : Int) = l.take (l.length / 2) := by simp [subL]; omega
     have s2 : subL l ((l.length / 2 : Nat) : Int) (nlen (len l)) = l.drop (l.length / 2) := by
       simp only [subL, nlen, len, Int.toNat_natCast]
       exact List.take_of_length_le (by rw [List.length_drop]; omega)
     have l1 : (l.take (l.length / 2)).length ≤ l.length / 2 := by rw [List.length_take]; omega
     have l2 : (l.drop (l.length / 2)).length = l.length - l.length / 2 := List.length_drop
     have mk : mkok 0 (nlen (len l)) 16 = true := by simp [mkok, nlen, len]; omega
     obtain ⟨a', b', c', e, p, q⟩ := merge_ok (K := K) K (sortM (l.take (l.length / 2))) (sortM (l.drop (l.length / 2))) [] (by rw [sortM_len, sortM_len]; omega) (by rw [sortM_len, sortM_len]; simp only [List.length_nil]; omega) (by simpa using sortM_srt _) (by simpa using sortM_srt _)
     have er : repL (α := GMsg) 0 (GMsg.mk 0 0) = [] := rfl
     have pl : (c' ++ a' ++ b').Perm l := p.trans (by
       rw [List.nil_append]
       have := (sortM_perm (l.take (l.length / 2))).append (sortM_perm (l.drop (l.length / 2)))
       rwa [List.take_append_drop] at this)
     have ln := pl.length_eq
     rw [List.length_append, List.length_append] at ln
     have a1 : apok (len c') (len a') 16 = true := decide_eq_true ⟨by show c'.length + a'.length ≤ _; omega, by show (c'.length + a'.length) * 16 ≤ _; omega⟩
     have a2 : apok (len (appL c' a')) (len b') 16 = true := decide_eq_true ⟨by show (c' ++ a').length + b'.length ≤ _; rw [List.length_append]; omega, by show ((c' ++ a').length + b'.length) * 16 ≤ _; rw [List.length_append]; omega⟩
     rw [cond_false, hq, b1, b2, s1, s2, ih _ (by omega) (by omega) (by omega), ih _ (by omega) (by omega) (by omega), mk, er]
     simp only [cond_true, Option.bind_some, e, a1, a2]
     rw [sortM_eq q pl]; rfl
   · have h2' : l.length < 2 := by have := ilt_iff.1 h2; simp only [nlen, len] at this; omega
     have ap : apok 0 (len l) 16 = true := decide_eq_true ⟨by show 0 + l.length ≤ _; omega, by show (0 + l.length) * 16 ≤ _; omega⟩
     rw [cond_true, ap, cond_true]
     congr 1
     rw [sortM_eq (l := l) (r := l) ?_ (List.Perm.refl l)]; rfl
     match l, h2' with
     | [], _ => exact List.Pairwise.nil
     | [x], _ => exact List.pairwise_singleton _ _
theorem F169_spec {K : Nat} (l : List GMsg) (hK : l.length < K) (hl : l.length < 10000) : F169 K l = some (sortM l) := by
 rw [F169, F172_spec K l hK hK hl]; rfl
def foldC (p : Int) : List GMsg → GMsg → List GMsg → Int ⊕ List GMsg
 | [], cur, done => .inr (done ++ [cur])
 | x :: r, cur, done => bif ieq cur.To x.To then (bif ieq (foldS p cur.V x.V).2 0 then foldC p r (GMsg.mk cur.To (foldS p cur.V x.V).1) done else .inl (foldS p cur.V x.V).2) else foldC p r x (done ++ [cur])
def foldO (p : Int) : List GMsg → List GMsg → Int ⊕ List GMsg
 | [], done => .inr done
 | x :: r, done => foldC p r x done
def boxO : Int ⊕ List GMsg → List GMsg × Int
 | .inl e => ([], e)
 | .inr s => (s, 0)
def boxS (p : Int) (l : List GMsg) : List GMsg × Int := bif pbad p then ([], 1) else boxO (foldO p (sortM l) [])
theorem put_last {α : Type} (d : List α) (c x : α) : inr (wsub .i64 (nlen (len (d ++ [c]))) 1) (len (d ++ [c])) = true ∧ (d.length < 1000000 → elAt (d ++ [c]) (wsub .i64 (nlen (len (d ++ [c]))) 1) = some c ∧ putAt (d ++ [c]) (wsub .i64 (nlen (len (d ++ [c]))) 1) x = d ++ [x]) ∨ ¬ d.length < 1000000 := by
 by_cases h : d.length < 1000000
 · left
   have w : wsub .i64 (nlen (len (d ++ [c]))) 1 = ((d.length : Nat) : Int) := by
     show IntKind.i64.wrap (((d ++ [c]).length : Int) - 1) = _
     rw [List.length_append, IntKind.wrap_i64]; simp; omega
   rw [w]
   refine ⟨decide_eq_true ⟨by omega, by show (d.length : Int) < ((d ++ [c]).length : Int); simp; omega⟩, fun _ => ⟨by rw [elAt_nat]; simp, ?_⟩⟩
   unfold putAt
   rw [Int.toNat_natCast, List.set_append_right (h := by omega)]; simp
 · right; exact h
theorem F150_spec {K : Nat} (p : Int) (l : List GMsg) (hv : ∀ x ∈ l, i64 x.V) (hK : l.length < K) (hl : l.length < 10000) : F150 K p l = some (boxS p l) := by
 have i0 : i64 0 := by unfold i64; omega
 have hz : (foldS p 0 0).2 = bif pbad p then 1 else 0 := by
   rw [foldS]
   cases pbad p
   · have : addS 0 0 = (0, true) := rfl
     have e : ilt 0 0 = false := rfl
     rw [this, e]
     cases ieq p 5 <;> cases ieq p 4 <;> rfl
   · rfl
 rw [F150, F97_spec K p i0 i0, Option.bind_some, hz, boxS, F169_spec l hK hl]
 cases hb : pbad p
 · let step : GMsg → List GMsg → (List GMsg → Option (Int ⊕ List GMsg)) → Option (Int ⊕ List GMsg) := fun x s c =>
     bif (ilt 0 (nlen (len s))) then
       (bif (inr (wsub .i64 (nlen (len s)) 1) (len s)) then
       (elAt s (wsub .i64 (nlen (len s)) 1)).bind fun y =>
       bif (ieq y.To x.To) then
         ((F97 K p y.V x.V).bind fun r =>
         bif (ieq r.2 0) then
           (c (putAt s (wsub .i64 (nlen (len s)) 1) (GMsg.mk y.To r.1)))
         else
         some (.inl r.2))
       else
       bif (apok (len s) 1 16) then
       c (appL s [x])
       else none
       else none)
     else
     bif (apok (len s) 1 16) then
     c (appL s [x])
     else none
   have hsl : (sortM l).length = l.length := sortM_len l
   have h := scanL (l := sortM l) (L := fun k s i => F150_l0_0 K p (sortM l) k s i) step (fun s => some (.inr s)) (fun k s i _ => rfl) (by omega) (K := K) (by omega) []
   have hw : ∀ (r : List GMsg) (d : List GMsg) (c : GMsg), d.length + r.length < 100000 → i64 c.V → (∀ x ∈ r, i64 x.V) → goL step (fun s => some (.inr s)) r (d ++ [c]) = some (foldC p r c d) := by
     intro r
     induction r with
     | nil => intro d c _ _ _; rfl
     | cons x r ih =>
       intro d c hd hc hr
       simp only [List.length_cons] at hd
       have hx := hr x List.mem_cons_self
       have hr' := fun y hy => hr y (List.mem_cons_of_mem _ hy)
       rw [goL]
       show (bif (ilt 0 (nlen (len (d ++ [c])))) then
         (bif (inr (wsub .i64 (nlen (len (d ++ [c]))) 1) (len (d ++ [c]))) then
         (elAt (d ++ [c]) (wsub .i64 (nlen (len (d ++ [c]))) 1)).bind fun y =>
         bif (ieq y.To x.To) then
           ((F97 K p y.V x.V).bind fun q =>
           bif (ieq q.2 0) then
             (goL step (fun s => some (.inr s)) r (putAt (d ++ [c]) (wsub .i64 (nlen (len (d ++ [c]))) 1) (GMsg.mk y.To q.1)))
           else
           some (.inl q.2))
         else
         bif (apok (len (d ++ [c])) 1 16) then
         goL step (fun s => some (.inr s)) r (appL (d ++ [c]) [x])
         else none
         else none)
       else
       bif (apok (len (d ++ [c])) 1 16) then
       goL step (fun s => some (.inr s)) r (appL (d ++ [c]) [x])
       else none) = _
       have i1 : ilt 0 (nlen (len (d ++ [c]))) = true := ilt_iff.2 (by show (0 : Int) < ((d ++ [c]).length : Int); rw [List.length_append]; simp only [List.length_singleton]; omega)
       have ap : apok (len (d ++ [c])) 1 16 = true := decide_eq_true ⟨by show (d ++ [c]).length + 1 ≤ _; rw [List.length_append]; simp only [List.length_singleton]; omega, by show ((d ++ [c]).length + 1) * 16 ≤ _; rw [List.length_append]; simp only [List.length_singleton]; omega⟩
       rcases put_last d c (GMsg.mk c.To (foldS p c.V x.V).1) with ⟨q1, q2⟩ | q
       · obtain ⟨q2, q3⟩ := q2 (by omega)
         rw [i1, q1, q2, ap]
         simp only [cond_true, Option.bind_some, F97_spec K p hc hx, q3]
         rw [foldC]
         cases ieq c.To x.To
         · rw [cond_false, cond_false]
           exact ih (d ++ [c]) x (by rw [List.length_append]; simp only [List.length_singleton]; omega) hx hr'
         · rw [cond_true, cond_true]
           cases ieq (foldS p c.V x.V).2 0
           · rfl
           · rw [cond_true, cond_true]
             exact ih d _ (by omega) (foldS_i64 hc hx) hr'
       · omega
   have h' : F150_l0_0 K p (sortM l) K [] 0 = some (foldO p (sortM l) []) := by
     rw [show F150_l0_0 K p (sortM l) K [] 0 = _ from h]
     have hs : ∀ x ∈ sortM l, i64 x.V := fun x hx => hv x ((sortM_perm l).mem_iff.1 hx)
     generalize sortM l = m at *
     cases m with
     | nil => rfl
     | cons x r =>
       rw [goL]
       show goL step (fun s => some (.inr s)) r (appL [] [x]) = _
       simp only [List.length_cons] at hsl
       exact hw r [] x (by simp only [List.length_nil]; omega) (hs x List.mem_cons_self) (fun y hy => hs y (List.mem_cons_of_mem _ hy))
   have z0 : ieq (bif false then 1 else 0) 0 = true := rfl
   rw [z0, cond_true, Option.bind_some, h', Option.bind_some]
   cases foldO p (sortM l) [] <;> rfl
 · rfl
def foldI (p t : Int) : List GMsg → Int → Int ⊕ (List GMsg × Int)
 | [], v => .inr ([], v)
 | x :: r, v => bif ieq x.To t then (bif ieq (foldS p v x.V).2 0 then foldI p t r (foldS p v x.V).1 else .inl (foldS p v x.V).2) else .inr (x :: r, v)
theorem ieq_comm (a b : Int) : ieq a b = ieq b a := by
 cases h : ieq b a
 · exact ieq_f.2 fun q => ieq_f.1 h q.symm
 · exact ieq_iff.2 (ieq_iff.1 h).symm
theorem foldC_I (p t : Int) : ∀ (r : List GMsg) (v : Int) (d : List GMsg), foldC p r (GMsg.mk t v) d = match foldI p t r v with | .inl e => .inl e | .inr w => foldO p w.1 (d ++ [GMsg.mk t w.2])
 | [], v, d => rfl
 | x :: r, v, d => by
   rw [foldC, foldI, ieq_comm x.To t]
   cases ieq t x.To
   · rfl
   · rw [cond_true, cond_true]
     cases ieq (foldS p v x.V).2 0
     · rfl
     · rw [cond_true, cond_true]; exact foldC_I p t r _ d
theorem F152_in {K : Nat} (p : Int) (l : List GMsg) (o : List GMsg) (x : GMsg) (hl : l.length < 100000) (hs : ∀ y ∈ l, i64 y.V) : ∀ (r : List GMsg) (k i : Nat) (v : Int), l.drop i = r → r.length < k → i64 v → i ≤ l.length →
   (∃ e, foldI p x.To r v = .inl e ∧ F152_l1_1 K p l o x k (i : Int) v = some (.inl e)) ∨
   (∃ (n : Nat) (v' : Int), foldI p x.To r v = .inr (l.drop n, v') ∧ F152_l1_1 K p l o x k (i : Int) v = some (.inr ((n : Int), v')) ∧ i ≤ n ∧ n ≤ l.length ∧ i64 v') := by
 intro r
 induction r with
 | nil =>
   intro k i v hr hk hv hi
   obtain ⟨k, rfl⟩ : ∃ q, k = q + 1 := ⟨k - 1, by omega⟩
   right
   refine ⟨i, v, by rw [hr]; rfl, ?_, Nat.le_refl _, hi, hv⟩
   rcases at_idx l i with ⟨y, e1, _⟩ | ⟨e1, e2⟩
   · rw [hr] at e1; cases e1
   · rw [F152_l1_1, e2]; rfl
 | cons y r ih =>
   intro k i v hr hk hv hi
   obtain ⟨k, rfl⟩ : ∃ q, k = q + 1 := ⟨k - 1, by omega⟩
   simp only [List.length_cons] at hk
   rcases at_idx l i with ⟨y', e1, e2, e3, e4⟩ | ⟨e1, _⟩
   · rw [hr] at e1
     injection e1 with e1 e5
     subst e1
     have hlt := lt_of_drop' hr
     have hy : i64 y.V := hs y (List.mem_of_mem_drop (by rw [hr]; exact List.mem_cons_self))
     rw [F152_l1_1, e2, e3, e4, foldI]
     simp only [cond_true, Option.bind_some, F98_spec K p hv hy]
     cases ieq y.To x.To
     · right
       exact ⟨i, v, by rw [hr]; rfl, rfl, Nat.le_refl _, hi, hv⟩
     · rw [cond_true, cond_true]
       cases ieq (foldS p v y.V).2 0
       · left; exact ⟨_, rfl, rfl⟩
       · rw [cond_true, cond_true, wadd_nat (by omega)]
         rcases ih k (i + 1) _ e5.symm (by omega) (foldS_i64 hv hy) (by omega) with h | ⟨n, v', h1, h2, h3, h4, h5⟩
         · left; exact h
         · right; exact ⟨n, v', h1, h2, by omega, h4, h5⟩
   · rw [hr] at e1; cases e1
theorem F152_out {K : Nat} (p : Int) (l : List GMsg) (hl : l.length < 100000) (hK : l.length < K) (hs : ∀ y ∈ l, i64 y.V) : ∀ (k i : Nat) (d : List GMsg), l.length - i < k → i ≤ l.length → d.length ≤ i →
   F152_l0_0 K p l k d (i : Int) = some (foldO p (l.drop i) d) := by
 intro k
 induction k with
 | zero => intro i d h; omega
 | succ k ih =>
   intro i d hk hi hd
   rw [F152_l0_0]
   rcases at_idx l i with ⟨x, e1, e2, e3, e4⟩ | ⟨e1, e2⟩
   · have hlt := lt_of_drop' e1
     have hx : i64 x.V := hs x (List.mem_of_mem_drop (by rw [e1]; exact List.mem_cons_self))
     have ap : apok (len d) 1 16 = true := decide_eq_true ⟨by show d.length + 1 ≤ _; omega, by show (d.length + 1) * 16 ≤ _; omega⟩
     rw [e2, e3, e4, e1, foldO, show foldC p (l.drop (i + 1)) x d = foldC p (l.drop (i + 1)) (GMsg.mk x.To x.V) d from rfl, foldC_I, wadd_nat (by omega)]
     simp only [cond_true, Option.bind_some, ap]
     rcases F152_in (K := K) p l d x hl hs _ K (i + 1) x.V rfl (by rw [List.length_drop]; omega) hx (by omega) with ⟨e, h1, h2⟩ | ⟨n, v', h1, h2, h3, h4, h5⟩
     · rw [h1, h2]; rfl
     · rw [h1, h2]
       simp only [Option.bind_some, Sum.elim_inr]
       exact ih n (d ++ [GMsg.mk x.To v']) (by omega) h4 (by rw [List.length_append]; simp only [List.length_singleton]; omega)
   · rw [e2, e1]; rfl
theorem F152_spec {K : Nat} (p : Int) (l : List GMsg) (hv : ∀ x ∈ l, i64 x.V) (hK : l.length < K) (hl : l.length < 10000) : F152 K p l = some (boxS p l) := by
 have hsl := sortM_len l
 have hs : ∀ x ∈ sortM l, i64 x.V := fun x hx => hv x ((sortM_perm l).mem_iff.1 hx)
 have h := F152_out (K := K) p (sortM l) (by omega) (by omega) hs K 0 [] (by omega) (by omega) (by simp)
 have h' : F152_l0_0 K p (sortM l) K [] 0 = some (foldO p (sortM l) []) := h
 rw [F152, boxS, pbad, F91_spec l (by omega) hK, Option.bind_some, h', Option.bind_some]
 cases ilt p 1
 · cases ilt 5 p
   · cases foldO p (sortM l) [] <;> rfl
   · rfl
 · rfl
def atS (l : List GMsg) (v : Int) : Int × Bool := match l.find? (fun m => ieq m.To v) with
 | some m => (m.V, true)
 | none => (0, false)
def sumF : Option GMsg → Int ⊕ Unit
 | some m => .inl m.V
 | none => .inr ()
theorem at_go (l : List GMsg) (v : Int) : goL (fun (x : GMsg) (_ : Unit) c => bif ieq x.To v then some (.inl x.V) else c ()) (fun _ => some (.inr ())) l () = (some (sumF (l.find? fun m => ieq m.To v)) : Option (Int ⊕ Unit)) := by
 induction l with
 | nil => rfl
 | cons x l ih =>
   rw [goL, List.find?_cons]
   cases h : ieq x.To v
   · exact ih
   · rfl
theorem F149_spec {K : Nat} (l : List GMsg) (v : Int) (hl : l.length < 100000) (hK : l.length < K) : F149 K l v = some (atS l v) := by
 have e : F149_l0_0 K l v K 0 = _ := scanL (l := l) (L := fun k (_ : Unit) i => F149_l0_0 K l v k i) (fun x _ c => bif ieq x.To v then some (.inl x.V) else c ()) (fun _ => some (.inr ())) (fun k s i _ => rfl) (by omega) hK ()
 rw [F149, e, at_go, atS]
 cases l.find? fun m => ieq m.To v <;> rfl
theorem F151_spec {K : Nat} (l : List GMsg) (v : Int) (hl : l.length < 100000) (hK : l.length < K) : F151 K l v = some (atS l v) := by
 have e : F151_l0_0 K l v K 0 = _ := scanL (l := l) (L := fun k (_ : Unit) i => F151_l0_0 K l v k i) (fun x _ c => bif ieq x.To v then some (.inl x.V) else c ()) (fun _ => some (.inr ())) (fun k s i _ => rfl) (by omega) hK ()
 rw [F151, e, at_go, atS]
 cases l.find? fun m => ieq m.To v <;> rfl
theorem atS_i64 {l : List GMsg} {v : Int} (h : ∀ x ∈ l, i64 x.V) : i64 (atS l v).1 := by
 rw [atS]
 cases hq : l.find? fun m => ieq m.To v with
 | none => show i64 0; unfold i64; omega
 | some m => exact h m (List.mem_of_find?_eq_some hq)
noncomputable def hn69 : Hint := { H 69 with nt := 35, prot := 0 }
noncomputable def c69_0 : Code := loopOf E 69 0
def F69_res (r1358 : List GEdge) : Res := ⟨[(.one (.own 89 (.sl (len r1358) (flat eGEdge r1358))))], []⟩
def F69_l0_0 (K : Nat) (a1332 : GGraph) (a1333 : Int) : Nat → List GEdge → Int → Option (List GEdge)
 | 0, _, _ => none
 | k + 1, v1343, v1344 =>
  bif (ilt v1344 (nlen (len a1332.Edges))) then
   (bif (inr v1344 (len a1332.Edges)) then
   (elAt a1332.Edges v1344).bind fun x1347 =>
   bif (ieq x1347.From a1333) then
    (bif (apok (len v1343) 1 24) then
    F69_l0_0 K a1332 a1333 k (appL v1343 [x1347]) (wadd .i64 v1344 1)
    else none)
   else
   F69_l0_0 K a1332 a1333 k v1343 (wadd .i64 v1344 1)
   else none)
  else
  some v1343
def F69_l0_0_S (a1332 : GGraph) (a1333 : Int) (v1343 : List GEdge) (v1344 : Int) : TS := .on [64, 65, 128, 129, 130, 320, 321, 384, 385] [(64, ⟨.one, 0, nob⟩), (65, ⟨.im, 0, (.lit (.int .i64 a1333))⟩), (128, ⟨(.box 62 2), 0, nob⟩), (129, ⟨.im, 0, (.lit (.int .i64 a1332.N))⟩), (130, ⟨.im, 0, (.sl (len a1332.Edges) (flat eGEdge a1332.Edges))⟩), (320, ⟨.one, 0, nob⟩), (321, ⟨(.own 89), 0, (.sl (len v1343) (flat eGEdge v1343))⟩), (384, ⟨.one, 0, nob⟩), (385, ⟨.im, 0, (.lit (.int .i64 v1344))⟩)]
def F69_l0_0_X0 (a1332 : GGraph) (a1333 : Int) (w1351 : List GEdge) : TS := .on [320, 321] [(320, ⟨.one, 0, nob⟩), (321, ⟨(.own 89), 0, (.sl (len w1351) (flat eGEdge w1351))⟩)]
theorem F69_l0_0_ok (K : Nat) (a1332 : GGraph) (a1333 : Int) : ∀ (k : Nat) (v1343 : List GEdge) (v1344 : Int) (r : List GEdge), F69_l0_0 K a1332 a1333 k v1343 v1344 = some r → LoopEv E H hn69 0 c69_0 (F69_l0_0_S a1332 a1333 v1343 v1344) (.exit 0) (F69_l0_0_X0 a1332 a1333 r) := by
 intro k
 induction k with
 | zero => intro v1343 v1344 r hF; cases hF
 | succ k ih =>
  intro v1343 v1344 r hF
  rw [F69_l0_0] at hF
  refine cond_some hF (fun h1345 hF => ?_) (fun h1345 hF => ?_)
  ·
   refine cond_some hF (fun h1346 hF => ?_) (fun _ hF => nomatch hF)
   refine bind_some hF (fun x1347 h1348 hF => ?_)
   have pq1353 : ∀ {l : List Cond}, HoldAll E H hn69 l → HoldAll E H hn69 (.int (nlen (len a1332.Edges)) (nlen (len a1332.Edges)) :: .test (ilt v1344 (nlen (len a1332.Edges))) true :: .test (inr v1344 (len a1332.Edges)) true :: .sub (flat eGEdge a1332.Edges) (nadd (nidx v1344 3) 0) 1 [(.lit (.int .i64 x1347.From))] :: l) := fun z => ⟨rfl, h1345, h1346, ⟨rfl, sub_flat eGEdge_len h1348 0 1 (by decide)⟩, z⟩
   refine cond_some hF (fun h1349 hF => ?_) (fun h1349 hF => ?_)
   ·
    refine cond_some hF (fun h1350 hF => ?_) (fun _ hF => nomatch hF)
    have pz : HoldAll E H hn69 [.test (ieq x1347.From a1333) true, .test (inr v1344 (len a1332.Edges)) true, .sub (flat eGEdge a1332.Edges) (nidx v1344 3) 3 [(.lit (.int .i64 x1347.From)), (.lit (.int .i64 x1347.To)), (.lit (.int .i64 x1347.W))], .test (leqm [(.lit (.int .i64 x1347.From)), (.lit (.int .i64 x1347.To)), (.lit (.int .i64 x1347.W))] 1 3) true, .test (apok (len v1343) 1 24) true, .sl (nadd (len v1343) 1) (lapp (flat eGEdge v1343) [(.lit (.int .i64 x1347.From)), (.lit (.int .i64 x1347.To)), (.lit (.int .i64 x1347.W))]) (len (α := GEdge) (appL v1343 [x1347])) (flat eGEdge (appL v1343 [x1347])), .int (wadd .i64 v1344 1) (wadd .i64 v1344 1)] := ⟨h1349, h1346, ⟨rfl, sub_flat0 eGEdge_len h1348 3 (by decide)⟩, rfl, h1350, (app_ok (enc := eGEdge) (v1343 : List GEdge) [x1347]), rfl, trivial⟩
    have h0 := ih _ _ _ hF
    have hn := fun ex ts' => loop_nextC (h := hn69) (l := 0) (c := c69_0) (ts := F69_l0_0_S a1332 a1333 v1343 v1344) (ts1 := (F69_l0_0_S a1332 a1333 (appL v1343 [x1347]) (wadd .i64 v1344 1))) (ex := ex) (ts' := ts') (pq1353 pz) (by kernel_rfl)
    exact hn _ _ h0
   have pz : HoldAll E H hn69 [.test (ieq x1347.From a1333) false, .int (wadd .i64 v1344 1) (wadd .i64 v1344 1)] := ⟨h1349, rfl, trivial⟩
   have h0 := ih _ _ _ hF
   have hn := fun ex ts' => loop_nextC (h := hn69) (l := 0) (c := c69_0) (ts := F69_l0_0_S a1332 a1333 v1343 v1344) (ts1 := (F69_l0_0_S a1332 a1333 v1343 (wadd .i64 v1344 1))) (ex := ex) (ts' := ts') (pq1353 pz) (by kernel_rfl)
   exact hn _ _ h0
  obtain rfl := Option.some.inj hF
  have pz : HoldAll E H hn69 [.int (nlen (len a1332.Edges)) (nlen (len a1332.Edges)), .test (ilt v1344 (nlen (len a1332.Edges))) false] := ⟨rfl, h1345, trivial⟩
  exact loop_endC (h := hn69) (l := 0) (c := c69_0) (ts := F69_l0_0_S a1332 a1333 v1343 v1344) (ts' := F69_l0_0_X0 a1332 a1333 v1343) (ex := (.exit 0)) pz (by kernel_rfl) trivial
def F69 (K : Nat) (a1332 : GGraph) (a1333 : Int) : Option (List GEdge) :=
 (F65 K a1332).bind fun r1334 =>
 bif (ieq r1334 0) then
  ((F69_l0_0 K a1332 a1333 K [] 0).bind fun w1356 =>
  some w1356)
 else
 some []
theorem F69_ok (K : Nat) (a1332 : GGraph) (a1333 : Int) (r : List GEdge) (hF : F69 K a1332 a1333 = some r) : Evt E H 69 [.agg (eGGraph a1332), .one (.lit (.int .i64 a1333))] (F69_res r) := by
 rw [F69] at hF
 refine bind_some hF (fun r1334 h1335 hF => ?_)
 refine cond_some hF (fun h1336 hF => ?_) (fun h1336 hF => ?_)
 ·
  refine bind_some hF (fun w1356 h1354 hF => ?_)
  obtain rfl := Option.some.inj hF
  have pz : HoldAll E H hn69 [.call 65 [.agg (eGGraph a1332)] (F65_res r1334), .test (leadsAny (Res.mk [(.one (.im (.lit (.int .i64 r1334))))] [])) false, .test (ine r1334 0) false, .loop 0 c69_0 (F69_l0_0_S a1332 a1333 [] 0) (.exit 0) (F69_l0_0_X0 a1332 a1333 w1356)] := ⟨(F65_ok K a1332 _ h1335), (leads_ok (by simp [leadsAny, RV.leads, RC.leads, leadsT, hasSl_lit])), (ine_t h1336), (F69_l0_0_ok K a1332 a1333 K [] 0 _ h1354), trivial⟩
  exact fn_playC hn69 (r := F69_res w1356) pz (by kernel_rfl) (by kernel_rfl)
 obtain rfl := Option.some.inj hF
 have pz : HoldAll E H hn69 [.call 65 [.agg (eGGraph a1332)] (F65_res r1334), .test (leadsAny (Res.mk [(.one (.im (.lit (.int .i64 r1334))))] [])) false, .test (ine r1334 0) true] := ⟨(F65_ok K a1332 _ h1335), (leads_ok (by simp [leadsAny, RV.leads, RC.leads, leadsT, hasSl_lit])), (ine_f h1336), trivial⟩
 exact fn_playC hn69 (r := F69_res []) pz (by kernel_rfl) (by kernel_rfl)
noncomputable def hn68 : Hint := { H 68 with nt := 28, prot := 0 }
noncomputable def c68_0 : Code := loopOf E 68 0
def F68_res (r2619 : List GEdge) : Res := ⟨[(.one (.own 89 (.sl (len r2619) (flat eGEdge r2619))))], []⟩
def F68_l0_0 (K : Nat) (a2593 : GGraph) (a2594 : Int) : Nat → List GEdge → Int → Option (List GEdge)
 | 0, _, _ => none
 | k + 1, v2604, v2605 =>
  bif (ilt v2605 (nlen (len a2593.Edges))) then
   (bif (inr v2605 (len a2593.Edges)) then
   (elAt a2593.Edges v2605).bind fun x2608 =>
   bif (ieq x2608.From a2594) then
    (bif (apok (len v2604) 1 24) then
    F68_l0_0 K a2593 a2594 k (appL v2604 [x2608]) (wadd .i64 v2605 1)
    else none)
   else
   F68_l0_0 K a2593 a2594 k v2604 (wadd .i64 v2605 1)
   else none)
  else
  some v2604
def F68_l0_0_S (a2593 : GGraph) (a2594 : Int) (v2604 : List GEdge) (v2605 : Int) : TS := .on [64, 65, 128, 129, 130, 320, 321, 704, 768, 769, 832, 833, 896, 897] [(64, ⟨.one, 0, nob⟩), (65, ⟨.im, 0, (.lit (.int .i64 a2594))⟩), (128, ⟨(.box 62 2), 0, nob⟩), (129, ⟨.im, 0, (.lit (.int .i64 a2593.N))⟩), (130, ⟨.im, 0, (.sl (len a2593.Edges) (flat eGEdge a2593.Edges))⟩), (320, ⟨.one, 0, nob⟩), (321, ⟨(.own 89), 0, (.sl (len v2604) (flat eGEdge v2604))⟩), (704, ⟨(.ad 2 0 1), 0, nob⟩), (768, ⟨.one, 0, nob⟩), (769, ⟨.im, 0, (.sl (len a2593.Edges) (flat eGEdge a2593.Edges))⟩), (832, ⟨.one, 0, nob⟩), (833, ⟨.im, 0, (.lit (.int .i64 (nlen (len a2593.Edges))))⟩), (896, ⟨.one, 0, nob⟩), (897, ⟨.im, 0, (.lit (.int .i64 v2605))⟩)]
def F68_l0_0_X0 (a2593 : GGraph) (a2594 : Int) (w2612 : List GEdge) : TS := .on [320, 321] [(320, ⟨.one, 0, nob⟩), (321, ⟨(.own 89), 0, (.sl (len w2612) (flat eGEdge w2612))⟩)]
theorem F68_l0_0_ok (K : Nat) (a2593 : GGraph) (a2594 : Int) : ∀ (k : Nat) (v2604 : List GEdge) (v2605 : Int) (r : List GEdge), F68_l0_0 K a2593 a2594 k v2604 v2605 = some r → LoopEv E H hn68 0 c68_0 (F68_l0_0_S a2593 a2594 v2604 v2605) (.exit 0) (F68_l0_0_X0 a2593 a2594 r) := by
 intro k
 induction k with
 | zero => intro v2604 v2605 r hF; cases hF
 | succ k ih =>
  intro v2604 v2605 r hF
  rw [F68_l0_0] at hF
  refine cond_some hF (fun h2606 hF => ?_) (fun h2606 hF => ?_)
  ·
   refine cond_some hF (fun h2607 hF => ?_) (fun _ hF => nomatch hF)
   refine bind_some hF (fun x2608 h2609 hF => ?_)
   have pq2614 : ∀ {l : List Cond}, HoldAll E H hn68 l → HoldAll E H hn68 (.test (ilt v2605 (nlen (len a2593.Edges))) true :: .test (inr v2605 (len a2593.Edges)) true :: .sub (flat eGEdge a2593.Edges) (nidx v2605 3) 3 [(.lit (.int .i64 x2608.From)), (.lit (.int .i64 x2608.To)), (.lit (.int .i64 x2608.W))] :: l) := fun z => ⟨h2606, h2607, ⟨rfl, sub_flat0 eGEdge_len h2609 3 (by decide)⟩, z⟩
   refine cond_some hF (fun h2610 hF => ?_) (fun h2610 hF => ?_)
   ·
    refine cond_some hF (fun h2611 hF => ?_) (fun _ hF => nomatch hF)
    have pz : HoldAll E H hn68 [.test (ieq x2608.From a2594) true, .test (leqm [(.lit (.int .i64 x2608.From)), (.lit (.int .i64 x2608.To)), (.lit (.int .i64 x2608.W))] 1 3) true, .test (apok (len v2604) 1 24) true, .sl (nadd (len v2604) 1) (lapp (flat eGEdge v2604) [(.lit (.int .i64 x2608.From)), (.lit (.int .i64 x2608.To)), (.lit (.int .i64 x2608.W))]) (len (α := GEdge) (appL v2604 [x2608])) (flat eGEdge (appL v2604 [x2608])), .int (wadd .i64 v2605 1) (wadd .i64 v2605 1)] := ⟨h2610, rfl, h2611, (app_ok (enc := eGEdge) (v2604 : List GEdge) [x2608]), rfl, trivial⟩
    have h0 := ih _ _ _ hF
    have hn := fun ex ts' => loop_nextC (h := hn68) (l := 0) (c := c68_0) (ts := F68_l0_0_S a2593 a2594 v2604 v2605) (ts1 := (F68_l0_0_S a2593 a2594 (appL v2604 [x2608]) (wadd .i64 v2605 1))) (ex := ex) (ts' := ts') (pq2614 pz) (by kernel_rfl)
    exact hn _ _ h0
   have pz : HoldAll E H hn68 [.test (ieq x2608.From a2594) false, .int (wadd .i64 v2605 1) (wadd .i64 v2605 1)] := ⟨h2610, rfl, trivial⟩
   have h0 := ih _ _ _ hF
   have hn := fun ex ts' => loop_nextC (h := hn68) (l := 0) (c := c68_0) (ts := F68_l0_0_S a2593 a2594 v2604 v2605) (ts1 := (F68_l0_0_S a2593 a2594 v2604 (wadd .i64 v2605 1))) (ex := ex) (ts' := ts') (pq2614 pz) (by kernel_rfl)
   exact hn _ _ h0
  obtain rfl := Option.some.inj hF
  have pz : HoldAll E H hn68 [.test (ilt v2605 (nlen (len a2593.Edges))) false] := ⟨h2606, trivial⟩
  exact loop_endC (h := hn68) (l := 0) (c := c68_0) (ts := F68_l0_0_S a2593 a2594 v2604 v2605) (ts' := F68_l0_0_X0 a2593 a2594 v2604) (ex := (.exit 0)) pz (by kernel_rfl) trivial
def F68 (K : Nat) (a2593 : GGraph) (a2594 : Int) : Option (List GEdge) :=
 (F64 K a2593).bind fun r2595 =>
 bif (ieq r2595 0) then
  ((F68_l0_0 K a2593 a2594 K [] 0).bind fun w2617 =>
  some w2617)
 else
 some []
theorem F68_ok (K : Nat) (a2593 : GGraph) (a2594 : Int) (r : List GEdge) (hF : F68 K a2593 a2594 = some r) : Evt E H 68 [.agg (eGGraph a2593), .one (.lit (.int .i64 a2594))] (F68_res r) := by
 rw [F68] at hF
 refine bind_some hF (fun r2595 h2596 hF => ?_)
 refine cond_some hF (fun h2597 hF => ?_) (fun h2597 hF => ?_)
 ·
  refine bind_some hF (fun w2617 h2615 hF => ?_)
  obtain rfl := Option.some.inj hF
  have pz : HoldAll E H hn68 [.call 64 [.agg (eGGraph a2593)] (F64_res r2595), .test (leadsAny (Res.mk [(.one (.im (.lit (.int .i64 r2595))))] [])) false, .test (ine r2595 0) false, .int (nlen (len a2593.Edges)) (nlen (len a2593.Edges)), .loop 0 c68_0 (F68_l0_0_S a2593 a2594 [] 0) (.exit 0) (F68_l0_0_X0 a2593 a2594 w2617)] := ⟨(F64_ok K a2593 _ h2596), (leads_ok (by simp [leadsAny, RV.leads, RC.leads, leadsT, hasSl_lit])), (ine_t h2597), rfl, (F68_l0_0_ok K a2593 a2594 K [] 0 _ h2615), trivial⟩
  exact fn_playC hn68 (r := F68_res w2617) pz (by kernel_rfl) (by kernel_rfl)
 obtain rfl := Option.some.inj hF
 have pz : HoldAll E H hn68 [.call 64 [.agg (eGGraph a2593)] (F64_res r2595), .test (leadsAny (Res.mk [(.one (.im (.lit (.int .i64 r2595))))] [])) false, .test (ine r2595 0) true] := ⟨(F64_ok K a2593 _ h2596), (leads_ok (by simp [leadsAny, RV.leads, RC.leads, leadsT, hasSl_lit])), (ine_f h2597), trivial⟩
 exact fn_playC hn68 (r := F68_res []) pz (by kernel_rfl) (by kernel_rfl)
noncomputable def hn160 : Hint := { H 160 with nt := 12, prot := 0 }
def F160_res (r4282 : Int × Bool) : Res := ⟨[(.one (.im (.lit (.int .i64 r4282.1)))), (.one (.im (.lit (.bool r4282.2))))], []⟩
def F160 (K : Nat) (a4278 : Int) (a4279 : GEdge) : Option (Int × Bool) :=
 (F144 K a4278 a4279.W).bind fun r4280 =>
 some (r4280.1, r4280.2)
theorem F160_ok (K : Nat) (a4278 : Int) (a4279 : GEdge) (r : Int × Bool) (hF : F160 K a4278 a4279 = some r) : Evt E H 160 [.one (.lit (.int .i64 a4278)), .agg (eGEdge a4279)] (F160_res r) := by
 rw [F160] at hF
 refine bind_some hF (fun r4280 h4281 hF => ?_)
 obtain rfl := Option.some.inj hF
 have pz : HoldAll E H hn160 [.call 144 [.one (.lit (.int .i64 a4278)), .one (.lit (.int .i64 a4279.W))] (F144_res r4280), .test (leadsAny (Res.mk [(.one (.im (.lit (.int .i64 r4280.1)))), (.one (.im (.lit (.bool r4280.2))))] [])) false] := ⟨(F144_ok K a4278 a4279.W _ h4281), (leads_ok (by simp [leadsAny, RV.leads, RC.leads, leadsT, hasSl_lit])), trivial⟩
 exact fn_playC hn160 (r := F160_res (r4280.1, r4280.2)) pz (by kernel_rfl) (by kernel_rfl)
noncomputable def hn161 : Hint := { H 161 with nt := 10, prot := 0 }
def F161_res (r4369 : Int × Bool) : Res := ⟨[(.one (.im (.lit (.int .i64 r4369.1)))), (.one (.im (.lit (.bool r4369.2))))], []⟩
def F161 (K : Nat) (a4365 : Int) (a4366 : GEdge) : Option (Int × Bool) :=
 (F144 K a4365 1).bind fun r4367 =>
 some (r4367.1, r4367.2)
theorem F161_ok (K : Nat) (a4365 : Int) (a4366 : GEdge) (r : Int × Bool) (hF : F161 K a4365 a4366 = some r) : Evt E H 161 [.one (.lit (.int .i64 a4365)), .agg (eGEdge a4366)] (F161_res r) := by
 rw [F161] at hF
 refine bind_some hF (fun r4367 h4368 hF => ?_)
 obtain rfl := Option.some.inj hF
 have pz : HoldAll E H hn161 [.call 144 [.one (.lit (.int .i64 a4365)), .one (.lit (.int .i64 1))] (F144_res r4367), .test (leadsAny (Res.mk [(.one (.im (.lit (.int .i64 r4367.1)))), (.one (.im (.lit (.bool r4367.2))))] [])) false] := ⟨(F144_ok K a4365 1 _ h4368), (leads_ok (by simp [leadsAny, RV.leads, RC.leads, leadsT, hasSl_lit])), trivial⟩
 exact fn_playC hn161 (r := F161_res (r4367.1, r4367.2)) pz (by kernel_rfl) (by kernel_rfl)
noncomputable def hn163 : Hint := { H 163 with nt := 7, prot := 0 }
def F163_res (r4454 : Int × Bool) : Res := ⟨[(.one (.im (.lit (.int .i64 r4454.1)))), (.one (.im (.lit (.bool r4454.2))))], []⟩
def F163 (K : Nat) (a4452 : Int) (a4453 : GEdge) : Option (Int × Bool) :=
 some (a4452, true)
theorem F163_ok (K : Nat) (a4452 : Int) (a4453 : GEdge) (r : Int × Bool) (hF : F163 K a4452 a4453 = some r) : Evt E H 163 [.one (.lit (.int .i64 a4452)), .agg (eGEdge a4453)] (F163_res r) := by
 rw [F163] at hF
 obtain rfl := Option.some.inj hF
 have pz : HoldAll E H hn163 [] := trivial
 exact fn_playC hn163 (r := F163_res (a4452, true)) pz (by kernel_rfl) (by kernel_rfl)
noncomputable def hn175 : Hint := { H 175 with nt := 12, prot := 0 }
def F175_res (r4618 : Int) : Res := ⟨[(.one (.im (.lit (.int .u64 r4618))))], []⟩
def F175 (K : Nat) (a4616 : Int) : Option (Int) :=
 bif (ilt a4616 0) then
  (some (wadd .u64 (wconv .u64 (wneg .i64 (wadd .i64 a4616 1))) 1))
 else
 some (wconv .u64 a4616)
theorem F175_ok (K : Nat) (a4616 : Int) (r : Int) (hF : F175 K a4616 = some r) : Evt E H 175 [.one (.lit (.int .i64 a4616))] (F175_res r) := by
 rw [F175] at hF
 refine cond_some hF (fun h4617 hF => ?_) (fun h4617 hF => ?_)
 ·
  obtain rfl := Option.some.inj hF
  have pz : HoldAll E H hn175 [.test (ilt a4616 0) true, .int (wadd .i64 a4616 1) (wadd .i64 a4616 1), .int (wneg .i64 (wadd .i64 a4616 1)) (wneg .i64 (wadd .i64 a4616 1)), .int (wconv .u64 (wneg .i64 (wadd .i64 a4616 1))) (wconv .u64 (wneg .i64 (wadd .i64 a4616 1))), .int (wadd .u64 (wconv .u64 (wneg .i64 (wadd .i64 a4616 1))) 1) (wadd .u64 (wconv .u64 (wneg .i64 (wadd .i64 a4616 1))) 1)] := ⟨h4617, rfl, rfl, rfl, rfl, trivial⟩
  exact fn_playC hn175 (r := F175_res (wadd .u64 (wconv .u64 (wneg .i64 (wadd .i64 a4616 1))) 1)) pz (by kernel_rfl) (by kernel_rfl)
 obtain rfl := Option.some.inj hF
 have pz : HoldAll E H hn175 [.test (ilt a4616 0) false, .int (wconv .u64 a4616) (wconv .u64 a4616)] := ⟨h4617, rfl, trivial⟩
 exact fn_playC hn175 (r := F175_res (wconv .u64 a4616)) pz (by kernel_rfl) (by kernel_rfl)
noncomputable def hn174 : Hint := { H 174 with nt := 60, prot := 0 }
def F174_res (r4625 : GA199) : Res := ⟨[(.agg [(.im (.lit (.int .u64 r4625.x0))), (.im (.lit (.int .u64 r4625.x1)))])], []⟩
def F174 (K : Nat) (a4623 : Int) (a4624 : Int) : Option (GA199) :=
 some (GA199.mk (wadd .u64 (wadd .u64 (wadd .u64 (wmul .u64 (wquo .u64 a4623 4294967296) (wquo .u64 a4624 4294967296)) (wquo .u64 (wmul .u64 (wquo .u64 a4623 4294967296) (wrem a4624 4294967296)) 4294967296)) (wquo .u64 (wmul .u64 (wrem a4623 4294967296) (wquo .u64 a4624 4294967296)) 4294967296)) (wquo .u64 (wadd .u64 (wadd .u64 (wquo .u64 (wmul .u64 (wrem a4623 4294967296) (wrem a4624 4294967296)) 4294967296) (wrem (wmul .u64 (wquo .u64 a4623 4294967296) (wrem a4624 4294967296)) 4294967296)) (wrem (wmul .u64 (wrem a4623 4294967296) (wquo .u64 a4624 4294967296)) 4294967296)) 4294967296)) (wadd .u64 (wmul .u64 (wrem (wadd .u64 (wadd .u64 (wquo .u64 (wmul .u64 (wrem a4623 4294967296) (wrem a4624 4294967296)) 4294967296) (wrem (wmul .u64 (wquo .u64 a4623 4294967296) (wrem a4624 4294967296)) 4294967296)) (wrem (wmul .u64 (wrem a4623 4294967296) (wquo .u64 a4624 4294967296)) 4294967296)) 4294967296) 4294967296) (wrem (wmul .u64 (wrem a4623 4294967296) (wrem a4624 4294967296)) 4294967296)))
theorem F174_ok (K : Nat) (a4623 : Int) (a4624 : Int) (r : GA199) (hF : F174 K a4623 a4624 = some r) : Evt E H 174 [.one (.lit (.int .u64 a4623)), .one (.lit (.int .u64 a4624))] (F174_res r) := by
 rw [F174] at hF
 obtain rfl := Option.some.inj hF
 have pz : HoldAll E H hn174 [.test (izero 4294967296) false, .int (wquo .u64 a4623 4294967296) (wquo .u64 a4623 4294967296), .test (izero 4294967296) false, .int (wquo .u64 a4624 4294967296) (wquo .u64 a4624 4294967296), .int (wmul .u64 (wquo .u64 a4623 4294967296) (wquo .u64 a4624 4294967296)) (wmul .u64 (wquo .u64 a4623 4294967296) (wquo .u64 a4624 4294967296)), .test (izero 4294967296) false, .int (wquo .u64 a4623 4294967296) (wquo .u64 a4623 4294967296), .test (izero 4294967296) false, .int (wrem a4624 4294967296) (wrem a4624 4294967296), .int (wmul .u64 (wquo .u64 a4623 4294967296) (wrem a4624 4294967296)) (wmul .u64 (wquo .u64 a4623 4294967296) (wrem a4624 4294967296)), .test (izero 4294967296) false, .int (wrem a4623 4294967296) (wrem a4623 4294967296), .test (izero 4294967296) false, .int (wquo .u64 a4624 4294967296) (wquo .u64 a4624 4294967296), .int (wmul .u64 (wrem a4623 4294967296) (wquo .u64 a4624 4294967296)) (wmul .u64 (wrem a4623 4294967296) (wquo .u64 a4624 4294967296)), .test (izero 4294967296) false, .int (wrem a4623 4294967296) (wrem a4623 4294967296), .test (izero 4294967296) false, .int (wrem a4624 4294967296) (wrem a4624 4294967296), .int (wmul .u64 (wrem a4623 4294967296) (wrem a4624 4294967296)) (wmul .u64 (wrem a4623 4294967296) (wrem a4624 4294967296)), .test (ieq 3 0) false, .test (ieq 3 1) false, .test (ieq 3 2) false, .test (ieq 3 3) true, .test (izero 4294967296) false, .int (wquo .u64 (wmul .u64 (wrem a4623 4294967296) (wrem a4624 4294967296)) 4294967296) (wquo .u64 (wmul .u64 (wrem a4623 4294967296) (wrem a4624 4294967296)) 4294967296), .test (ieq 1 0) false, .test (ieq 1 1) true, .test (izero 4294967296) false, .int (wrem (wmul .u64 (wquo .u64 a4623 4294967296) (wrem a4624 4294967296)) 4294967296) (wrem (wmul .u64 (wquo .u64 a4623 4294967296) (wrem a4624 4294967296)) 4294967296), .int (wadd .u64 (wquo .u64 (wmul .u64 (wrem a4623 4294967296) (wrem a4624 4294967296)) 4294967296) (wrem (wmul .u64 (wquo .u64 a4623 4294967296) (wrem a4624 4294967296)) 4294967296)) (wadd .u64 (wquo .u64 (wmul .u64 (wrem a4623 4294967296) (wrem a4624 4294967296)) 4294967296) (wrem (wmul .u64 (wquo .u64 a4623 4294967296) (wrem a4624 4294967296)) 4294967296)), .test (ieq 2 0) false, .test (ieq 2 1) false, .test (ieq 2 2) true, .test (izero 4294967296) false, .int (wrem (wmul .u64 (wrem a4623 4294967296) (wquo .u64 a4624 4294967296)) 4294967296) (wrem (wmul .u64 (wrem a4623 4294967296) (wquo .u64 a4624 4294967296)) 4294967296), .int (wadd .u64 (wadd .u64 (wquo .u64 (wmul .u64 (wrem a4623 4294967296) (wrem a4624 4294967296)) 4294967296) (wrem (wmul .u64 (wquo .u64 a4623 4294967296) (wrem a4624 4294967296)) 4294967296)) (wrem (wmul .u64 (wrem a4623 4294967296) (wquo .u64 a4624 4294967296)) 4294967296)) (wadd .u64 (wadd .u64 (wquo .u64 (wmul .u64 (wrem a4623 4294967296) (wrem a4624 4294967296)) 4294967296) (wrem (wmul .u64 (wquo .u64 a4623 4294967296) (wrem a4624 4294967296)) 4294967296)) (wrem (wmul .u64 (wrem a4623 4294967296) (wquo .u64 a4624 4294967296)) 4294967296)), .test (ieq 0 0) true, .test (ieq 1 0) false, .test (ieq 1 1) true, .test (izero 4294967296) false, .int (wquo .u64 (wmul .u64 (wquo .u64 a4623 4294967296) (wrem a4624 4294967296)) 4294967296) (wquo .u64 (wmul .u64 (wquo .u64 a4623 4294967296) (wrem a4624 4294967296)) 4294967296), .int (wadd .u64 (wmul .u64 (wquo .u64 a4623 4294967296) (wquo .u64 a4624 4294967296)) (wquo .u64 (wmul .u64 (wquo .u64 a4623 4294967296) (wrem a4624 4294967296)) 4294967296)) (wadd .u64 (wmul .u64 (wquo .u64 a4623 4294967296) (wquo .u64 a4624 4294967296)) (wquo .u64 (wmul .u64 (wquo .u64 a4623 4294967296) (wrem a4624 4294967296)) 4294967296)), .test (ieq 2 0) false, .test (ieq 2 1) false, .test (ieq 2 2) true, .test (izero 4294967296) false, .int (wquo .u64 (wmul .u64 (wrem a4623 4294967296) (wquo .u64 a4624 4294967296)) 4294967296) (wquo .u64 (wmul .u64 (wrem a4623 4294967296) (wquo .u64 a4624 4294967296)) 4294967296), .int (wadd .u64 (wadd .u64 (wmul .u64 (wquo .u64 a4623 4294967296) (wquo .u64 a4624 4294967296)) (wquo .u64 (wmul .u64 (wquo .u64 a4623 4294967296) (wrem a4624 4294967296)) 4294967296)) (wquo .u64 (wmul .u64 (wrem a4623 4294967296) (wquo .u64 a4624 4294967296)) 4294967296)) (wadd .u64 (wadd .u64 (wmul .u64 (wquo .u64 a4623 4294967296) (wquo .u64 a4624 4294967296)) (wquo .u64 (wmul .u64 (wquo .u64 a4623 4294967296) (wrem a4624 4294967296)) 4294967296)) (wquo .u64 (wmul .u64 (wrem a4623 4294967296) (wquo .u64 a4624 4294967296)) 4294967296)), .test (izero 4294967296) false, .int (wquo .u64 (wadd .u64 (wadd .u64 (wquo .u64 (wmul .u64 (wrem a4623 4294967296) (wrem a4624 4294967296)) 4294967296) (wrem (wmul .u64 (wquo .u64 a4623 4294967296) (wrem a4624 4294967296)) 4294967296)) (wrem (wmul .u64 (wrem a4623 4294967296) (wquo .u64 a4624 4294967296)) 4294967296)) 4294967296) (wquo .u64 (wadd .u64 (wadd .u64 (wquo .u64 (wmul .u64 (wrem a4623 4294967296) (wrem a4624 4294967296)) 4294967296) (wrem (wmul .u64 (wquo .u64 a4623 4294967296) (wrem a4624 4294967296)) 4294967296)) (wrem (wmul .u64 (wrem a4623 4294967296) (wquo .u64 a4624 4294967296)) 4294967296)) 4294967296), .int (wadd .u64 (wadd .u64 (wadd .u64 (wmul .u64 (wquo .u64 a4623 4294967296) (wquo .u64 a4624 4294967296)) (wquo .u64 (wmul .u64 (wquo .u64 a4623 4294967296) (wrem a4624 4294967296)) 4294967296)) (wquo .u64 (wmul .u64 (wrem a4623 4294967296) (wquo .u64 a4624 4294967296)) 4294967296)) (wquo .u64 (wadd .u64 (wadd .u64 (wquo .u64 (wmul .u64 (wrem a4623 4294967296) (wrem a4624 4294967296)) 4294967296) (wrem (wmul .u64 (wquo .u64 a4623 4294967296) (wrem a4624 4294967296)) 4294967296)) (wrem (wmul .u64 (wrem a4623 4294967296) (wquo .u64 a4624 4294967296)) 4294967296)) 4294967296)) (wadd .u64 (wadd .u64 (wadd .u64 (wmul .u64 (wquo .u64 a4623 4294967296) (wquo .u64 a4624 4294967296)) (wquo .u64 (wmul .u64 (wquo .u64 a4623 4294967296) (wrem a4624 4294967296)) 4294967296)) (wquo .u64 (wmul .u64 (wrem a4623 4294967296) (wquo .u64 a4624 4294967296)) 4294967296)) (wquo .u64 (wadd .u64 (wadd .u64 (wquo .u64 (wmul .u64 (wrem a4623 4294967296) (wrem a4624 4294967296)) 4294967296) (wrem (wmul .u64 (wquo .u64 a4623 4294967296) (wrem a4624 4294967296)) 4294967296)) (wrem (wmul .u64 (wrem a4623 4294967296) (wquo .u64 a4624 4294967296)) 4294967296)) 4294967296)), .test (izero 4294967296) false, .int (wrem (wadd .u64 (wadd .u64 (wquo .u64 (wmul .u64 (wrem a4623 4294967296) (wrem a4624 4294967296)) 4294967296) (wrem (wmul .u64 (wquo .u64 a4623 4294967296) (wrem a4624 4294967296)) 4294967296)) (wrem (wmul .u64 (wrem a4623 4294967296) (wquo .u64 a4624 4294967296)) 4294967296)) 4294967296) (wrem (wadd .u64 (wadd .u64 (wquo .u64 (wmul .u64 (wrem a4623 4294967296) (wrem a4624 4294967296)) 4294967296) (wrem (wmul .u64 (wquo .u64 a4623 4294967296) (wrem a4624 4294967296)) 4294967296)) (wrem (wmul .u64 (wrem a4623 4294967296) (wquo .u64 a4624 4294967296)) 4294967296)) 4294967296), .int (wmul .u64 (wrem (wadd .u64 (wadd .u64 (wquo .u64 (wmul .u64 (wrem a4623 4294967296) (wrem a4624 4294967296)) 4294967296) (wrem (wmul .u64 (wquo .u64 a4623 4294967296) (wrem a4624 4294967296)) 4294967296)) (wrem (wmul .u64 (wrem a4623 4294967296) (wquo .u64 a4624 4294967296)) 4294967296)) 4294967296) 4294967296) (wmul .u64 (wrem (wadd .u64 (wadd .u64 (wquo .u64 (wmul .u64 (wrem a4623 4294967296) (wrem a4624 4294967296)) 4294967296) (wrem (wmul .u64 (wquo .u64 a4623 4294967296) (wrem a4624 4294967296)) 4294967296)) (wrem (wmul .u64 (wrem a4623 4294967296) (wquo .u64 a4624 4294967296)) 4294967296)) 4294967296) 4294967296), .test (ieq 3 0) false, .test (ieq 3 1) false, .test (ieq 3 2) false, .test (ieq 3 3) true, .test (izero 4294967296) false, .int (wrem (wmul .u64 (wrem a4623 4294967296) (wrem a4624 4294967296)) 4294967296) (wrem (wmul .u64 (wrem a4623 4294967296) (wrem a4624 4294967296)) 4294967296), .int (wadd .u64 (wmul .u64 (wrem (wadd .u64 (wadd .u64 (wquo .u64 (wmul .u64 (wrem a4623 4294967296) (wrem a4624 4294967296)) 4294967296) (wrem (wmul .u64 (wquo .u64 a4623 4294967296) (wrem a4624 4294967296)) 4294967296)) (wrem (wmul .u64 (wrem a4623 4294967296) (wquo .u64 a4624 4294967296)) 4294967296)) 4294967296) 4294967296) (wrem (wmul .u64 (wrem a4623 4294967296) (wrem a4624 4294967296)) 4294967296)) (wadd .u64 (wmul .u64 (wrem (wadd .u64 (wadd .u64 (wquo .u64 (wmul .u64 (wrem a4623 4294967296) (wrem a4624 4294967296)) 4294967296) (wrem (wmul .u64 (wquo .u64 a4623 4294967296) (wrem a4624 4294967296)) 4294967296)) (wrem (wmul .u64 (wrem a4623 4294967296) (wquo .u64 a4624 4294967296)) 4294967296)) 4294967296) 4294967296) (wrem (wmul .u64 (wrem a4623 4294967296) (wrem a4624 4294967296)) 4294967296))] := ⟨(by first | exact rfl | (unfold Cond.Holds; decide)), rfl, (by first | exact rfl | (unfold Cond.Holds; decide)), rfl, rfl, (by first | exact rfl | (unfold Cond.Holds; decide)), rfl, (by first | exact rfl | (unfold Cond.Holds; decide)), rfl, rfl, (by first | exact rfl | (unfold Cond.Holds; decide)), rfl, (by first | exact rfl | (unfold Cond.Holds; decide)), rfl, rfl, (by first | exact rfl | (unfold Cond.Holds; decide)), rfl, (by first | exact rfl | (unfold Cond.Holds; decide)), rfl, rfl, (by first | exact rfl | (unfold Cond.Holds; decide)), (by first | exact rfl | (unfold Cond.Holds; decide)), (by first | exact rfl | (unfold Cond.Holds; decide)), (by first | exact rfl | (unfold Cond.Holds; decide)), (by first | exact rfl | (unfold Cond.Holds; decide)), rfl, (by first | exact rfl | (unfold Cond.Holds; decide)), (by first | exact rfl | (unfold Cond.Holds; decide)), (by first | exact rfl | (unfold Cond.Holds; decide)), rfl, rfl, (by first | exact rfl | (unfold Cond.Holds; decide)), (by first | exact rfl | (unfold Cond.Holds; decide)), (by first | exact rfl | (unfold Cond.Holds; decide)), (by first | exact rfl | (unfold Cond.Holds; decide)), rfl, rfl, (by first | exact rfl | (unfold Cond.Holds; decide)), (by first | exact rfl | (unfold Cond.Holds; decide)), (by first | exact rfl | (unfold Cond.Holds; decide)), (by first | exact rfl | (unfold Cond.Holds; decide)), rfl, rfl, (by first | exact rfl | (unfold Cond.Holds; decide)), (by first | exact rfl | (unfold Cond.Holds; decide)), (by first | exact rfl | (unfold Cond.Holds; decide)), (by first | exact rfl | (unfold Cond.Holds; decide)), rfl, rfl, (by first | exact rfl | (unfold Cond.Holds; decide)), rfl, rfl, (by first | exact rfl | (unfold Cond.Holds; decide)), rfl, rfl, (by first | exact rfl | (unfold Cond.Holds; decide)), (by first | exact rfl | (unfold Cond.Holds; decide)), (by first | exact rfl | (unfold Cond.Holds; decide)), (by first | exact rfl | (unfold Cond.Holds; decide)), (by first | exact rfl | (unfold Cond.Holds; decide)), rfl, rfl, trivial⟩
 exact fn_playC hn174 (r := F174_res (GA199.mk (wadd .u64 (wadd .u64 (wadd .u64 (wmul .u64 (wquo .u64 a4623 4294967296) (wquo .u64 a4624 4294967296)) (wquo .u64 (wmul .u64 (wquo .u64 a4623 4294967296) (wrem a4624 4294967296)) 4294967296)) (wquo .u64 (wmul .u64 (wrem a4623 4294967296) (wquo .u64 a4624 4294967296)) 4294967296)) (wquo .u64 (wadd .u64 (wadd .u64 (wquo .u64 (wmul .u64 (wrem a4623 4294967296) (wrem a4624 4294967296)) 4294967296) (wrem (wmul .u64 (wquo .u64 a4623 4294967296) (wrem a4624 4294967296)) 4294967296)) (wrem (wmul .u64 (wrem a4623 4294967296) (wquo .u64 a4624 4294967296)) 4294967296)) 4294967296)) (wadd .u64 (wmul .u64 (wrem (wadd .u64 (wadd .u64 (wquo .u64 (wmul .u64 (wrem a4623 4294967296) (wrem a4624 4294967296)) 4294967296) (wrem (wmul .u64 (wquo .u64 a4623 4294967296) (wrem a4624 4294967296)) 4294967296)) (wrem (wmul .u64 (wrem a4623 4294967296) (wquo .u64 a4624 4294967296)) 4294967296)) 4294967296) 4294967296) (wrem (wmul .u64 (wrem a4623 4294967296) (wrem a4624 4294967296)) 4294967296)))) pz (by kernel_rfl) (by kernel_rfl)
noncomputable def hn170 : Hint := { H 170 with nt := 41, prot := 0 }
def F170_res (r4636 : Int × Bool) : Res := ⟨[(.one (.im (.lit (.int .i64 r4636.1)))), (.one (.im (.lit (.bool r4636.2))))], []⟩
def F170 (K : Nat) (a4614 : Int) (a4615 : Int) : Option (Int × Bool) :=
 (F175 K a4614).bind fun r4619 =>
 (F175 K a4615).bind fun r4621 =>
 (F174 K r4619 r4621).bind fun r4626 =>
 bif (ilt 0 r4626.x0) then
  (some (0, false))
 else
 bif (ilt 9223372036854775808 r4626.x1) then
  (some (0, false))
 else
 bif (ieq r4626.x1 9223372036854775808) then
  (bif (beqb (ilt a4614 0) (ilt a4615 0)) then
   (some (0, false))
  else
  some ((-9223372036854775808), true))
 else
 bif (beqb (ilt a4614 0) (ilt a4615 0)) then
  (some ((wconv .i64 r4626.x1), true))
 else
 some ((wneg .i64 (wconv .i64 r4626.x1)), true)
theorem F170_ok (K : Nat) (a4614 : Int) (a4615 : Int) (r : Int × Bool) (hF : F170 K a4614 a4615 = some r) : Evt E H 170 [.one (.lit (.int .i64 a4614)), .one (.lit (.int .i64 a4615))] (F170_res r) := by
 rw [F170] at hF
 refine bind_some hF (fun r4619 h4620 hF => ?_)
 refine bind_some hF (fun r4621 h4622 hF => ?_)
 refine bind_some hF (fun r4626 h4627 hF => ?_)
 have pq4633 : ∀ {l : List Cond}, HoldAll E H hn170 l → HoldAll E H hn170 (.call 175 [.one (.lit (.int .i64 a4614))] (F175_res r4619) :: .test (leadsAny (Res.mk [(.one (.im (.lit (.int .u64 r4619))))] [])) false :: .call 175 [.one (.lit (.int .i64 a4615))] (F175_res r4621) :: .test (leadsAny (Res.mk [(.one (.im (.lit (.int .u64 r4621))))] [])) false :: .call 174 [.one (.lit (.int .u64 r4619)), .one (.lit (.int .u64 r4621))] (F174_res r4626) :: .test (leadsAny (Res.mk [(.agg [(.im (.lit (.int .u64 r4626.x0))), (.im (.lit (.int .u64 r4626.x1)))])] [])) false :: .test (ieq 0 0) true :: l) := fun z => ⟨(F175_ok K a4614 _ h4620), (leads_ok (by simp [leadsAny, RV.leads, RC.leads, leadsT, hasSl_lit])), (F175_ok K a4615 _ h4622), (leads_ok (by simp [leadsAny, RV.leads, RC.leads, leadsT, hasSl_lit])), (F174_ok K r4619 r4621 _ h4627), (leads_ok (by simp [leadsAny, RV.leads, RC.leads, leadsT, hasSl_lit])), (by first | exact rfl | (unfold Cond.Holds; decide)), z⟩
 refine cond_some hF (fun h4628 hF => ?_) (fun h4628 hF => ?_)
 ·
  obtain rfl := Option.some.inj hF
  have pz : HoldAll E H hn170 [.test (beqb (igt r4626.x0 0) false) false, .test (beqb (igt r4626.x0 0) false) false, .test (beqb (igt r4626.x0 0) false) false, .test (igt r4626.x0 0) true, .test true true] := ⟨(beqb_ft (igt_eq h4628)), (beqb_ft (igt_eq h4628)), (beqb_ft (igt_eq h4628)), (igt_eq h4628), rfl, trivial⟩
  exact fn_playC hn170 (r := F170_res (0, false)) (pq4633 pz) (by kernel_rfl) (by kernel_rfl)
 have pq4634 : ∀ {l : List Cond}, HoldAll E H hn170 l → HoldAll E H hn170 (.test (beqb (igt r4626.x0 0) false) true :: .test (ieq 1 0) false :: .test (ieq 1 1) true :: .test (beqb (igt r4626.x0 0) false) true :: .test (beqb (igt r4626.x0 0) false) true :: .test (igt r4626.x0 0) false :: l) := fun z => ⟨(beqb_ff (igt_eq h4628)), (by first | exact rfl | (unfold Cond.Holds; decide)), (by first | exact rfl | (unfold Cond.Holds; decide)), (beqb_ff (igt_eq h4628)), (beqb_ff (igt_eq h4628)), (igt_eq h4628), z⟩
 refine cond_some hF (fun h4629 hF => ?_) (fun h4629 hF => ?_)
 ·
  obtain rfl := Option.some.inj hF
  have pz : HoldAll E H hn170 [.test (igt r4626.x1 9223372036854775808) true] := ⟨(igt_eq h4629), trivial⟩
  exact fn_playC hn170 (r := F170_res (0, false)) (pq4633 (pq4634 pz)) (by kernel_rfl) (by kernel_rfl)
 have pq4635 : ∀ {l : List Cond}, HoldAll E H hn170 l → HoldAll E H hn170 (.test (igt r4626.x1 9223372036854775808) false :: .test (ieq 1 0) false :: .test (ieq 1 1) true :: l) := fun z => ⟨(igt_eq h4629), (by first | exact rfl | (unfold Cond.Holds; decide)), (by first | exact rfl | (unfold Cond.Holds; decide)), z⟩
 refine cond_some hF (fun h4630 hF => ?_) (fun h4630 hF => ?_)
 ·
  refine cond_some hF (fun h4631 hF => ?_) (fun h4631 hF => ?_)
  ·
   obtain rfl := Option.some.inj hF
   have pz : HoldAll E H hn170 [.test (ieq r4626.x1 9223372036854775808) true, .test (bnot (beqb (ilt a4614 0) (ilt a4615 0))) false] := ⟨h4630, (bnot_t h4631), trivial⟩
   exact fn_playC hn170 (r := F170_res (0, false)) (pq4633 (pq4634 (pq4635 pz))) (by kernel_rfl) (by kernel_rfl)
  obtain rfl := Option.some.inj hF
  have pz : HoldAll E H hn170 [.test (ieq r4626.x1 9223372036854775808) true, .test (bnot (beqb (ilt a4614 0) (ilt a4615 0))) true] := ⟨h4630, (bnot_f h4631), trivial⟩
  exact fn_playC hn170 (r := F170_res ((-9223372036854775808), true)) (pq4633 (pq4634 (pq4635 pz))) (by kernel_rfl) (by kernel_rfl)
 refine cond_some hF (fun h4632 hF => ?_) (fun h4632 hF => ?_)
 ·
  obtain rfl := Option.some.inj hF
  have pz : HoldAll E H hn170 [.test (ieq r4626.x1 9223372036854775808) false, .test (bnot (beqb (ilt a4614 0) (ilt a4615 0))) false, .test (ieq 1 0) false, .test (ieq 1 1) true, .int (wconv .i64 r4626.x1) (wconv .i64 r4626.x1)] := ⟨h4630, (bnot_t h4632), (by first | exact rfl | (unfold Cond.Holds; decide)), (by first | exact rfl | (unfold Cond.Holds; decide)), rfl, trivial⟩
  exact fn_playC hn170 (r := F170_res ((wconv .i64 r4626.x1), true)) (pq4633 (pq4634 (pq4635 pz))) (by kernel_rfl) (by kernel_rfl)
 obtain rfl := Option.some.inj hF
 have pz : HoldAll E H hn170 [.test (ieq r4626.x1 9223372036854775808) false, .test (bnot (beqb (ilt a4614 0) (ilt a4615 0))) true, .test (ieq 1 0) false, .test (ieq 1 1) true, .int (wconv .i64 r4626.x1) (wconv .i64 r4626.x1), .int (wneg .i64 (wconv .i64 r4626.x1)) (wneg .i64 (wconv .i64 r4626.x1))] := ⟨h4630, (bnot_f h4632), (by first | exact rfl | (unfold Cond.Holds; decide)), (by first | exact rfl | (unfold Cond.Holds; decide)), rfl, rfl, trivial⟩
 exact fn_playC hn170 (r := F170_res ((wneg .i64 (wconv .i64 r4626.x1)), true)) (pq4633 (pq4634 (pq4635 pz))) (by kernel_rfl) (by kernel_rfl)
noncomputable def hn167 : Hint := { H 167 with nt := 25, prot := 0 }
def F167_res (r4643 : Int × Bool) : Res := ⟨[(.one (.im (.lit (.int .i64 r4643.1)))), (.one (.im (.lit (.bool r4643.2))))], []⟩
def F167 (K : Nat) (a4611 : Int) (a4612 : Int) (a4613 : Int) : Option (Int × Bool) :=
 (F170 K a4611 a4612).bind fun r4637 =>
 bif r4637.2 then
  (bif (ilt a4613 1) then
   (some (0, false))
  else
  bif (izero a4613) then none else
  some ((wquo .i64 r4637.1 a4613), true))
 else
 some (0, false)
theorem F167_ok (K : Nat) (a4611 : Int) (a4612 : Int) (a4613 : Int) (r : Int × Bool) (hF : F167 K a4611 a4612 a4613 = some r) : Evt E H 167 [.one (.lit (.int .i64 a4611)), .one (.lit (.int .i64 a4612)), .one (.lit (.int .i64 a4613))] (F167_res r) := by
 rw [F167] at hF
 refine bind_some hF (fun r4637 h4638 hF => ?_)
 refine cond_some hF (fun h4639 hF => ?_) (fun h4639 hF => ?_)
 ·
  have pq4642 : ∀ {l : List Cond}, HoldAll E H hn167 l → HoldAll E H hn167 (.call 170 [.one (.lit (.int .i64 a4611)), .one (.lit (.int .i64 a4612))] (F170_res r4637) :: .test (leadsAny (Res.mk [(.one (.im (.lit (.int .i64 r4637.1)))), (.one (.im (.lit (.bool r4637.2))))] [])) false :: .test (beqb (bnot r4637.2) false) true :: .test (beqb (bnot r4637.2) false) true :: .test (bnot r4637.2) false :: l) := fun z => ⟨(F170_ok K a4611 a4612 _ h4638), (leads_ok (by simp [leadsAny, RV.leads, RC.leads, leadsT, hasSl_lit])), (beqb_ff (bnot_t h4639)), (beqb_ff (bnot_t h4639)), (bnot_t h4639), z⟩
  refine cond_some hF (fun h4640 hF => ?_) (fun h4640 hF => ?_)
  ·
   obtain rfl := Option.some.inj hF
   have pz : HoldAll E H hn167 [.test (ilt a4613 1) true] := ⟨h4640, trivial⟩
   exact fn_playC hn167 (r := F167_res (0, false)) (pq4642 pz) (by kernel_rfl) (by kernel_rfl)
  refine cond_some hF (fun _ hF => nomatch hF) (fun h4641 hF => ?_)
  obtain rfl := Option.some.inj hF
  have pz : HoldAll E H hn167 [.test (ilt a4613 1) false, .test (izero a4613) false, .int (wquo .i64 r4637.1 a4613) (wquo .i64 r4637.1 a4613)] := ⟨h4640, h4641, rfl, trivial⟩
  exact fn_playC hn167 (r := F167_res ((wquo .i64 r4637.1 a4613), true)) (pq4642 pz) (by kernel_rfl) (by kernel_rfl)
 obtain rfl := Option.some.inj hF
 have pz : HoldAll E H hn167 [.call 170 [.one (.lit (.int .i64 a4611)), .one (.lit (.int .i64 a4612))] (F170_res r4637), .test (leadsAny (Res.mk [(.one (.im (.lit (.int .i64 r4637.1)))), (.one (.im (.lit (.bool r4637.2))))] [])) false, .test (beqb (bnot r4637.2) false) false, .test (beqb (bnot r4637.2) false) false, .test (bnot r4637.2) true, .test true true] := ⟨(F170_ok K a4611 a4612 _ h4638), (leads_ok (by simp [leadsAny, RV.leads, RC.leads, leadsT, hasSl_lit])), (beqb_ft (bnot_f h4639)), (beqb_ft (bnot_f h4639)), (bnot_f h4639), rfl, trivial⟩
 exact fn_playC hn167 (r := F167_res (0, false)) pz (by kernel_rfl) (by kernel_rfl)
noncomputable def hn146 : Hint := { H 146 with nt := 68, prot := 0 }
noncomputable def c146_0 : Code := loopOf E 146 0
def F146_res (r4696 : Int × List GMsg × Bool × Int) : Res := ⟨[(.one (.im (.lit (.int .i64 r4696.1)))), (.one (.own 130 (.sl (len r4696.2.1) (flat eGMsg r4696.2.1)))), (.one (.im (.lit (.bool r4696.2.2.1)))), (.one (.im (.lit (.int .i64 r4696.2.2.2))))], []⟩
def F146_l0_0 (K : Nat) (v4651 : List GEdge) (v4652 : Int) : Nat → List GMsg → Int → Option ((Unit) ⊕ (List GMsg))
 | 0, _, _ => none
 | k + 1, v4663, v4664 =>
  bif (ilt v4664 (nlen (len v4651))) then
   (bif (inr v4664 (len v4651)) then
   (elAt v4651 v4664).bind fun x4667 =>
   (F167 K v4652 1 (nlen (len v4651))).bind fun r4669 =>
   bif r4669.2 then
    (bif (apok (len v4663) 1 16) then
    F146_l0_0 K v4651 v4652 k (appL v4663 [(GMsg.mk x4667.To r4669.1)]) (wadd .i64 v4664 1)
    else none)
   else
   some (.inl ())
   else none)
  else
  some (.inr v4663)
def F146_l0_0_S (v4651 : List GEdge) (v4652 : Int) (v4663 : List GMsg) (v4664 : Int) : TS := .on [0, 1, 128, 129, 1024, 1025, 2752, 2753, 2816, 2817, 2880, 2881] [(0, ⟨.one, 0, nob⟩), (1, ⟨.im, 0, (.sl (len v4651) (flat eGEdge v4651))⟩), (128, ⟨.one, 0, nob⟩), (129, ⟨.im, 0, (.lit (.int .i64 v4652))⟩), (1024, ⟨.one, 0, nob⟩), (1025, ⟨(.own 130), 0, (.sl (len v4663) (flat eGMsg v4663))⟩), (2752, ⟨.one, 0, nob⟩), (2753, ⟨.im, 0, (.sl (len v4651) (flat eGEdge v4651))⟩), (2816, ⟨.one, 0, nob⟩), (2817, ⟨.im, 0, (.lit (.int .i64 (nlen (len v4651))))⟩), (2880, ⟨.one, 0, nob⟩), (2881, ⟨.im, 0, (.lit (.int .i64 v4664))⟩)]
def F146_l0_0_X0 (v4651 : List GEdge) (v4652 : Int) (w4673 : Unit) : TS := .on [512, 513, 576, 577, 640, 641, 704, 705] [(512, ⟨.one, 0, nob⟩), (513, ⟨.im, 0, (.lit (.int .i64 0))⟩), (576, ⟨.one, 0, nob⟩), (577, ⟨(.own 130), 0, (.sl 0 [])⟩), (640, ⟨.one, 0, nob⟩), (641, ⟨.im, 0, (.lit (.bool false))⟩), (704, ⟨.one, 0, nob⟩), (705, ⟨.im, 0, (.lit (.int .i64 8))⟩)]
def F146_l0_0_X1 (v4651 : List GEdge) (v4652 : Int) (w4674 : List GMsg) : TS := .on [128, 129, 1024, 1025] [(128, ⟨.one, 0, nob⟩), (129, ⟨.im, 0, (.lit (.int .i64 v4652))⟩), (1024, ⟨.one, 0, nob⟩), (1025, ⟨(.own 130), 0, (.sl (len w4674) (flat eGMsg w4674))⟩)]
theorem F146_l0_0_ok (K : Nat) (v4651 : List GEdge) (v4652 : Int) : ∀ (k : Nat) (v4663 : List GMsg) (v4664 : Int) (r : (Unit) ⊕ (List GMsg)), F146_l0_0 K v4651 v4652 k v4663 v4664 = some r → (Sum.elim (fun w => LoopEv E H hn146 0 c146_0 (F146_l0_0_S v4651 v4652 v4663 v4664) .ret (F146_l0_0_X0 v4651 v4652 w)) (fun w => LoopEv E H hn146 0 c146_0 (F146_l0_0_S v4651 v4652 v4663 v4664) (.exit 0) (F146_l0_0_X1 v4651 v4652 w))) r := by
 intro k
 induction k with
 | zero => intro v4663 v4664 r hF; cases hF
 | succ k ih =>
  intro v4663 v4664 r hF
  rw [F146_l0_0] at hF
  refine cond_some hF (fun h4665 hF => ?_) (fun h4665 hF => ?_)
  ·
   refine cond_some hF (fun h4666 hF => ?_) (fun _ hF => nomatch hF)
   refine bind_some hF (fun x4667 h4668 hF => ?_)
   refine bind_some hF (fun r4669 h4670 hF => ?_)
   have pq4676 : ∀ {l : List Cond}, HoldAll E H hn146 l → HoldAll E H hn146 (.test (ilt v4664 (nlen (len v4651))) true :: .test (inr v4664 (len v4651)) true :: .sub (flat eGEdge v4651) (nidx v4664 3) 3 [(.lit (.int .i64 x4667.From)), (.lit (.int .i64 x4667.To)), (.lit (.int .i64 x4667.W))] :: .int (nlen (len v4651)) (nlen (len v4651)) :: .call 167 [.one (.lit (.int .i64 v4652)), .one (.lit (.int .i64 1)), .one (.lit (.int .i64 (nlen (len v4651))))] (F167_res r4669) :: .test (leadsAny (Res.mk [(.one (.im (.lit (.int .i64 r4669.1)))), (.one (.im (.lit (.bool r4669.2))))] [])) false :: l) := fun z => ⟨h4665, h4666, ⟨rfl, sub_flat0 eGEdge_len h4668 3 (by decide)⟩, rfl, (F167_ok K v4652 1 (nlen (len v4651)) _ h4670), (leads_ok (by simp [leadsAny, RV.leads, RC.leads, leadsT, hasSl_lit, flat_ns eGEdge_ns])), z⟩
   refine cond_some hF (fun h4671 hF => ?_) (fun h4671 hF => ?_)
   ·
    refine cond_some hF (fun h4672 hF => ?_) (fun _ hF => nomatch hF)
    have pz : HoldAll E H hn146 [.test (bnot r4669.2) false, .test (leqm [(.lit (.int .i64 x4667.To)), (.lit (.int .i64 r4669.1))] 1 2) true, .test (apok (len v4663) 1 16) true, .sl (nadd (len v4663) 1) (lapp (flat eGMsg v4663) [(.lit (.int .i64 x4667.To)), (.lit (.int .i64 r4669.1))]) (len (α := GMsg) (appL v4663 [(GMsg.mk x4667.To r4669.1)])) (flat eGMsg (appL v4663 [(GMsg.mk x4667.To r4669.1)])), .int (wadd .i64 v4664 1) (wadd .i64 v4664 1)] := ⟨(bnot_t h4671), rfl, h4672, (app_ok (enc := eGMsg) (v4663 : List GMsg) [(GMsg.mk x4667.To r4669.1)]), rfl, trivial⟩
    have h0 := ih _ _ _ hF
    have hn := fun ex ts' => loop_nextC (h := hn146) (l := 0) (c := c146_0) (ts := F146_l0_0_S v4651 v4652 v4663 v4664) (ts1 := (F146_l0_0_S v4651 v4652 (appL v4663 [(GMsg.mk x4667.To r4669.1)]) (wadd .i64 v4664 1))) (ex := ex) (ts' := ts') (pq4676 pz) (by kernel_rfl)
    cases r with
    | inl w => exact hn _ _ h0
    | inr w => exact hn _ _ h0
   obtain rfl := Option.some.inj hF
   have pz : HoldAll E H hn146 [.test (bnot r4669.2) true] := ⟨(bnot_f h4671), trivial⟩
   exact loop_endC (h := hn146) (l := 0) (c := c146_0) (ts := F146_l0_0_S v4651 v4652 v4663 v4664) (ts' := F146_l0_0_X0 v4651 v4652 ()) (ex := .ret) (pq4676 pz) (by kernel_rfl) trivial
  obtain rfl := Option.some.inj hF
  have pz : HoldAll E H hn146 [.test (ilt v4664 (nlen (len v4651))) false] := ⟨h4665, trivial⟩
  exact loop_endC (h := hn146) (l := 0) (c := c146_0) (ts := F146_l0_0_S v4651 v4652 v4663 v4664) (ts' := F146_l0_0_X1 v4651 v4652 v4663) (ex := (.exit 0)) pz (by kernel_rfl) trivial
def F146 (K : Nat) (a4606 : List GEdge) (a4607 : Int) (a4608 : Int) (a4609 : Int) : Option (Int × List GMsg × Bool × Int) :=
 bif (ilt 0 a4607) then
  ((F167 K a4609 85 100).bind fun r4644 =>
  (F144 K 150000 r4644.1).bind fun r4646 =>
  bif r4644.2 then
   (bif r4646.2 then
    (bif (ile 10 a4607) then
     (some (r4646.1, ([], (true, 0))))
    else
    (F146_l0_0 K a4606 r4646.1 K [] 0).bind fun y4678 =>
    Sum.elim (fun w4679 =>
     some (0, ([], (false, 8))))
     (fun w4680 =>
     some (r4646.1, (w4680, (false, 0)))) y4678)
   else
   some (0, ([], (false, 8))))
  else
  some (0, ([], (false, 8))))
 else
 bif (ile 10 a4607) then
  (some (a4608, ([], (true, 0))))
 else
 (F146_l0_0 K a4606 a4608 K [] 0).bind fun y4688 =>
 Sum.elim (fun w4689 =>
  some (0, ([], (false, 8))))
  (fun w4690 =>
  some (a4608, (w4690, (false, 0)))) y4688
theorem F146_ok (K : Nat) (a4606 : List GEdge) (a4607 : Int) (a4608 : Int) (a4609 : Int) (r : Int × List GMsg × Bool × Int) (hF : F146 K a4606 a4607 a4608 a4609 = some r) : Evt E H 146 [.one (.sl (len a4606) (flat eGEdge a4606)), .one (.lit (.int .i64 a4607)), .one (.lit (.int .i64 a4608)), .one (.lit (.int .i64 a4609))] (F146_res r) := by
 rw [F146] at hF
 refine cond_some hF (fun h4610 hF => ?_) (fun h4610 hF => ?_)
 ·
  refine bind_some hF (fun r4644 h4645 hF => ?_)
  refine bind_some hF (fun r4646 h4647 hF => ?_)
  have pq4692 : ∀ {l : List Cond}, HoldAll E H hn146 l → HoldAll E H hn146 (.test (igt a4607 0) true :: .call 167 [.one (.lit (.int .i64 a4609)), .one (.lit (.int .i64 85)), .one (.lit (.int .i64 100))] (F167_res r4644) :: .test (leadsAny (Res.mk [(.one (.im (.lit (.int .i64 r4644.1)))), (.one (.im (.lit (.bool r4644.2))))] [])) false :: .call 144 [.one (.lit (.int .i64 150000)), .one (.lit (.int .i64 r4644.1))] (F144_res r4646) :: .test (leadsAny (Res.mk [(.one (.im (.lit (.int .i64 r4646.1)))), (.one (.im (.lit (.bool r4646.2))))] [])) false :: l) := fun z => ⟨(igt_eq h4610), (F167_ok K a4609 85 100 _ h4645), (leads_ok (by simp [leadsAny, RV.leads, RC.leads, leadsT, hasSl_lit])), (F144_ok K 150000 r4644.1 _ h4647), (leads_ok (by simp [leadsAny, RV.leads, RC.leads, leadsT, hasSl_lit])), z⟩
  refine cond_some hF (fun h4648 hF => ?_) (fun h4648 hF => ?_)
  ·
   have pq4693 : ∀ {l : List Cond}, HoldAll E H hn146 l → HoldAll E H hn146 (.test (beqb (bnot r4644.2) false) true :: .test (beqb (bnot r4644.2) false) true :: .test (bnot r4644.2) false :: l) := fun z => ⟨(beqb_ff (bnot_t h4648)), (beqb_ff (bnot_t h4648)), (bnot_t h4648), z⟩
   refine cond_some hF (fun h4649 hF => ?_) (fun h4649 hF => ?_)
   ·
    refine cond_some hF (fun h4650 hF => ?_) (fun h4650 hF => ?_)
    ·
     obtain rfl := Option.some.inj hF
     have pz : HoldAll E H hn146 [.test (bnot r4646.2) false, .test (ige a4607 10) true] := ⟨(bnot_t h4649), (ige_eq h4650), trivial⟩
     exact fn_playC hn146 (r := F146_res (r4646.1, ([], (true, 0)))) (pq4692 (pq4693 pz)) (by kernel_rfl) (by kernel_rfl)
    have pq4694 : ∀ {l : List Cond}, HoldAll E H hn146 l → HoldAll E H hn146 (.test (bnot r4646.2) false :: .test (ige a4607 10) false :: .int (nlen (len a4606)) (nlen (len a4606)) :: l) := fun z => ⟨(bnot_t h4649), (ige_eq h4650), rfl, z⟩
    refine bind_some hF (fun y4678 h4677 hF => ?_)
    refine sum_some hF (fun w4679 hx hF => ?_) (fun w4680 hx hF => ?_)
    ·
     subst hx
     obtain rfl := Option.some.inj hF
     have pz : HoldAll E H hn146 [.loop 0 c146_0 (F146_l0_0_S a4606 r4646.1 [] 0) .ret (F146_l0_0_X0 a4606 r4646.1 w4679)] := ⟨(F146_l0_0_ok K a4606 r4646.1 K [] 0 _ h4677), trivial⟩
     exact fn_playC hn146 (r := F146_res (0, ([], (false, 8)))) (pq4692 (pq4693 (pq4694 pz))) (by kernel_rfl) (by kernel_rfl)
    subst hx
    obtain rfl := Option.some.inj hF
    have pz : HoldAll E H hn146 [.loop 0 c146_0 (F146_l0_0_S a4606 r4646.1 [] 0) (.exit 0) (F146_l0_0_X1 a4606 r4646.1 w4680)] := ⟨(F146_l0_0_ok K a4606 r4646.1 K [] 0 _ h4677), trivial⟩
    exact fn_playC hn146 (r := F146_res (r4646.1, (w4680, (false, 0)))) (pq4692 (pq4693 (pq4694 pz))) (by kernel_rfl) (by kernel_rfl)
   obtain rfl := Option.some.inj hF
   have pz : HoldAll E H hn146 [.test (bnot r4646.2) true] := ⟨(bnot_f h4649), trivial⟩
   exact fn_playC hn146 (r := F146_res (0, ([], (false, 8)))) (pq4692 (pq4693 pz)) (by kernel_rfl) (by kernel_rfl)
  obtain rfl := Option.some.inj hF
  have pz : HoldAll E H hn146 [.test (beqb (bnot r4644.2) false) false, .test (beqb (bnot r4644.2) false) false, .test (bnot r4644.2) true, .test true true] := ⟨(beqb_ft (bnot_f h4648)), (beqb_ft (bnot_f h4648)), (bnot_f h4648), rfl, trivial⟩
  exact fn_playC hn146 (r := F146_res (0, ([], (false, 8)))) (pq4692 pz) (by kernel_rfl) (by kernel_rfl)
 refine cond_some hF (fun h4682 hF => ?_) (fun h4682 hF => ?_)
 ·
  obtain rfl := Option.some.inj hF
  have pz : HoldAll E H hn146 [.test (igt a4607 0) false, .test (ige a4607 10) true] := ⟨(igt_eq h4610), (ige_eq h4682), trivial⟩
  exact fn_playC hn146 (r := F146_res (a4608, ([], (true, 0)))) pz (by kernel_rfl) (by kernel_rfl)
 have pq4695 : ∀ {l : List Cond}, HoldAll E H hn146 l → HoldAll E H hn146 (.test (igt a4607 0) false :: .test (ige a4607 10) false :: .int (nlen (len a4606)) (nlen (len a4606)) :: l) := fun z => ⟨(igt_eq h4610), (ige_eq h4682), rfl, z⟩
 refine bind_some hF (fun y4688 h4687 hF => ?_)
 refine sum_some hF (fun w4689 hx hF => ?_) (fun w4690 hx hF => ?_)
 ·
  subst hx
  obtain rfl := Option.some.inj hF
  have pz : HoldAll E H hn146 [.loop 0 c146_0 (F146_l0_0_S a4606 a4608 [] 0) .ret (F146_l0_0_X0 a4606 a4608 w4689)] := ⟨(F146_l0_0_ok K a4606 a4608 K [] 0 _ h4687), trivial⟩
  exact fn_playC hn146 (r := F146_res (0, ([], (false, 8)))) (pq4695 pz) (by kernel_rfl) (by kernel_rfl)
 subst hx
 obtain rfl := Option.some.inj hF
 have pz : HoldAll E H hn146 [.loop 0 c146_0 (F146_l0_0_S a4606 a4608 [] 0) (.exit 0) (F146_l0_0_X1 a4606 a4608 w4690)] := ⟨(F146_l0_0_ok K a4606 a4608 K [] 0 _ h4687), trivial⟩
 exact fn_playC hn146 (r := F146_res (a4608, (w4690, (false, 0)))) (pq4695 pz) (by kernel_rfl) (by kernel_rfl)
noncomputable def hn99 : Hint := { H 99 with nt := 122, prot := 0 }
noncomputable def c99_0 : Code := loopOf E 99 0
def F99_res (r4871 : Int × List GMsg × Bool × Int) : Res := ⟨[(.one (.im (.lit (.int .i64 r4871.1)))), (.one (.own 130 (.sl (len r4871.2.1) (flat eGMsg r4871.2.1)))), (.one (.im (.lit (.bool r4871.2.2.1)))), (.one (.im (.lit (.int .i64 r4871.2.2.2))))], []⟩
def F99_l0_0 (K : Nat) (v4270 : Int) (v4271 : Bool) (v4272 : List GEdge) : Nat → List GMsg → Int → Option ((Unit) ⊕ (List GMsg))
 | 0, _, _ => none
 | k + 1, v4287, v4288 =>
  bif (ilt v4288 (nlen (len v4272))) then
   (bif (inr v4288 (len v4272)) then
   (elAt v4272 v4288).bind fun x4291 =>
   (F160 K v4270 x4291).bind fun r4293 =>
   bif r4293.2 then
    (bif (apok (len v4287) 1 16) then
    F99_l0_0 K v4270 v4271 v4272 k (appL v4287 [(GMsg.mk x4291.To r4293.1)]) (wadd .i64 v4288 1)
    else none)
   else
   some (.inl ())
   else none)
  else
  some (.inr v4287)
def F99_l0_0_S (v4270 : Int) (v4271 : Bool) (v4272 : List GEdge) (v4287 : List GMsg) (v4288 : Int) : TS := .on [256, 257, 1216, 1217, 1218, 1219, 1220, 1344, 1345, 1472, 1473, 6144, 6145, 6208, 6209, 6272, 6273] [(256, ⟨.one, 0, nob⟩), (257, ⟨.im, 0, (.lit (.int .i64 v4270))⟩), (1216, ⟨(.box 176 4), 0, nob⟩), (1217, ⟨.im, 0, (.lit (fnV 158))⟩), (1218, ⟨.im, 0, (.lit (fnV 159))⟩), (1219, ⟨.im, 0, (.lit (.bool v4271))⟩), (1220, ⟨.im, 0, (.lit (fnV 160))⟩), (1344, ⟨.one, 0, nob⟩), (1345, ⟨(.own 89), 0, (.sl (len v4272) (flat eGEdge v4272))⟩), (1472, ⟨.one, 0, nob⟩), (1473, ⟨(.own 130), 0, (.sl (len v4287) (flat eGMsg v4287))⟩), (6144, ⟨.one, 0, nob⟩), (6145, ⟨(.vw 1345 0), 0, nob⟩), (6208, ⟨.one, 0, nob⟩), (6209, ⟨.im, 0, (.lit (.int .i64 (nlen (len v4272))))⟩), (6272, ⟨.one, 0, nob⟩), (6273, ⟨.im, 0, (.lit (.int .i64 v4288))⟩)]
def F99_l0_0_X0 (v4270 : Int) (v4271 : Bool) (v4272 : List GEdge) (w4297 : Unit) : TS := .on [896, 897, 960, 961, 1024, 1025, 1088, 1089] [(896, ⟨.one, 0, nob⟩), (897, ⟨.im, 0, (.lit (.int .i64 0))⟩), (960, ⟨.one, 0, nob⟩), (961, ⟨(.own 130), 0, (.sl 0 [])⟩), (1024, ⟨.one, 0, nob⟩), (1025, ⟨.im, 0, (.lit (.bool false))⟩), (1088, ⟨.one, 0, nob⟩), (1089, ⟨.im, 0, (.lit (.int .i64 8))⟩)]
def F99_l0_0_X1 (v4270 : Int) (v4271 : Bool) (v4272 : List GEdge) (w4298 : List GMsg) : TS := .on [256, 257, 1472, 1473] [(256, ⟨.one, 0, nob⟩), (257, ⟨.im, 0, (.lit (.int .i64 v4270))⟩), (1472, ⟨.one, 0, nob⟩), (1473, ⟨(.own 130), 0, (.sl (len w4298) (flat eGMsg w4298))⟩)]
theorem F99_l0_0_ok (K : Nat) (v4270 : Int) (v4271 : Bool) (v4272 : List GEdge) : ∀ (k : Nat) (v4287 : List GMsg) (v4288 : Int) (r : (Unit) ⊕ (List GMsg)), F99_l0_0 K v4270 v4271 v4272 k v4287 v4288 = some r → (Sum.elim (fun w => LoopEv E H hn99 0 c99_0 (F99_l0_0_S v4270 v4271 v4272 v4287 v4288) .ret (F99_l0_0_X0 v4270 v4271 v4272 w)) (fun w => LoopEv E H hn99 0 c99_0 (F99_l0_0_S v4270 v4271 v4272 v4287 v4288) (.exit 0) (F99_l0_0_X1 v4270 v4271 v4272 w))) r := by
 intro k
 induction k with
 | zero => intro v4287 v4288 r hF; cases hF
 | succ k ih =>
  intro v4287 v4288 r hF
  rw [F99_l0_0] at hF
  refine cond_some hF (fun h4289 hF => ?_) (fun h4289 hF => ?_)
  ·
   refine cond_some hF (fun h4290 hF => ?_) (fun _ hF => nomatch hF)
   refine bind_some hF (fun x4291 h4292 hF => ?_)
   refine bind_some hF (fun r4293 h4294 hF => ?_)
   have pq4300 : ∀ {l : List Cond}, HoldAll E H hn99 l → HoldAll E H hn99 (.test (ilt v4288 (nlen (len v4272))) true :: .test (inr v4288 (len v4272)) true :: .sub (flat eGEdge v4272) (nidx v4288 3) 3 [(.lit (.int .i64 x4291.From)), (.lit (.int .i64 x4291.To)), (.lit (.int .i64 x4291.W))] :: .call 160 [.one (.lit (.int .i64 v4270)), .agg (eGEdge x4291)] (F160_res r4293) :: .test (leadsAny (Res.mk [(.one (.im (.lit (.int .i64 r4293.1)))), (.one (.im (.lit (.bool r4293.2))))] [])) false :: l) := fun z => ⟨h4289, h4290, ⟨rfl, sub_flat0 eGEdge_len h4292 3 (by decide)⟩, (F160_ok K v4270 x4291 _ h4294), (leads_ok (by simp [leadsAny, RV.leads, RC.leads, leadsT, hasSl_lit, flat_ns eGEdge_ns])), z⟩
   refine cond_some hF (fun h4295 hF => ?_) (fun h4295 hF => ?_)
   ·
    refine cond_some hF (fun h4296 hF => ?_) (fun _ hF => nomatch hF)
    have pz : HoldAll E H hn99 [.test (bnot r4293.2) false, .test (leqm [(.lit (.int .i64 x4291.To)), (.lit (.int .i64 r4293.1))] 1 2) true, .test (apok (len v4287) 1 16) true, .sl (nadd (len v4287) 1) (lapp (flat eGMsg v4287) [(.lit (.int .i64 x4291.To)), (.lit (.int .i64 r4293.1))]) (len (α := GMsg) (appL v4287 [(GMsg.mk x4291.To r4293.1)])) (flat eGMsg (appL v4287 [(GMsg.mk x4291.To r4293.1)])), .int (wadd .i64 v4288 1) (wadd .i64 v4288 1)] := ⟨(bnot_t h4295), rfl, h4296, (app_ok (enc := eGMsg) (v4287 : List GMsg) [(GMsg.mk x4291.To r4293.1)]), rfl, trivial⟩
    have h0 := ih _ _ _ hF
    have hn := fun ex ts' => loop_nextC (h := hn99) (l := 0) (c := c99_0) (ts := F99_l0_0_S v4270 v4271 v4272 v4287 v4288) (ts1 := (F99_l0_0_S v4270 v4271 v4272 (appL v4287 [(GMsg.mk x4291.To r4293.1)]) (wadd .i64 v4288 1))) (ex := ex) (ts' := ts') (pq4300 pz) (by kernel_rfl)
    cases r with
    | inl w => exact hn _ _ h0
    | inr w => exact hn _ _ h0
   obtain rfl := Option.some.inj hF
   have pz : HoldAll E H hn99 [.test (bnot r4293.2) true] := ⟨(bnot_f h4295), trivial⟩
   exact loop_endC (h := hn99) (l := 0) (c := c99_0) (ts := F99_l0_0_S v4270 v4271 v4272 v4287 v4288) (ts' := F99_l0_0_X0 v4270 v4271 v4272 ()) (ex := .ret) (pq4300 pz) (by kernel_rfl) trivial
  obtain rfl := Option.some.inj hF
  have pz : HoldAll E H hn99 [.test (ilt v4288 (nlen (len v4272))) false] := ⟨h4289, trivial⟩
  exact loop_endC (h := hn99) (l := 0) (c := c99_0) (ts := F99_l0_0_S v4270 v4271 v4272 v4287 v4288) (ts' := F99_l0_0_X1 v4270 v4271 v4272 v4287) (ex := (.exit 0)) pz (by kernel_rfl) trivial
def F99_l0_1 (K : Nat) (v4357 : Int) (v4358 : Bool) (v4359 : List GEdge) : Nat → List GMsg → Int → Option ((Unit) ⊕ (List GMsg))
 | 0, _, _ => none
 | k + 1, v4374, v4375 =>
  bif (ilt v4375 (nlen (len v4359))) then
   (bif (inr v4375 (len v4359)) then
   (elAt v4359 v4375).bind fun x4378 =>
   (F161 K v4357 x4378).bind fun r4380 =>
   bif r4380.2 then
    (bif (apok (len v4374) 1 16) then
    F99_l0_1 K v4357 v4358 v4359 k (appL v4374 [(GMsg.mk x4378.To r4380.1)]) (wadd .i64 v4375 1)
    else none)
   else
   some (.inl ())
   else none)
  else
  some (.inr v4374)
def F99_l0_1_S (v4357 : Int) (v4358 : Bool) (v4359 : List GEdge) (v4374 : List GMsg) (v4375 : Int) : TS := .on [256, 257, 1216, 1217, 1218, 1219, 1220, 1344, 1345, 1472, 1473, 6144, 6145, 6208, 6209, 6272, 6273] [(256, ⟨.one, 0, nob⟩), (257, ⟨.im, 0, (.lit (.int .i64 v4357))⟩), (1216, ⟨(.box 176 4), 0, nob⟩), (1217, ⟨.im, 0, (.lit (fnV 158))⟩), (1218, ⟨.im, 0, (.lit (fnV 159))⟩), (1219, ⟨.im, 0, (.lit (.bool v4358))⟩), (1220, ⟨.im, 0, (.lit (fnV 161))⟩), (1344, ⟨.one, 0, nob⟩), (1345, ⟨(.own 89), 0, (.sl (len v4359) (flat eGEdge v4359))⟩), (1472, ⟨.one, 0, nob⟩), (1473, ⟨(.own 130), 0, (.sl (len v4374) (flat eGMsg v4374))⟩), (6144, ⟨.one, 0, nob⟩), (6145, ⟨(.vw 1345 0), 0, nob⟩), (6208, ⟨.one, 0, nob⟩), (6209, ⟨.im, 0, (.lit (.int .i64 (nlen (len v4359))))⟩), (6272, ⟨.one, 0, nob⟩), (6273, ⟨.im, 0, (.lit (.int .i64 v4375))⟩)]
def F99_l0_1_X0 (v4357 : Int) (v4358 : Bool) (v4359 : List GEdge) (w4384 : Unit) : TS := .on [896, 897, 960, 961, 1024, 1025, 1088, 1089] [(896, ⟨.one, 0, nob⟩), (897, ⟨.im, 0, (.lit (.int .i64 0))⟩), (960, ⟨.one, 0, nob⟩), (961, ⟨(.own 130), 0, (.sl 0 [])⟩), (1024, ⟨.one, 0, nob⟩), (1025, ⟨.im, 0, (.lit (.bool false))⟩), (1088, ⟨.one, 0, nob⟩), (1089, ⟨.im, 0, (.lit (.int .i64 8))⟩)]
def F99_l0_1_X1 (v4357 : Int) (v4358 : Bool) (v4359 : List GEdge) (w4385 : List GMsg) : TS := .on [256, 257, 1472, 1473] [(256, ⟨.one, 0, nob⟩), (257, ⟨.im, 0, (.lit (.int .i64 v4357))⟩), (1472, ⟨.one, 0, nob⟩), (1473, ⟨(.own 130), 0, (.sl (len w4385) (flat eGMsg w4385))⟩)]
theorem F99_l0_1_ok (K : Nat) (v4357 : Int) (v4358 : Bool) (v4359 : List GEdge) : ∀ (k : Nat) (v4374 : List GMsg) (v4375 : Int) (r : (Unit) ⊕ (List GMsg)), F99_l0_1 K v4357 v4358 v4359 k v4374 v4375 = some r → (Sum.elim (fun w => LoopEv E H hn99 0 c99_0 (F99_l0_1_S v4357 v4358 v4359 v4374 v4375) .ret (F99_l0_1_X0 v4357 v4358 v4359 w)) (fun w => LoopEv E H hn99 0 c99_0 (F99_l0_1_S v4357 v4358 v4359 v4374 v4375) (.exit 0) (F99_l0_1_X1 v4357 v4358 v4359 w))) r := by
 intro k
 induction k with
 | zero => intro v4374 v4375 r hF; cases hF
 | succ k ih =>
  intro v4374 v4375 r hF
  rw [F99_l0_1] at hF
  refine cond_some hF (fun h4376 hF => ?_) (fun h4376 hF => ?_)
  ·
   refine cond_some hF (fun h4377 hF => ?_) (fun _ hF => nomatch hF)
   refine bind_some hF (fun x4378 h4379 hF => ?_)
   refine bind_some hF (fun r4380 h4381 hF => ?_)
   have pq4387 : ∀ {l : List Cond}, HoldAll E H hn99 l → HoldAll E H hn99 (.test (ilt v4375 (nlen (len v4359))) true :: .test (inr v4375 (len v4359)) true :: .sub (flat eGEdge v4359) (nidx v4375 3) 3 [(.lit (.int .i64 x4378.From)), (.lit (.int .i64 x4378.To)), (.lit (.int .i64 x4378.W))] :: .call 161 [.one (.lit (.int .i64 v4357)), .agg (eGEdge x4378)] (F161_res r4380) :: .test (leadsAny (Res.mk [(.one (.im (.lit (.int .i64 r4380.1)))), (.one (.im (.lit (.bool r4380.2))))] [])) false :: l) := fun z => ⟨h4376, h4377, ⟨rfl, sub_flat0 eGEdge_len h4379 3 (by decide)⟩, (F161_ok K v4357 x4378 _ h4381), (leads_ok (by simp [leadsAny, RV.leads, RC.leads, leadsT, hasSl_lit, flat_ns eGEdge_ns])), z⟩
   refine cond_some hF (fun h4382 hF => ?_) (fun h4382 hF => ?_)
   ·
    refine cond_some hF (fun h4383 hF => ?_) (fun _ hF => nomatch hF)
    have pz : HoldAll E H hn99 [.test (bnot r4380.2) false, .test (leqm [(.lit (.int .i64 x4378.To)), (.lit (.int .i64 r4380.1))] 1 2) true, .test (apok (len v4374) 1 16) true, .sl (nadd (len v4374) 1) (lapp (flat eGMsg v4374) [(.lit (.int .i64 x4378.To)), (.lit (.int .i64 r4380.1))]) (len (α := GMsg) (appL v4374 [(GMsg.mk x4378.To r4380.1)])) (flat eGMsg (appL v4374 [(GMsg.mk x4378.To r4380.1)])), .int (wadd .i64 v4375 1) (wadd .i64 v4375 1)] := ⟨(bnot_t h4382), rfl, h4383, (app_ok (enc := eGMsg) (v4374 : List GMsg) [(GMsg.mk x4378.To r4380.1)]), rfl, trivial⟩
    have h0 := ih _ _ _ hF
    have hn := fun ex ts' => loop_nextC (h := hn99) (l := 0) (c := c99_0) (ts := F99_l0_1_S v4357 v4358 v4359 v4374 v4375) (ts1 := (F99_l0_1_S v4357 v4358 v4359 (appL v4374 [(GMsg.mk x4378.To r4380.1)]) (wadd .i64 v4375 1))) (ex := ex) (ts' := ts') (pq4387 pz) (by kernel_rfl)
    cases r with
    | inl w => exact hn _ _ h0
    | inr w => exact hn _ _ h0
   obtain rfl := Option.some.inj hF
   have pz : HoldAll E H hn99 [.test (bnot r4380.2) true] := ⟨(bnot_f h4382), trivial⟩
   exact loop_endC (h := hn99) (l := 0) (c := c99_0) (ts := F99_l0_1_S v4357 v4358 v4359 v4374 v4375) (ts' := F99_l0_1_X0 v4357 v4358 v4359 ()) (ex := .ret) (pq4387 pz) (by kernel_rfl) trivial
  obtain rfl := Option.some.inj hF
  have pz : HoldAll E H hn99 [.test (ilt v4375 (nlen (len v4359))) false] := ⟨h4376, trivial⟩
  exact loop_endC (h := hn99) (l := 0) (c := c99_0) (ts := F99_l0_1_S v4357 v4358 v4359 v4374 v4375) (ts' := F99_l0_1_X1 v4357 v4358 v4359 v4374) (ex := (.exit 0)) pz (by kernel_rfl) trivial
def F99_l0_2 (K : Nat) (v4444 : Int) (v4445 : Bool) (v4446 : List GEdge) : Nat → List GMsg → Int → Option ((Unit) ⊕ (List GMsg))
 | 0, _, _ => none
 | k + 1, v4459, v4460 =>
  bif (ilt v4460 (nlen (len v4446))) then
   (bif (inr v4460 (len v4446)) then
   (elAt v4446 v4460).bind fun x4463 =>
   (F163 K v4444 x4463).bind fun r4465 =>
   bif r4465.2 then
    (bif (apok (len v4459) 1 16) then
    F99_l0_2 K v4444 v4445 v4446 k (appL v4459 [(GMsg.mk x4463.To r4465.1)]) (wadd .i64 v4460 1)
    else none)
   else
   some (.inl ())
   else none)
  else
  some (.inr v4459)
def F99_l0_2_S (v4444 : Int) (v4445 : Bool) (v4446 : List GEdge) (v4459 : List GMsg) (v4460 : Int) : TS := .on [256, 257, 1216, 1217, 1218, 1219, 1220, 1344, 1345, 1472, 1473, 6144, 6145, 6208, 6209, 6272, 6273] [(256, ⟨.one, 0, nob⟩), (257, ⟨.im, 0, (.lit (.int .i64 v4444))⟩), (1216, ⟨(.box 176 4), 0, nob⟩), (1217, ⟨.im, 0, (.lit (fnV 162))⟩), (1218, ⟨.im, 0, (.lit (fnV 159))⟩), (1219, ⟨.im, 0, (.lit (.bool v4445))⟩), (1220, ⟨.im, 0, (.lit (fnV 163))⟩), (1344, ⟨.one, 0, nob⟩), (1345, ⟨(.own 89), 0, (.sl (len v4446) (flat eGEdge v4446))⟩), (1472, ⟨.one, 0, nob⟩), (1473, ⟨(.own 130), 0, (.sl (len v4459) (flat eGMsg v4459))⟩), (6144, ⟨.one, 0, nob⟩), (6145, ⟨(.vw 1345 0), 0, nob⟩), (6208, ⟨.one, 0, nob⟩), (6209, ⟨.im, 0, (.lit (.int .i64 (nlen (len v4446))))⟩), (6272, ⟨.one, 0, nob⟩), (6273, ⟨.im, 0, (.lit (.int .i64 v4460))⟩)]
def F99_l0_2_X0 (v4444 : Int) (v4445 : Bool) (v4446 : List GEdge) (w4469 : Unit) : TS := .on [896, 897, 960, 961, 1024, 1025, 1088, 1089] [(896, ⟨.one, 0, nob⟩), (897, ⟨.im, 0, (.lit (.int .i64 0))⟩), (960, ⟨.one, 0, nob⟩), (961, ⟨(.own 130), 0, (.sl 0 [])⟩), (1024, ⟨.one, 0, nob⟩), (1025, ⟨.im, 0, (.lit (.bool false))⟩), (1088, ⟨.one, 0, nob⟩), (1089, ⟨.im, 0, (.lit (.int .i64 8))⟩)]
def F99_l0_2_X1 (v4444 : Int) (v4445 : Bool) (v4446 : List GEdge) (w4470 : List GMsg) : TS := .on [256, 257, 1472, 1473] [(256, ⟨.one, 0, nob⟩), (257, ⟨.im, 0, (.lit (.int .i64 v4444))⟩), (1472, ⟨.one, 0, nob⟩), (1473, ⟨(.own 130), 0, (.sl (len w4470) (flat eGMsg w4470))⟩)]
theorem F99_l0_2_ok (K : Nat) (v4444 : Int) (v4445 : Bool) (v4446 : List GEdge) : ∀ (k : Nat) (v4459 : List GMsg) (v4460 : Int) (r : (Unit) ⊕ (List GMsg)), F99_l0_2 K v4444 v4445 v4446 k v4459 v4460 = some r → (Sum.elim (fun w => LoopEv E H hn99 0 c99_0 (F99_l0_2_S v4444 v4445 v4446 v4459 v4460) .ret (F99_l0_2_X0 v4444 v4445 v4446 w)) (fun w => LoopEv E H hn99 0 c99_0 (F99_l0_2_S v4444 v4445 v4446 v4459 v4460) (.exit 0) (F99_l0_2_X1 v4444 v4445 v4446 w))) r := by
 intro k
 induction k with
 | zero => intro v4459 v4460 r hF; cases hF
 | succ k ih =>
  intro v4459 v4460 r hF
  rw [F99_l0_2] at hF
  refine cond_some hF (fun h4461 hF => ?_) (fun h4461 hF => ?_)
  ·
   refine cond_some hF (fun h4462 hF => ?_) (fun _ hF => nomatch hF)
   refine bind_some hF (fun x4463 h4464 hF => ?_)
   refine bind_some hF (fun r4465 h4466 hF => ?_)
   have pq4472 : ∀ {l : List Cond}, HoldAll E H hn99 l → HoldAll E H hn99 (.test (ilt v4460 (nlen (len v4446))) true :: .test (inr v4460 (len v4446)) true :: .sub (flat eGEdge v4446) (nidx v4460 3) 3 [(.lit (.int .i64 x4463.From)), (.lit (.int .i64 x4463.To)), (.lit (.int .i64 x4463.W))] :: .call 163 [.one (.lit (.int .i64 v4444)), .agg (eGEdge x4463)] (F163_res r4465) :: .test (leadsAny (Res.mk [(.one (.im (.lit (.int .i64 r4465.1)))), (.one (.im (.lit (.bool r4465.2))))] [])) false :: l) := fun z => ⟨h4461, h4462, ⟨rfl, sub_flat0 eGEdge_len h4464 3 (by decide)⟩, (F163_ok K v4444 x4463 _ h4466), (leads_ok (by simp [leadsAny, RV.leads, RC.leads, leadsT, hasSl_lit, flat_ns eGEdge_ns])), z⟩
   refine cond_some hF (fun h4467 hF => ?_) (fun h4467 hF => ?_)
   ·
    refine cond_some hF (fun h4468 hF => ?_) (fun _ hF => nomatch hF)
    have pz : HoldAll E H hn99 [.test (bnot r4465.2) false, .test (leqm [(.lit (.int .i64 x4463.To)), (.lit (.int .i64 r4465.1))] 1 2) true, .test (apok (len v4459) 1 16) true, .sl (nadd (len v4459) 1) (lapp (flat eGMsg v4459) [(.lit (.int .i64 x4463.To)), (.lit (.int .i64 r4465.1))]) (len (α := GMsg) (appL v4459 [(GMsg.mk x4463.To r4465.1)])) (flat eGMsg (appL v4459 [(GMsg.mk x4463.To r4465.1)])), .int (wadd .i64 v4460 1) (wadd .i64 v4460 1)] := ⟨(bnot_t h4467), rfl, h4468, (app_ok (enc := eGMsg) (v4459 : List GMsg) [(GMsg.mk x4463.To r4465.1)]), rfl, trivial⟩
    have h0 := ih _ _ _ hF
    have hn := fun ex ts' => loop_nextC (h := hn99) (l := 0) (c := c99_0) (ts := F99_l0_2_S v4444 v4445 v4446 v4459 v4460) (ts1 := (F99_l0_2_S v4444 v4445 v4446 (appL v4459 [(GMsg.mk x4463.To r4465.1)]) (wadd .i64 v4460 1))) (ex := ex) (ts' := ts') (pq4472 pz) (by kernel_rfl)
    cases r with
    | inl w => exact hn _ _ h0
    | inr w => exact hn _ _ h0
   obtain rfl := Option.some.inj hF
   have pz : HoldAll E H hn99 [.test (bnot r4465.2) true] := ⟨(bnot_f h4467), trivial⟩
   exact loop_endC (h := hn99) (l := 0) (c := c99_0) (ts := F99_l0_2_S v4444 v4445 v4446 v4459 v4460) (ts' := F99_l0_2_X0 v4444 v4445 v4446 ()) (ex := .ret) (pq4472 pz) (by kernel_rfl) trivial
  obtain rfl := Option.some.inj hF
  have pz : HoldAll E H hn99 [.test (ilt v4460 (nlen (len v4446))) false] := ⟨h4461, trivial⟩
  exact loop_endC (h := hn99) (l := 0) (c := c99_0) (ts := F99_l0_2_S v4444 v4445 v4446 v4459 v4460) (ts' := F99_l0_2_X1 v4444 v4445 v4446 v4459) (ex := (.exit 0)) pz (by kernel_rfl) trivial
def F99_l0_3 (K : Nat) (v4529 : Int) (v4530 : Bool) (v4531 : List GEdge) : Nat → List GMsg → Int → Option ((Unit) ⊕ (List GMsg))
 | 0, _, _ => none
 | k + 1, v4541, v4542 =>
  bif (ilt v4542 (nlen (len v4531))) then
   (bif (inr v4542 (len v4531)) then
   (elAt v4531 v4542).bind fun x4545 =>
   (F163 K v4529 x4545).bind fun r4547 =>
   bif r4547.2 then
    (bif (apok (len v4541) 1 16) then
    F99_l0_3 K v4529 v4530 v4531 k (appL v4541 [(GMsg.mk x4545.To r4547.1)]) (wadd .i64 v4542 1)
    else none)
   else
   some (.inl ())
   else none)
  else
  some (.inr v4541)
def F99_l0_3_S (v4529 : Int) (v4530 : Bool) (v4531 : List GEdge) (v4541 : List GMsg) (v4542 : Int) : TS := .on [256, 257, 1216, 1217, 1218, 1219, 1220, 1344, 1345, 1472, 1473, 6144, 6145, 6208, 6209, 6272, 6273] [(256, ⟨.one, 0, nob⟩), (257, ⟨.im, 0, (.lit (.int .i64 v4529))⟩), (1216, ⟨(.box 176 4), 0, nob⟩), (1217, ⟨.im, 0, (.lit (fnV 164))⟩), (1218, ⟨.im, 0, (.lit (fnV 165))⟩), (1219, ⟨.im, 0, (.lit (.bool v4530))⟩), (1220, ⟨.im, 0, (.lit (fnV 163))⟩), (1344, ⟨.one, 0, nob⟩), (1345, ⟨(.own 89), 0, (.sl (len v4531) (flat eGEdge v4531))⟩), (1472, ⟨.one, 0, nob⟩), (1473, ⟨(.own 130), 0, (.sl (len v4541) (flat eGMsg v4541))⟩), (6144, ⟨.one, 0, nob⟩), (6145, ⟨(.vw 1345 0), 0, nob⟩), (6208, ⟨.one, 0, nob⟩), (6209, ⟨.im, 0, (.lit (.int .i64 (nlen (len v4531))))⟩), (6272, ⟨.one, 0, nob⟩), (6273, ⟨.im, 0, (.lit (.int .i64 v4542))⟩)]
def F99_l0_3_X0 (v4529 : Int) (v4530 : Bool) (v4531 : List GEdge) (w4551 : Unit) : TS := .on [896, 897, 960, 961, 1024, 1025, 1088, 1089] [(896, ⟨.one, 0, nob⟩), (897, ⟨.im, 0, (.lit (.int .i64 0))⟩), (960, ⟨.one, 0, nob⟩), (961, ⟨(.own 130), 0, (.sl 0 [])⟩), (1024, ⟨.one, 0, nob⟩), (1025, ⟨.im, 0, (.lit (.bool false))⟩), (1088, ⟨.one, 0, nob⟩), (1089, ⟨.im, 0, (.lit (.int .i64 8))⟩)]
def F99_l0_3_X1 (v4529 : Int) (v4530 : Bool) (v4531 : List GEdge) (w4552 : List GMsg) : TS := .on [256, 257, 1472, 1473] [(256, ⟨.one, 0, nob⟩), (257, ⟨.im, 0, (.lit (.int .i64 v4529))⟩), (1472, ⟨.one, 0, nob⟩), (1473, ⟨(.own 130), 0, (.sl (len w4552) (flat eGMsg w4552))⟩)]
theorem F99_l0_3_ok (K : Nat) (v4529 : Int) (v4530 : Bool) (v4531 : List GEdge) : ∀ (k : Nat) (v4541 : List GMsg) (v4542 : Int) (r : (Unit) ⊕ (List GMsg)), F99_l0_3 K v4529 v4530 v4531 k v4541 v4542 = some r → (Sum.elim (fun w => LoopEv E H hn99 0 c99_0 (F99_l0_3_S v4529 v4530 v4531 v4541 v4542) .ret (F99_l0_3_X0 v4529 v4530 v4531 w)) (fun w => LoopEv E H hn99 0 c99_0 (F99_l0_3_S v4529 v4530 v4531 v4541 v4542) (.exit 0) (F99_l0_3_X1 v4529 v4530 v4531 w))) r := by
 intro k
 induction k with
 | zero => intro v4541 v4542 r hF; cases hF
 | succ k ih =>
  intro v4541 v4542 r hF
  rw [F99_l0_3] at hF
  refine cond_some hF (fun h4543 hF => ?_) (fun h4543 hF => ?_)
  ·
   refine cond_some hF (fun h4544 hF => ?_) (fun _ hF => nomatch hF)
   refine bind_some hF (fun x4545 h4546 hF => ?_)
   refine bind_some hF (fun r4547 h4548 hF => ?_)
   have pq4554 : ∀ {l : List Cond}, HoldAll E H hn99 l → HoldAll E H hn99 (.test (ilt v4542 (nlen (len v4531))) true :: .test (inr v4542 (len v4531)) true :: .sub (flat eGEdge v4531) (nidx v4542 3) 3 [(.lit (.int .i64 x4545.From)), (.lit (.int .i64 x4545.To)), (.lit (.int .i64 x4545.W))] :: .call 163 [.one (.lit (.int .i64 v4529)), .agg (eGEdge x4545)] (F163_res r4547) :: .test (leadsAny (Res.mk [(.one (.im (.lit (.int .i64 r4547.1)))), (.one (.im (.lit (.bool r4547.2))))] [])) false :: l) := fun z => ⟨h4543, h4544, ⟨rfl, sub_flat0 eGEdge_len h4546 3 (by decide)⟩, (F163_ok K v4529 x4545 _ h4548), (leads_ok (by simp [leadsAny, RV.leads, RC.leads, leadsT, hasSl_lit, flat_ns eGEdge_ns])), z⟩
   refine cond_some hF (fun h4549 hF => ?_) (fun h4549 hF => ?_)
   ·
    refine cond_some hF (fun h4550 hF => ?_) (fun _ hF => nomatch hF)
    have pz : HoldAll E H hn99 [.test (bnot r4547.2) false, .test (leqm [(.lit (.int .i64 x4545.To)), (.lit (.int .i64 r4547.1))] 1 2) true, .test (apok (len v4541) 1 16) true, .sl (nadd (len v4541) 1) (lapp (flat eGMsg v4541) [(.lit (.int .i64 x4545.To)), (.lit (.int .i64 r4547.1))]) (len (α := GMsg) (appL v4541 [(GMsg.mk x4545.To r4547.1)])) (flat eGMsg (appL v4541 [(GMsg.mk x4545.To r4547.1)])), .int (wadd .i64 v4542 1) (wadd .i64 v4542 1)] := ⟨(bnot_t h4549), rfl, h4550, (app_ok (enc := eGMsg) (v4541 : List GMsg) [(GMsg.mk x4545.To r4547.1)]), rfl, trivial⟩
    have h0 := ih _ _ _ hF
    have hn := fun ex ts' => loop_nextC (h := hn99) (l := 0) (c := c99_0) (ts := F99_l0_3_S v4529 v4530 v4531 v4541 v4542) (ts1 := (F99_l0_3_S v4529 v4530 v4531 (appL v4541 [(GMsg.mk x4545.To r4547.1)]) (wadd .i64 v4542 1))) (ex := ex) (ts' := ts') (pq4554 pz) (by kernel_rfl)
    cases r with
    | inl w => exact hn _ _ h0
    | inr w => exact hn _ _ h0
   obtain rfl := Option.some.inj hF
   have pz : HoldAll E H hn99 [.test (bnot r4547.2) true] := ⟨(bnot_f h4549), trivial⟩
   exact loop_endC (h := hn99) (l := 0) (c := c99_0) (ts := F99_l0_3_S v4529 v4530 v4531 v4541 v4542) (ts' := F99_l0_3_X0 v4529 v4530 v4531 ()) (ex := .ret) (pq4554 pz) (by kernel_rfl) trivial
  obtain rfl := Option.some.inj hF
  have pz : HoldAll E H hn99 [.test (ilt v4542 (nlen (len v4531))) false] := ⟨h4543, trivial⟩
  exact loop_endC (h := hn99) (l := 0) (c := c99_0) (ts := F99_l0_3_S v4529 v4530 v4531 v4541 v4542) (ts' := F99_l0_3_X1 v4529 v4530 v4531 v4541) (ex := (.exit 0)) pz (by kernel_rfl) trivial
def F99 (K : Nat) (a4245 : GGraph) (a4246 : GJob) (a4247 : Int) (a4248 : Int) (a4249 : Int) (a4250 : Int) (a4251 : Bool) : Option (Int × List GMsg × Bool × Int) :=
 (F94 K a4245 a4246).bind fun r4252 =>
 bif (ieq r4252 0) then
  (bif (ilt a4248 0) then
   (some (0, ([], (false, 4))))
  else
  bif (ile a4245.N a4248) then
   (some (0, ([], (false, 4))))
  else
  bif (ilt a4247 0) then
   (some (0, ([], (false, 1))))
  else
  bif (ilt 40 a4247) then
   (some (0, ([], (false, 1))))
  else
  bif a4251 then
   ((F143 K a4246.Prog).bind fun r4260 =>
   bif (areFns [r4260.1.start_, r4260.1.better_, r4260.1.send_] [158, 159, 160]) then
    ((F68 K a4245 a4248).bind fun r4263 =>
    bif (ieq a4247 0) then
     (bif r4260.1.only_ then
      ((F159 K a4250 a4249).bind fun r4267 =>
      bif r4267 then
       ((F99_l0_0 K a4250 r4260.1.only_ r4263 K [] 0).bind fun y4302 =>
       Sum.elim (fun w4303 =>
        some (0, ([], (false, 8))))
        (fun w4304 =>
        some (a4250, (w4304, (true, 0)))) y4302)
      else
      bif (ieq a4248 a4246.Source) then
       ((F99_l0_0 K a4249 r4260.1.only_ r4263 K [] 0).bind fun y4312 =>
       Sum.elim (fun w4313 =>
        some (0, ([], (false, 8))))
        (fun w4314 =>
        some (a4249, (w4314, (true, 0)))) y4312)
      else
      some (a4249, ([], (true, 0))))
     else
     (F159 K a4250 a4249).bind fun r4316 =>
     bif r4316 then
      ((F99_l0_0 K a4250 r4260.1.only_ r4263 K [] 0).bind fun y4324 =>
      Sum.elim (fun w4325 =>
       some (0, ([], (false, 8))))
       (fun w4326 =>
       some (a4250, (w4326, (true, 0)))) y4324)
     else
     (F99_l0_0 K a4249 r4260.1.only_ r4263 K [] 0).bind fun y4333 =>
     Sum.elim (fun w4334 =>
      some (0, ([], (false, 8))))
      (fun w4335 =>
      some (a4249, (w4335, (true, 0)))) y4333)
    else
    (F159 K a4250 a4249).bind fun r4337 =>
    bif r4337 then
     ((F99_l0_0 K a4250 r4260.1.only_ r4263 K [] 0).bind fun y4345 =>
     Sum.elim (fun w4346 =>
      some (0, ([], (false, 8))))
      (fun w4347 =>
      some (a4250, (w4347, (true, 0)))) y4345)
    else
    some (a4249, ([], (true, 0))))
   else
   bif (areFns [r4260.1.start_, r4260.1.better_, r4260.1.send_] [158, 159, 161]) then
    ((F68 K a4245 a4248).bind fun r4350 =>
    bif (ieq a4247 0) then
     (bif r4260.1.only_ then
      ((F159 K a4250 a4249).bind fun r4354 =>
      bif r4354 then
       ((F99_l0_1 K a4250 r4260.1.only_ r4350 K [] 0).bind fun y4389 =>
       Sum.elim (fun w4390 =>
        some (0, ([], (false, 8))))
        (fun w4391 =>
        some (a4250, (w4391, (true, 0)))) y4389)
      else
      bif (ieq a4248 a4246.Source) then
       ((F99_l0_1 K a4249 r4260.1.only_ r4350 K [] 0).bind fun y4399 =>
       Sum.elim (fun w4400 =>
        some (0, ([], (false, 8))))
        (fun w4401 =>
        some (a4249, (w4401, (true, 0)))) y4399)
      else
      some (a4249, ([], (true, 0))))
     else
     (F159 K a4250 a4249).bind fun r4403 =>
     bif r4403 then
      ((F99_l0_1 K a4250 r4260.1.only_ r4350 K [] 0).bind fun y4411 =>
      Sum.elim (fun w4412 =>
       some (0, ([], (false, 8))))
       (fun w4413 =>
       some (a4250, (w4413, (true, 0)))) y4411)
     else
     (F99_l0_1 K a4249 r4260.1.only_ r4350 K [] 0).bind fun y4420 =>
     Sum.elim (fun w4421 =>
      some (0, ([], (false, 8))))
      (fun w4422 =>
      some (a4249, (w4422, (true, 0)))) y4420)
    else
    (F159 K a4250 a4249).bind fun r4424 =>
    bif r4424 then
     ((F99_l0_1 K a4250 r4260.1.only_ r4350 K [] 0).bind fun y4432 =>
     Sum.elim (fun w4433 =>
      some (0, ([], (false, 8))))
      (fun w4434 =>
      some (a4250, (w4434, (true, 0)))) y4432)
    else
    some (a4249, ([], (true, 0))))
   else
   bif (areFns [r4260.1.start_, r4260.1.better_, r4260.1.send_] [162, 159, 163]) then
    ((F68 K a4245 a4248).bind fun r4437 =>
    bif (ieq a4247 0) then
     (bif r4260.1.only_ then
      ((F159 K a4250 a4249).bind fun r4441 =>
      bif r4441 then
       ((F99_l0_2 K a4250 r4260.1.only_ r4437 K [] 0).bind fun y4474 =>
       Sum.elim (fun w4475 =>
        some (0, ([], (false, 8))))
        (fun w4476 =>
        some (a4250, (w4476, (true, 0)))) y4474)
      else
      bif (ieq a4248 a4246.Source) then
       ((F99_l0_2 K a4249 r4260.1.only_ r4437 K [] 0).bind fun y4484 =>
       Sum.elim (fun w4485 =>
        some (0, ([], (false, 8))))
        (fun w4486 =>
        some (a4249, (w4486, (true, 0)))) y4484)
      else
      some (a4249, ([], (true, 0))))
     else
     (F159 K a4250 a4249).bind fun r4488 =>
     bif r4488 then
      ((F99_l0_2 K a4250 r4260.1.only_ r4437 K [] 0).bind fun y4496 =>
      Sum.elim (fun w4497 =>
       some (0, ([], (false, 8))))
       (fun w4498 =>
       some (a4250, (w4498, (true, 0)))) y4496)
     else
     (F99_l0_2 K a4249 r4260.1.only_ r4437 K [] 0).bind fun y4505 =>
     Sum.elim (fun w4506 =>
      some (0, ([], (false, 8))))
      (fun w4507 =>
      some (a4249, (w4507, (true, 0)))) y4505)
    else
    (F159 K a4250 a4249).bind fun r4509 =>
    bif r4509 then
     ((F99_l0_2 K a4250 r4260.1.only_ r4437 K [] 0).bind fun y4517 =>
     Sum.elim (fun w4518 =>
      some (0, ([], (false, 8))))
      (fun w4519 =>
      some (a4250, (w4519, (true, 0)))) y4517)
    else
    some (a4249, ([], (true, 0))))
   else
   bif (areFns [r4260.1.start_, r4260.1.better_, r4260.1.send_] [164, 165, 163]) then
    ((F68 K a4245 a4248).bind fun r4522 =>
    bif (ieq a4247 0) then
     (bif r4260.1.only_ then
      ((F165 K a4250 a4249).bind fun r4526 =>
      bif r4526 then
       ((F99_l0_3 K a4250 r4260.1.only_ r4522 K [] 0).bind fun y4556 =>
       Sum.elim (fun w4557 =>
        some (0, ([], (false, 8))))
        (fun w4558 =>
        some (a4250, (w4558, (true, 0)))) y4556)
      else
      bif (ieq a4248 a4246.Source) then
       ((F99_l0_3 K a4249 r4260.1.only_ r4522 K [] 0).bind fun y4566 =>
       Sum.elim (fun w4567 =>
        some (0, ([], (false, 8))))
        (fun w4568 =>
        some (a4249, (w4568, (true, 0)))) y4566)
      else
      some (a4249, ([], (true, 0))))
     else
     (F165 K a4250 a4249).bind fun r4570 =>
     bif r4570 then
      ((F99_l0_3 K a4250 r4260.1.only_ r4522 K [] 0).bind fun y4578 =>
      Sum.elim (fun w4579 =>
       some (0, ([], (false, 8))))
       (fun w4580 =>
       some (a4250, (w4580, (true, 0)))) y4578)
     else
     (F99_l0_3 K a4249 r4260.1.only_ r4522 K [] 0).bind fun y4587 =>
     Sum.elim (fun w4588 =>
      some (0, ([], (false, 8))))
      (fun w4589 =>
      some (a4249, (w4589, (true, 0)))) y4587)
    else
    (F165 K a4250 a4249).bind fun r4591 =>
    bif r4591 then
     ((F99_l0_3 K a4250 r4260.1.only_ r4522 K [] 0).bind fun y4599 =>
     Sum.elim (fun w4600 =>
      some (0, ([], (false, 8))))
      (fun w4601 =>
      some (a4250, (w4601, (true, 0)))) y4599)
    else
    some (a4249, ([], (true, 0))))
   else
   bif (areFns [r4260.1.start_, r4260.1.better_, r4260.1.send_] [166, 0, 163]) then
    ((F68 K a4245 a4248).bind fun r4604 =>
    (F146 K r4604 a4247 a4249 a4250).bind fun r4697 =>
    some (r4697.1, (r4697.2.1, (r4697.2.2.1, r4697.2.2.2))))
   else
   bif (areFns [r4260.1.start_, r4260.1.better_, r4260.1.send_] [0, 0, 0]) then
   (F68 K a4245 a4248).bind fun r4700 =>
   (F146 K r4700 a4247 a4249 a4250).bind fun r4702 =>
   some (r4702.1, (r4702.2.1, (r4702.2.2.1, r4702.2.2.2)))
   else none)
  else
  (F143 K a4246.Prog).bind fun r4704 =>
  bif (areFns [r4704.1.start_, r4704.1.better_, r4704.1.send_] [158, 159, 160]) then
   ((F68 K a4245 a4248).bind fun r4707 =>
   bif (ieq a4247 0) then
    (bif r4704.1.only_ then
     (bif (ieq a4248 a4246.Source) then
      ((F99_l0_0 K a4249 r4704.1.only_ r4707 K [] 0).bind fun y4717 =>
      Sum.elim (fun w4718 =>
       some (0, ([], (false, 8))))
       (fun w4719 =>
       some (a4249, (w4719, (true, 0)))) y4717)
     else
     some (a4249, ([], (true, 0))))
    else
    (F99_l0_0 K a4249 r4704.1.only_ r4707 K [] 0).bind fun y4726 =>
    Sum.elim (fun w4727 =>
     some (0, ([], (false, 8))))
     (fun w4728 =>
     some (a4249, (w4728, (true, 0)))) y4726)
   else
   some (a4249, ([], (true, 0))))
  else
  bif (areFns [r4704.1.start_, r4704.1.better_, r4704.1.send_] [158, 159, 161]) then
   ((F68 K a4245 a4248).bind fun r4731 =>
   bif (ieq a4247 0) then
    (bif r4704.1.only_ then
     (bif (ieq a4248 a4246.Source) then
      ((F99_l0_1 K a4249 r4704.1.only_ r4731 K [] 0).bind fun y4741 =>
      Sum.elim (fun w4742 =>
       some (0, ([], (false, 8))))
       (fun w4743 =>
       some (a4249, (w4743, (true, 0)))) y4741)
     else
     some (a4249, ([], (true, 0))))
    else
    (F99_l0_1 K a4249 r4704.1.only_ r4731 K [] 0).bind fun y4750 =>
    Sum.elim (fun w4751 =>
     some (0, ([], (false, 8))))
     (fun w4752 =>
     some (a4249, (w4752, (true, 0)))) y4750)
   else
   some (a4249, ([], (true, 0))))
  else
  bif (areFns [r4704.1.start_, r4704.1.better_, r4704.1.send_] [162, 159, 163]) then
   ((F68 K a4245 a4248).bind fun r4755 =>
   bif (ieq a4247 0) then
    (bif r4704.1.only_ then
     (bif (ieq a4248 a4246.Source) then
      ((F99_l0_2 K a4249 r4704.1.only_ r4755 K [] 0).bind fun y4765 =>
      Sum.elim (fun w4766 =>
       some (0, ([], (false, 8))))
       (fun w4767 =>
       some (a4249, (w4767, (true, 0)))) y4765)
     else
     some (a4249, ([], (true, 0))))
    else
    (F99_l0_2 K a4249 r4704.1.only_ r4755 K [] 0).bind fun y4774 =>
    Sum.elim (fun w4775 =>
     some (0, ([], (false, 8))))
     (fun w4776 =>
     some (a4249, (w4776, (true, 0)))) y4774)
   else
   some (a4249, ([], (true, 0))))
  else
  bif (areFns [r4704.1.start_, r4704.1.better_, r4704.1.send_] [164, 165, 163]) then
   ((F68 K a4245 a4248).bind fun r4779 =>
   bif (ieq a4247 0) then
    (bif r4704.1.only_ then
     (bif (ieq a4248 a4246.Source) then
      ((F99_l0_3 K a4249 r4704.1.only_ r4779 K [] 0).bind fun y4789 =>
      Sum.elim (fun w4790 =>
       some (0, ([], (false, 8))))
       (fun w4791 =>
       some (a4249, (w4791, (true, 0)))) y4789)
     else
     some (a4249, ([], (true, 0))))
    else
    (F99_l0_3 K a4249 r4704.1.only_ r4779 K [] 0).bind fun y4798 =>
    Sum.elim (fun w4799 =>
     some (0, ([], (false, 8))))
     (fun w4800 =>
     some (a4249, (w4800, (true, 0)))) y4798)
   else
   some (a4249, ([], (true, 0))))
  else
  bif (areFns [r4704.1.start_, r4704.1.better_, r4704.1.send_] [166, 0, 163]) then
   ((F68 K a4245 a4248).bind fun r4803 =>
   (F146 K r4803 a4247 a4249 0).bind fun r4805 =>
   some (r4805.1, (r4805.2.1, (r4805.2.2.1, r4805.2.2.2))))
  else
  bif (areFns [r4704.1.start_, r4704.1.better_, r4704.1.send_] [0, 0, 0]) then
  (F68 K a4245 a4248).bind fun r4808 =>
  (F146 K r4808 a4247 a4249 0).bind fun r4810 =>
  some (r4810.1, (r4810.2.1, (r4810.2.2.1, r4810.2.2.2)))
  else none)
 else
 some (0, ([], (false, r4252)))
theorem F99_ok (K : Nat) (a4245 : GGraph) (a4246 : GJob) (a4247 : Int) (a4248 : Int) (a4249 : Int) (a4250 : Int) (a4251 : Bool) (r : Int × List GMsg × Bool × Int) (hF : F99 K a4245 a4246 a4247 a4248 a4249 a4250 a4251 = some r) : Evt E H 99 [.agg (eGGraph a4245), .agg (eGJob a4246), .one (.lit (.int .i64 a4247)), .one (.lit (.int .i64 a4248)), .one (.lit (.int .i64 a4249)), .one (.lit (.int .i64 a4250)), .one (.lit (.bool a4251))] (F99_res r) := by
 rw [F99] at hF
 refine bind_some hF (fun r4252 h4253 hF => ?_)
 refine cond_some hF (fun h4254 hF => ?_) (fun h4254 hF => ?_)
 ·
  have pq4812 : ∀ {l : List Cond}, HoldAll E H hn99 l → HoldAll E H hn99 (.call 94 [.agg (eGGraph a4245), .agg (eGJob a4246)] (F94_res r4252) :: .test (leadsAny (Res.mk [(.one (.im (.lit (.int .i64 r4252))))] [])) false :: .test (ine r4252 0) false :: l) := fun z => ⟨(F94_ok K a4245 a4246 _ h4253), (leads_ok (by simp [leadsAny, RV.leads, RC.leads, leadsT, hasSl_lit, flat_ns eGJob_ns])), (ine_t h4254), z⟩
  refine cond_some hF (fun h4255 hF => ?_) (fun h4255 hF => ?_)
  ·
   obtain rfl := Option.some.inj hF
   have pz : HoldAll E H hn99 [.test (beqb (ilt a4248 0) false) false, .test (beqb (ilt a4248 0) false) false, .test (beqb (ilt a4248 0) false) false, .test (beqb (ilt a4248 0) false) false, .test (ilt a4248 0) true, .test true true] := ⟨(beqb_ft h4255), (beqb_ft h4255), (beqb_ft h4255), (beqb_ft h4255), h4255, rfl, trivial⟩
   exact fn_playC hn99 (r := F99_res (0, ([], (false, 4)))) (pq4812 pz) (by kernel_rfl) (by kernel_rfl)
  have pq4813 : ∀ {l : List Cond}, HoldAll E H hn99 l → HoldAll E H hn99 (.test (beqb (ilt a4248 0) false) true :: .test (beqb (ilt a4248 0) false) true :: .test (beqb (ilt a4248 0) false) true :: .test (beqb (ilt a4248 0) false) true :: .test (ilt a4248 0) false :: l) := fun z => ⟨(beqb_ff h4255), (beqb_ff h4255), (beqb_ff h4255), (beqb_ff h4255), h4255, z⟩
  refine cond_some hF (fun h4256 hF => ?_) (fun h4256 hF => ?_)
  ·
   obtain rfl := Option.some.inj hF
   have pz : HoldAll E H hn99 [.test (ige a4248 a4245.N) true] := ⟨(ige_eq h4256), trivial⟩
   exact fn_playC hn99 (r := F99_res (0, ([], (false, 4)))) (pq4812 (pq4813 pz)) (by kernel_rfl) (by kernel_rfl)
  refine cond_some hF (fun h4257 hF => ?_) (fun h4257 hF => ?_)
  ·
   obtain rfl := Option.some.inj hF
   have pz : HoldAll E H hn99 [.test (ige a4248 a4245.N) false, .test (beqb (ilt a4247 0) false) false, .test (beqb (ilt a4247 0) false) false, .test (ilt a4247 0) true, .test true true] := ⟨(ige_eq h4256), (beqb_ft h4257), (beqb_ft h4257), h4257, rfl, trivial⟩
   exact fn_playC hn99 (r := F99_res (0, ([], (false, 1)))) (pq4812 (pq4813 pz)) (by kernel_rfl) (by kernel_rfl)
  have pq4814 : ∀ {l : List Cond}, HoldAll E H hn99 l → HoldAll E H hn99 (.test (ige a4248 a4245.N) false :: .test (beqb (ilt a4247 0) false) true :: .test (beqb (ilt a4247 0) false) true :: .test (ilt a4247 0) false :: l) := fun z => ⟨(ige_eq h4256), (beqb_ff h4257), (beqb_ff h4257), h4257, z⟩
  refine cond_some hF (fun h4258 hF => ?_) (fun h4258 hF => ?_)
  ·
   obtain rfl := Option.some.inj hF
   have pz : HoldAll E H hn99 [.test (igt a4247 40) true] := ⟨(igt_eq h4258), trivial⟩
   exact fn_playC hn99 (r := F99_res (0, ([], (false, 1)))) (pq4812 (pq4813 (pq4814 pz))) (by kernel_rfl) (by kernel_rfl)
  refine cond_some hF (fun h4259 hF => ?_) (fun h4259 hF => ?_)
  ·
   refine bind_some hF (fun r4260 h4261 hF => ?_)
   refine cond_some hF (fun h4262 hF => ?_) (fun h4262 hF => ?_)
   ·
    refine bind_some hF (fun r4263 h4264 hF => ?_)
    have pq4815 : ∀ {l : List Cond}, HoldAll E H hn99 l → HoldAll E H hn99 (.test (igt a4247 40) false :: .test (bnot a4251) false :: .call 143 [.one (.lit (.int .i64 a4246.Prog))] (F143_res0 r4260) :: .test (leadsAny (Res.mk [(.agg [(.im (.lit (fnV 158))), (.im (.lit (fnV 159))), (.im (.lit (.bool r4260.1.only_))), (.im (.lit (fnV 160)))]), (.one (.im (.lit (.bool r4260.2))))] [])) false :: .call 68 [.agg (eGGraph a4245), .one (.lit (.int .i64 a4248))] (F68_res r4263) :: .test (leadsAny (Res.mk [(.one (.own 89 (.sl (len r4263) (flat eGEdge r4263))))] [])) false :: .test false false :: l) := fun z => ⟨(igt_eq h4258), (bnot_t h4259), (F143_ok0 _ h4262 (F143_ok K a4246.Prog _ h4261)), (leads_ok (by simp [leadsAny, RV.leads, RC.leads, leadsT, hasSl_lit, flat_ns eGEdge_ns])), (F68_ok K a4245 a4248 _ h4264), (leads_ok (by simp [leadsAny, RV.leads, RC.leads, leadsT, hasSl_lit, flat_ns eGEdge_ns])), rfl, z⟩
    refine cond_some hF (fun h4265 hF => ?_) (fun h4265 hF => ?_)
    ·
     have pq4816 : ∀ {l : List Cond}, HoldAll E H hn99 l → HoldAll E H hn99 (.test (beqb (ieq a4247 0) true) true :: .test (beqb (ieq a4247 0) true) true :: .test (beqb (ieq a4247 0) true) true :: .test (beqb (ieq a4247 0) true) true :: l) := fun z => ⟨(beqb_t h4265), (beqb_t h4265), (beqb_t h4265), (beqb_t h4265), z⟩
     refine cond_some hF (fun h4266 hF => ?_) (fun h4266 hF => ?_)
     ·
      refine bind_some hF (fun r4267 h4268 hF => ?_)
      have pq4817 : ∀ {l : List Cond}, HoldAll E H hn99 l → HoldAll E H hn99 (.test (beqb (bnot r4260.1.only_) false) true :: .test (beqb (bnot r4260.1.only_) false) true :: .test (beqb (bnot r4260.1.only_) false) true :: .test (beqb (bnot r4260.1.only_) false) true :: .test (beqb (ieq a4247 0) true) true :: .test (bnot r4260.1.only_) false :: .test (ieq a4247 0) true :: .test (beqb a4251 true) true :: .test (beqb a4251 true) true :: .test (beqb a4251 true) true :: .test (beqb a4251 true) true :: .test (beqb a4251 true) true :: .call 159 [.one (.lit (.int .i64 a4250)), .one (.lit (.int .i64 a4249))] (F159_res r4267) :: .test (leadsAny (Res.mk [(.one (.im (.lit (.bool r4267))))] [])) false :: .test a4251 true :: l) := fun z => ⟨(beqb_ff (bnot_t h4266)), (beqb_ff (bnot_t h4266)), (beqb_ff (bnot_t h4266)), (beqb_ff (bnot_t h4266)), (beqb_t h4265), (bnot_t h4266), h4265, (beqb_t h4259), (beqb_t h4259), (beqb_t h4259), (beqb_t h4259), (beqb_t h4259), (F159_ok K a4250 a4249 _ h4268), (leads_ok (by simp [leadsAny, RV.leads, RC.leads, leadsT, hasSl_lit])), h4259, z⟩
      refine cond_some hF (fun h4269 hF => ?_) (fun h4269 hF => ?_)
      ·
       have pq4818 : ∀ {l : List Cond}, HoldAll E H hn99 l → HoldAll E H hn99 (.test r4267 true :: .test (bnot true) false :: .int (nlen (len r4263)) (nlen (len r4263)) :: l) := fun z => ⟨h4269, (bnot_t rfl), rfl, z⟩
       refine bind_some hF (fun y4302 h4301 hF => ?_)
       refine sum_some hF (fun w4303 hx hF => ?_) (fun w4304 hx hF => ?_)
       ·
        subst hx
        obtain rfl := Option.some.inj hF
        have pz : HoldAll E H hn99 [.loop 0 c99_0 (F99_l0_0_S a4250 r4260.1.only_ r4263 [] 0) .ret (F99_l0_0_X0 a4250 r4260.1.only_ r4263 w4303)] := ⟨(F99_l0_0_ok K a4250 r4260.1.only_ r4263 K [] 0 _ h4301), trivial⟩
        exact fn_playC hn99 (r := F99_res (0, ([], (false, 8)))) (pq4812 (pq4813 (pq4814 (pq4815 (pq4816 (pq4817 (pq4818 pz))))))) (by kernel_rfl) (by kernel_rfl)
       subst hx
       obtain rfl := Option.some.inj hF
       have pz : HoldAll E H hn99 [.loop 0 c99_0 (F99_l0_0_S a4250 r4260.1.only_ r4263 [] 0) (.exit 0) (F99_l0_0_X1 a4250 r4260.1.only_ r4263 w4304)] := ⟨(F99_l0_0_ok K a4250 r4260.1.only_ r4263 K [] 0 _ h4301), trivial⟩
       exact fn_playC hn99 (r := F99_res (a4250, (w4304, (true, 0)))) (pq4812 (pq4813 (pq4814 (pq4815 (pq4816 (pq4817 (pq4818 pz))))))) (by kernel_rfl) (by kernel_rfl)
      refine cond_some hF (fun h4306 hF => ?_) (fun h4306 hF => ?_)
      ·
       have pq4819 : ∀ {l : List Cond}, HoldAll E H hn99 l → HoldAll E H hn99 (.test r4267 false :: .test (bnot (ieq a4248 a4246.Source)) false :: .int (nlen (len r4263)) (nlen (len r4263)) :: l) := fun z => ⟨h4269, (bnot_t h4306), rfl, z⟩
       refine bind_some hF (fun y4312 h4311 hF => ?_)
       refine sum_some hF (fun w4313 hx hF => ?_) (fun w4314 hx hF => ?_)
       ·
        subst hx
        obtain rfl := Option.some.inj hF
        have pz : HoldAll E H hn99 [.loop 0 c99_0 (F99_l0_0_S a4249 r4260.1.only_ r4263 [] 0) .ret (F99_l0_0_X0 a4249 r4260.1.only_ r4263 w4313)] := ⟨(F99_l0_0_ok K a4249 r4260.1.only_ r4263 K [] 0 _ h4311), trivial⟩
        exact fn_playC hn99 (r := F99_res (0, ([], (false, 8)))) (pq4812 (pq4813 (pq4814 (pq4815 (pq4816 (pq4817 (pq4819 pz))))))) (by kernel_rfl) (by kernel_rfl)
       subst hx
       obtain rfl := Option.some.inj hF
       have pz : HoldAll E H hn99 [.loop 0 c99_0 (F99_l0_0_S a4249 r4260.1.only_ r4263 [] 0) (.exit 0) (F99_l0_0_X1 a4249 r4260.1.only_ r4263 w4314)] := ⟨(F99_l0_0_ok K a4249 r4260.1.only_ r4263 K [] 0 _ h4311), trivial⟩
       exact fn_playC hn99 (r := F99_res (a4249, (w4314, (true, 0)))) (pq4812 (pq4813 (pq4814 (pq4815 (pq4816 (pq4817 (pq4819 pz))))))) (by kernel_rfl) (by kernel_rfl)
      obtain rfl := Option.some.inj hF
      have pz : HoldAll E H hn99 [.test r4267 false, .test (bnot (ieq a4248 a4246.Source)) true] := ⟨h4269, (bnot_f h4306), trivial⟩
      exact fn_playC hn99 (r := F99_res (a4249, ([], (true, 0)))) (pq4812 (pq4813 (pq4814 (pq4815 (pq4816 (pq4817 pz)))))) (by kernel_rfl) (by kernel_rfl)
     refine bind_some hF (fun r4316 h4317 hF => ?_)
     have pq4820 : ∀ {l : List Cond}, HoldAll E H hn99 l → HoldAll E H hn99 (.test (beqb (bnot r4260.1.only_) false) false :: .test (beqb (bnot r4260.1.only_) false) false :: .test (beqb (bnot r4260.1.only_) false) false :: .test (beqb (bnot r4260.1.only_) false) false :: .test (beqb (ieq a4247 0) true) true :: .test (bnot r4260.1.only_) true :: .test (ieq a4247 0) true :: .test (beqb a4251 true) true :: .test (beqb a4251 true) true :: .test (beqb a4251 true) true :: .test (beqb a4251 true) true :: .test (beqb a4251 true) true :: .call 159 [.one (.lit (.int .i64 a4250)), .one (.lit (.int .i64 a4249))] (F159_res r4316) :: .test (leadsAny (Res.mk [(.one (.im (.lit (.bool r4316))))] [])) false :: .test a4251 true :: l) := fun z => ⟨(beqb_ft (bnot_f h4266)), (beqb_ft (bnot_f h4266)), (beqb_ft (bnot_f h4266)), (beqb_ft (bnot_f h4266)), (beqb_t h4265), (bnot_f h4266), h4265, (beqb_t h4259), (beqb_t h4259), (beqb_t h4259), (beqb_t h4259), (beqb_t h4259), (F159_ok K a4250 a4249 _ h4317), (leads_ok (by simp [leadsAny, RV.leads, RC.leads, leadsT, hasSl_lit])), h4259, z⟩
     refine cond_some hF (fun h4318 hF => ?_) (fun h4318 hF => ?_)
     ·
      have pq4821 : ∀ {l : List Cond}, HoldAll E H hn99 l → HoldAll E H hn99 (.test r4316 true :: .test (bnot true) false :: .int (nlen (len r4263)) (nlen (len r4263)) :: l) := fun z => ⟨h4318, (bnot_t rfl), rfl, z⟩
      refine bind_some hF (fun y4324 h4323 hF => ?_)
      refine sum_some hF (fun w4325 hx hF => ?_) (fun w4326 hx hF => ?_)
      ·
       subst hx
       obtain rfl := Option.some.inj hF
       have pz : HoldAll E H hn99 [.loop 0 c99_0 (F99_l0_0_S a4250 r4260.1.only_ r4263 [] 0) .ret (F99_l0_0_X0 a4250 r4260.1.only_ r4263 w4325)] := ⟨(F99_l0_0_ok K a4250 r4260.1.only_ r4263 K [] 0 _ h4323), trivial⟩
       exact fn_playC hn99 (r := F99_res (0, ([], (false, 8)))) (pq4812 (pq4813 (pq4814 (pq4815 (pq4816 (pq4820 (pq4821 pz))))))) (by kernel_rfl) (by kernel_rfl)
      subst hx
      obtain rfl := Option.some.inj hF
      have pz : HoldAll E H hn99 [.loop 0 c99_0 (F99_l0_0_S a4250 r4260.1.only_ r4263 [] 0) (.exit 0) (F99_l0_0_X1 a4250 r4260.1.only_ r4263 w4326)] := ⟨(F99_l0_0_ok K a4250 r4260.1.only_ r4263 K [] 0 _ h4323), trivial⟩
      exact fn_playC hn99 (r := F99_res (a4250, (w4326, (true, 0)))) (pq4812 (pq4813 (pq4814 (pq4815 (pq4816 (pq4820 (pq4821 pz))))))) (by kernel_rfl) (by kernel_rfl)
     have pq4822 : ∀ {l : List Cond}, HoldAll E H hn99 l → HoldAll E H hn99 (.test r4316 false :: .test (bnot true) false :: .int (nlen (len r4263)) (nlen (len r4263)) :: l) := fun z => ⟨h4318, (bnot_t rfl), rfl, z⟩
     refine bind_some hF (fun y4333 h4332 hF => ?_)
     refine sum_some hF (fun w4334 hx hF => ?_) (fun w4335 hx hF => ?_)
     ·
      subst hx
      obtain rfl := Option.some.inj hF
      have pz : HoldAll E H hn99 [.loop 0 c99_0 (F99_l0_0_S a4249 r4260.1.only_ r4263 [] 0) .ret (F99_l0_0_X0 a4249 r4260.1.only_ r4263 w4334)] := ⟨(F99_l0_0_ok K a4249 r4260.1.only_ r4263 K [] 0 _ h4332), trivial⟩
      exact fn_playC hn99 (r := F99_res (0, ([], (false, 8)))) (pq4812 (pq4813 (pq4814 (pq4815 (pq4816 (pq4820 (pq4822 pz))))))) (by kernel_rfl) (by kernel_rfl)
     subst hx
     obtain rfl := Option.some.inj hF
     have pz : HoldAll E H hn99 [.loop 0 c99_0 (F99_l0_0_S a4249 r4260.1.only_ r4263 [] 0) (.exit 0) (F99_l0_0_X1 a4249 r4260.1.only_ r4263 w4335)] := ⟨(F99_l0_0_ok K a4249 r4260.1.only_ r4263 K [] 0 _ h4332), trivial⟩
     exact fn_playC hn99 (r := F99_res (a4249, (w4335, (true, 0)))) (pq4812 (pq4813 (pq4814 (pq4815 (pq4816 (pq4820 (pq4822 pz))))))) (by kernel_rfl) (by kernel_rfl)
    refine bind_some hF (fun r4337 h4338 hF => ?_)
    have pq4823 : ∀ {l : List Cond}, HoldAll E H hn99 l → HoldAll E H hn99 (.test (beqb (ieq a4247 0) true) false :: .test (beqb (ieq a4247 0) true) false :: .test (beqb (ieq a4247 0) true) false :: .test (beqb (ieq a4247 0) true) false :: .test (beqb (ieq a4247 0) true) false :: .test (ieq a4247 0) false :: .test (beqb a4251 true) true :: .test (beqb a4251 true) true :: .test (beqb a4251 true) true :: .test (beqb a4251 true) true :: .test (beqb a4251 true) true :: .call 159 [.one (.lit (.int .i64 a4250)), .one (.lit (.int .i64 a4249))] (F159_res r4337) :: .test (leadsAny (Res.mk [(.one (.im (.lit (.bool r4337))))] [])) false :: .test a4251 true :: l) := fun z => ⟨(beqb_t h4265), (beqb_t h4265), (beqb_t h4265), (beqb_t h4265), (beqb_t h4265), h4265, (beqb_t h4259), (beqb_t h4259), (beqb_t h4259), (beqb_t h4259), (beqb_t h4259), (F159_ok K a4250 a4249 _ h4338), (leads_ok (by simp [leadsAny, RV.leads, RC.leads, leadsT, hasSl_lit])), h4259, z⟩
    refine cond_some hF (fun h4339 hF => ?_) (fun h4339 hF => ?_)
    ·
     have pq4824 : ∀ {l : List Cond}, HoldAll E H hn99 l → HoldAll E H hn99 (.test r4337 true :: .test (bnot true) false :: .int (nlen (len r4263)) (nlen (len r4263)) :: l) := fun z => ⟨h4339, (bnot_t rfl), rfl, z⟩
     refine bind_some hF (fun y4345 h4344 hF => ?_)
     refine sum_some hF (fun w4346 hx hF => ?_) (fun w4347 hx hF => ?_)
     ·
      subst hx
      obtain rfl := Option.some.inj hF
      have pz : HoldAll E H hn99 [.loop 0 c99_0 (F99_l0_0_S a4250 r4260.1.only_ r4263 [] 0) .ret (F99_l0_0_X0 a4250 r4260.1.only_ r4263 w4346)] := ⟨(F99_l0_0_ok K a4250 r4260.1.only_ r4263 K [] 0 _ h4344), trivial⟩
      exact fn_playC hn99 (r := F99_res (0, ([], (false, 8)))) (pq4812 (pq4813 (pq4814 (pq4815 (pq4823 (pq4824 pz)))))) (by kernel_rfl) (by kernel_rfl)
     subst hx
     obtain rfl := Option.some.inj hF
     have pz : HoldAll E H hn99 [.loop 0 c99_0 (F99_l0_0_S a4250 r4260.1.only_ r4263 [] 0) (.exit 0) (F99_l0_0_X1 a4250 r4260.1.only_ r4263 w4347)] := ⟨(F99_l0_0_ok K a4250 r4260.1.only_ r4263 K [] 0 _ h4344), trivial⟩
     exact fn_playC hn99 (r := F99_res (a4250, (w4347, (true, 0)))) (pq4812 (pq4813 (pq4814 (pq4815 (pq4823 (pq4824 pz)))))) (by kernel_rfl) (by kernel_rfl)
    obtain rfl := Option.some.inj hF
    have pz : HoldAll E H hn99 [.test r4337 false, .test (bnot false) true] := ⟨h4339, (bnot_f rfl), trivial⟩
    exact fn_playC hn99 (r := F99_res (a4249, ([], (true, 0)))) (pq4812 (pq4813 (pq4814 (pq4815 (pq4823 pz))))) (by kernel_rfl) (by kernel_rfl)
   refine cond_some hF (fun h4349 hF => ?_) (fun h4349 hF => ?_)
   ·
    refine bind_some hF (fun r4350 h4351 hF => ?_)
    have pq4825 : ∀ {l : List Cond}, HoldAll E H hn99 l → HoldAll E H hn99 (.test (igt a4247 40) false :: .test (bnot a4251) false :: .call 143 [.one (.lit (.int .i64 a4246.Prog))] (F143_res1 r4260) :: .test (leadsAny (Res.mk [(.agg [(.im (.lit (fnV 158))), (.im (.lit (fnV 159))), (.im (.lit (.bool r4260.1.only_))), (.im (.lit (fnV 161)))]), (.one (.im (.lit (.bool r4260.2))))] [])) false :: .call 68 [.agg (eGGraph a4245), .one (.lit (.int .i64 a4248))] (F68_res r4350) :: .test (leadsAny (Res.mk [(.one (.own 89 (.sl (len r4350) (flat eGEdge r4350))))] [])) false :: .test false false :: l) := fun z => ⟨(igt_eq h4258), (bnot_t h4259), (F143_ok1 _ h4349 (F143_ok K a4246.Prog _ h4261)), (leads_ok (by simp [leadsAny, RV.leads, RC.leads, leadsT, hasSl_lit, flat_ns eGEdge_ns])), (F68_ok K a4245 a4248 _ h4351), (leads_ok (by simp [leadsAny, RV.leads, RC.leads, leadsT, hasSl_lit, flat_ns eGEdge_ns])), rfl, z⟩
    refine cond_some hF (fun h4352 hF => ?_) (fun h4352 hF => ?_)
    ·
     have pq4826 : ∀ {l : List Cond}, HoldAll E H hn99 l → HoldAll E H hn99 (.test (beqb (ieq a4247 0) true) true :: .test (beqb (ieq a4247 0) true) true :: .test (beqb (ieq a4247 0) true) true :: .test (beqb (ieq a4247 0) true) true :: l) := fun z => ⟨(beqb_t h4352), (beqb_t h4352), (beqb_t h4352), (beqb_t h4352), z⟩
     refine cond_some hF (fun h4353 hF => ?_) (fun h4353 hF => ?_)
     ·
      refine bind_some hF (fun r4354 h4355 hF => ?_)
      have pq4827 : ∀ {l : List Cond}, HoldAll E H hn99 l → HoldAll E H hn99 (.test (beqb (bnot r4260.1.only_) false) true :: .test (beqb (bnot r4260.1.only_) false) true :: .test (beqb (bnot r4260.1.only_) false) true :: .test (beqb (bnot r4260.1.only_) false) true :: .test (beqb (ieq a4247 0) true) true :: .test (bnot r4260.1.only_) false :: .test (ieq a4247 0) true :: .test (beqb a4251 true) true :: .test (beqb a4251 true) true :: .test (beqb a4251 true) true :: .test (beqb a4251 true) true :: .test (beqb a4251 true) true :: .call 159 [.one (.lit (.int .i64 a4250)), .one (.lit (.int .i64 a4249))] (F159_res r4354) :: .test (leadsAny (Res.mk [(.one (.im (.lit (.bool r4354))))] [])) false :: .test a4251 true :: l) := fun z => ⟨(beqb_ff (bnot_t h4353)), (beqb_ff (bnot_t h4353)), (beqb_ff (bnot_t h4353)), (beqb_ff (bnot_t h4353)), (beqb_t h4352), (bnot_t h4353), h4352, (beqb_t h4259), (beqb_t h4259), (beqb_t h4259), (beqb_t h4259), (beqb_t h4259), (F159_ok K a4250 a4249 _ h4355), (leads_ok (by simp [leadsAny, RV.leads, RC.leads, leadsT, hasSl_lit])), h4259, z⟩
      refine cond_some hF (fun h4356 hF => ?_) (fun h4356 hF => ?_)
      ·
       have pq4828 : ∀ {l : List Cond}, HoldAll E H hn99 l → HoldAll E H hn99 (.test r4354 true :: .test (bnot true) false :: .int (nlen (len r4350)) (nlen (len r4350)) :: l) := fun z => ⟨h4356, (bnot_t rfl), rfl, z⟩
       refine bind_some hF (fun y4389 h4388 hF => ?_)
       refine sum_some hF (fun w4390 hx hF => ?_) (fun w4391 hx hF => ?_)
       ·
        subst hx
        obtain rfl := Option.some.inj hF
        have pz : HoldAll E H hn99 [.loop 0 c99_0 (F99_l0_1_S a4250 r4260.1.only_ r4350 [] 0) .ret (F99_l0_1_X0 a4250 r4260.1.only_ r4350 w4390)] := ⟨(F99_l0_1_ok K a4250 r4260.1.only_ r4350 K [] 0 _ h4388), trivial⟩
        exact fn_playC hn99 (r := F99_res (0, ([], (false, 8)))) (pq4812 (pq4813 (pq4814 (pq4825 (pq4826 (pq4827 (pq4828 pz))))))) (by kernel_rfl) (by kernel_rfl)
       subst hx
       obtain rfl := Option.some.inj hF
       have pz : HoldAll E H hn99 [.loop 0 c99_0 (F99_l0_1_S a4250 r4260.1.only_ r4350 [] 0) (.exit 0) (F99_l0_1_X1 a4250 r4260.1.only_ r4350 w4391)] := ⟨(F99_l0_1_ok K a4250 r4260.1.only_ r4350 K [] 0 _ h4388), trivial⟩
       exact fn_playC hn99 (r := F99_res (a4250, (w4391, (true, 0)))) (pq4812 (pq4813 (pq4814 (pq4825 (pq4826 (pq4827 (pq4828 pz))))))) (by kernel_rfl) (by kernel_rfl)
      refine cond_some hF (fun h4393 hF => ?_) (fun h4393 hF => ?_)
      ·
       have pq4829 : ∀ {l : List Cond}, HoldAll E H hn99 l → HoldAll E H hn99 (.test r4354 false :: .test (bnot (ieq a4248 a4246.Source)) false :: .int (nlen (len r4350)) (nlen (len r4350)) :: l) := fun z => ⟨h4356, (bnot_t h4393), rfl, z⟩
       refine bind_some hF (fun y4399 h4398 hF => ?_)
       refine sum_some hF (fun w4400 hx hF => ?_) (fun w4401 hx hF => ?_)
       ·
        subst hx
        obtain rfl := Option.some.inj hF
        have pz : HoldAll E H hn99 [.loop 0 c99_0 (F99_l0_1_S a4249 r4260.1.only_ r4350 [] 0) .ret (F99_l0_1_X0 a4249 r4260.1.only_ r4350 w4400)] := ⟨(F99_l0_1_ok K a4249 r4260.1.only_ r4350 K [] 0 _ h4398), trivial⟩
        exact fn_playC hn99 (r := F99_res (0, ([], (false, 8)))) (pq4812 (pq4813 (pq4814 (pq4825 (pq4826 (pq4827 (pq4829 pz))))))) (by kernel_rfl) (by kernel_rfl)
       subst hx
       obtain rfl := Option.some.inj hF
       have pz : HoldAll E H hn99 [.loop 0 c99_0 (F99_l0_1_S a4249 r4260.1.only_ r4350 [] 0) (.exit 0) (F99_l0_1_X1 a4249 r4260.1.only_ r4350 w4401)] := ⟨(F99_l0_1_ok K a4249 r4260.1.only_ r4350 K [] 0 _ h4398), trivial⟩
       exact fn_playC hn99 (r := F99_res (a4249, (w4401, (true, 0)))) (pq4812 (pq4813 (pq4814 (pq4825 (pq4826 (pq4827 (pq4829 pz))))))) (by kernel_rfl) (by kernel_rfl)
      obtain rfl := Option.some.inj hF
      have pz : HoldAll E H hn99 [.test r4354 false, .test (bnot (ieq a4248 a4246.Source)) true] := ⟨h4356, (bnot_f h4393), trivial⟩
      exact fn_playC hn99 (r := F99_res (a4249, ([], (true, 0)))) (pq4812 (pq4813 (pq4814 (pq4825 (pq4826 (pq4827 pz)))))) (by kernel_rfl) (by kernel_rfl)
     refine bind_some hF (fun r4403 h4404 hF => ?_)
     have pq4830 : ∀ {l : List Cond}, HoldAll E H hn99 l → HoldAll E H hn99 (.test (beqb (bnot r4260.1.only_) false) false :: .test (beqb (bnot r4260.1.only_) false) false :: .test (beqb (bnot r4260.1.only_) false) false :: .test (beqb (bnot r4260.1.only_) false) false :: .test (beqb (ieq a4247 0) true) true :: .test (bnot r4260.1.only_) true :: .test (ieq a4247 0) true :: .test (beqb a4251 true) true :: .test (beqb a4251 true) true :: .test (beqb a4251 true) true :: .test (beqb a4251 true) true :: .test (beqb a4251 true) true :: .call 159 [.one (.lit (.int .i64 a4250)), .one (.lit (.int .i64 a4249))] (F159_res r4403) :: .test (leadsAny (Res.mk [(.one (.im (.lit (.bool r4403))))] [])) false :: .test a4251 true :: l) := fun z => ⟨(beqb_ft (bnot_f h4353)), (beqb_ft (bnot_f h4353)), (beqb_ft (bnot_f h4353)), (beqb_ft (bnot_f h4353)), (beqb_t h4352), (bnot_f h4353), h4352, (beqb_t h4259), (beqb_t h4259), (beqb_t h4259), (beqb_t h4259), (beqb_t h4259), (F159_ok K a4250 a4249 _ h4404), (leads_ok (by simp [leadsAny, RV.leads, RC.leads, leadsT, hasSl_lit])), h4259, z⟩
     refine cond_some hF (fun h4405 hF => ?_) (fun h4405 hF => ?_)
     ·
      have pq4831 : ∀ {l : List Cond}, HoldAll E H hn99 l → HoldAll E H hn99 (.test r4403 true :: .test (bnot true) false :: .int (nlen (len r4350)) (nlen (len r4350)) :: l) := fun z => ⟨h4405, (bnot_t rfl), rfl, z⟩
      refine bind_some hF (fun y4411 h4410 hF => ?_)
      refine sum_some hF (fun w4412 hx hF => ?_) (fun w4413 hx hF => ?_)
      ·
       subst hx
       obtain rfl := Option.some.inj hF
       have pz : HoldAll E H hn99 [.loop 0 c99_0 (F99_l0_1_S a4250 r4260.1.only_ r4350 [] 0) .ret (F99_l0_1_X0 a4250 r4260.1.only_ r4350 w4412)] := ⟨(F99_l0_1_ok K a4250 r4260.1.only_ r4350 K [] 0 _ h4410), trivial⟩
       exact fn_playC hn99 (r := F99_res (0, ([], (false, 8)))) (pq4812 (pq4813 (pq4814 (pq4825 (pq4826 (pq4830 (pq4831 pz))))))) (by kernel_rfl) (by kernel_rfl)
      subst hx
      obtain rfl := Option.some.inj hF
      have pz : HoldAll E H hn99 [.loop 0 c99_0 (F99_l0_1_S a4250 r4260.1.only_ r4350 [] 0) (.exit 0) (F99_l0_1_X1 a4250 r4260.1.only_ r4350 w4413)] := ⟨(F99_l0_1_ok K a4250 r4260.1.only_ r4350 K [] 0 _ h4410), trivial⟩
      exact fn_playC hn99 (r := F99_res (a4250, (w4413, (true, 0)))) (pq4812 (pq4813 (pq4814 (pq4825 (pq4826 (pq4830 (pq4831 pz))))))) (by kernel_rfl) (by kernel_rfl)
     have pq4832 : ∀ {l : List Cond}, HoldAll E H hn99 l → HoldAll E H hn99 (.test r4403 false :: .test (bnot true) false :: .int (nlen (len r4350)) (nlen (len r4350)) :: l) := fun z => ⟨h4405, (bnot_t rfl), rfl, z⟩
     refine bind_some hF (fun y4420 h4419 hF => ?_)
     refine sum_some hF (fun w4421 hx hF => ?_) (fun w4422 hx hF => ?_)
     ·
      subst hx
      obtain rfl := Option.some.inj hF
      have pz : HoldAll E H hn99 [.loop 0 c99_0 (F99_l0_1_S a4249 r4260.1.only_ r4350 [] 0) .ret (F99_l0_1_X0 a4249 r4260.1.only_ r4350 w4421)] := ⟨(F99_l0_1_ok K a4249 r4260.1.only_ r4350 K [] 0 _ h4419), trivial⟩
      exact fn_playC hn99 (r := F99_res (0, ([], (false, 8)))) (pq4812 (pq4813 (pq4814 (pq4825 (pq4826 (pq4830 (pq4832 pz))))))) (by kernel_rfl) (by kernel_rfl)
     subst hx
     obtain rfl := Option.some.inj hF
     have pz : HoldAll E H hn99 [.loop 0 c99_0 (F99_l0_1_S a4249 r4260.1.only_ r4350 [] 0) (.exit 0) (F99_l0_1_X1 a4249 r4260.1.only_ r4350 w4422)] := ⟨(F99_l0_1_ok K a4249 r4260.1.only_ r4350 K [] 0 _ h4419), trivial⟩
     exact fn_playC hn99 (r := F99_res (a4249, (w4422, (true, 0)))) (pq4812 (pq4813 (pq4814 (pq4825 (pq4826 (pq4830 (pq4832 pz))))))) (by kernel_rfl) (by kernel_rfl)
    refine bind_some hF (fun r4424 h4425 hF => ?_)
    have pq4833 : ∀ {l : List Cond}, HoldAll E H hn99 l → HoldAll E H hn99 (.test (beqb (ieq a4247 0) true) false :: .test (beqb (ieq a4247 0) true) false :: .test (beqb (ieq a4247 0) true) false :: .test (beqb (ieq a4247 0) true) false :: .test (beqb (ieq a4247 0) true) false :: .test (ieq a4247 0) false :: .test (beqb a4251 true) true :: .test (beqb a4251 true) true :: .test (beqb a4251 true) true :: .test (beqb a4251 true) true :: .test (beqb a4251 true) true :: .call 159 [.one (.lit (.int .i64 a4250)), .one (.lit (.int .i64 a4249))] (F159_res r4424) :: .test (leadsAny (Res.mk [(.one (.im (.lit (.bool r4424))))] [])) false :: .test a4251 true :: l) := fun z => ⟨(beqb_t h4352), (beqb_t h4352), (beqb_t h4352), (beqb_t h4352), (beqb_t h4352), h4352, (beqb_t h4259), (beqb_t h4259), (beqb_t h4259), (beqb_t h4259), (beqb_t h4259), (F159_ok K a4250 a4249 _ h4425), (leads_ok (by simp [leadsAny, RV.leads, RC.leads, leadsT, hasSl_lit])), h4259, z⟩
    refine cond_some hF (fun h4426 hF => ?_) (fun h4426 hF => ?_)
    ·
     have pq4834 : ∀ {l : List Cond}, HoldAll E H hn99 l → HoldAll E H hn99 (.test r4424 true :: .test (bnot true) false :: .int (nlen (len r4350)) (nlen (len r4350)) :: l) := fun z => ⟨h4426, (bnot_t rfl), rfl, z⟩
     refine bind_some hF (fun y4432 h4431 hF => ?_)
     refine sum_some hF (fun w4433 hx hF => ?_) (fun w4434 hx hF => ?_)
     ·
      subst hx
      obtain rfl := Option.some.inj hF
      have pz : HoldAll E H hn99 [.loop 0 c99_0 (F99_l0_1_S a4250 r4260.1.only_ r4350 [] 0) .ret (F99_l0_1_X0 a4250 r4260.1.only_ r4350 w4433)] := ⟨(F99_l0_1_ok K a4250 r4260.1.only_ r4350 K [] 0 _ h4431), trivial⟩
      exact fn_playC hn99 (r := F99_res (0, ([], (false, 8)))) (pq4812 (pq4813 (pq4814 (pq4825 (pq4833 (pq4834 pz)))))) (by kernel_rfl) (by kernel_rfl)
     subst hx
     obtain rfl := Option.some.inj hF
     have pz : HoldAll E H hn99 [.loop 0 c99_0 (F99_l0_1_S a4250 r4260.1.only_ r4350 [] 0) (.exit 0) (F99_l0_1_X1 a4250 r4260.1.only_ r4350 w4434)] := ⟨(F99_l0_1_ok K a4250 r4260.1.only_ r4350 K [] 0 _ h4431), trivial⟩
     exact fn_playC hn99 (r := F99_res (a4250, (w4434, (true, 0)))) (pq4812 (pq4813 (pq4814 (pq4825 (pq4833 (pq4834 pz)))))) (by kernel_rfl) (by kernel_rfl)
    obtain rfl := Option.some.inj hF
    have pz : HoldAll E H hn99 [.test r4424 false, .test (bnot false) true] := ⟨h4426, (bnot_f rfl), trivial⟩
    exact fn_playC hn99 (r := F99_res (a4249, ([], (true, 0)))) (pq4812 (pq4813 (pq4814 (pq4825 (pq4833 pz))))) (by kernel_rfl) (by kernel_rfl)
   refine cond_some hF (fun h4436 hF => ?_) (fun h4436 hF => ?_)
   ·
    refine bind_some hF (fun r4437 h4438 hF => ?_)
    have pq4835 : ∀ {l : List Cond}, HoldAll E H hn99 l → HoldAll E H hn99 (.test (igt a4247 40) false :: .test (bnot a4251) false :: .call 143 [.one (.lit (.int .i64 a4246.Prog))] (F143_res2 r4260) :: .test (leadsAny (Res.mk [(.agg [(.im (.lit (fnV 162))), (.im (.lit (fnV 159))), (.im (.lit (.bool r4260.1.only_))), (.im (.lit (fnV 163)))]), (.one (.im (.lit (.bool r4260.2))))] [])) false :: .call 68 [.agg (eGGraph a4245), .one (.lit (.int .i64 a4248))] (F68_res r4437) :: .test (leadsAny (Res.mk [(.one (.own 89 (.sl (len r4437) (flat eGEdge r4437))))] [])) false :: .test false false :: l) := fun z => ⟨(igt_eq h4258), (bnot_t h4259), (F143_ok2 _ h4436 (F143_ok K a4246.Prog _ h4261)), (leads_ok (by simp [leadsAny, RV.leads, RC.leads, leadsT, hasSl_lit, flat_ns eGEdge_ns])), (F68_ok K a4245 a4248 _ h4438), (leads_ok (by simp [leadsAny, RV.leads, RC.leads, leadsT, hasSl_lit, flat_ns eGEdge_ns])), rfl, z⟩
    refine cond_some hF (fun h4439 hF => ?_) (fun h4439 hF => ?_)
    ·
     have pq4836 : ∀ {l : List Cond}, HoldAll E H hn99 l → HoldAll E H hn99 (.test (beqb (ieq a4247 0) true) true :: .test (beqb (ieq a4247 0) true) true :: .test (beqb (ieq a4247 0) true) true :: .test (beqb (ieq a4247 0) true) true :: l) := fun z => ⟨(beqb_t h4439), (beqb_t h4439), (beqb_t h4439), (beqb_t h4439), z⟩
     refine cond_some hF (fun h4440 hF => ?_) (fun h4440 hF => ?_)
     ·
      refine bind_some hF (fun r4441 h4442 hF => ?_)
      have pq4837 : ∀ {l : List Cond}, HoldAll E H hn99 l → HoldAll E H hn99 (.test (beqb (bnot r4260.1.only_) false) true :: .test (beqb (bnot r4260.1.only_) false) true :: .test (beqb (bnot r4260.1.only_) false) true :: .test (beqb (bnot r4260.1.only_) false) true :: .test (beqb (ieq a4247 0) true) true :: .test (bnot r4260.1.only_) false :: .test (ieq a4247 0) true :: .test (beqb a4251 true) true :: .test (beqb a4251 true) true :: .test (beqb a4251 true) true :: .test (beqb a4251 true) true :: .test (beqb a4251 true) true :: .call 159 [.one (.lit (.int .i64 a4250)), .one (.lit (.int .i64 a4249))] (F159_res r4441) :: .test (leadsAny (Res.mk [(.one (.im (.lit (.bool r4441))))] [])) false :: .test a4251 true :: l) := fun z => ⟨(beqb_ff (bnot_t h4440)), (beqb_ff (bnot_t h4440)), (beqb_ff (bnot_t h4440)), (beqb_ff (bnot_t h4440)), (beqb_t h4439), (bnot_t h4440), h4439, (beqb_t h4259), (beqb_t h4259), (beqb_t h4259), (beqb_t h4259), (beqb_t h4259), (F159_ok K a4250 a4249 _ h4442), (leads_ok (by simp [leadsAny, RV.leads, RC.leads, leadsT, hasSl_lit])), h4259, z⟩
      refine cond_some hF (fun h4443 hF => ?_) (fun h4443 hF => ?_)
      ·
       have pq4838 : ∀ {l : List Cond}, HoldAll E H hn99 l → HoldAll E H hn99 (.test r4441 true :: .test (bnot true) false :: .int (nlen (len r4437)) (nlen (len r4437)) :: l) := fun z => ⟨h4443, (bnot_t rfl), rfl, z⟩
       refine bind_some hF (fun y4474 h4473 hF => ?_)
       refine sum_some hF (fun w4475 hx hF => ?_) (fun w4476 hx hF => ?_)
       ·
        subst hx
        obtain rfl := Option.some.inj hF
        have pz : HoldAll E H hn99 [.loop 0 c99_0 (F99_l0_2_S a4250 r4260.1.only_ r4437 [] 0) .ret (F99_l0_2_X0 a4250 r4260.1.only_ r4437 w4475)] := ⟨(F99_l0_2_ok K a4250 r4260.1.only_ r4437 K [] 0 _ h4473), trivial⟩
        exact fn_playC hn99 (r := F99_res (0, ([], (false, 8)))) (pq4812 (pq4813 (pq4814 (pq4835 (pq4836 (pq4837 (pq4838 pz))))))) (by kernel_rfl) (by kernel_rfl)
       subst hx
       obtain rfl := Option.some.inj hF
       have pz : HoldAll E H hn99 [.loop 0 c99_0 (F99_l0_2_S a4250 r4260.1.only_ r4437 [] 0) (.exit 0) (F99_l0_2_X1 a4250 r4260.1.only_ r4437 w4476)] := ⟨(F99_l0_2_ok K a4250 r4260.1.only_ r4437 K [] 0 _ h4473), trivial⟩
       exact fn_playC hn99 (r := F99_res (a4250, (w4476, (true, 0)))) (pq4812 (pq4813 (pq4814 (pq4835 (pq4836 (pq4837 (pq4838 pz))))))) (by kernel_rfl) (by kernel_rfl)
      refine cond_some hF (fun h4478 hF => ?_) (fun h4478 hF => ?_)
      ·
       have pq4839 : ∀ {l : List Cond}, HoldAll E H hn99 l → HoldAll E H hn99 (.test r4441 false :: .test (bnot (ieq a4248 a4246.Source)) false :: .int (nlen (len r4437)) (nlen (len r4437)) :: l) := fun z => ⟨h4443, (bnot_t h4478), rfl, z⟩
       refine bind_some hF (fun y4484 h4483 hF => ?_)
       refine sum_some hF (fun w4485 hx hF => ?_) (fun w4486 hx hF => ?_)
       ·
        subst hx
        obtain rfl := Option.some.inj hF
        have pz : HoldAll E H hn99 [.loop 0 c99_0 (F99_l0_2_S a4249 r4260.1.only_ r4437 [] 0) .ret (F99_l0_2_X0 a4249 r4260.1.only_ r4437 w4485)] := ⟨(F99_l0_2_ok K a4249 r4260.1.only_ r4437 K [] 0 _ h4483), trivial⟩
        exact fn_playC hn99 (r := F99_res (0, ([], (false, 8)))) (pq4812 (pq4813 (pq4814 (pq4835 (pq4836 (pq4837 (pq4839 pz))))))) (by kernel_rfl) (by kernel_rfl)
       subst hx
       obtain rfl := Option.some.inj hF
       have pz : HoldAll E H hn99 [.loop 0 c99_0 (F99_l0_2_S a4249 r4260.1.only_ r4437 [] 0) (.exit 0) (F99_l0_2_X1 a4249 r4260.1.only_ r4437 w4486)] := ⟨(F99_l0_2_ok K a4249 r4260.1.only_ r4437 K [] 0 _ h4483), trivial⟩
       exact fn_playC hn99 (r := F99_res (a4249, (w4486, (true, 0)))) (pq4812 (pq4813 (pq4814 (pq4835 (pq4836 (pq4837 (pq4839 pz))))))) (by kernel_rfl) (by kernel_rfl)
      obtain rfl := Option.some.inj hF
      have pz : HoldAll E H hn99 [.test r4441 false, .test (bnot (ieq a4248 a4246.Source)) true] := ⟨h4443, (bnot_f h4478), trivial⟩
      exact fn_playC hn99 (r := F99_res (a4249, ([], (true, 0)))) (pq4812 (pq4813 (pq4814 (pq4835 (pq4836 (pq4837 pz)))))) (by kernel_rfl) (by kernel_rfl)
     refine bind_some hF (fun r4488 h4489 hF => ?_)
     have pq4840 : ∀ {l : List Cond}, HoldAll E H hn99 l → HoldAll E H hn99 (.test (beqb (bnot r4260.1.only_) false) false :: .test (beqb (bnot r4260.1.only_) false) false :: .test (beqb (bnot r4260.1.only_) false) false :: .test (beqb (bnot r4260.1.only_) false) false :: .test (beqb (ieq a4247 0) true) true :: .test (bnot r4260.1.only_) true :: .test (ieq a4247 0) true :: .test (beqb a4251 true) true :: .test (beqb a4251 true) true :: .test (beqb a4251 true) true :: .test (beqb a4251 true) true :: .test (beqb a4251 true) true :: .call 159 [.one (.lit (.int .i64 a4250)), .one (.lit (.int .i64 a4249))] (F159_res r4488) :: .test (leadsAny (Res.mk [(.one (.im (.lit (.bool r4488))))] [])) false :: .test a4251 true :: l) := fun z => ⟨(beqb_ft (bnot_f h4440)), (beqb_ft (bnot_f h4440)), (beqb_ft (bnot_f h4440)), (beqb_ft (bnot_f h4440)), (beqb_t h4439), (bnot_f h4440), h4439, (beqb_t h4259), (beqb_t h4259), (beqb_t h4259), (beqb_t h4259), (beqb_t h4259), (F159_ok K a4250 a4249 _ h4489), (leads_ok (by simp [leadsAny, RV.leads, RC.leads, leadsT, hasSl_lit])), h4259, z⟩
     refine cond_some hF (fun h4490 hF => ?_) (fun h4490 hF => ?_)
     ·
      have pq4841 : ∀ {l : List Cond}, HoldAll E H hn99 l → HoldAll E H hn99 (.test r4488 true :: .test (bnot true) false :: .int (nlen (len r4437)) (nlen (len r4437)) :: l) := fun z => ⟨h4490, (bnot_t rfl), rfl, z⟩
      refine bind_some hF (fun y4496 h4495 hF => ?_)
      refine sum_some hF (fun w4497 hx hF => ?_) (fun w4498 hx hF => ?_)
      ·
       subst hx
       obtain rfl := Option.some.inj hF
       have pz : HoldAll E H hn99 [.loop 0 c99_0 (F99_l0_2_S a4250 r4260.1.only_ r4437 [] 0) .ret (F99_l0_2_X0 a4250 r4260.1.only_ r4437 w4497)] := ⟨(F99_l0_2_ok K a4250 r4260.1.only_ r4437 K [] 0 _ h4495), trivial⟩
       exact fn_playC hn99 (r := F99_res (0, ([], (false, 8)))) (pq4812 (pq4813 (pq4814 (pq4835 (pq4836 (pq4840 (pq4841 pz))))))) (by kernel_rfl) (by kernel_rfl)
      subst hx
      obtain rfl := Option.some.inj hF
      have pz : HoldAll E H hn99 [.loop 0 c99_0 (F99_l0_2_S a4250 r4260.1.only_ r4437 [] 0) (.exit 0) (F99_l0_2_X1 a4250 r4260.1.only_ r4437 w4498)] := ⟨(F99_l0_2_ok K a4250 r4260.1.only_ r4437 K [] 0 _ h4495), trivial⟩
      exact fn_playC hn99 (r := F99_res (a4250, (w4498, (true, 0)))) (pq4812 (pq4813 (pq4814 (pq4835 (pq4836 (pq4840 (pq4841 pz))))))) (by kernel_rfl) (by kernel_rfl)
     have pq4842 : ∀ {l : List Cond}, HoldAll E H hn99 l → HoldAll E H hn99 (.test r4488 false :: .test (bnot true) false :: .int (nlen (len r4437)) (nlen (len r4437)) :: l) := fun z => ⟨h4490, (bnot_t rfl), rfl, z⟩
     refine bind_some hF (fun y4505 h4504 hF => ?_)
     refine sum_some hF (fun w4506 hx hF => ?_) (fun w4507 hx hF => ?_)
     ·
      subst hx
      obtain rfl := Option.some.inj hF
      have pz : HoldAll E H hn99 [.loop 0 c99_0 (F99_l0_2_S a4249 r4260.1.only_ r4437 [] 0) .ret (F99_l0_2_X0 a4249 r4260.1.only_ r4437 w4506)] := ⟨(F99_l0_2_ok K a4249 r4260.1.only_ r4437 K [] 0 _ h4504), trivial⟩
      exact fn_playC hn99 (r := F99_res (0, ([], (false, 8)))) (pq4812 (pq4813 (pq4814 (pq4835 (pq4836 (pq4840 (pq4842 pz))))))) (by kernel_rfl) (by kernel_rfl)
     subst hx
     obtain rfl := Option.some.inj hF
     have pz : HoldAll E H hn99 [.loop 0 c99_0 (F99_l0_2_S a4249 r4260.1.only_ r4437 [] 0) (.exit 0) (F99_l0_2_X1 a4249 r4260.1.only_ r4437 w4507)] := ⟨(F99_l0_2_ok K a4249 r4260.1.only_ r4437 K [] 0 _ h4504), trivial⟩
     exact fn_playC hn99 (r := F99_res (a4249, (w4507, (true, 0)))) (pq4812 (pq4813 (pq4814 (pq4835 (pq4836 (pq4840 (pq4842 pz))))))) (by kernel_rfl) (by kernel_rfl)
    refine bind_some hF (fun r4509 h4510 hF => ?_)
    have pq4843 : ∀ {l : List Cond}, HoldAll E H hn99 l → HoldAll E H hn99 (.test (beqb (ieq a4247 0) true) false :: .test (beqb (ieq a4247 0) true) false :: .test (beqb (ieq a4247 0) true) false :: .test (beqb (ieq a4247 0) true) false :: .test (beqb (ieq a4247 0) true) false :: .test (ieq a4247 0) false :: .test (beqb a4251 true) true :: .test (beqb a4251 true) true :: .test (beqb a4251 true) true :: .test (beqb a4251 true) true :: .test (beqb a4251 true) true :: .call 159 [.one (.lit (.int .i64 a4250)), .one (.lit (.int .i64 a4249))] (F159_res r4509) :: .test (leadsAny (Res.mk [(.one (.im (.lit (.bool r4509))))] [])) false :: .test a4251 true :: l) := fun z => ⟨(beqb_t h4439), (beqb_t h4439), (beqb_t h4439), (beqb_t h4439), (beqb_t h4439), h4439, (beqb_t h4259), (beqb_t h4259), (beqb_t h4259), (beqb_t h4259), (beqb_t h4259), (F159_ok K a4250 a4249 _ h4510), (leads_ok (by simp [leadsAny, RV.leads, RC.leads, leadsT, hasSl_lit])), h4259, z⟩
    refine cond_some hF (fun h4511 hF => ?_) (fun h4511 hF => ?_)
    ·
     have pq4844 : ∀ {l : List Cond}, HoldAll E H hn99 l → HoldAll E H hn99 (.test r4509 true :: .test (bnot true) false :: .int (nlen (len r4437)) (nlen (len r4437)) :: l) := fun z => ⟨h4511, (bnot_t rfl), rfl, z⟩
     refine bind_some hF (fun y4517 h4516 hF => ?_)
     refine sum_some hF (fun w4518 hx hF => ?_) (fun w4519 hx hF => ?_)
     ·
      subst hx
      obtain rfl := Option.some.inj hF
      have pz : HoldAll E H hn99 [.loop 0 c99_0 (F99_l0_2_S a4250 r4260.1.only_ r4437 [] 0) .ret (F99_l0_2_X0 a4250 r4260.1.only_ r4437 w4518)] := ⟨(F99_l0_2_ok K a4250 r4260.1.only_ r4437 K [] 0 _ h4516), trivial⟩
      exact fn_playC hn99 (r := F99_res (0, ([], (false, 8)))) (pq4812 (pq4813 (pq4814 (pq4835 (pq4843 (pq4844 pz)))))) (by kernel_rfl) (by kernel_rfl)
     subst hx
     obtain rfl := Option.some.inj hF
     have pz : HoldAll E H hn99 [.loop 0 c99_0 (F99_l0_2_S a4250 r4260.1.only_ r4437 [] 0) (.exit 0) (F99_l0_2_X1 a4250 r4260.1.only_ r4437 w4519)] := ⟨(F99_l0_2_ok K a4250 r4260.1.only_ r4437 K [] 0 _ h4516), trivial⟩
     exact fn_playC hn99 (r := F99_res (a4250, (w4519, (true, 0)))) (pq4812 (pq4813 (pq4814 (pq4835 (pq4843 (pq4844 pz)))))) (by kernel_rfl) (by kernel_rfl)
    obtain rfl := Option.some.inj hF
    have pz : HoldAll E H hn99 [.test r4509 false, .test (bnot false) true] := ⟨h4511, (bnot_f rfl), trivial⟩
    exact fn_playC hn99 (r := F99_res (a4249, ([], (true, 0)))) (pq4812 (pq4813 (pq4814 (pq4835 (pq4843 pz))))) (by kernel_rfl) (by kernel_rfl)
   refine cond_some hF (fun h4521 hF => ?_) (fun h4521 hF => ?_)
   ·
    refine bind_some hF (fun r4522 h4523 hF => ?_)
    have pq4845 : ∀ {l : List Cond}, HoldAll E H hn99 l → HoldAll E H hn99 (.test (igt a4247 40) false :: .test (bnot a4251) false :: .call 143 [.one (.lit (.int .i64 a4246.Prog))] (F143_res3 r4260) :: .test (leadsAny (Res.mk [(.agg [(.im (.lit (fnV 164))), (.im (.lit (fnV 165))), (.im (.lit (.bool r4260.1.only_))), (.im (.lit (fnV 163)))]), (.one (.im (.lit (.bool r4260.2))))] [])) false :: .call 68 [.agg (eGGraph a4245), .one (.lit (.int .i64 a4248))] (F68_res r4522) :: .test (leadsAny (Res.mk [(.one (.own 89 (.sl (len r4522) (flat eGEdge r4522))))] [])) false :: .test false false :: l) := fun z => ⟨(igt_eq h4258), (bnot_t h4259), (F143_ok3 _ h4521 (F143_ok K a4246.Prog _ h4261)), (leads_ok (by simp [leadsAny, RV.leads, RC.leads, leadsT, hasSl_lit, flat_ns eGEdge_ns])), (F68_ok K a4245 a4248 _ h4523), (leads_ok (by simp [leadsAny, RV.leads, RC.leads, leadsT, hasSl_lit, flat_ns eGEdge_ns])), rfl, z⟩
    refine cond_some hF (fun h4524 hF => ?_) (fun h4524 hF => ?_)
    ·
     have pq4846 : ∀ {l : List Cond}, HoldAll E H hn99 l → HoldAll E H hn99 (.test (beqb (ieq a4247 0) true) true :: .test (beqb (ieq a4247 0) true) true :: .test (beqb (ieq a4247 0) true) true :: .test (beqb (ieq a4247 0) true) true :: l) := fun z => ⟨(beqb_t h4524), (beqb_t h4524), (beqb_t h4524), (beqb_t h4524), z⟩
     refine cond_some hF (fun h4525 hF => ?_) (fun h4525 hF => ?_)
     ·
      refine bind_some hF (fun r4526 h4527 hF => ?_)
      have pq4847 : ∀ {l : List Cond}, HoldAll E H hn99 l → HoldAll E H hn99 (.test (beqb (bnot r4260.1.only_) false) true :: .test (beqb (bnot r4260.1.only_) false) true :: .test (beqb (bnot r4260.1.only_) false) true :: .test (beqb (bnot r4260.1.only_) false) true :: .test (beqb (ieq a4247 0) true) true :: .test (bnot r4260.1.only_) false :: .test (ieq a4247 0) true :: .test (beqb a4251 true) true :: .test (beqb a4251 true) true :: .test (beqb a4251 true) true :: .test (beqb a4251 true) true :: .test (beqb a4251 true) true :: .call 165 [.one (.lit (.int .i64 a4250)), .one (.lit (.int .i64 a4249))] (F165_res r4526) :: .test (leadsAny (Res.mk [(.one (.im (.lit (.bool r4526))))] [])) false :: .test a4251 true :: l) := fun z => ⟨(beqb_ff (bnot_t h4525)), (beqb_ff (bnot_t h4525)), (beqb_ff (bnot_t h4525)), (beqb_ff (bnot_t h4525)), (beqb_t h4524), (bnot_t h4525), h4524, (beqb_t h4259), (beqb_t h4259), (beqb_t h4259), (beqb_t h4259), (beqb_t h4259), (F165_ok K a4250 a4249 _ h4527), (leads_ok (by simp [leadsAny, RV.leads, RC.leads, leadsT, hasSl_lit])), h4259, z⟩
      refine cond_some hF (fun h4528 hF => ?_) (fun h4528 hF => ?_)
      ·
       have pq4848 : ∀ {l : List Cond}, HoldAll E H hn99 l → HoldAll E H hn99 (.test r4526 true :: .test (bnot true) false :: .int (nlen (len r4522)) (nlen (len r4522)) :: l) := fun z => ⟨h4528, (bnot_t rfl), rfl, z⟩
       refine bind_some hF (fun y4556 h4555 hF => ?_)
       refine sum_some hF (fun w4557 hx hF => ?_) (fun w4558 hx hF => ?_)
       ·
        subst hx
        obtain rfl := Option.some.inj hF
        have pz : HoldAll E H hn99 [.loop 0 c99_0 (F99_l0_3_S a4250 r4260.1.only_ r4522 [] 0) .ret (F99_l0_3_X0 a4250 r4260.1.only_ r4522 w4557)] := ⟨(F99_l0_3_ok K a4250 r4260.1.only_ r4522 K [] 0 _ h4555), trivial⟩
        exact fn_playC hn99 (r := F99_res (0, ([], (false, 8)))) (pq4812 (pq4813 (pq4814 (pq4845 (pq4846 (pq4847 (pq4848 pz))))))) (by kernel_rfl) (by kernel_rfl)
       subst hx
       obtain rfl := Option.some.inj hF
       have pz : HoldAll E H hn99 [.loop 0 c99_0 (F99_l0_3_S a4250 r4260.1.only_ r4522 [] 0) (.exit 0) (F99_l0_3_X1 a4250 r4260.1.only_ r4522 w4558)] := ⟨(F99_l0_3_ok K a4250 r4260.1.only_ r4522 K [] 0 _ h4555), trivial⟩
       exact fn_playC hn99 (r := F99_res (a4250, (w4558, (true, 0)))) (pq4812 (pq4813 (pq4814 (pq4845 (pq4846 (pq4847 (pq4848 pz))))))) (by kernel_rfl) (by kernel_rfl)
      refine cond_some hF (fun h4560 hF => ?_) (fun h4560 hF => ?_)
      ·
       have pq4849 : ∀ {l : List Cond}, HoldAll E H hn99 l → HoldAll E H hn99 (.test r4526 false :: .test (bnot (ieq a4248 a4246.Source)) false :: .int (nlen (len r4522)) (nlen (len r4522)) :: l) := fun z => ⟨h4528, (bnot_t h4560), rfl, z⟩
       refine bind_some hF (fun y4566 h4565 hF => ?_)
       refine sum_some hF (fun w4567 hx hF => ?_) (fun w4568 hx hF => ?_)
       ·
        subst hx
        obtain rfl := Option.some.inj hF
        have pz : HoldAll E H hn99 [.loop 0 c99_0 (F99_l0_3_S a4249 r4260.1.only_ r4522 [] 0) .ret (F99_l0_3_X0 a4249 r4260.1.only_ r4522 w4567)] := ⟨(F99_l0_3_ok K a4249 r4260.1.only_ r4522 K [] 0 _ h4565), trivial⟩
        exact fn_playC hn99 (r := F99_res (0, ([], (false, 8)))) (pq4812 (pq4813 (pq4814 (pq4845 (pq4846 (pq4847 (pq4849 pz))))))) (by kernel_rfl) (by kernel_rfl)
       subst hx
       obtain rfl := Option.some.inj hF
       have pz : HoldAll E H hn99 [.loop 0 c99_0 (F99_l0_3_S a4249 r4260.1.only_ r4522 [] 0) (.exit 0) (F99_l0_3_X1 a4249 r4260.1.only_ r4522 w4568)] := ⟨(F99_l0_3_ok K a4249 r4260.1.only_ r4522 K [] 0 _ h4565), trivial⟩
       exact fn_playC hn99 (r := F99_res (a4249, (w4568, (true, 0)))) (pq4812 (pq4813 (pq4814 (pq4845 (pq4846 (pq4847 (pq4849 pz))))))) (by kernel_rfl) (by kernel_rfl)
      obtain rfl := Option.some.inj hF
      have pz : HoldAll E H hn99 [.test r4526 false, .test (bnot (ieq a4248 a4246.Source)) true] := ⟨h4528, (bnot_f h4560), trivial⟩
      exact fn_playC hn99 (r := F99_res (a4249, ([], (true, 0)))) (pq4812 (pq4813 (pq4814 (pq4845 (pq4846 (pq4847 pz)))))) (by kernel_rfl) (by kernel_rfl)
     refine bind_some hF (fun r4570 h4571 hF => ?_)
     have pq4850 : ∀ {l : List Cond}, HoldAll E H hn99 l → HoldAll E H hn99 (.test (beqb (bnot r4260.1.only_) false) false :: .test (beqb (bnot r4260.1.only_) false) false :: .test (beqb (bnot r4260.1.only_) false) false :: .test (beqb (bnot r4260.1.only_) false) false :: .test (beqb (ieq a4247 0) true) true :: .test (bnot r4260.1.only_) true :: .test (ieq a4247 0) true :: .test (beqb a4251 true) true :: .test (beqb a4251 true) true :: .test (beqb a4251 true) true :: .test (beqb a4251 true) true :: .test (beqb a4251 true) true :: .call 165 [.one (.lit (.int .i64 a4250)), .one (.lit (.int .i64 a4249))] (F165_res r4570) :: .test (leadsAny (Res.mk [(.one (.im (.lit (.bool r4570))))] [])) false :: .test a4251 true :: l) := fun z => ⟨(beqb_ft (bnot_f h4525)), (beqb_ft (bnot_f h4525)), (beqb_ft (bnot_f h4525)), (beqb_ft (bnot_f h4525)), (beqb_t h4524), (bnot_f h4525), h4524, (beqb_t h4259), (beqb_t h4259), (beqb_t h4259), (beqb_t h4259), (beqb_t h4259), (F165_ok K a4250 a4249 _ h4571), (leads_ok (by simp [leadsAny, RV.leads, RC.leads, leadsT, hasSl_lit])), h4259, z⟩
     refine cond_some hF (fun h4572 hF => ?_) (fun h4572 hF => ?_)
     ·
      have pq4851 : ∀ {l : List Cond}, HoldAll E H hn99 l → HoldAll E H hn99 (.test r4570 true :: .test (bnot true) false :: .int (nlen (len r4522)) (nlen (len r4522)) :: l) := fun z => ⟨h4572, (bnot_t rfl), rfl, z⟩
      refine bind_some hF (fun y4578 h4577 hF => ?_)
      refine sum_some hF (fun w4579 hx hF => ?_) (fun w4580 hx hF => ?_)
      ·
       subst hx
       obtain rfl := Option.some.inj hF
       have pz : HoldAll E H hn99 [.loop 0 c99_0 (F99_l0_3_S a4250 r4260.1.only_ r4522 [] 0) .ret (F99_l0_3_X0 a4250 r4260.1.only_ r4522 w4579)] := ⟨(F99_l0_3_ok K a4250 r4260.1.only_ r4522 K [] 0 _ h4577), trivial⟩
       exact fn_playC hn99 (r := F99_res (0, ([], (false, 8)))) (pq4812 (pq4813 (pq4814 (pq4845 (pq4846 (pq4850 (pq4851 pz))))))) (by kernel_rfl) (by kernel_rfl)
      subst hx
      obtain rfl := Option.some.inj hF
      have pz : HoldAll E H hn99 [.loop 0 c99_0 (F99_l0_3_S a4250 r4260.1.only_ r4522 [] 0) (.exit 0) (F99_l0_3_X1 a4250 r4260.1.only_ r4522 w4580)] := ⟨(F99_l0_3_ok K a4250 r4260.1.only_ r4522 K [] 0 _ h4577), trivial⟩
      exact fn_playC hn99 (r := F99_res (a4250, (w4580, (true, 0)))) (pq4812 (pq4813 (pq4814 (pq4845 (pq4846 (pq4850 (pq4851 pz))))))) (by kernel_rfl) (by kernel_rfl)
     have pq4852 : ∀ {l : List Cond}, HoldAll E H hn99 l → HoldAll E H hn99 (.test r4570 false :: .test (bnot true) false :: .int (nlen (len r4522)) (nlen (len r4522)) :: l) := fun z => ⟨h4572, (bnot_t rfl), rfl, z⟩
     refine bind_some hF (fun y4587 h4586 hF => ?_)
     refine sum_some hF (fun w4588 hx hF => ?_) (fun w4589 hx hF => ?_)
     ·
      subst hx
      obtain rfl := Option.some.inj hF
      have pz : HoldAll E H hn99 [.loop 0 c99_0 (F99_l0_3_S a4249 r4260.1.only_ r4522 [] 0) .ret (F99_l0_3_X0 a4249 r4260.1.only_ r4522 w4588)] := ⟨(F99_l0_3_ok K a4249 r4260.1.only_ r4522 K [] 0 _ h4586), trivial⟩
      exact fn_playC hn99 (r := F99_res (0, ([], (false, 8)))) (pq4812 (pq4813 (pq4814 (pq4845 (pq4846 (pq4850 (pq4852 pz))))))) (by kernel_rfl) (by kernel_rfl)
     subst hx
     obtain rfl := Option.some.inj hF
     have pz : HoldAll E H hn99 [.loop 0 c99_0 (F99_l0_3_S a4249 r4260.1.only_ r4522 [] 0) (.exit 0) (F99_l0_3_X1 a4249 r4260.1.only_ r4522 w4589)] := ⟨(F99_l0_3_ok K a4249 r4260.1.only_ r4522 K [] 0 _ h4586), trivial⟩
     exact fn_playC hn99 (r := F99_res (a4249, (w4589, (true, 0)))) (pq4812 (pq4813 (pq4814 (pq4845 (pq4846 (pq4850 (pq4852 pz))))))) (by kernel_rfl) (by kernel_rfl)
    refine bind_some hF (fun r4591 h4592 hF => ?_)
    have pq4853 : ∀ {l : List Cond}, HoldAll E H hn99 l → HoldAll E H hn99 (.test (beqb (ieq a4247 0) true) false :: .test (beqb (ieq a4247 0) true) false :: .test (beqb (ieq a4247 0) true) false :: .test (beqb (ieq a4247 0) true) false :: .test (beqb (ieq a4247 0) true) false :: .test (ieq a4247 0) false :: .test (beqb a4251 true) true :: .test (beqb a4251 true) true :: .test (beqb a4251 true) true :: .test (beqb a4251 true) true :: .test (beqb a4251 true) true :: .call 165 [.one (.lit (.int .i64 a4250)), .one (.lit (.int .i64 a4249))] (F165_res r4591) :: .test (leadsAny (Res.mk [(.one (.im (.lit (.bool r4591))))] [])) false :: .test a4251 true :: l) := fun z => ⟨(beqb_t h4524), (beqb_t h4524), (beqb_t h4524), (beqb_t h4524), (beqb_t h4524), h4524, (beqb_t h4259), (beqb_t h4259), (beqb_t h4259), (beqb_t h4259), (beqb_t h4259), (F165_ok K a4250 a4249 _ h4592), (leads_ok (by simp [leadsAny, RV.leads, RC.leads, leadsT, hasSl_lit])), h4259, z⟩
    refine cond_some hF (fun h4593 hF => ?_) (fun h4593 hF => ?_)
    ·
     have pq4854 : ∀ {l : List Cond}, HoldAll E H hn99 l → HoldAll E H hn99 (.test r4591 true :: .test (bnot true) false :: .int (nlen (len r4522)) (nlen (len r4522)) :: l) := fun z => ⟨h4593, (bnot_t rfl), rfl, z⟩
     refine bind_some hF (fun y4599 h4598 hF => ?_)
     refine sum_some hF (fun w4600 hx hF => ?_) (fun w4601 hx hF => ?_)
     ·
      subst hx
      obtain rfl := Option.some.inj hF
      have pz : HoldAll E H hn99 [.loop 0 c99_0 (F99_l0_3_S a4250 r4260.1.only_ r4522 [] 0) .ret (F99_l0_3_X0 a4250 r4260.1.only_ r4522 w4600)] := ⟨(F99_l0_3_ok K a4250 r4260.1.only_ r4522 K [] 0 _ h4598), trivial⟩
      exact fn_playC hn99 (r := F99_res (0, ([], (false, 8)))) (pq4812 (pq4813 (pq4814 (pq4845 (pq4853 (pq4854 pz)))))) (by kernel_rfl) (by kernel_rfl)
     subst hx
     obtain rfl := Option.some.inj hF
     have pz : HoldAll E H hn99 [.loop 0 c99_0 (F99_l0_3_S a4250 r4260.1.only_ r4522 [] 0) (.exit 0) (F99_l0_3_X1 a4250 r4260.1.only_ r4522 w4601)] := ⟨(F99_l0_3_ok K a4250 r4260.1.only_ r4522 K [] 0 _ h4598), trivial⟩
     exact fn_playC hn99 (r := F99_res (a4250, (w4601, (true, 0)))) (pq4812 (pq4813 (pq4814 (pq4845 (pq4853 (pq4854 pz)))))) (by kernel_rfl) (by kernel_rfl)
    obtain rfl := Option.some.inj hF
    have pz : HoldAll E H hn99 [.test r4591 false, .test (bnot false) true] := ⟨h4593, (bnot_f rfl), trivial⟩
    exact fn_playC hn99 (r := F99_res (a4249, ([], (true, 0)))) (pq4812 (pq4813 (pq4814 (pq4845 (pq4853 pz))))) (by kernel_rfl) (by kernel_rfl)
   refine cond_some hF (fun h4603 hF => ?_) (fun h4603 hF => ?_)
   ·
    refine bind_some hF (fun r4604 h4605 hF => ?_)
    refine bind_some hF (fun r4697 h4698 hF => ?_)
    obtain rfl := Option.some.inj hF
    have pz : HoldAll E H hn99 [.test (igt a4247 40) false, .test (bnot a4251) false, .call 143 [.one (.lit (.int .i64 a4246.Prog))] (F143_res4 r4260), .test (leadsAny (Res.mk [(.agg [(.im (.lit (fnV 166))), (.im (.lit .nilFunc)), (.im (.lit (.bool r4260.1.only_))), (.im (.lit (fnV 163)))]), (.one (.im (.lit (.bool r4260.2))))] [])) false, .call 68 [.agg (eGGraph a4245), .one (.lit (.int .i64 a4248))] (F68_res r4604), .test (leadsAny (Res.mk [(.one (.own 89 (.sl (len r4604) (flat eGEdge r4604))))] [])) false, .test true true, .call 146 [.one (.sl (len r4604) (flat eGEdge r4604)), .one (.lit (.int .i64 a4247)), .one (.lit (.int .i64 a4249)), .one (.lit (.int .i64 a4250))] (F146_res r4697), .test (leadsAny (Res.mk [(.one (.im (.lit (.int .i64 r4697.1)))), (.one (.own 130 (.sl (len r4697.2.1) (flat eGMsg r4697.2.1)))), (.one (.im (.lit (.bool r4697.2.2.1)))), (.one (.im (.lit (.int .i64 r4697.2.2.2))))] [])) false] := ⟨(igt_eq h4258), (bnot_t h4259), (F143_ok4 _ h4603 (F143_ok K a4246.Prog _ h4261)), (leads_ok (by simp [leadsAny, RV.leads, RC.leads, leadsT, hasSl_lit, flat_ns eGEdge_ns, flat_ns eGMsg_ns])), (F68_ok K a4245 a4248 _ h4605), (leads_ok (by simp [leadsAny, RV.leads, RC.leads, leadsT, hasSl_lit, flat_ns eGEdge_ns, flat_ns eGMsg_ns])), rfl, (F146_ok K r4604 a4247 a4249 a4250 _ h4698), (leads_ok (by simp [leadsAny, RV.leads, RC.leads, leadsT, hasSl_lit, flat_ns eGEdge_ns, flat_ns eGMsg_ns])), trivial⟩
    exact fn_playC hn99 (r := F99_res (r4697.1, (r4697.2.1, (r4697.2.2.1, r4697.2.2.2)))) (pq4812 (pq4813 (pq4814 pz))) (by kernel_rfl) (by kernel_rfl)
   refine cond_some hF (fun h4699 hF => ?_) (fun _ hF => nomatch hF)
   refine bind_some hF (fun r4700 h4701 hF => ?_)
   refine bind_some hF (fun r4702 h4703 hF => ?_)
   obtain rfl := Option.some.inj hF
   have pz : HoldAll E H hn99 [.test (igt a4247 40) false, .test (bnot a4251) false, .call 143 [.one (.lit (.int .i64 a4246.Prog))] (F143_res5 r4260), .test (leadsAny (Res.mk [(.agg [(.im (.lit .nilFunc)), (.im (.lit .nilFunc)), (.im (.lit (.bool r4260.1.only_))), (.im (.lit .nilFunc))]), (.one (.im (.lit (.bool r4260.2))))] [])) false, .call 68 [.agg (eGGraph a4245), .one (.lit (.int .i64 a4248))] (F68_res r4700), .test (leadsAny (Res.mk [(.one (.own 89 (.sl (len r4700) (flat eGEdge r4700))))] [])) false, .test true true, .call 146 [.one (.sl (len r4700) (flat eGEdge r4700)), .one (.lit (.int .i64 a4247)), .one (.lit (.int .i64 a4249)), .one (.lit (.int .i64 a4250))] (F146_res r4702), .test (leadsAny (Res.mk [(.one (.im (.lit (.int .i64 r4702.1)))), (.one (.own 130 (.sl (len r4702.2.1) (flat eGMsg r4702.2.1)))), (.one (.im (.lit (.bool r4702.2.2.1)))), (.one (.im (.lit (.int .i64 r4702.2.2.2))))] [])) false] := ⟨(igt_eq h4258), (bnot_t h4259), (F143_ok5 _ h4699 (F143_ok K a4246.Prog _ h4261)), (leads_ok (by simp [leadsAny, RV.leads, RC.leads, leadsT, hasSl_lit, flat_ns eGEdge_ns, flat_ns eGMsg_ns])), (F68_ok K a4245 a4248 _ h4701), (leads_ok (by simp [leadsAny, RV.leads, RC.leads, leadsT, hasSl_lit, flat_ns eGEdge_ns, flat_ns eGMsg_ns])), rfl, (F146_ok K r4700 a4247 a4249 a4250 _ h4703), (leads_ok (by simp [leadsAny, RV.leads, RC.leads, leadsT, hasSl_lit, flat_ns eGEdge_ns, flat_ns eGMsg_ns])), trivial⟩
   exact fn_playC hn99 (r := F99_res (r4702.1, (r4702.2.1, (r4702.2.2.1, r4702.2.2.2)))) (pq4812 (pq4813 (pq4814 pz))) (by kernel_rfl) (by kernel_rfl)
  refine bind_some hF (fun r4704 h4705 hF => ?_)
  refine cond_some hF (fun h4706 hF => ?_) (fun h4706 hF => ?_)
  ·
   refine bind_some hF (fun r4707 h4708 hF => ?_)
   have pq4855 : ∀ {l : List Cond}, HoldAll E H hn99 l → HoldAll E H hn99 (.test (igt a4247 40) false :: .test (bnot a4251) true :: .call 143 [.one (.lit (.int .i64 a4246.Prog))] (F143_res0 r4704) :: .test (leadsAny (Res.mk [(.agg [(.im (.lit (fnV 158))), (.im (.lit (fnV 159))), (.im (.lit (.bool r4704.1.only_))), (.im (.lit (fnV 160)))]), (.one (.im (.lit (.bool r4704.2))))] [])) false :: .call 68 [.agg (eGGraph a4245), .one (.lit (.int .i64 a4248))] (F68_res r4707) :: .test (leadsAny (Res.mk [(.one (.own 89 (.sl (len r4707) (flat eGEdge r4707))))] [])) false :: .test false false :: l) := fun z => ⟨(igt_eq h4258), (bnot_f h4259), (F143_ok0 _ h4706 (F143_ok K a4246.Prog _ h4705)), (leads_ok (by simp [leadsAny, RV.leads, RC.leads, leadsT, hasSl_lit, flat_ns eGEdge_ns])), (F68_ok K a4245 a4248 _ h4708), (leads_ok (by simp [leadsAny, RV.leads, RC.leads, leadsT, hasSl_lit, flat_ns eGEdge_ns])), rfl, z⟩
   refine cond_some hF (fun h4709 hF => ?_) (fun h4709 hF => ?_)
   ·
    have pq4856 : ∀ {l : List Cond}, HoldAll E H hn99 l → HoldAll E H hn99 (.test (beqb (ieq a4247 0) true) true :: .test (beqb (ieq a4247 0) true) true :: .test (beqb (ieq a4247 0) true) true :: .test (beqb (ieq a4247 0) true) true :: l) := fun z => ⟨(beqb_t h4709), (beqb_t h4709), (beqb_t h4709), (beqb_t h4709), z⟩
    refine cond_some hF (fun h4710 hF => ?_) (fun h4710 hF => ?_)
    ·
     have pq4857 : ∀ {l : List Cond}, HoldAll E H hn99 l → HoldAll E H hn99 (.test (beqb (bnot r4704.1.only_) false) true :: .test (beqb (bnot r4704.1.only_) false) true :: .test (beqb (bnot r4704.1.only_) false) true :: .test (beqb (bnot r4704.1.only_) false) true :: .test (beqb (ieq a4247 0) true) true :: .test (bnot r4704.1.only_) false :: .test (ieq a4247 0) true :: .test (beqb a4251 true) false :: .test (beqb a4251 true) false :: .test (beqb a4251 true) false :: .test (beqb a4251 true) false :: .test (beqb a4251 true) false :: .test a4251 false :: .test false false :: l) := fun z => ⟨(beqb_ff (bnot_t h4710)), (beqb_ff (bnot_t h4710)), (beqb_ff (bnot_t h4710)), (beqb_ff (bnot_t h4710)), (beqb_t h4709), (bnot_t h4710), h4709, (beqb_t h4259), (beqb_t h4259), (beqb_t h4259), (beqb_t h4259), (beqb_t h4259), h4259, rfl, z⟩
     refine cond_some hF (fun h4711 hF => ?_) (fun h4711 hF => ?_)
     ·
      refine bind_some hF (fun y4717 h4716 hF => ?_)
      refine sum_some hF (fun w4718 hx hF => ?_) (fun w4719 hx hF => ?_)
      ·
       subst hx
       obtain rfl := Option.some.inj hF
       have pz : HoldAll E H hn99 [.test (bnot (ieq a4248 a4246.Source)) false, .int (nlen (len r4707)) (nlen (len r4707)), .loop 0 c99_0 (F99_l0_0_S a4249 r4704.1.only_ r4707 [] 0) .ret (F99_l0_0_X0 a4249 r4704.1.only_ r4707 w4718)] := ⟨(bnot_t h4711), rfl, (F99_l0_0_ok K a4249 r4704.1.only_ r4707 K [] 0 _ h4716), trivial⟩
       exact fn_playC hn99 (r := F99_res (0, ([], (false, 8)))) (pq4812 (pq4813 (pq4814 (pq4855 (pq4856 (pq4857 pz)))))) (by kernel_rfl) (by kernel_rfl)
      subst hx
      obtain rfl := Option.some.inj hF
      have pz : HoldAll E H hn99 [.test (bnot (ieq a4248 a4246.Source)) false, .int (nlen (len r4707)) (nlen (len r4707)), .loop 0 c99_0 (F99_l0_0_S a4249 r4704.1.only_ r4707 [] 0) (.exit 0) (F99_l0_0_X1 a4249 r4704.1.only_ r4707 w4719)] := ⟨(bnot_t h4711), rfl, (F99_l0_0_ok K a4249 r4704.1.only_ r4707 K [] 0 _ h4716), trivial⟩
      exact fn_playC hn99 (r := F99_res (a4249, (w4719, (true, 0)))) (pq4812 (pq4813 (pq4814 (pq4855 (pq4856 (pq4857 pz)))))) (by kernel_rfl) (by kernel_rfl)
     obtain rfl := Option.some.inj hF
     have pz : HoldAll E H hn99 [.test (bnot (ieq a4248 a4246.Source)) true] := ⟨(bnot_f h4711), trivial⟩
     exact fn_playC hn99 (r := F99_res (a4249, ([], (true, 0)))) (pq4812 (pq4813 (pq4814 (pq4855 (pq4856 (pq4857 pz)))))) (by kernel_rfl) (by kernel_rfl)
    have pq4858 : ∀ {l : List Cond}, HoldAll E H hn99 l → HoldAll E H hn99 (.test (beqb (bnot r4704.1.only_) false) false :: .test (beqb (bnot r4704.1.only_) false) false :: .test (beqb (bnot r4704.1.only_) false) false :: .test (beqb (bnot r4704.1.only_) false) false :: .test (beqb (ieq a4247 0) true) true :: .test (bnot r4704.1.only_) true :: .test (ieq a4247 0) true :: .test (beqb a4251 true) false :: .test (beqb a4251 true) false :: .test (beqb a4251 true) false :: .test (beqb a4251 true) false :: .test (beqb a4251 true) false :: .test a4251 false :: .test false false :: .test (bnot true) false :: .int (nlen (len r4707)) (nlen (len r4707)) :: l) := fun z => ⟨(beqb_ft (bnot_f h4710)), (beqb_ft (bnot_f h4710)), (beqb_ft (bnot_f h4710)), (beqb_ft (bnot_f h4710)), (beqb_t h4709), (bnot_f h4710), h4709, (beqb_t h4259), (beqb_t h4259), (beqb_t h4259), (beqb_t h4259), (beqb_t h4259), h4259, rfl, (bnot_t rfl), rfl, z⟩
    refine bind_some hF (fun y4726 h4725 hF => ?_)
    refine sum_some hF (fun w4727 hx hF => ?_) (fun w4728 hx hF => ?_)
    ·
     subst hx
     obtain rfl := Option.some.inj hF
     have pz : HoldAll E H hn99 [.loop 0 c99_0 (F99_l0_0_S a4249 r4704.1.only_ r4707 [] 0) .ret (F99_l0_0_X0 a4249 r4704.1.only_ r4707 w4727)] := ⟨(F99_l0_0_ok K a4249 r4704.1.only_ r4707 K [] 0 _ h4725), trivial⟩
     exact fn_playC hn99 (r := F99_res (0, ([], (false, 8)))) (pq4812 (pq4813 (pq4814 (pq4855 (pq4856 (pq4858 pz)))))) (by kernel_rfl) (by kernel_rfl)
    subst hx
    obtain rfl := Option.some.inj hF
    have pz : HoldAll E H hn99 [.loop 0 c99_0 (F99_l0_0_S a4249 r4704.1.only_ r4707 [] 0) (.exit 0) (F99_l0_0_X1 a4249 r4704.1.only_ r4707 w4728)] := ⟨(F99_l0_0_ok K a4249 r4704.1.only_ r4707 K [] 0 _ h4725), trivial⟩
    exact fn_playC hn99 (r := F99_res (a4249, (w4728, (true, 0)))) (pq4812 (pq4813 (pq4814 (pq4855 (pq4856 (pq4858 pz)))))) (by kernel_rfl) (by kernel_rfl)
   obtain rfl := Option.some.inj hF
   have pz : HoldAll E H hn99 [.test (beqb (ieq a4247 0) true) false, .test (beqb (ieq a4247 0) true) false, .test (beqb (ieq a4247 0) true) false, .test (beqb (ieq a4247 0) true) false, .test (beqb (ieq a4247 0) true) false, .test (ieq a4247 0) false, .test (beqb a4251 true) false, .test (beqb a4251 true) false, .test (beqb a4251 true) false, .test (beqb a4251 true) false, .test (beqb a4251 true) false, .test a4251 false, .test false false, .test (bnot false) true] := ⟨(beqb_t h4709), (beqb_t h4709), (beqb_t h4709), (beqb_t h4709), (beqb_t h4709), h4709, (beqb_t h4259), (beqb_t h4259), (beqb_t h4259), (beqb_t h4259), (beqb_t h4259), h4259, rfl, (bnot_f rfl), trivial⟩
   exact fn_playC hn99 (r := F99_res (a4249, ([], (true, 0)))) (pq4812 (pq4813 (pq4814 (pq4855 pz)))) (by kernel_rfl) (by kernel_rfl)
  refine cond_some hF (fun h4730 hF => ?_) (fun h4730 hF => ?_)
  ·
   refine bind_some hF (fun r4731 h4732 hF => ?_)
   have pq4859 : ∀ {l : List Cond}, HoldAll E H hn99 l → HoldAll E H hn99 (.test (igt a4247 40) false :: .test (bnot a4251) true :: .call 143 [.one (.lit (.int .i64 a4246.Prog))] (F143_res1 r4704) :: .test (leadsAny (Res.mk [(.agg [(.im (.lit (fnV 158))), (.im (.lit (fnV 159))), (.im (.lit (.bool r4704.1.only_))), (.im (.lit (fnV 161)))]), (.one (.im (.lit (.bool r4704.2))))] [])) false :: .call 68 [.agg (eGGraph a4245), .one (.lit (.int .i64 a4248))] (F68_res r4731) :: .test (leadsAny (Res.mk [(.one (.own 89 (.sl (len r4731) (flat eGEdge r4731))))] [])) false :: .test false false :: l) := fun z => ⟨(igt_eq h4258), (bnot_f h4259), (F143_ok1 _ h4730 (F143_ok K a4246.Prog _ h4705)), (leads_ok (by simp [leadsAny, RV.leads, RC.leads, leadsT, hasSl_lit, flat_ns eGEdge_ns])), (F68_ok K a4245 a4248 _ h4732), (leads_ok (by simp [leadsAny, RV.leads, RC.leads, leadsT, hasSl_lit, flat_ns eGEdge_ns])), rfl, z⟩
   refine cond_some hF (fun h4733 hF => ?_) (fun h4733 hF => ?_)
   ·
    have pq4860 : ∀ {l : List Cond}, HoldAll E H hn99 l → HoldAll E H hn99 (.test (beqb (ieq a4247 0) true) true :: .test (beqb (ieq a4247 0) true) true :: .test (beqb (ieq a4247 0) true) true :: .test (beqb (ieq a4247 0) true) true :: l) := fun z => ⟨(beqb_t h4733), (beqb_t h4733), (beqb_t h4733), (beqb_t h4733), z⟩
    refine cond_some hF (fun h4734 hF => ?_) (fun h4734 hF => ?_)
    ·
     have pq4861 : ∀ {l : List Cond}, HoldAll E H hn99 l → HoldAll E H hn99 (.test (beqb (bnot r4704.1.only_) false) true :: .test (beqb (bnot r4704.1.only_) false) true :: .test (beqb (bnot r4704.1.only_) false) true :: .test (beqb (bnot r4704.1.only_) false) true :: .test (beqb (ieq a4247 0) true) true :: .test (bnot r4704.1.only_) false :: .test (ieq a4247 0) true :: .test (beqb a4251 true) false :: .test (beqb a4251 true) false :: .test (beqb a4251 true) false :: .test (beqb a4251 true) false :: .test (beqb a4251 true) false :: .test a4251 false :: .test false false :: l) := fun z => ⟨(beqb_ff (bnot_t h4734)), (beqb_ff (bnot_t h4734)), (beqb_ff (bnot_t h4734)), (beqb_ff (bnot_t h4734)), (beqb_t h4733), (bnot_t h4734), h4733, (beqb_t h4259), (beqb_t h4259), (beqb_t h4259), (beqb_t h4259), (beqb_t h4259), h4259, rfl, z⟩
     refine cond_some hF (fun h4735 hF => ?_) (fun h4735 hF => ?_)
     ·
      refine bind_some hF (fun y4741 h4740 hF => ?_)
      refine sum_some hF (fun w4742 hx hF => ?_) (fun w4743 hx hF => ?_)
      ·
       subst hx
       obtain rfl := Option.some.inj hF
       have pz : HoldAll E H hn99 [.test (bnot (ieq a4248 a4246.Source)) false, .int (nlen (len r4731)) (nlen (len r4731)), .loop 0 c99_0 (F99_l0_1_S a4249 r4704.1.only_ r4731 [] 0) .ret (F99_l0_1_X0 a4249 r4704.1.only_ r4731 w4742)] := ⟨(bnot_t h4735), rfl, (F99_l0_1_ok K a4249 r4704.1.only_ r4731 K [] 0 _ h4740), trivial⟩
       exact fn_playC hn99 (r := F99_res (0, ([], (false, 8)))) (pq4812 (pq4813 (pq4814 (pq4859 (pq4860 (pq4861 pz)))))) (by kernel_rfl) (by kernel_rfl)
      subst hx
      obtain rfl := Option.some.inj hF
      have pz : HoldAll E H hn99 [.test (bnot (ieq a4248 a4246.Source)) false, .int (nlen (len r4731)) (nlen (len r4731)), .loop 0 c99_0 (F99_l0_1_S a4249 r4704.1.only_ r4731 [] 0) (.exit 0) (F99_l0_1_X1 a4249 r4704.1.only_ r4731 w4743)] := ⟨(bnot_t h4735), rfl, (F99_l0_1_ok K a4249 r4704.1.only_ r4731 K [] 0 _ h4740), trivial⟩
      exact fn_playC hn99 (r := F99_res (a4249, (w4743, (true, 0)))) (pq4812 (pq4813 (pq4814 (pq4859 (pq4860 (pq4861 pz)))))) (by kernel_rfl) (by kernel_rfl)
     obtain rfl := Option.some.inj hF
     have pz : HoldAll E H hn99 [.test (bnot (ieq a4248 a4246.Source)) true] := ⟨(bnot_f h4735), trivial⟩
     exact fn_playC hn99 (r := F99_res (a4249, ([], (true, 0)))) (pq4812 (pq4813 (pq4814 (pq4859 (pq4860 (pq4861 pz)))))) (by kernel_rfl) (by kernel_rfl)
    have pq4862 : ∀ {l : List Cond}, HoldAll E H hn99 l → HoldAll E H hn99 (.test (beqb (bnot r4704.1.only_) false) false :: .test (beqb (bnot r4704.1.only_) false) false :: .test (beqb (bnot r4704.1.only_) false) false :: .test (beqb (bnot r4704.1.only_) false) false :: .test (beqb (ieq a4247 0) true) true :: .test (bnot r4704.1.only_) true :: .test (ieq a4247 0) true :: .test (beqb a4251 true) false :: .test (beqb a4251 true) false :: .test (beqb a4251 true) false :: .test (beqb a4251 true) false :: .test (beqb a4251 true) false :: .test a4251 false :: .test false false :: .test (bnot true) false :: .int (nlen (len r4731)) (nlen (len r4731)) :: l) := fun z => ⟨(beqb_ft (bnot_f h4734)), (beqb_ft (bnot_f h4734)), (beqb_ft (bnot_f h4734)), (beqb_ft (bnot_f h4734)), (beqb_t h4733), (bnot_f h4734), h4733, (beqb_t h4259), (beqb_t h4259), (beqb_t h4259), (beqb_t h4259), (beqb_t h4259), h4259, rfl, (bnot_t rfl), rfl, z⟩
    refine bind_some hF (fun y4750 h4749 hF => ?_)
    refine sum_some hF (fun w4751 hx hF => ?_) (fun w4752 hx hF => ?_)
    ·
     subst hx
     obtain rfl := Option.some.inj hF
     have pz : HoldAll E H hn99 [.loop 0 c99_0 (F99_l0_1_S a4249 r4704.1.only_ r4731 [] 0) .ret (F99_l0_1_X0 a4249 r4704.1.only_ r4731 w4751)] := ⟨(F99_l0_1_ok K a4249 r4704.1.only_ r4731 K [] 0 _ h4749), trivial⟩
     exact fn_playC hn99 (r := F99_res (0, ([], (false, 8)))) (pq4812 (pq4813 (pq4814 (pq4859 (pq4860 (pq4862 pz)))))) (by kernel_rfl) (by kernel_rfl)
    subst hx
    obtain rfl := Option.some.inj hF
    have pz : HoldAll E H hn99 [.loop 0 c99_0 (F99_l0_1_S a4249 r4704.1.only_ r4731 [] 0) (.exit 0) (F99_l0_1_X1 a4249 r4704.1.only_ r4731 w4752)] := ⟨(F99_l0_1_ok K a4249 r4704.1.only_ r4731 K [] 0 _ h4749), trivial⟩
    exact fn_playC hn99 (r := F99_res (a4249, (w4752, (true, 0)))) (pq4812 (pq4813 (pq4814 (pq4859 (pq4860 (pq4862 pz)))))) (by kernel_rfl) (by kernel_rfl)
   obtain rfl := Option.some.inj hF
   have pz : HoldAll E H hn99 [.test (beqb (ieq a4247 0) true) false, .test (beqb (ieq a4247 0) true) false, .test (beqb (ieq a4247 0) true) false, .test (beqb (ieq a4247 0) true) false, .test (beqb (ieq a4247 0) true) false, .test (ieq a4247 0) false, .test (beqb a4251 true) false, .test (beqb a4251 true) false, .test (beqb a4251 true) false, .test (beqb a4251 true) false, .test (beqb a4251 true) false, .test a4251 false, .test false false, .test (bnot false) true] := ⟨(beqb_t h4733), (beqb_t h4733), (beqb_t h4733), (beqb_t h4733), (beqb_t h4733), h4733, (beqb_t h4259), (beqb_t h4259), (beqb_t h4259), (beqb_t h4259), (beqb_t h4259), h4259, rfl, (bnot_f rfl), trivial⟩
   exact fn_playC hn99 (r := F99_res (a4249, ([], (true, 0)))) (pq4812 (pq4813 (pq4814 (pq4859 pz)))) (by kernel_rfl) (by kernel_rfl)
  refine cond_some hF (fun h4754 hF => ?_) (fun h4754 hF => ?_)
  ·
   refine bind_some hF (fun r4755 h4756 hF => ?_)
   have pq4863 : ∀ {l : List Cond}, HoldAll E H hn99 l → HoldAll E H hn99 (.test (igt a4247 40) false :: .test (bnot a4251) true :: .call 143 [.one (.lit (.int .i64 a4246.Prog))] (F143_res2 r4704) :: .test (leadsAny (Res.mk [(.agg [(.im (.lit (fnV 162))), (.im (.lit (fnV 159))), (.im (.lit (.bool r4704.1.only_))), (.im (.lit (fnV 163)))]), (.one (.im (.lit (.bool r4704.2))))] [])) false :: .call 68 [.agg (eGGraph a4245), .one (.lit (.int .i64 a4248))] (F68_res r4755) :: .test (leadsAny (Res.mk [(.one (.own 89 (.sl (len r4755) (flat eGEdge r4755))))] [])) false :: .test false false :: l) := fun z => ⟨(igt_eq h4258), (bnot_f h4259), (F143_ok2 _ h4754 (F143_ok K a4246.Prog _ h4705)), (leads_ok (by simp [leadsAny, RV.leads, RC.leads, leadsT, hasSl_lit, flat_ns eGEdge_ns])), (F68_ok K a4245 a4248 _ h4756), (leads_ok (by simp [leadsAny, RV.leads, RC.leads, leadsT, hasSl_lit, flat_ns eGEdge_ns])), rfl, z⟩
   refine cond_some hF (fun h4757 hF => ?_) (fun h4757 hF => ?_)
   ·
    have pq4864 : ∀ {l : List Cond}, HoldAll E H hn99 l → HoldAll E H hn99 (.test (beqb (ieq a4247 0) true) true :: .test (beqb (ieq a4247 0) true) true :: .test (beqb (ieq a4247 0) true) true :: .test (beqb (ieq a4247 0) true) true :: l) := fun z => ⟨(beqb_t h4757), (beqb_t h4757), (beqb_t h4757), (beqb_t h4757), z⟩
    refine cond_some hF (fun h4758 hF => ?_) (fun h4758 hF => ?_)
    ·
     have pq4865 : ∀ {l : List Cond}, HoldAll E H hn99 l → HoldAll E H hn99 (.test (beqb (bnot r4704.1.only_) false) true :: .test (beqb (bnot r4704.1.only_) false) true :: .test (beqb (bnot r4704.1.only_) false) true :: .test (beqb (bnot r4704.1.only_) false) true :: .test (beqb (ieq a4247 0) true) true :: .test (bnot r4704.1.only_) false :: .test (ieq a4247 0) true :: .test (beqb a4251 true) false :: .test (beqb a4251 true) false :: .test (beqb a4251 true) false :: .test (beqb a4251 true) false :: .test (beqb a4251 true) false :: .test a4251 false :: .test false false :: l) := fun z => ⟨(beqb_ff (bnot_t h4758)), (beqb_ff (bnot_t h4758)), (beqb_ff (bnot_t h4758)), (beqb_ff (bnot_t h4758)), (beqb_t h4757), (bnot_t h4758), h4757, (beqb_t h4259), (beqb_t h4259), (beqb_t h4259), (beqb_t h4259), (beqb_t h4259), h4259, rfl, z⟩
     refine cond_some hF (fun h4759 hF => ?_) (fun h4759 hF => ?_)
     ·
      refine bind_some hF (fun y4765 h4764 hF => ?_)
      refine sum_some hF (fun w4766 hx hF => ?_) (fun w4767 hx hF => ?_)
      ·
       subst hx
       obtain rfl := Option.some.inj hF
       have pz : HoldAll E H hn99 [.test (bnot (ieq a4248 a4246.Source)) false, .int (nlen (len r4755)) (nlen (len r4755)), .loop 0 c99_0 (F99_l0_2_S a4249 r4704.1.only_ r4755 [] 0) .ret (F99_l0_2_X0 a4249 r4704.1.only_ r4755 w4766)] := ⟨(bnot_t h4759), rfl, (F99_l0_2_ok K a4249 r4704.1.only_ r4755 K [] 0 _ h4764), trivial⟩
       exact fn_playC hn99 (r := F99_res (0, ([], (false, 8)))) (pq4812 (pq4813 (pq4814 (pq4863 (pq4864 (pq4865 pz)))))) (by kernel_rfl) (by kernel_rfl)
      subst hx
      obtain rfl := Option.some.inj hF
      have pz : HoldAll E H hn99 [.test (bnot (ieq a4248 a4246.Source)) false, .int (nlen (len r4755)) (nlen (len r4755)), .loop 0 c99_0 (F99_l0_2_S a4249 r4704.1.only_ r4755 [] 0) (.exit 0) (F99_l0_2_X1 a4249 r4704.1.only_ r4755 w4767)] := ⟨(bnot_t h4759), rfl, (F99_l0_2_ok K a4249 r4704.1.only_ r4755 K [] 0 _ h4764), trivial⟩
      exact fn_playC hn99 (r := F99_res (a4249, (w4767, (true, 0)))) (pq4812 (pq4813 (pq4814 (pq4863 (pq4864 (pq4865 pz)))))) (by kernel_rfl) (by kernel_rfl)
     obtain rfl := Option.some.inj hF
     have pz : HoldAll E H hn99 [.test (bnot (ieq a4248 a4246.Source)) true] := ⟨(bnot_f h4759), trivial⟩
     exact fn_playC hn99 (r := F99_res (a4249, ([], (true, 0)))) (pq4812 (pq4813 (pq4814 (pq4863 (pq4864 (pq4865 pz)))))) (by kernel_rfl) (by kernel_rfl)
    have pq4866 : ∀ {l : List Cond}, HoldAll E H hn99 l → HoldAll E H hn99 (.test (beqb (bnot r4704.1.only_) false) false :: .test (beqb (bnot r4704.1.only_) false) false :: .test (beqb (bnot r4704.1.only_) false) false :: .test (beqb (bnot r4704.1.only_) false) false :: .test (beqb (ieq a4247 0) true) true :: .test (bnot r4704.1.only_) true :: .test (ieq a4247 0) true :: .test (beqb a4251 true) false :: .test (beqb a4251 true) false :: .test (beqb a4251 true) false :: .test (beqb a4251 true) false :: .test (beqb a4251 true) false :: .test a4251 false :: .test false false :: .test (bnot true) false :: .int (nlen (len r4755)) (nlen (len r4755)) :: l) := fun z => ⟨(beqb_ft (bnot_f h4758)), (beqb_ft (bnot_f h4758)), (beqb_ft (bnot_f h4758)), (beqb_ft (bnot_f h4758)), (beqb_t h4757), (bnot_f h4758), h4757, (beqb_t h4259), (beqb_t h4259), (beqb_t h4259), (beqb_t h4259), (beqb_t h4259), h4259, rfl, (bnot_t rfl), rfl, z⟩
    refine bind_some hF (fun y4774 h4773 hF => ?_)
    refine sum_some hF (fun w4775 hx hF => ?_) (fun w4776 hx hF => ?_)
    ·
     subst hx
     obtain rfl := Option.some.inj hF
     have pz : HoldAll E H hn99 [.loop 0 c99_0 (F99_l0_2_S a4249 r4704.1.only_ r4755 [] 0) .ret (F99_l0_2_X0 a4249 r4704.1.only_ r4755 w4775)] := ⟨(F99_l0_2_ok K a4249 r4704.1.only_ r4755 K [] 0 _ h4773), trivial⟩
     exact fn_playC hn99 (r := F99_res (0, ([], (false, 8)))) (pq4812 (pq4813 (pq4814 (pq4863 (pq4864 (pq4866 pz)))))) (by kernel_rfl) (by kernel_rfl)
    subst hx
    obtain rfl := Option.some.inj hF
    have pz : HoldAll E H hn99 [.loop 0 c99_0 (F99_l0_2_S a4249 r4704.1.only_ r4755 [] 0) (.exit 0) (F99_l0_2_X1 a4249 r4704.1.only_ r4755 w4776)] := ⟨(F99_l0_2_ok K a4249 r4704.1.only_ r4755 K [] 0 _ h4773), trivial⟩
    exact fn_playC hn99 (r := F99_res (a4249, (w4776, (true, 0)))) (pq4812 (pq4813 (pq4814 (pq4863 (pq4864 (pq4866 pz)))))) (by kernel_rfl) (by kernel_rfl)
   obtain rfl := Option.some.inj hF
   have pz : HoldAll E H hn99 [.test (beqb (ieq a4247 0) true) false, .test (beqb (ieq a4247 0) true) false, .test (beqb (ieq a4247 0) true) false, .test (beqb (ieq a4247 0) true) false, .test (beqb (ieq a4247 0) true) false, .test (ieq a4247 0) false, .test (beqb a4251 true) false, .test (beqb a4251 true) false, .test (beqb a4251 true) false, .test (beqb a4251 true) false, .test (beqb a4251 true) false, .test a4251 false, .test false false, .test (bnot false) true] := ⟨(beqb_t h4757), (beqb_t h4757), (beqb_t h4757), (beqb_t h4757), (beqb_t h4757), h4757, (beqb_t h4259), (beqb_t h4259), (beqb_t h4259), (beqb_t h4259), (beqb_t h4259), h4259, rfl, (bnot_f rfl), trivial⟩
   exact fn_playC hn99 (r := F99_res (a4249, ([], (true, 0)))) (pq4812 (pq4813 (pq4814 (pq4863 pz)))) (by kernel_rfl) (by kernel_rfl)
  refine cond_some hF (fun h4778 hF => ?_) (fun h4778 hF => ?_)
  ·
   refine bind_some hF (fun r4779 h4780 hF => ?_)
   have pq4867 : ∀ {l : List Cond}, HoldAll E H hn99 l → HoldAll E H hn99 (.test (igt a4247 40) false :: .test (bnot a4251) true :: .call 143 [.one (.lit (.int .i64 a4246.Prog))] (F143_res3 r4704) :: .test (leadsAny (Res.mk [(.agg [(.im (.lit (fnV 164))), (.im (.lit (fnV 165))), (.im (.lit (.bool r4704.1.only_))), (.im (.lit (fnV 163)))]), (.one (.im (.lit (.bool r4704.2))))] [])) false :: .call 68 [.agg (eGGraph a4245), .one (.lit (.int .i64 a4248))] (F68_res r4779) :: .test (leadsAny (Res.mk [(.one (.own 89 (.sl (len r4779) (flat eGEdge r4779))))] [])) false :: .test false false :: l) := fun z => ⟨(igt_eq h4258), (bnot_f h4259), (F143_ok3 _ h4778 (F143_ok K a4246.Prog _ h4705)), (leads_ok (by simp [leadsAny, RV.leads, RC.leads, leadsT, hasSl_lit, flat_ns eGEdge_ns])), (F68_ok K a4245 a4248 _ h4780), (leads_ok (by simp [leadsAny, RV.leads, RC.leads, leadsT, hasSl_lit, flat_ns eGEdge_ns])), rfl, z⟩
   refine cond_some hF (fun h4781 hF => ?_) (fun h4781 hF => ?_)
   ·
    have pq4868 : ∀ {l : List Cond}, HoldAll E H hn99 l → HoldAll E H hn99 (.test (beqb (ieq a4247 0) true) true :: .test (beqb (ieq a4247 0) true) true :: .test (beqb (ieq a4247 0) true) true :: .test (beqb (ieq a4247 0) true) true :: l) := fun z => ⟨(beqb_t h4781), (beqb_t h4781), (beqb_t h4781), (beqb_t h4781), z⟩
    refine cond_some hF (fun h4782 hF => ?_) (fun h4782 hF => ?_)
    ·
     have pq4869 : ∀ {l : List Cond}, HoldAll E H hn99 l → HoldAll E H hn99 (.test (beqb (bnot r4704.1.only_) false) true :: .test (beqb (bnot r4704.1.only_) false) true :: .test (beqb (bnot r4704.1.only_) false) true :: .test (beqb (bnot r4704.1.only_) false) true :: .test (beqb (ieq a4247 0) true) true :: .test (bnot r4704.1.only_) false :: .test (ieq a4247 0) true :: .test (beqb a4251 true) false :: .test (beqb a4251 true) false :: .test (beqb a4251 true) false :: .test (beqb a4251 true) false :: .test (beqb a4251 true) false :: .test a4251 false :: .test false false :: l) := fun z => ⟨(beqb_ff (bnot_t h4782)), (beqb_ff (bnot_t h4782)), (beqb_ff (bnot_t h4782)), (beqb_ff (bnot_t h4782)), (beqb_t h4781), (bnot_t h4782), h4781, (beqb_t h4259), (beqb_t h4259), (beqb_t h4259), (beqb_t h4259), (beqb_t h4259), h4259, rfl, z⟩
     refine cond_some hF (fun h4783 hF => ?_) (fun h4783 hF => ?_)
     ·
      refine bind_some hF (fun y4789 h4788 hF => ?_)
      refine sum_some hF (fun w4790 hx hF => ?_) (fun w4791 hx hF => ?_)
      ·
       subst hx
       obtain rfl := Option.some.inj hF
       have pz : HoldAll E H hn99 [.test (bnot (ieq a4248 a4246.Source)) false, .int (nlen (len r4779)) (nlen (len r4779)), .loop 0 c99_0 (F99_l0_3_S a4249 r4704.1.only_ r4779 [] 0) .ret (F99_l0_3_X0 a4249 r4704.1.only_ r4779 w4790)] := ⟨(bnot_t h4783), rfl, (F99_l0_3_ok K a4249 r4704.1.only_ r4779 K [] 0 _ h4788), trivial⟩
       exact fn_playC hn99 (r := F99_res (0, ([], (false, 8)))) (pq4812 (pq4813 (pq4814 (pq4867 (pq4868 (pq4869 pz)))))) (by kernel_rfl) (by kernel_rfl)
      subst hx
      obtain rfl := Option.some.inj hF
      have pz : HoldAll E H hn99 [.test (bnot (ieq a4248 a4246.Source)) false, .int (nlen (len r4779)) (nlen (len r4779)), .loop 0 c99_0 (F99_l0_3_S a4249 r4704.1.only_ r4779 [] 0) (.exit 0) (F99_l0_3_X1 a4249 r4704.1.only_ r4779 w4791)] := ⟨(bnot_t h4783), rfl, (F99_l0_3_ok K a4249 r4704.1.only_ r4779 K [] 0 _ h4788), trivial⟩
      exact fn_playC hn99 (r := F99_res (a4249, (w4791, (true, 0)))) (pq4812 (pq4813 (pq4814 (pq4867 (pq4868 (pq4869 pz)))))) (by kernel_rfl) (by kernel_rfl)
     obtain rfl := Option.some.inj hF
     have pz : HoldAll E H hn99 [.test (bnot (ieq a4248 a4246.Source)) true] := ⟨(bnot_f h4783), trivial⟩
     exact fn_playC hn99 (r := F99_res (a4249, ([], (true, 0)))) (pq4812 (pq4813 (pq4814 (pq4867 (pq4868 (pq4869 pz)))))) (by kernel_rfl) (by kernel_rfl)
    have pq4870 : ∀ {l : List Cond}, HoldAll E H hn99 l → HoldAll E H hn99 (.test (beqb (bnot r4704.1.only_) false) false :: .test (beqb (bnot r4704.1.only_) false) false :: .test (beqb (bnot r4704.1.only_) false) false :: .test (beqb (bnot r4704.1.only_) false) false :: .test (beqb (ieq a4247 0) true) true :: .test (bnot r4704.1.only_) true :: .test (ieq a4247 0) true :: .test (beqb a4251 true) false :: .test (beqb a4251 true) false :: .test (beqb a4251 true) false :: .test (beqb a4251 true) false :: .test (beqb a4251 true) false :: .test a4251 false :: .test false false :: .test (bnot true) false :: .int (nlen (len r4779)) (nlen (len r4779)) :: l) := fun z => ⟨(beqb_ft (bnot_f h4782)), (beqb_ft (bnot_f h4782)), (beqb_ft (bnot_f h4782)), (beqb_ft (bnot_f h4782)), (beqb_t h4781), (bnot_f h4782), h4781, (beqb_t h4259), (beqb_t h4259), (beqb_t h4259), (beqb_t h4259), (beqb_t h4259), h4259, rfl, (bnot_t rfl), rfl, z⟩
    refine bind_some hF (fun y4798 h4797 hF => ?_)
    refine sum_some hF (fun w4799 hx hF => ?_) (fun w4800 hx hF => ?_)
    ·
     subst hx
     obtain rfl := Option.some.inj hF
     have pz : HoldAll E H hn99 [.loop 0 c99_0 (F99_l0_3_S a4249 r4704.1.only_ r4779 [] 0) .ret (F99_l0_3_X0 a4249 r4704.1.only_ r4779 w4799)] := ⟨(F99_l0_3_ok K a4249 r4704.1.only_ r4779 K [] 0 _ h4797), trivial⟩
     exact fn_playC hn99 (r := F99_res (0, ([], (false, 8)))) (pq4812 (pq4813 (pq4814 (pq4867 (pq4868 (pq4870 pz)))))) (by kernel_rfl) (by kernel_rfl)
    subst hx
    obtain rfl := Option.some.inj hF
    have pz : HoldAll E H hn99 [.loop 0 c99_0 (F99_l0_3_S a4249 r4704.1.only_ r4779 [] 0) (.exit 0) (F99_l0_3_X1 a4249 r4704.1.only_ r4779 w4800)] := ⟨(F99_l0_3_ok K a4249 r4704.1.only_ r4779 K [] 0 _ h4797), trivial⟩
    exact fn_playC hn99 (r := F99_res (a4249, (w4800, (true, 0)))) (pq4812 (pq4813 (pq4814 (pq4867 (pq4868 (pq4870 pz)))))) (by kernel_rfl) (by kernel_rfl)
   obtain rfl := Option.some.inj hF
   have pz : HoldAll E H hn99 [.test (beqb (ieq a4247 0) true) false, .test (beqb (ieq a4247 0) true) false, .test (beqb (ieq a4247 0) true) false, .test (beqb (ieq a4247 0) true) false, .test (beqb (ieq a4247 0) true) false, .test (ieq a4247 0) false, .test (beqb a4251 true) false, .test (beqb a4251 true) false, .test (beqb a4251 true) false, .test (beqb a4251 true) false, .test (beqb a4251 true) false, .test a4251 false, .test false false, .test (bnot false) true] := ⟨(beqb_t h4781), (beqb_t h4781), (beqb_t h4781), (beqb_t h4781), (beqb_t h4781), h4781, (beqb_t h4259), (beqb_t h4259), (beqb_t h4259), (beqb_t h4259), (beqb_t h4259), h4259, rfl, (bnot_f rfl), trivial⟩
   exact fn_playC hn99 (r := F99_res (a4249, ([], (true, 0)))) (pq4812 (pq4813 (pq4814 (pq4867 pz)))) (by kernel_rfl) (by kernel_rfl)
  refine cond_some hF (fun h4802 hF => ?_) (fun h4802 hF => ?_)
  ·
   refine bind_some hF (fun r4803 h4804 hF => ?_)
   refine bind_some hF (fun r4805 h4806 hF => ?_)
   obtain rfl := Option.some.inj hF
   have pz : HoldAll E H hn99 [.test (igt a4247 40) false, .test (bnot a4251) true, .call 143 [.one (.lit (.int .i64 a4246.Prog))] (F143_res4 r4704), .test (leadsAny (Res.mk [(.agg [(.im (.lit (fnV 166))), (.im (.lit .nilFunc)), (.im (.lit (.bool r4704.1.only_))), (.im (.lit (fnV 163)))]), (.one (.im (.lit (.bool r4704.2))))] [])) false, .call 68 [.agg (eGGraph a4245), .one (.lit (.int .i64 a4248))] (F68_res r4803), .test (leadsAny (Res.mk [(.one (.own 89 (.sl (len r4803) (flat eGEdge r4803))))] [])) false, .test true true, .call 146 [.one (.sl (len r4803) (flat eGEdge r4803)), .one (.lit (.int .i64 a4247)), .one (.lit (.int .i64 a4249)), .one (.lit (.int .i64 0))] (F146_res r4805), .test (leadsAny (Res.mk [(.one (.im (.lit (.int .i64 r4805.1)))), (.one (.own 130 (.sl (len r4805.2.1) (flat eGMsg r4805.2.1)))), (.one (.im (.lit (.bool r4805.2.2.1)))), (.one (.im (.lit (.int .i64 r4805.2.2.2))))] [])) false] := ⟨(igt_eq h4258), (bnot_f h4259), (F143_ok4 _ h4802 (F143_ok K a4246.Prog _ h4705)), (leads_ok (by simp [leadsAny, RV.leads, RC.leads, leadsT, hasSl_lit, flat_ns eGEdge_ns, flat_ns eGMsg_ns])), (F68_ok K a4245 a4248 _ h4804), (leads_ok (by simp [leadsAny, RV.leads, RC.leads, leadsT, hasSl_lit, flat_ns eGEdge_ns, flat_ns eGMsg_ns])), rfl, (F146_ok K r4803 a4247 a4249 0 _ h4806), (leads_ok (by simp [leadsAny, RV.leads, RC.leads, leadsT, hasSl_lit, flat_ns eGEdge_ns, flat_ns eGMsg_ns])), trivial⟩
   exact fn_playC hn99 (r := F99_res (r4805.1, (r4805.2.1, (r4805.2.2.1, r4805.2.2.2)))) (pq4812 (pq4813 (pq4814 pz))) (by kernel_rfl) (by kernel_rfl)
  refine cond_some hF (fun h4807 hF => ?_) (fun _ hF => nomatch hF)
  refine bind_some hF (fun r4808 h4809 hF => ?_)
  refine bind_some hF (fun r4810 h4811 hF => ?_)
  obtain rfl := Option.some.inj hF
  have pz : HoldAll E H hn99 [.test (igt a4247 40) false, .test (bnot a4251) true, .call 143 [.one (.lit (.int .i64 a4246.Prog))] (F143_res5 r4704), .test (leadsAny (Res.mk [(.agg [(.im (.lit .nilFunc)), (.im (.lit .nilFunc)), (.im (.lit (.bool r4704.1.only_))), (.im (.lit .nilFunc))]), (.one (.im (.lit (.bool r4704.2))))] [])) false, .call 68 [.agg (eGGraph a4245), .one (.lit (.int .i64 a4248))] (F68_res r4808), .test (leadsAny (Res.mk [(.one (.own 89 (.sl (len r4808) (flat eGEdge r4808))))] [])) false, .test true true, .call 146 [.one (.sl (len r4808) (flat eGEdge r4808)), .one (.lit (.int .i64 a4247)), .one (.lit (.int .i64 a4249)), .one (.lit (.int .i64 0))] (F146_res r4810), .test (leadsAny (Res.mk [(.one (.im (.lit (.int .i64 r4810.1)))), (.one (.own 130 (.sl (len r4810.2.1) (flat eGMsg r4810.2.1)))), (.one (.im (.lit (.bool r4810.2.2.1)))), (.one (.im (.lit (.int .i64 r4810.2.2.2))))] [])) false] := ⟨(igt_eq h4258), (bnot_f h4259), (F143_ok5 _ h4807 (F143_ok K a4246.Prog _ h4705)), (leads_ok (by simp [leadsAny, RV.leads, RC.leads, leadsT, hasSl_lit, flat_ns eGEdge_ns, flat_ns eGMsg_ns])), (F68_ok K a4245 a4248 _ h4809), (leads_ok (by simp [leadsAny, RV.leads, RC.leads, leadsT, hasSl_lit, flat_ns eGEdge_ns, flat_ns eGMsg_ns])), rfl, (F146_ok K r4808 a4247 a4249 0 _ h4811), (leads_ok (by simp [leadsAny, RV.leads, RC.leads, leadsT, hasSl_lit, flat_ns eGEdge_ns, flat_ns eGMsg_ns])), trivial⟩
  exact fn_playC hn99 (r := F99_res (r4810.1, (r4810.2.1, (r4810.2.2.1, r4810.2.2.2)))) (pq4812 (pq4813 (pq4814 pz))) (by kernel_rfl) (by kernel_rfl)
 obtain rfl := Option.some.inj hF
 have pz : HoldAll E H hn99 [.call 94 [.agg (eGGraph a4245), .agg (eGJob a4246)] (F94_res r4252), .test (leadsAny (Res.mk [(.one (.im (.lit (.int .i64 r4252))))] [])) false, .test (ine r4252 0) true] := ⟨(F94_ok K a4245 a4246 _ h4253), (leads_ok (by simp [leadsAny, RV.leads, RC.leads, leadsT, hasSl_lit, flat_ns eGJob_ns])), (ine_f h4254), trivial⟩
 exact fn_playC hn99 (r := F99_res (0, ([], (false, r4252)))) pz (by kernel_rfl) (by kernel_rfl)
noncomputable def hn171 : Hint := { H 171 with nt := 37, prot := 0 }
def F171_res (r1302 : Int × Bool) : Res := ⟨[(.one (.im (.lit (.int .i64 r1302.1)))), (.one (.im (.lit (.bool r1302.2))))], []⟩
def F171 (K : Nat) (a1284 : Int) (a1285 : Int) : Option (Int × Bool) :=
 bif (ieq a1284 0) then
  (some (0, true))
 else
 bif (ieq a1285 0) then
  (some (0, true))
 else
 bif (ieq a1284 (-1)) then
  (bif (ieq a1284 (-9223372036854775808)) then
   (some (0, false))
  else
  bif (ieq a1285 (-9223372036854775808)) then
   (some (0, false))
  else
  some ((wmul .i64 a1284 a1285), true))
 else
 bif (ieq a1285 (-1)) then
  (bif (ieq a1284 (-9223372036854775808)) then
   (some (0, false))
  else
  bif (ieq a1285 (-9223372036854775808)) then
   (some (0, false))
  else
  some ((wmul .i64 a1284 a1285), true))
 else
 bif (izero a1285) then none else
 bif (ieq (wquo .i64 (wmul .i64 a1284 a1285) a1285) a1284) then
  (some ((wmul .i64 a1284 a1285), true))
 else
 some (0, false)
theorem F171_ok (K : Nat) (a1284 : Int) (a1285 : Int) (r : Int × Bool) (hF : F171 K a1284 a1285 = some r) : Evt E H 171 [.one (.lit (.int .i64 a1284)), .one (.lit (.int .i64 a1285))] (F171_res r) := by
 rw [F171] at hF
 refine cond_some hF (fun h1286 hF => ?_) (fun h1286 hF => ?_)
 ·
  obtain rfl := Option.some.inj hF
  have pz : HoldAll E H hn171 [.test (beqb (ieq a1284 0) false) false, .test (beqb (ieq a1284 0) false) false, .test (ieq a1284 0) true, .test true true] := ⟨(beqb_ft h1286), (beqb_ft h1286), h1286, rfl, trivial⟩
  exact fn_playC hn171 (r := F171_res (0, true)) pz (by kernel_rfl) (by kernel_rfl)
 have pq1296 : ∀ {l : List Cond}, HoldAll E H hn171 l → HoldAll E H hn171 (.test (beqb (ieq a1284 0) false) true :: .test (beqb (ieq a1284 0) false) true :: .test (ieq a1284 0) false :: l) := fun z => ⟨(beqb_ff h1286), (beqb_ff h1286), h1286, z⟩
 refine cond_some hF (fun h1287 hF => ?_) (fun h1287 hF => ?_)
 ·
  obtain rfl := Option.some.inj hF
  have pz : HoldAll E H hn171 [.test (ieq a1285 0) true] := ⟨h1287, trivial⟩
  exact fn_playC hn171 (r := F171_res (0, true)) (pq1296 pz) (by kernel_rfl) (by kernel_rfl)
 refine cond_some hF (fun h1288 hF => ?_) (fun h1288 hF => ?_)
 ·
  have pq1297 : ∀ {l : List Cond}, HoldAll E H hn171 l → HoldAll E H hn171 (.test (ieq a1285 0) false :: .test (beqb (ieq a1284 (-1)) false) false :: .test (beqb (ieq a1284 (-1)) false) false :: .test (ieq a1284 (-1)) true :: .test true true :: l) := fun z => ⟨h1287, (beqb_ft h1288), (beqb_ft h1288), h1288, rfl, z⟩
  refine cond_some hF (fun h1289 hF => ?_) (fun h1289 hF => ?_)
  ·
   obtain rfl := Option.some.inj hF
   have pz : HoldAll E H hn171 [.test (beqb (ieq a1284 (-9223372036854775808)) false) false, .test (beqb (ieq a1284 (-9223372036854775808)) false) false, .test (ieq a1284 (-9223372036854775808)) true, .test true true] := ⟨(beqb_ft h1289), (beqb_ft h1289), h1289, rfl, trivial⟩
   exact fn_playC hn171 (r := F171_res (0, false)) (pq1296 (pq1297 pz)) (by kernel_rfl) (by kernel_rfl)
  have pq1298 : ∀ {l : List Cond}, HoldAll E H hn171 l → HoldAll E H hn171 (.test (beqb (ieq a1284 (-9223372036854775808)) false) true :: .test (beqb (ieq a1284 (-9223372036854775808)) false) true :: .test (ieq a1284 (-9223372036854775808)) false :: l) := fun z => ⟨(beqb_ff h1289), (beqb_ff h1289), h1289, z⟩
  refine cond_some hF (fun h1290 hF => ?_) (fun h1290 hF => ?_)
  ·
   obtain rfl := Option.some.inj hF
   have pz : HoldAll E H hn171 [.test (ieq a1285 (-9223372036854775808)) true] := ⟨h1290, trivial⟩
   exact fn_playC hn171 (r := F171_res (0, false)) (pq1296 (pq1297 (pq1298 pz))) (by kernel_rfl) (by kernel_rfl)
  obtain rfl := Option.some.inj hF
  have pz : HoldAll E H hn171 [.test (ieq a1285 (-9223372036854775808)) false, .int (wmul .i64 a1284 a1285) (wmul .i64 a1284 a1285)] := ⟨h1290, rfl, trivial⟩
  exact fn_playC hn171 (r := F171_res ((wmul .i64 a1284 a1285), true)) (pq1296 (pq1297 (pq1298 pz))) (by kernel_rfl) (by kernel_rfl)
 have pq1299 : ∀ {l : List Cond}, HoldAll E H hn171 l → HoldAll E H hn171 (.test (ieq a1285 0) false :: .test (beqb (ieq a1284 (-1)) false) true :: .test (beqb (ieq a1284 (-1)) false) true :: .test (ieq a1284 (-1)) false :: l) := fun z => ⟨h1287, (beqb_ff h1288), (beqb_ff h1288), h1288, z⟩
 refine cond_some hF (fun h1291 hF => ?_) (fun h1291 hF => ?_)
 ·
  refine cond_some hF (fun h1292 hF => ?_) (fun h1292 hF => ?_)
  ·
   obtain rfl := Option.some.inj hF
   have pz : HoldAll E H hn171 [.test (ieq a1285 (-1)) true, .test (beqb (ieq a1284 (-9223372036854775808)) false) false, .test (beqb (ieq a1284 (-9223372036854775808)) false) false, .test (ieq a1284 (-9223372036854775808)) true, .test true true] := ⟨h1291, (beqb_ft h1292), (beqb_ft h1292), h1292, rfl, trivial⟩
   exact fn_playC hn171 (r := F171_res (0, false)) (pq1296 (pq1299 pz)) (by kernel_rfl) (by kernel_rfl)
  have pq1300 : ∀ {l : List Cond}, HoldAll E H hn171 l → HoldAll E H hn171 (.test (ieq a1285 (-1)) true :: .test (beqb (ieq a1284 (-9223372036854775808)) false) true :: .test (beqb (ieq a1284 (-9223372036854775808)) false) true :: .test (ieq a1284 (-9223372036854775808)) false :: l) := fun z => ⟨h1291, (beqb_ff h1292), (beqb_ff h1292), h1292, z⟩
  refine cond_some hF (fun h1293 hF => ?_) (fun h1293 hF => ?_)
  ·
   obtain rfl := Option.some.inj hF
   have pz : HoldAll E H hn171 [.test (ieq a1285 (-9223372036854775808)) true] := ⟨h1293, trivial⟩
   exact fn_playC hn171 (r := F171_res (0, false)) (pq1296 (pq1299 (pq1300 pz))) (by kernel_rfl) (by kernel_rfl)
  obtain rfl := Option.some.inj hF
  have pz : HoldAll E H hn171 [.test (ieq a1285 (-9223372036854775808)) false, .int (wmul .i64 a1284 a1285) (wmul .i64 a1284 a1285)] := ⟨h1293, rfl, trivial⟩
  exact fn_playC hn171 (r := F171_res ((wmul .i64 a1284 a1285), true)) (pq1296 (pq1299 (pq1300 pz))) (by kernel_rfl) (by kernel_rfl)
 refine cond_some hF (fun _ hF => nomatch hF) (fun h1294 hF => ?_)
 have pq1301 : ∀ {l : List Cond}, HoldAll E H hn171 l → HoldAll E H hn171 (.test (ieq a1285 (-1)) false :: .int (wmul .i64 a1284 a1285) (wmul .i64 a1284 a1285) :: .test (izero a1285) false :: .int (wquo .i64 (wmul .i64 a1284 a1285) a1285) (wquo .i64 (wmul .i64 a1284 a1285) a1285) :: l) := fun z => ⟨h1291, rfl, h1294, rfl, z⟩
 refine cond_some hF (fun h1295 hF => ?_) (fun h1295 hF => ?_)
 ·
  obtain rfl := Option.some.inj hF
  have pz : HoldAll E H hn171 [.test (ine (wquo .i64 (wmul .i64 a1284 a1285) a1285) a1284) false] := ⟨(ine_t h1295), trivial⟩
  exact fn_playC hn171 (r := F171_res ((wmul .i64 a1284 a1285), true)) (pq1296 (pq1299 (pq1301 pz))) (by kernel_rfl) (by kernel_rfl)
 obtain rfl := Option.some.inj hF
 have pz : HoldAll E H hn171 [.test (ine (wquo .i64 (wmul .i64 a1284 a1285) a1285) a1284) true] := ⟨(ine_f h1295), trivial⟩
 exact fn_playC hn171 (r := F171_res (0, false)) (pq1296 (pq1299 (pq1301 pz))) (by kernel_rfl) (by kernel_rfl)
noncomputable def hn168 : Hint := { H 168 with nt := 23, prot := 0 }
def F168_res (r1308 : Int × Bool) : Res := ⟨[(.one (.im (.lit (.int .i64 r1308.1)))), (.one (.im (.lit (.bool r1308.2))))], []⟩
def F168 (K : Nat) (a1280 : Int) (a1281 : Int) (a1282 : Int) : Option (Int × Bool) :=
 bif (ilt a1282 1) then
  (some (0, false))
 else
 (F171 K a1280 a1281).bind fun r1303 =>
 bif r1303.2 then
  (bif (izero a1282) then none else
  some ((wquo .i64 r1303.1 a1282), true))
 else
 some (0, false)
theorem F168_ok (K : Nat) (a1280 : Int) (a1281 : Int) (a1282 : Int) (r : Int × Bool) (hF : F168 K a1280 a1281 a1282 = some r) : Evt E H 168 [.one (.lit (.int .i64 a1280)), .one (.lit (.int .i64 a1281)), .one (.lit (.int .i64 a1282))] (F168_res r) := by
 rw [F168] at hF
 refine cond_some hF (fun h1283 hF => ?_) (fun h1283 hF => ?_)
 ·
  obtain rfl := Option.some.inj hF
  have pz : HoldAll E H hn168 [.test (ilt a1282 1) true] := ⟨h1283, trivial⟩
  exact fn_playC hn168 (r := F168_res (0, false)) pz (by kernel_rfl) (by kernel_rfl)
 refine bind_some hF (fun r1303 h1304 hF => ?_)
 have pq1307 : ∀ {l : List Cond}, HoldAll E H hn168 l → HoldAll E H hn168 (.test (ilt a1282 1) false :: .call 171 [.one (.lit (.int .i64 a1280)), .one (.lit (.int .i64 a1281))] (F171_res r1303) :: .test (leadsAny (Res.mk [(.one (.im (.lit (.int .i64 r1303.1)))), (.one (.im (.lit (.bool r1303.2))))] [])) false :: l) := fun z => ⟨h1283, (F171_ok K a1280 a1281 _ h1304), (leads_ok (by simp [leadsAny, RV.leads, RC.leads, leadsT, hasSl_lit])), z⟩
 refine cond_some hF (fun h1305 hF => ?_) (fun h1305 hF => ?_)
 ·
  refine cond_some hF (fun _ hF => nomatch hF) (fun h1306 hF => ?_)
  obtain rfl := Option.some.inj hF
  have pz : HoldAll E H hn168 [.test (bnot r1303.2) false, .test (izero a1282) false, .int (wquo .i64 r1303.1 a1282) (wquo .i64 r1303.1 a1282)] := ⟨(bnot_t h1305), h1306, rfl, trivial⟩
  exact fn_playC hn168 (r := F168_res ((wquo .i64 r1303.1 a1282), true)) (pq1307 pz) (by kernel_rfl) (by kernel_rfl)
 obtain rfl := Option.some.inj hF
 have pz : HoldAll E H hn168 [.test (bnot r1303.2) true] := ⟨(bnot_f h1305), trivial⟩
 exact fn_playC hn168 (r := F168_res (0, false)) (pq1307 pz) (by kernel_rfl) (by kernel_rfl)
noncomputable def hn147 : Hint := { H 147 with nt := 17, prot := 0 }
def F147_res (r1328 : Int × Bool) : Res := ⟨[(.one (.im (.lit (.int .i64 r1328.1)))), (.one (.im (.lit (.bool r1328.2))))], []⟩
def F147 (K : Nat) (a1279 : Int) : Option (Int × Bool) :=
 (F168 K a1279 85 100).bind fun r1309 =>
 bif r1309.2 then
  ((F145 K 150000 r1309.1).bind fun r1326 =>
  some (r1326.1, r1326.2))
 else
 some (0, false)
theorem F147_ok (K : Nat) (a1279 : Int) (r : Int × Bool) (hF : F147 K a1279 = some r) : Evt E H 147 [.one (.lit (.int .i64 a1279))] (F147_res r) := by
 rw [F147] at hF
 refine bind_some hF (fun r1309 h1310 hF => ?_)
 refine cond_some hF (fun h1311 hF => ?_) (fun h1311 hF => ?_)
 ·
  refine bind_some hF (fun r1326 h1327 hF => ?_)
  obtain rfl := Option.some.inj hF
  have pz : HoldAll E H hn147 [.call 168 [.one (.lit (.int .i64 a1279)), .one (.lit (.int .i64 85)), .one (.lit (.int .i64 100))] (F168_res r1309), .test (leadsAny (Res.mk [(.one (.im (.lit (.int .i64 r1309.1)))), (.one (.im (.lit (.bool r1309.2))))] [])) false, .test (bnot r1309.2) false, .call 145 [.one (.lit (.int .i64 150000)), .one (.lit (.int .i64 r1309.1))] (F145_res r1326), .test (leadsAny (Res.mk [(.one (.im (.lit (.int .i64 r1326.1)))), (.one (.im (.lit (.bool r1326.2))))] [])) false] := ⟨(F168_ok K a1279 85 100 _ h1310), (leads_ok (by simp [leadsAny, RV.leads, RC.leads, leadsT, hasSl_lit])), (bnot_t h1311), (F145_ok K 150000 r1309.1 _ h1327), (leads_ok (by simp [leadsAny, RV.leads, RC.leads, leadsT, hasSl_lit])), trivial⟩
  exact fn_playC hn147 (r := F147_res (r1326.1, r1326.2)) pz (by kernel_rfl) (by kernel_rfl)
 obtain rfl := Option.some.inj hF
 have pz : HoldAll E H hn147 [.call 168 [.one (.lit (.int .i64 a1279)), .one (.lit (.int .i64 85)), .one (.lit (.int .i64 100))] (F168_res r1309), .test (leadsAny (Res.mk [(.one (.im (.lit (.int .i64 r1309.1)))), (.one (.im (.lit (.bool r1309.2))))] [])) false, .test (bnot r1309.2) true] := ⟨(F168_ok K a1279 85 100 _ h1310), (leads_ok (by simp [leadsAny, RV.leads, RC.leads, leadsT, hasSl_lit])), (bnot_f h1311), trivial⟩
 exact fn_playC hn147 (r := F147_res (0, false)) pz (by kernel_rfl) (by kernel_rfl)
noncomputable def hn148 : Hint := { H 148 with nt := 33, prot := 0 }
def F148_res (r1388 : Int × Bool) : Res := ⟨[(.one (.im (.lit (.int .i64 r1388.1)))), (.one (.im (.lit (.bool r1388.2))))], []⟩
def F148 (K : Nat) (a1375 : Int) (a1376 : Int) (a1377 : GEdge) (a1378 : Int) : Option (Int × Bool) :=
 bif (ieq a1375 1) then
  ((F145 K a1376 a1377.W).bind fun r1380 =>
  some (r1380.1, r1380.2))
 else
 bif (ieq a1375 3) then
  ((F145 K a1376 1).bind fun r1383 =>
  some (r1383.1, r1383.2))
 else
 bif (ieq a1375 5) then
  ((F168 K a1376 1 a1378).bind fun r1386 =>
  some (r1386.1, r1386.2))
 else
 some (a1376, true)
theorem F148_ok (K : Nat) (a1375 : Int) (a1376 : Int) (a1377 : GEdge) (a1378 : Int) (r : Int × Bool) (hF : F148 K a1375 a1376 a1377 a1378 = some r) : Evt E H 148 [.one (.lit (.int .i64 a1375)), .one (.lit (.int .i64 a1376)), .agg (eGEdge a1377), .one (.lit (.int .i64 a1378))] (F148_res r) := by
 rw [F148] at hF
 refine cond_some hF (fun h1379 hF => ?_) (fun h1379 hF => ?_)
 ·
  refine bind_some hF (fun r1380 h1381 hF => ?_)
  obtain rfl := Option.some.inj hF
  have pz : HoldAll E H hn148 [.test (ieq a1375 1) true, .call 145 [.one (.lit (.int .i64 a1376)), .one (.lit (.int .i64 a1377.W))] (F145_res r1380), .test (leadsAny (Res.mk [(.one (.im (.lit (.int .i64 r1380.1)))), (.one (.im (.lit (.bool r1380.2))))] [])) false] := ⟨h1379, (F145_ok K a1376 a1377.W _ h1381), (leads_ok (by simp [leadsAny, RV.leads, RC.leads, leadsT, hasSl_lit])), trivial⟩
  exact fn_playC hn148 (r := F148_res (r1380.1, r1380.2)) pz (by kernel_rfl) (by kernel_rfl)
 refine cond_some hF (fun h1382 hF => ?_) (fun h1382 hF => ?_)
 ·
  refine bind_some hF (fun r1383 h1384 hF => ?_)
  obtain rfl := Option.some.inj hF
  have pz : HoldAll E H hn148 [.test (ieq a1375 1) false, .test (ieq a1375 3) true, .call 145 [.one (.lit (.int .i64 a1376)), .one (.lit (.int .i64 1))] (F145_res r1383), .test (leadsAny (Res.mk [(.one (.im (.lit (.int .i64 r1383.1)))), (.one (.im (.lit (.bool r1383.2))))] [])) false] := ⟨h1379, h1382, (F145_ok K a1376 1 _ h1384), (leads_ok (by simp [leadsAny, RV.leads, RC.leads, leadsT, hasSl_lit])), trivial⟩
  exact fn_playC hn148 (r := F148_res (r1383.1, r1383.2)) pz (by kernel_rfl) (by kernel_rfl)
 refine cond_some hF (fun h1385 hF => ?_) (fun h1385 hF => ?_)
 ·
  refine bind_some hF (fun r1386 h1387 hF => ?_)
  obtain rfl := Option.some.inj hF
  have pz : HoldAll E H hn148 [.test (ieq a1375 1) false, .test (ieq a1375 3) false, .test (ieq a1375 5) true, .call 168 [.one (.lit (.int .i64 a1376)), .one (.lit (.int .i64 1)), .one (.lit (.int .i64 a1378))] (F168_res r1386), .test (leadsAny (Res.mk [(.one (.im (.lit (.int .i64 r1386.1)))), (.one (.im (.lit (.bool r1386.2))))] [])) false] := ⟨h1379, h1382, h1385, (F168_ok K a1376 1 a1378 _ h1387), (leads_ok (by simp [leadsAny, RV.leads, RC.leads, leadsT, hasSl_lit])), trivial⟩
  exact fn_playC hn148 (r := F148_res (r1386.1, r1386.2)) pz (by kernel_rfl) (by kernel_rfl)
 obtain rfl := Option.some.inj hF
 have pz : HoldAll E H hn148 [.test (ieq a1375 1) false, .test (ieq a1375 3) false, .test (ieq a1375 5) false] := ⟨h1379, h1382, h1385, trivial⟩
 exact fn_playC hn148 (r := F148_res (a1376, true)) pz (by kernel_rfl) (by kernel_rfl)
noncomputable def hn100 : Hint := { H 100 with nt := 145, prot := 0 }
noncomputable def c100_0 : Code := loopOf E 100 0
def F100_res (r1848 : GTurned) : Res := ⟨[(.agg [(.im (.lit (.int .i64 r1848.Val))), (.own 130 (.sl (len r1848.Out) (flat eGMsg r1848.Out))), (.im (.lit (.bool r1848.Rest))), (.im (.lit (.int .i64 r1848.E)))])], []⟩
def F100_l0_0 (K : Nat) (v1361 : Int) (v1362 : Int) (v1363 : Int) (v1364 : Int) (v1365 : Int) (v1366 : Bool) (v1369 : List GEdge) : Nat → List GMsg → Int → Option ((Unit) ⊕ (List GMsg))
 | 0, _, _ => none
 | k + 1, v1393, v1394 =>
  bif (ilt v1394 (nlen (len v1369))) then
   (bif v1366 then
    (bif (inr v1394 (len v1369)) then
    (elAt v1369 v1394).bind fun x1398 =>
    (F148 K v1362 v1361 x1398 (nlen (len v1369))).bind fun r1400 =>
    bif r1400.2 then
     (bif (apok (len v1393) 1 16) then
     F100_l0_0 K v1361 v1362 v1363 v1364 v1365 v1366 v1369 k (appL v1393 [(GMsg.mk x1398.To r1400.1)]) (wadd .i64 v1394 1)
     else none)
    else
    some (.inl ())
    else none)
   else
   some (.inr v1393))
  else
  some (.inr v1393)
def F100_l0_0_S (v1361 : Int) (v1362 : Int) (v1363 : Int) (v1364 : Int) (v1365 : Int) (v1366 : Bool) (v1369 : List GEdge) (v1393 : List GMsg) (v1394 : Int) : TS := .on [256, 257, 512, 513, 514, 515, 516, 896, 897, 898, 899, 900, 1088, 1089, 1344, 1345, 1346, 1347, 1348, 1408, 1409, 1472, 1473] [(256, ⟨.one, 0, nob⟩), (257, ⟨.im, 0, (.lit (.int .i64 v1361))⟩), (512, ⟨(.box 64 4), 0, nob⟩), (513, ⟨.im, 0, (.lit (.int .i64 v1362))⟩), (514, ⟨.im, 0, (.lit (.int .i64 v1363))⟩), (515, ⟨.im, 0, (.lit (.int .i64 v1364))⟩), (516, ⟨.im, 0, (.lit (.int .i64 v1365))⟩), (896, ⟨(.box 126 4), 0, nob⟩), (897, ⟨.im, 0, (.lit (.int .i64 0))⟩), (898, ⟨(.own 130), 0, (.sl 0 [])⟩), (899, ⟨.im, 0, (.lit (.bool false))⟩), (900, ⟨.im, 0, (.lit (.int .i64 0))⟩), (1088, ⟨.one, 0, nob⟩), (1089, ⟨.im, 0, (.lit (.bool v1366))⟩), (1344, ⟨(.box 126 4), 0, nob⟩), (1345, ⟨.im, 0, (.lit (.int .i64 v1361))⟩), (1346, ⟨(.own 130), 0, (.sl (len v1393) (flat eGMsg v1393))⟩), (1347, ⟨.im, 0, (.lit (.bool (bnot v1366)))⟩), (1348, ⟨.im, 0, (.lit (.int .i64 0))⟩), (1408, ⟨.one, 0, nob⟩), (1409, ⟨(.own 89), 0, (.sl (len v1369) (flat eGEdge v1369))⟩), (1472, ⟨.one, 0, nob⟩), (1473, ⟨.im, 0, (.lit (.int .i64 v1394))⟩)]
def F100_l0_0_X0 (v1361 : Int) (v1362 : Int) (v1363 : Int) (v1364 : Int) (v1365 : Int) (v1366 : Bool) (v1369 : List GEdge) (w1404 : Unit) : TS := .on [896, 897, 898, 899, 900] [(896, ⟨(.box 126 4), 0, nob⟩), (897, ⟨.im, 0, (.lit (.int .i64 0))⟩), (898, ⟨(.own 130), 0, (.sl 0 [])⟩), (899, ⟨.im, 0, (.lit (.bool false))⟩), (900, ⟨.im, 0, (.lit (.int .i64 8))⟩)]
def F100_l0_0_X1 (v1361 : Int) (v1362 : Int) (v1363 : Int) (v1364 : Int) (v1365 : Int) (v1366 : Bool) (v1369 : List GEdge) (w1405 : List GMsg) : TS := .on [896, 897, 898, 899, 900, 1344, 1345, 1346, 1347, 1348] [(896, ⟨(.box 126 4), 0, nob⟩), (897, ⟨.im, 0, (.lit (.int .i64 0))⟩), (898, ⟨(.own 130), 0, (.sl 0 [])⟩), (899, ⟨.im, 0, (.lit (.bool false))⟩), (900, ⟨.im, 0, (.lit (.int .i64 0))⟩), (1344, ⟨(.box 126 4), 0, nob⟩), (1345, ⟨.im, 0, (.lit (.int .i64 v1361))⟩), (1346, ⟨(.own 130), 0, (.sl (len w1405) (flat eGMsg w1405))⟩), (1347, ⟨.im, 0, (.lit (.bool (bnot v1366)))⟩), (1348, ⟨.im, 0, (.lit (.int .i64 0))⟩)]
theorem F100_l0_0_ok (K : Nat) (v1361 : Int) (v1362 : Int) (v1363 : Int) (v1364 : Int) (v1365 : Int) (v1366 : Bool) (v1369 : List GEdge) : ∀ (k : Nat) (v1393 : List GMsg) (v1394 : Int) (r : (Unit) ⊕ (List GMsg)), F100_l0_0 K v1361 v1362 v1363 v1364 v1365 v1366 v1369 k v1393 v1394 = some r → (Sum.elim (fun w => LoopEv E H hn100 0 c100_0 (F100_l0_0_S v1361 v1362 v1363 v1364 v1365 v1366 v1369 v1393 v1394) .ret (F100_l0_0_X0 v1361 v1362 v1363 v1364 v1365 v1366 v1369 w)) (fun w => LoopEv E H hn100 0 c100_0 (F100_l0_0_S v1361 v1362 v1363 v1364 v1365 v1366 v1369 v1393 v1394) (.exit 0) (F100_l0_0_X1 v1361 v1362 v1363 v1364 v1365 v1366 v1369 w))) r := by
 intro k
 induction k with
 | zero => intro v1393 v1394 r hF; cases hF
 | succ k ih =>
  intro v1393 v1394 r hF
  rw [F100_l0_0] at hF
  refine cond_some hF (fun h1395 hF => ?_) (fun h1395 hF => ?_)
  ·
   have pq1407 : ∀ {l : List Cond}, HoldAll E H hn100 l → HoldAll E H hn100 (.int (nlen (len v1369)) (nlen (len v1369)) :: .test (beqb (ilt v1394 (nlen (len v1369))) true) true :: .test (ilt v1394 (nlen (len v1369))) true :: l) := fun z => ⟨rfl, (beqb_t h1395), h1395, z⟩
   refine cond_some hF (fun h1396 hF => ?_) (fun h1396 hF => ?_)
   ·
    refine cond_some hF (fun h1397 hF => ?_) (fun _ hF => nomatch hF)
    refine bind_some hF (fun x1398 h1399 hF => ?_)
    refine bind_some hF (fun r1400 h1401 hF => ?_)
    have pq1408 : ∀ {l : List Cond}, HoldAll E H hn100 l → HoldAll E H hn100 (.test v1366 true :: .test (inr v1394 (len v1369)) true :: .sub (flat eGEdge v1369) (nidx v1394 3) 3 [(.lit (.int .i64 x1398.From)), (.lit (.int .i64 x1398.To)), (.lit (.int .i64 x1398.W))] :: .int (nlen (len v1369)) (nlen (len v1369)) :: .call 148 [.one (.lit (.int .i64 v1362)), .one (.lit (.int .i64 v1361)), .agg (eGEdge x1398), .one (.lit (.int .i64 (nlen (len v1369))))] (F148_res r1400) :: .test (leadsAny (Res.mk [(.one (.im (.lit (.int .i64 r1400.1)))), (.one (.im (.lit (.bool r1400.2))))] [])) false :: l) := fun z => ⟨h1396, h1397, ⟨rfl, sub_flat0 eGEdge_len h1399 3 (by decide)⟩, rfl, (F148_ok K v1362 v1361 x1398 (nlen (len v1369)) _ h1401), (leads_ok (by simp [leadsAny, RV.leads, RC.leads, leadsT, hasSl_lit, flat_ns eGEdge_ns])), z⟩
    refine cond_some hF (fun h1402 hF => ?_) (fun h1402 hF => ?_)
    ·
     refine cond_some hF (fun h1403 hF => ?_) (fun _ hF => nomatch hF)
     have pz : HoldAll E H hn100 [.test (bnot r1400.2) false, .test (inr v1394 (len v1369)) true, .sub (flat eGEdge v1369) (nadd (nidx v1394 3) 1) 1 [(.lit (.int .i64 x1398.To))], .test (leqm [(.lit (.int .i64 x1398.To)), (.lit (.int .i64 r1400.1))] 1 2) true, .test (apok (len v1393) 1 16) true, .sl (nadd (len v1393) 1) (lapp (flat eGMsg v1393) [(.lit (.int .i64 x1398.To)), (.lit (.int .i64 r1400.1))]) (len (α := GMsg) (appL v1393 [(GMsg.mk x1398.To r1400.1)])) (flat eGMsg (appL v1393 [(GMsg.mk x1398.To r1400.1)])), .int (wadd .i64 v1394 1) (wadd .i64 v1394 1)] := ⟨(bnot_t h1402), h1397, ⟨rfl, sub_flat eGEdge_len h1399 1 1 (by decide)⟩, rfl, h1403, (app_ok (enc := eGMsg) (v1393 : List GMsg) [(GMsg.mk x1398.To r1400.1)]), rfl, trivial⟩
     have h0 := ih _ _ _ hF
     have hn := fun ex ts' => loop_nextC (h := hn100) (l := 0) (c := c100_0) (ts := F100_l0_0_S v1361 v1362 v1363 v1364 v1365 v1366 v1369 v1393 v1394) (ts1 := (F100_l0_0_S v1361 v1362 v1363 v1364 v1365 v1366 v1369 (appL v1393 [(GMsg.mk x1398.To r1400.1)]) (wadd .i64 v1394 1))) (ex := ex) (ts' := ts') (pq1407 (pq1408 pz)) (by kernel_rfl)
     cases r with
     | inl w => exact hn _ _ h0
     | inr w => exact hn _ _ h0
    obtain rfl := Option.some.inj hF
    have pz : HoldAll E H hn100 [.test (bnot r1400.2) true] := ⟨(bnot_f h1402), trivial⟩
    exact loop_endC (h := hn100) (l := 0) (c := c100_0) (ts := F100_l0_0_S v1361 v1362 v1363 v1364 v1365 v1366 v1369 v1393 v1394) (ts' := F100_l0_0_X0 v1361 v1362 v1363 v1364 v1365 v1366 v1369 ()) (ex := .ret) (pq1407 (pq1408 pz)) (by kernel_rfl) trivial
   obtain rfl := Option.some.inj hF
   have pz : HoldAll E H hn100 [.test v1366 false] := ⟨h1396, trivial⟩
   exact loop_endC (h := hn100) (l := 0) (c := c100_0) (ts := F100_l0_0_S v1361 v1362 v1363 v1364 v1365 v1366 v1369 v1393 v1394) (ts' := F100_l0_0_X1 v1361 v1362 v1363 v1364 v1365 v1366 v1369 v1393) (ex := (.exit 0)) (pq1407 pz) (by kernel_rfl) trivial
  obtain rfl := Option.some.inj hF
  have pz : HoldAll E H hn100 [.int (nlen (len v1369)) (nlen (len v1369)), .test (beqb (ilt v1394 (nlen (len v1369))) true) false, .test (ilt v1394 (nlen (len v1369))) false, .test false false] := ⟨rfl, (beqb_t h1395), h1395, rfl, trivial⟩
  exact loop_endC (h := hn100) (l := 0) (c := c100_0) (ts := F100_l0_0_S v1361 v1362 v1363 v1364 v1365 v1366 v1369 v1393 v1394) (ts' := F100_l0_0_X1 v1361 v1362 v1363 v1364 v1365 v1366 v1369 v1393) (ex := (.exit 0)) pz (by kernel_rfl) trivial
def F100_l0_1 (K : Nat) (v1491 : Int) (v1492 : Int) (v1493 : Int) (v1494 : Int) (v1495 : Int) (v1497 : List GEdge) : Nat → List GMsg → Int → Option ((Unit) ⊕ (List GMsg))
 | 0, _, _ => none
 | k + 1, v1506, v1507 =>
  bif (ilt v1507 (nlen (len v1497))) then
   (bif (inr v1507 (len v1497)) then
   (elAt v1497 v1507).bind fun x1510 =>
   (F148 K v1492 v1491 x1510 (nlen (len v1497))).bind fun r1512 =>
   bif r1512.2 then
    (bif (apok (len v1506) 1 16) then
    F100_l0_1 K v1491 v1492 v1493 v1494 v1495 v1497 k (appL v1506 [(GMsg.mk x1510.To r1512.1)]) (wadd .i64 v1507 1)
    else none)
   else
   some (.inl ())
   else none)
  else
  some (.inr v1506)
def F100_l0_1_S (v1491 : Int) (v1492 : Int) (v1493 : Int) (v1494 : Int) (v1495 : Int) (v1497 : List GEdge) (v1506 : List GMsg) (v1507 : Int) : TS := .on [256, 257, 512, 513, 514, 515, 516, 896, 897, 898, 899, 900, 1088, 1089, 1344, 1345, 1346, 1347, 1348, 1408, 1409, 1472, 1473] [(256, ⟨.one, 0, nob⟩), (257, ⟨.im, 0, (.lit (.int .i64 v1491))⟩), (512, ⟨(.box 64 4), 0, nob⟩), (513, ⟨.im, 0, (.lit (.int .i64 v1492))⟩), (514, ⟨.im, 0, (.lit (.int .i64 v1493))⟩), (515, ⟨.im, 0, (.lit (.int .i64 v1494))⟩), (516, ⟨.im, 0, (.lit (.int .i64 v1495))⟩), (896, ⟨(.box 126 4), 0, nob⟩), (897, ⟨.im, 0, (.lit (.int .i64 0))⟩), (898, ⟨(.own 130), 0, (.sl 0 [])⟩), (899, ⟨.im, 0, (.lit (.bool false))⟩), (900, ⟨.im, 0, (.lit (.int .i64 0))⟩), (1088, ⟨.one, 0, nob⟩), (1089, ⟨.im, 0, (.lit (.bool true))⟩), (1344, ⟨(.box 126 4), 0, nob⟩), (1345, ⟨.im, 0, (.lit (.int .i64 v1491))⟩), (1346, ⟨(.own 130), 0, (.sl (len v1506) (flat eGMsg v1506))⟩), (1347, ⟨.im, 0, (.lit (.bool true))⟩), (1348, ⟨.im, 0, (.lit (.int .i64 0))⟩), (1408, ⟨.one, 0, nob⟩), (1409, ⟨(.own 89), 0, (.sl (len v1497) (flat eGEdge v1497))⟩), (1472, ⟨.one, 0, nob⟩), (1473, ⟨.im, 0, (.lit (.int .i64 v1507))⟩)]
def F100_l0_1_X0 (v1491 : Int) (v1492 : Int) (v1493 : Int) (v1494 : Int) (v1495 : Int) (v1497 : List GEdge) (w1516 : Unit) : TS := .on [896, 897, 898, 899, 900] [(896, ⟨(.box 126 4), 0, nob⟩), (897, ⟨.im, 0, (.lit (.int .i64 0))⟩), (898, ⟨(.own 130), 0, (.sl 0 [])⟩), (899, ⟨.im, 0, (.lit (.bool false))⟩), (900, ⟨.im, 0, (.lit (.int .i64 8))⟩)]
def F100_l0_1_X1 (v1491 : Int) (v1492 : Int) (v1493 : Int) (v1494 : Int) (v1495 : Int) (v1497 : List GEdge) (w1517 : List GMsg) : TS := .on [896, 897, 898, 899, 900, 1344, 1345, 1346, 1347, 1348] [(896, ⟨(.box 126 4), 0, nob⟩), (897, ⟨.im, 0, (.lit (.int .i64 0))⟩), (898, ⟨(.own 130), 0, (.sl 0 [])⟩), (899, ⟨.im, 0, (.lit (.bool false))⟩), (900, ⟨.im, 0, (.lit (.int .i64 0))⟩), (1344, ⟨(.box 126 4), 0, nob⟩), (1345, ⟨.im, 0, (.lit (.int .i64 v1491))⟩), (1346, ⟨(.own 130), 0, (.sl (len w1517) (flat eGMsg w1517))⟩), (1347, ⟨.im, 0, (.lit (.bool true))⟩), (1348, ⟨.im, 0, (.lit (.int .i64 0))⟩)]
theorem F100_l0_1_ok (K : Nat) (v1491 : Int) (v1492 : Int) (v1493 : Int) (v1494 : Int) (v1495 : Int) (v1497 : List GEdge) : ∀ (k : Nat) (v1506 : List GMsg) (v1507 : Int) (r : (Unit) ⊕ (List GMsg)), F100_l0_1 K v1491 v1492 v1493 v1494 v1495 v1497 k v1506 v1507 = some r → (Sum.elim (fun w => LoopEv E H hn100 0 c100_0 (F100_l0_1_S v1491 v1492 v1493 v1494 v1495 v1497 v1506 v1507) .ret (F100_l0_1_X0 v1491 v1492 v1493 v1494 v1495 v1497 w)) (fun w => LoopEv E H hn100 0 c100_0 (F100_l0_1_S v1491 v1492 v1493 v1494 v1495 v1497 v1506 v1507) (.exit 0) (F100_l0_1_X1 v1491 v1492 v1493 v1494 v1495 v1497 w))) r := by
 intro k
 induction k with
 | zero => intro v1506 v1507 r hF; cases hF
 | succ k ih =>
  intro v1506 v1507 r hF
  rw [F100_l0_1] at hF
  refine cond_some hF (fun h1508 hF => ?_) (fun h1508 hF => ?_)
  ·
   refine cond_some hF (fun h1509 hF => ?_) (fun _ hF => nomatch hF)
   refine bind_some hF (fun x1510 h1511 hF => ?_)
   refine bind_some hF (fun r1512 h1513 hF => ?_)
   have pq1519 : ∀ {l : List Cond}, HoldAll E H hn100 l → HoldAll E H hn100 (.int (nlen (len v1497)) (nlen (len v1497)) :: .test (beqb (ilt v1507 (nlen (len v1497))) true) true :: .test (ilt v1507 (nlen (len v1497))) true :: .test true true :: .test (inr v1507 (len v1497)) true :: .sub (flat eGEdge v1497) (nidx v1507 3) 3 [(.lit (.int .i64 x1510.From)), (.lit (.int .i64 x1510.To)), (.lit (.int .i64 x1510.W))] :: .int (nlen (len v1497)) (nlen (len v1497)) :: .call 148 [.one (.lit (.int .i64 v1492)), .one (.lit (.int .i64 v1491)), .agg (eGEdge x1510), .one (.lit (.int .i64 (nlen (len v1497))))] (F148_res r1512) :: .test (leadsAny (Res.mk [(.one (.im (.lit (.int .i64 r1512.1)))), (.one (.im (.lit (.bool r1512.2))))] [])) false :: l) := fun z => ⟨rfl, (beqb_t h1508), h1508, rfl, h1509, ⟨rfl, sub_flat0 eGEdge_len h1511 3 (by decide)⟩, rfl, (F148_ok K v1492 v1491 x1510 (nlen (len v1497)) _ h1513), (leads_ok (by simp [leadsAny, RV.leads, RC.leads, leadsT, hasSl_lit, flat_ns eGEdge_ns])), z⟩
   refine cond_some hF (fun h1514 hF => ?_) (fun h1514 hF => ?_)
   ·
    refine cond_some hF (fun h1515 hF => ?_) (fun _ hF => nomatch hF)
    have pz : HoldAll E H hn100 [.test (bnot r1512.2) false, .test (inr v1507 (len v1497)) true, .sub (flat eGEdge v1497) (nadd (nidx v1507 3) 1) 1 [(.lit (.int .i64 x1510.To))], .test (leqm [(.lit (.int .i64 x1510.To)), (.lit (.int .i64 r1512.1))] 1 2) true, .test (apok (len v1506) 1 16) true, .sl (nadd (len v1506) 1) (lapp (flat eGMsg v1506) [(.lit (.int .i64 x1510.To)), (.lit (.int .i64 r1512.1))]) (len (α := GMsg) (appL v1506 [(GMsg.mk x1510.To r1512.1)])) (flat eGMsg (appL v1506 [(GMsg.mk x1510.To r1512.1)])), .int (wadd .i64 v1507 1) (wadd .i64 v1507 1)] := ⟨(bnot_t h1514), h1509, ⟨rfl, sub_flat eGEdge_len h1511 1 1 (by decide)⟩, rfl, h1515, (app_ok (enc := eGMsg) (v1506 : List GMsg) [(GMsg.mk x1510.To r1512.1)]), rfl, trivial⟩
    have h0 := ih _ _ _ hF
    have hn := fun ex ts' => loop_nextC (h := hn100) (l := 0) (c := c100_0) (ts := F100_l0_1_S v1491 v1492 v1493 v1494 v1495 v1497 v1506 v1507) (ts1 := (F100_l0_1_S v1491 v1492 v1493 v1494 v1495 v1497 (appL v1506 [(GMsg.mk x1510.To r1512.1)]) (wadd .i64 v1507 1))) (ex := ex) (ts' := ts') (pq1519 pz) (by kernel_rfl)
    cases r with
    | inl w => exact hn _ _ h0
    | inr w => exact hn _ _ h0
   obtain rfl := Option.some.inj hF
   have pz : HoldAll E H hn100 [.test (bnot r1512.2) true] := ⟨(bnot_f h1514), trivial⟩
   exact loop_endC (h := hn100) (l := 0) (c := c100_0) (ts := F100_l0_1_S v1491 v1492 v1493 v1494 v1495 v1497 v1506 v1507) (ts' := F100_l0_1_X0 v1491 v1492 v1493 v1494 v1495 v1497 ()) (ex := .ret) (pq1519 pz) (by kernel_rfl) trivial
  obtain rfl := Option.some.inj hF
  have pz : HoldAll E H hn100 [.int (nlen (len v1497)) (nlen (len v1497)), .test (beqb (ilt v1507 (nlen (len v1497))) true) false, .test (ilt v1507 (nlen (len v1497))) false, .test false false] := ⟨rfl, (beqb_t h1508), h1508, rfl, trivial⟩
  exact loop_endC (h := hn100) (l := 0) (c := c100_0) (ts := F100_l0_1_S v1491 v1492 v1493 v1494 v1495 v1497 v1506 v1507) (ts' := F100_l0_1_X1 v1491 v1492 v1493 v1494 v1495 v1497 v1506) (ex := (.exit 0)) pz (by kernel_rfl) trivial
def F100_l0_2 (K : Nat) (v1527 : Int) (v1528 : Int) (v1529 : Int) (v1530 : Int) (v1531 : Int) (v1532 : Bool) (v1534 : List GEdge) : Nat → List GMsg → Int → Option ((Unit) ⊕ (List GMsg))
 | 0, _, _ => none
 | k + 1, v1544, v1545 =>
  bif (ilt v1545 (nlen (len v1534))) then
   (bif v1532 then
    (bif (inr v1545 (len v1534)) then
    (elAt v1534 v1545).bind fun x1549 =>
    (F148 K v1528 v1527 x1549 (nlen (len v1534))).bind fun r1551 =>
    bif r1551.2 then
     (bif (apok (len v1544) 1 16) then
     F100_l0_2 K v1527 v1528 v1529 v1530 v1531 v1532 v1534 k (appL v1544 [(GMsg.mk x1549.To r1551.1)]) (wadd .i64 v1545 1)
     else none)
    else
    some (.inl ())
    else none)
   else
   some (.inr v1544))
  else
  some (.inr v1544)
def F100_l0_2_S (v1527 : Int) (v1528 : Int) (v1529 : Int) (v1530 : Int) (v1531 : Int) (v1532 : Bool) (v1534 : List GEdge) (v1544 : List GMsg) (v1545 : Int) : TS := .on [256, 257, 512, 513, 514, 515, 516, 896, 897, 898, 899, 900, 1088, 1089, 1344, 1345, 1346, 1347, 1348, 1408, 1409, 1472, 1473] [(256, ⟨.one, 0, nob⟩), (257, ⟨.im, 0, (.lit (.int .i64 v1527))⟩), (512, ⟨(.box 64 4), 0, nob⟩), (513, ⟨.im, 0, (.lit (.int .i64 v1528))⟩), (514, ⟨.im, 0, (.lit (.int .i64 v1529))⟩), (515, ⟨.im, 0, (.lit (.int .i64 v1530))⟩), (516, ⟨.im, 0, (.lit (.int .i64 v1531))⟩), (896, ⟨(.box 126 4), 0, nob⟩), (897, ⟨.im, 0, (.lit (.int .i64 0))⟩), (898, ⟨(.own 130), 0, (.sl 0 [])⟩), (899, ⟨.im, 0, (.lit (.bool false))⟩), (900, ⟨.im, 0, (.lit (.int .i64 0))⟩), (1088, ⟨.one, 0, nob⟩), (1089, ⟨.im, 0, (.lit (.bool v1532))⟩), (1344, ⟨(.box 126 4), 0, nob⟩), (1345, ⟨.im, 0, (.lit (.int .i64 v1527))⟩), (1346, ⟨(.own 130), 0, (.sl (len v1544) (flat eGMsg v1544))⟩), (1347, ⟨.im, 0, (.lit (.bool true))⟩), (1348, ⟨.im, 0, (.lit (.int .i64 0))⟩), (1408, ⟨.one, 0, nob⟩), (1409, ⟨(.own 89), 0, (.sl (len v1534) (flat eGEdge v1534))⟩), (1472, ⟨.one, 0, nob⟩), (1473, ⟨.im, 0, (.lit (.int .i64 v1545))⟩)]
def F100_l0_2_X0 (v1527 : Int) (v1528 : Int) (v1529 : Int) (v1530 : Int) (v1531 : Int) (v1532 : Bool) (v1534 : List GEdge) (w1555 : Unit) : TS := .on [896, 897, 898, 899, 900] [(896, ⟨(.box 126 4), 0, nob⟩), (897, ⟨.im, 0, (.lit (.int .i64 0))⟩), (898, ⟨(.own 130), 0, (.sl 0 [])⟩), (899, ⟨.im, 0, (.lit (.bool false))⟩), (900, ⟨.im, 0, (.lit (.int .i64 8))⟩)]
def F100_l0_2_X1 (v1527 : Int) (v1528 : Int) (v1529 : Int) (v1530 : Int) (v1531 : Int) (v1532 : Bool) (v1534 : List GEdge) (w1556 : List GMsg) : TS := .on [896, 897, 898, 899, 900, 1344, 1345, 1346, 1347, 1348] [(896, ⟨(.box 126 4), 0, nob⟩), (897, ⟨.im, 0, (.lit (.int .i64 0))⟩), (898, ⟨(.own 130), 0, (.sl 0 [])⟩), (899, ⟨.im, 0, (.lit (.bool false))⟩), (900, ⟨.im, 0, (.lit (.int .i64 0))⟩), (1344, ⟨(.box 126 4), 0, nob⟩), (1345, ⟨.im, 0, (.lit (.int .i64 v1527))⟩), (1346, ⟨(.own 130), 0, (.sl (len w1556) (flat eGMsg w1556))⟩), (1347, ⟨.im, 0, (.lit (.bool true))⟩), (1348, ⟨.im, 0, (.lit (.int .i64 0))⟩)]
theorem F100_l0_2_ok (K : Nat) (v1527 : Int) (v1528 : Int) (v1529 : Int) (v1530 : Int) (v1531 : Int) (v1532 : Bool) (v1534 : List GEdge) : ∀ (k : Nat) (v1544 : List GMsg) (v1545 : Int) (r : (Unit) ⊕ (List GMsg)), F100_l0_2 K v1527 v1528 v1529 v1530 v1531 v1532 v1534 k v1544 v1545 = some r → (Sum.elim (fun w => LoopEv E H hn100 0 c100_0 (F100_l0_2_S v1527 v1528 v1529 v1530 v1531 v1532 v1534 v1544 v1545) .ret (F100_l0_2_X0 v1527 v1528 v1529 v1530 v1531 v1532 v1534 w)) (fun w => LoopEv E H hn100 0 c100_0 (F100_l0_2_S v1527 v1528 v1529 v1530 v1531 v1532 v1534 v1544 v1545) (.exit 0) (F100_l0_2_X1 v1527 v1528 v1529 v1530 v1531 v1532 v1534 w))) r := by
 intro k
 induction k with
 | zero => intro v1544 v1545 r hF; cases hF
 | succ k ih =>
  intro v1544 v1545 r hF
  rw [F100_l0_2] at hF
  refine cond_some hF (fun h1546 hF => ?_) (fun h1546 hF => ?_)
  ·
   have pq1558 : ∀ {l : List Cond}, HoldAll E H hn100 l → HoldAll E H hn100 (.int (nlen (len v1534)) (nlen (len v1534)) :: .test (beqb (ilt v1545 (nlen (len v1534))) true) true :: .test (ilt v1545 (nlen (len v1534))) true :: l) := fun z => ⟨rfl, (beqb_t h1546), h1546, z⟩
   refine cond_some hF (fun h1547 hF => ?_) (fun h1547 hF => ?_)
   ·
    refine cond_some hF (fun h1548 hF => ?_) (fun _ hF => nomatch hF)
    refine bind_some hF (fun x1549 h1550 hF => ?_)
    refine bind_some hF (fun r1551 h1552 hF => ?_)
    have pq1559 : ∀ {l : List Cond}, HoldAll E H hn100 l → HoldAll E H hn100 (.test v1532 true :: .test (inr v1545 (len v1534)) true :: .sub (flat eGEdge v1534) (nidx v1545 3) 3 [(.lit (.int .i64 x1549.From)), (.lit (.int .i64 x1549.To)), (.lit (.int .i64 x1549.W))] :: .int (nlen (len v1534)) (nlen (len v1534)) :: .call 148 [.one (.lit (.int .i64 v1528)), .one (.lit (.int .i64 v1527)), .agg (eGEdge x1549), .one (.lit (.int .i64 (nlen (len v1534))))] (F148_res r1551) :: .test (leadsAny (Res.mk [(.one (.im (.lit (.int .i64 r1551.1)))), (.one (.im (.lit (.bool r1551.2))))] [])) false :: l) := fun z => ⟨h1547, h1548, ⟨rfl, sub_flat0 eGEdge_len h1550 3 (by decide)⟩, rfl, (F148_ok K v1528 v1527 x1549 (nlen (len v1534)) _ h1552), (leads_ok (by simp [leadsAny, RV.leads, RC.leads, leadsT, hasSl_lit, flat_ns eGEdge_ns])), z⟩
    refine cond_some hF (fun h1553 hF => ?_) (fun h1553 hF => ?_)
    ·
     refine cond_some hF (fun h1554 hF => ?_) (fun _ hF => nomatch hF)
     have pz : HoldAll E H hn100 [.test (bnot r1551.2) false, .test (inr v1545 (len v1534)) true, .sub (flat eGEdge v1534) (nadd (nidx v1545 3) 1) 1 [(.lit (.int .i64 x1549.To))], .test (leqm [(.lit (.int .i64 x1549.To)), (.lit (.int .i64 r1551.1))] 1 2) true, .test (apok (len v1544) 1 16) true, .sl (nadd (len v1544) 1) (lapp (flat eGMsg v1544) [(.lit (.int .i64 x1549.To)), (.lit (.int .i64 r1551.1))]) (len (α := GMsg) (appL v1544 [(GMsg.mk x1549.To r1551.1)])) (flat eGMsg (appL v1544 [(GMsg.mk x1549.To r1551.1)])), .int (wadd .i64 v1545 1) (wadd .i64 v1545 1)] := ⟨(bnot_t h1553), h1548, ⟨rfl, sub_flat eGEdge_len h1550 1 1 (by decide)⟩, rfl, h1554, (app_ok (enc := eGMsg) (v1544 : List GMsg) [(GMsg.mk x1549.To r1551.1)]), rfl, trivial⟩
     have h0 := ih _ _ _ hF
     have hn := fun ex ts' => loop_nextC (h := hn100) (l := 0) (c := c100_0) (ts := F100_l0_2_S v1527 v1528 v1529 v1530 v1531 v1532 v1534 v1544 v1545) (ts1 := (F100_l0_2_S v1527 v1528 v1529 v1530 v1531 v1532 v1534 (appL v1544 [(GMsg.mk x1549.To r1551.1)]) (wadd .i64 v1545 1))) (ex := ex) (ts' := ts') (pq1558 (pq1559 pz)) (by kernel_rfl)
     cases r with
     | inl w => exact hn _ _ h0
     | inr w => exact hn _ _ h0
    obtain rfl := Option.some.inj hF
    have pz : HoldAll E H hn100 [.test (bnot r1551.2) true] := ⟨(bnot_f h1553), trivial⟩
    exact loop_endC (h := hn100) (l := 0) (c := c100_0) (ts := F100_l0_2_S v1527 v1528 v1529 v1530 v1531 v1532 v1534 v1544 v1545) (ts' := F100_l0_2_X0 v1527 v1528 v1529 v1530 v1531 v1532 v1534 ()) (ex := .ret) (pq1558 (pq1559 pz)) (by kernel_rfl) trivial
   obtain rfl := Option.some.inj hF
   have pz : HoldAll E H hn100 [.test v1532 false] := ⟨h1547, trivial⟩
   exact loop_endC (h := hn100) (l := 0) (c := c100_0) (ts := F100_l0_2_S v1527 v1528 v1529 v1530 v1531 v1532 v1534 v1544 v1545) (ts' := F100_l0_2_X1 v1527 v1528 v1529 v1530 v1531 v1532 v1534 v1544) (ex := (.exit 0)) (pq1558 pz) (by kernel_rfl) trivial
  obtain rfl := Option.some.inj hF
  have pz : HoldAll E H hn100 [.int (nlen (len v1534)) (nlen (len v1534)), .test (beqb (ilt v1545 (nlen (len v1534))) true) false, .test (ilt v1545 (nlen (len v1534))) false, .test false false] := ⟨rfl, (beqb_t h1546), h1546, rfl, trivial⟩
  exact loop_endC (h := hn100) (l := 0) (c := c100_0) (ts := F100_l0_2_S v1527 v1528 v1529 v1530 v1531 v1532 v1534 v1544 v1545) (ts' := F100_l0_2_X1 v1527 v1528 v1529 v1530 v1531 v1532 v1534 v1544) (ex := (.exit 0)) pz (by kernel_rfl) trivial
def F100_l0_3 (K : Nat) (v1582 : Int) (v1583 : Int) (v1584 : Int) (v1585 : Int) (v1586 : Int) (v1589 : List GEdge) : Nat → List GMsg → Int → Option (((List GMsg)) ⊕ (Unit))
 | 0, _, _ => none
 | k + 1, v1599, v1600 =>
  bif (ilt v1600 (nlen (len v1589))) then
   (bif (ieq v1582 v1582) then
    (some (.inl v1599))
   else
   bif (inr v1600 (len v1589)) then
   (elAt v1589 v1600).bind fun x1604 =>
   (F148 K v1583 v1582 x1604 (nlen (len v1589))).bind fun r1606 =>
   bif r1606.2 then
    (bif (apok (len v1599) 1 16) then
    F100_l0_3 K v1582 v1583 v1584 v1585 v1586 v1589 k (appL v1599 [(GMsg.mk x1604.To r1606.1)]) (wadd .i64 v1600 1)
    else none)
   else
   some (.inr ())
   else none)
  else
  some (.inl v1599)
def F100_l0_3_S (v1582 : Int) (v1583 : Int) (v1584 : Int) (v1585 : Int) (v1586 : Int) (v1589 : List GEdge) (v1599 : List GMsg) (v1600 : Int) : TS := .on [256, 257, 512, 513, 514, 515, 516, 896, 897, 898, 899, 900, 1088, 1089, 1344, 1345, 1346, 1347, 1348, 1408, 1409, 1472, 1473] [(256, ⟨.one, 0, nob⟩), (257, ⟨.im, 0, (.lit (.int .i64 v1582))⟩), (512, ⟨(.box 64 4), 0, nob⟩), (513, ⟨.im, 0, (.lit (.int .i64 v1583))⟩), (514, ⟨.im, 0, (.lit (.int .i64 v1584))⟩), (515, ⟨.im, 0, (.lit (.int .i64 v1585))⟩), (516, ⟨.im, 0, (.lit (.int .i64 v1586))⟩), (896, ⟨(.box 126 4), 0, nob⟩), (897, ⟨.im, 0, (.lit (.int .i64 0))⟩), (898, ⟨(.own 130), 0, (.sl 0 [])⟩), (899, ⟨.im, 0, (.lit (.bool false))⟩), (900, ⟨.im, 0, (.lit (.int .i64 0))⟩), (1088, ⟨.one, 0, nob⟩), (1089, ⟨.im, 0, (.lit (.bool (ine v1582 v1582)))⟩), (1344, ⟨(.box 126 4), 0, nob⟩), (1345, ⟨.im, 0, (.lit (.int .i64 v1582))⟩), (1346, ⟨(.own 130), 0, (.sl (len v1599) (flat eGMsg v1599))⟩), (1347, ⟨.im, 0, (.lit (.bool true))⟩), (1348, ⟨.im, 0, (.lit (.int .i64 0))⟩), (1408, ⟨.one, 0, nob⟩), (1409, ⟨(.own 89), 0, (.sl (len v1589) (flat eGEdge v1589))⟩), (1472, ⟨.one, 0, nob⟩), (1473, ⟨.im, 0, (.lit (.int .i64 v1600))⟩)]
def F100_l0_3_X0 (v1582 : Int) (v1583 : Int) (v1584 : Int) (v1585 : Int) (v1586 : Int) (v1589 : List GEdge) (w1610 : List GMsg) : TS := .on [896, 897, 898, 899, 900, 1344, 1345, 1346, 1347, 1348] [(896, ⟨(.box 126 4), 0, nob⟩), (897, ⟨.im, 0, (.lit (.int .i64 0))⟩), (898, ⟨(.own 130), 0, (.sl 0 [])⟩), (899, ⟨.im, 0, (.lit (.bool false))⟩), (900, ⟨.im, 0, (.lit (.int .i64 0))⟩), (1344, ⟨(.box 126 4), 0, nob⟩), (1345, ⟨.im, 0, (.lit (.int .i64 v1582))⟩), (1346, ⟨(.own 130), 0, (.sl (len w1610) (flat eGMsg w1610))⟩), (1347, ⟨.im, 0, (.lit (.bool true))⟩), (1348, ⟨.im, 0, (.lit (.int .i64 0))⟩)]
def F100_l0_3_X1 (v1582 : Int) (v1583 : Int) (v1584 : Int) (v1585 : Int) (v1586 : Int) (v1589 : List GEdge) (w1612 : Unit) : TS := .on [896, 897, 898, 899, 900] [(896, ⟨(.box 126 4), 0, nob⟩), (897, ⟨.im, 0, (.lit (.int .i64 0))⟩), (898, ⟨(.own 130), 0, (.sl 0 [])⟩), (899, ⟨.im, 0, (.lit (.bool false))⟩), (900, ⟨.im, 0, (.lit (.int .i64 8))⟩)]
theorem F100_l0_3_ok (K : Nat) (v1582 : Int) (v1583 : Int) (v1584 : Int) (v1585 : Int) (v1586 : Int) (v1589 : List GEdge) : ∀ (k : Nat) (v1599 : List GMsg) (v1600 : Int) (r : ((List GMsg)) ⊕ (Unit)), F100_l0_3 K v1582 v1583 v1584 v1585 v1586 v1589 k v1599 v1600 = some r → (Sum.elim (fun w => LoopEv E H hn100 0 c100_0 (F100_l0_3_S v1582 v1583 v1584 v1585 v1586 v1589 v1599 v1600) (.exit 0) (F100_l0_3_X0 v1582 v1583 v1584 v1585 v1586 v1589 w)) (fun w => LoopEv E H hn100 0 c100_0 (F100_l0_3_S v1582 v1583 v1584 v1585 v1586 v1589 v1599 v1600) .ret (F100_l0_3_X1 v1582 v1583 v1584 v1585 v1586 v1589 w))) r := by
 intro k
 induction k with
 | zero => intro v1599 v1600 r hF; cases hF
 | succ k ih =>
  intro v1599 v1600 r hF
  rw [F100_l0_3] at hF
  refine cond_some hF (fun h1601 hF => ?_) (fun h1601 hF => ?_)
  ·
   have pq1613 : ∀ {l : List Cond}, HoldAll E H hn100 l → HoldAll E H hn100 (.int (nlen (len v1589)) (nlen (len v1589)) :: .test (beqb (ilt v1600 (nlen (len v1589))) true) true :: .test (ilt v1600 (nlen (len v1589))) true :: l) := fun z => ⟨rfl, (beqb_t h1601), h1601, z⟩
   refine cond_some hF (fun h1602 hF => ?_) (fun h1602 hF => ?_)
   ·
    obtain rfl := Option.some.inj hF
    have pz : HoldAll E H hn100 [.test (ine v1582 v1582) false] := ⟨(ine_t h1602), trivial⟩
    exact loop_endC (h := hn100) (l := 0) (c := c100_0) (ts := F100_l0_3_S v1582 v1583 v1584 v1585 v1586 v1589 v1599 v1600) (ts' := F100_l0_3_X0 v1582 v1583 v1584 v1585 v1586 v1589 v1599) (ex := (.exit 0)) (pq1613 pz) (by kernel_rfl) trivial
   refine cond_some hF (fun h1603 hF => ?_) (fun _ hF => nomatch hF)
   refine bind_some hF (fun x1604 h1605 hF => ?_)
   refine bind_some hF (fun r1606 h1607 hF => ?_)
   have pq1614 : ∀ {l : List Cond}, HoldAll E H hn100 l → HoldAll E H hn100 (.test (ine v1582 v1582) true :: .test (inr v1600 (len v1589)) true :: .sub (flat eGEdge v1589) (nidx v1600 3) 3 [(.lit (.int .i64 x1604.From)), (.lit (.int .i64 x1604.To)), (.lit (.int .i64 x1604.W))] :: .int (nlen (len v1589)) (nlen (len v1589)) :: .call 148 [.one (.lit (.int .i64 v1583)), .one (.lit (.int .i64 v1582)), .agg (eGEdge x1604), .one (.lit (.int .i64 (nlen (len v1589))))] (F148_res r1606) :: .test (leadsAny (Res.mk [(.one (.im (.lit (.int .i64 r1606.1)))), (.one (.im (.lit (.bool r1606.2))))] [])) false :: l) := fun z => ⟨(ine_f h1602), h1603, ⟨rfl, sub_flat0 eGEdge_len h1605 3 (by decide)⟩, rfl, (F148_ok K v1583 v1582 x1604 (nlen (len v1589)) _ h1607), (leads_ok (by simp [leadsAny, RV.leads, RC.leads, leadsT, hasSl_lit, flat_ns eGEdge_ns])), z⟩
   refine cond_some hF (fun h1608 hF => ?_) (fun h1608 hF => ?_)
   ·
    refine cond_some hF (fun h1609 hF => ?_) (fun _ hF => nomatch hF)
    have pz : HoldAll E H hn100 [.test (bnot r1606.2) false, .test (inr v1600 (len v1589)) true, .sub (flat eGEdge v1589) (nadd (nidx v1600 3) 1) 1 [(.lit (.int .i64 x1604.To))], .test (leqm [(.lit (.int .i64 x1604.To)), (.lit (.int .i64 r1606.1))] 1 2) true, .test (apok (len v1599) 1 16) true, .sl (nadd (len v1599) 1) (lapp (flat eGMsg v1599) [(.lit (.int .i64 x1604.To)), (.lit (.int .i64 r1606.1))]) (len (α := GMsg) (appL v1599 [(GMsg.mk x1604.To r1606.1)])) (flat eGMsg (appL v1599 [(GMsg.mk x1604.To r1606.1)])), .int (wadd .i64 v1600 1) (wadd .i64 v1600 1)] := ⟨(bnot_t h1608), h1603, ⟨rfl, sub_flat eGEdge_len h1605 1 1 (by decide)⟩, rfl, h1609, (app_ok (enc := eGMsg) (v1599 : List GMsg) [(GMsg.mk x1604.To r1606.1)]), rfl, trivial⟩
    have h0 := ih _ _ _ hF
    have hn := fun ex ts' => loop_nextC (h := hn100) (l := 0) (c := c100_0) (ts := F100_l0_3_S v1582 v1583 v1584 v1585 v1586 v1589 v1599 v1600) (ts1 := (F100_l0_3_S v1582 v1583 v1584 v1585 v1586 v1589 (appL v1599 [(GMsg.mk x1604.To r1606.1)]) (wadd .i64 v1600 1))) (ex := ex) (ts' := ts') (pq1613 (pq1614 pz)) (by kernel_rfl)
    cases r with
    | inl w => exact hn _ _ h0
    | inr w => exact hn _ _ h0
   obtain rfl := Option.some.inj hF
   have pz : HoldAll E H hn100 [.test (bnot r1606.2) true] := ⟨(bnot_f h1608), trivial⟩
   exact loop_endC (h := hn100) (l := 0) (c := c100_0) (ts := F100_l0_3_S v1582 v1583 v1584 v1585 v1586 v1589 v1599 v1600) (ts' := F100_l0_3_X1 v1582 v1583 v1584 v1585 v1586 v1589 ()) (ex := .ret) (pq1613 (pq1614 pz)) (by kernel_rfl) trivial
  obtain rfl := Option.some.inj hF
  have pz : HoldAll E H hn100 [.int (nlen (len v1589)) (nlen (len v1589)), .test (beqb (ilt v1600 (nlen (len v1589))) true) false, .test (ilt v1600 (nlen (len v1589))) false, .test false false] := ⟨rfl, (beqb_t h1601), h1601, rfl, trivial⟩
  exact loop_endC (h := hn100) (l := 0) (c := c100_0) (ts := F100_l0_3_S v1582 v1583 v1584 v1585 v1586 v1589 v1599 v1600) (ts' := F100_l0_3_X0 v1582 v1583 v1584 v1585 v1586 v1589 v1599) (ex := (.exit 0)) pz (by kernel_rfl) trivial
def F100 (K : Nat) (a1262 : GGraph) (a1263 : GJob) (a1264 : Int) (a1265 : Int) (a1266 : Int) (a1267 : Int) (a1268 : Bool) : Option (GTurned) :=
 (F59 K a1262 a1263).bind fun r1269 =>
 bif (ieq r1269 0) then
  (bif (ilt a1265 0) then
   (some (GTurned.mk 0 [] false 4))
  else
  bif (ile a1262.N a1265) then
   (some (GTurned.mk 0 [] false 4))
  else
  bif (ilt a1264 0) then
   (some (GTurned.mk 0 [] false 1))
  else
  bif (ilt 40 a1264) then
   (some (GTurned.mk 0 [] false 1))
  else
  bif (ieq a1263.Prog 5) then
   (bif a1268 then
    (bif (ilt 0 a1264) then
     ((F147 K a1267).bind fun r1329 =>
     bif r1329.2 then
      ((F69 K a1262 a1265).bind fun r1359 =>
      (F100_l0_0 K r1329.1 a1263.Prog a1263.Source a1263.Limit a1263.Parts (ilt a1264 10) r1359 K [] 0).bind fun y1410 =>
      Sum.elim (fun w1411 =>
       some (GTurned.mk 0 [] false 8))
       (fun w1412 =>
       some (GTurned.mk r1329.1 w1412 (bnot (ilt a1264 10)) 0)) y1410)
     else
     some (GTurned.mk 0 [] false 8))
    else
    (F69 K a1262 a1265).bind fun r1414 =>
    (F100_l0_0 K a1266 a1263.Prog a1263.Source a1263.Limit a1263.Parts (ilt a1264 10) r1414 K [] 0).bind fun y1426 =>
    Sum.elim (fun w1427 =>
     some (GTurned.mk 0 [] false 8))
     (fun w1428 =>
     some (GTurned.mk a1266 w1428 (bnot (ilt a1264 10)) 0)) y1426)
   else
   bif (ilt 0 a1264) then
    ((F147 K 0).bind fun r1431 =>
    bif r1431.2 then
     ((F69 K a1262 a1265).bind fun r1434 =>
     (F100_l0_0 K r1431.1 a1263.Prog a1263.Source a1263.Limit a1263.Parts (ilt a1264 10) r1434 K [] 0).bind fun y1446 =>
     Sum.elim (fun w1447 =>
      some (GTurned.mk 0 [] false 8))
      (fun w1448 =>
      some (GTurned.mk r1431.1 w1448 (bnot (ilt a1264 10)) 0)) y1446)
    else
    some (GTurned.mk 0 [] false 8))
   else
   (F69 K a1262 a1265).bind fun r1450 =>
   (F100_l0_0 K a1266 a1263.Prog a1263.Source a1263.Limit a1263.Parts (ilt a1264 10) r1450 K [] 0).bind fun y1462 =>
   Sum.elim (fun w1463 =>
    some (GTurned.mk 0 [] false 8))
    (fun w1464 =>
    some (GTurned.mk a1266 w1464 (bnot (ilt a1264 10)) 0)) y1462)
  else
  bif (ieq a1263.Prog 1) then
   (bif (ieq a1265 a1263.Source) then
    (bif a1268 then
     ((F98 K a1263.Prog a1266 a1267).bind fun r1486 =>
     bif (ieq a1264 0) then
      ((F69 K a1262 a1265).bind fun r1489 =>
      (F100_l0_1 K r1486.1 a1263.Prog a1263.Source a1263.Limit a1263.Parts r1489 K [] 0).bind fun y1521 =>
      Sum.elim (fun w1522 =>
       some (GTurned.mk 0 [] false 8))
       (fun w1523 =>
       some (GTurned.mk r1486.1 w1523 true 0)) y1521)
     else
     (F69 K a1262 a1265).bind fun r1525 =>
     (F100_l0_2 K r1486.1 a1263.Prog a1263.Source a1263.Limit a1263.Parts (ine r1486.1 a1266) r1525 K [] 0).bind fun y1561 =>
     Sum.elim (fun w1562 =>
      some (GTurned.mk 0 [] false 8))
      (fun w1563 =>
      some (GTurned.mk r1486.1 w1563 true 0)) y1561)
    else
    bif (ieq a1264 0) then
     ((F69 K a1262 a1265).bind fun r1566 =>
     (F100_l0_1 K a1266 a1263.Prog a1263.Source a1263.Limit a1263.Parts r1566 K [] 0).bind fun y1576 =>
     Sum.elim (fun w1577 =>
      some (GTurned.mk 0 [] false 8))
      (fun w1578 =>
      some (GTurned.mk a1266 w1578 true 0)) y1576)
    else
    (F69 K a1262 a1265).bind fun r1580 =>
    (F100_l0_3 K a1266 a1263.Prog a1263.Source a1263.Limit a1263.Parts r1580 K [] 0).bind fun y1616 =>
    Sum.elim (fun w1617 =>
     some (GTurned.mk a1266 w1617 true 0))
     (fun w1619 =>
     some (GTurned.mk 0 [] false 8)) y1616)
   else
   bif a1268 then
    ((F98 K a1263.Prog a1266 a1267).bind fun r1621 =>
    (F69 K a1262 a1265).bind fun r1623 =>
    (F100_l0_2 K r1621.1 a1263.Prog a1263.Source a1263.Limit a1263.Parts (ine r1621.1 a1266) r1623 K [] 0).bind fun y1634 =>
    Sum.elim (fun w1635 =>
     some (GTurned.mk 0 [] false 8))
     (fun w1636 =>
     some (GTurned.mk r1621.1 w1636 true 0)) y1634)
   else
   (F69 K a1262 a1265).bind fun r1638 =>
   (F100_l0_3 K a1266 a1263.Prog a1263.Source a1263.Limit a1263.Parts r1638 K [] 0).bind fun y1649 =>
   Sum.elim (fun w1650 =>
    some (GTurned.mk a1266 w1650 true 0))
    (fun w1652 =>
    some (GTurned.mk 0 [] false 8)) y1649)
  else
  bif (ieq a1263.Prog 3) then
   (bif (ieq a1265 a1263.Source) then
    (bif a1268 then
     ((F98 K a1263.Prog a1266 a1267).bind fun r1656 =>
     bif (ieq a1264 0) then
      ((F69 K a1262 a1265).bind fun r1659 =>
      (F100_l0_1 K r1656.1 a1263.Prog a1263.Source a1263.Limit a1263.Parts r1659 K [] 0).bind fun y1669 =>
      Sum.elim (fun w1670 =>
       some (GTurned.mk 0 [] false 8))
       (fun w1671 =>
       some (GTurned.mk r1656.1 w1671 true 0)) y1669)
     else
     (F69 K a1262 a1265).bind fun r1673 =>
     (F100_l0_2 K r1656.1 a1263.Prog a1263.Source a1263.Limit a1263.Parts (ine r1656.1 a1266) r1673 K [] 0).bind fun y1684 =>
     Sum.elim (fun w1685 =>
      some (GTurned.mk 0 [] false 8))
      (fun w1686 =>
      some (GTurned.mk r1656.1 w1686 true 0)) y1684)
    else
    bif (ieq a1264 0) then
     ((F69 K a1262 a1265).bind fun r1689 =>
     (F100_l0_1 K a1266 a1263.Prog a1263.Source a1263.Limit a1263.Parts r1689 K [] 0).bind fun y1699 =>
     Sum.elim (fun w1700 =>
      some (GTurned.mk 0 [] false 8))
      (fun w1701 =>
      some (GTurned.mk a1266 w1701 true 0)) y1699)
    else
    (F69 K a1262 a1265).bind fun r1703 =>
    (F100_l0_3 K a1266 a1263.Prog a1263.Source a1263.Limit a1263.Parts r1703 K [] 0).bind fun y1714 =>
    Sum.elim (fun w1715 =>
     some (GTurned.mk a1266 w1715 true 0))
     (fun w1717 =>
     some (GTurned.mk 0 [] false 8)) y1714)
   else
   bif a1268 then
    ((F98 K a1263.Prog a1266 a1267).bind fun r1719 =>
    (F69 K a1262 a1265).bind fun r1721 =>
    (F100_l0_2 K r1719.1 a1263.Prog a1263.Source a1263.Limit a1263.Parts (ine r1719.1 a1266) r1721 K [] 0).bind fun y1732 =>
    Sum.elim (fun w1733 =>
     some (GTurned.mk 0 [] false 8))
     (fun w1734 =>
     some (GTurned.mk r1719.1 w1734 true 0)) y1732)
   else
   (F69 K a1262 a1265).bind fun r1736 =>
   (F100_l0_3 K a1266 a1263.Prog a1263.Source a1263.Limit a1263.Parts r1736 K [] 0).bind fun y1747 =>
   Sum.elim (fun w1748 =>
    some (GTurned.mk a1266 w1748 true 0))
    (fun w1750 =>
    some (GTurned.mk 0 [] false 8)) y1747)
  else
  bif a1268 then
   ((F98 K a1263.Prog a1266 a1267).bind fun r1752 =>
   bif (ieq a1264 0) then
    ((F69 K a1262 a1265).bind fun r1755 =>
    (F100_l0_1 K r1752.1 a1263.Prog a1263.Source a1263.Limit a1263.Parts r1755 K [] 0).bind fun y1765 =>
    Sum.elim (fun w1766 =>
     some (GTurned.mk 0 [] false 8))
     (fun w1767 =>
     some (GTurned.mk r1752.1 w1767 true 0)) y1765)
   else
   (F69 K a1262 a1265).bind fun r1769 =>
   (F100_l0_2 K r1752.1 a1263.Prog a1263.Source a1263.Limit a1263.Parts (ine r1752.1 a1266) r1769 K [] 0).bind fun y1780 =>
   Sum.elim (fun w1781 =>
    some (GTurned.mk 0 [] false 8))
    (fun w1782 =>
    some (GTurned.mk r1752.1 w1782 true 0)) y1780)
  else
  bif (ieq a1264 0) then
   ((F69 K a1262 a1265).bind fun r1785 =>
   (F100_l0_1 K a1266 a1263.Prog a1263.Source a1263.Limit a1263.Parts r1785 K [] 0).bind fun y1795 =>
   Sum.elim (fun w1796 =>
    some (GTurned.mk 0 [] false 8))
    (fun w1797 =>
    some (GTurned.mk a1266 w1797 true 0)) y1795)
  else
  (F69 K a1262 a1265).bind fun r1799 =>
  (F100_l0_3 K a1266 a1263.Prog a1263.Source a1263.Limit a1263.Parts r1799 K [] 0).bind fun y1810 =>
  Sum.elim (fun w1811 =>
   some (GTurned.mk a1266 w1811 true 0))
   (fun w1813 =>
   some (GTurned.mk 0 [] false 8)) y1810)
 else
 some (GTurned.mk 0 [] false r1269)
end Go.Proofs.Ytnjanliihnadjaa.Tm

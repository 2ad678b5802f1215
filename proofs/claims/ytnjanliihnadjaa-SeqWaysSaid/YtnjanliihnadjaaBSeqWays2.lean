/- What the row of SeqWays leans on: printed functions and plain laws. Conditions: none. -/
import Derived.Test.YtnjanliihnadjaaTy
import Derived.Test.YtnjanliihnadjaaTab
import Derived.Test.YtnjanliihnadjaaKn
import Derived.Test.YtnjanliihnadjaaWf
import Derived.IntWalk
import Derived.KernelRfl
import Derived.OpenShut
import Derived.Test.YtnjanliihnadjaaBSeqWays1
set_option linter.unusedVariables false
set_option linter.unusedSimpArgs false
namespace Go.Proofs.Ytnjanliihnadjaa.Tm
open Go
def F99 (K : Nat) (a4245 : GGraph) (a4246 : GJob) (a4247 : Int) (a4248 : Int) (a4249 : Int) (a4250 : Int) (a4251 : Bool) : Option (Int × List GMsg × Bool × Int) :=
 (F94 K a4245 a4246).bind fun r4252 =>
 bif (ieq r4252 0) then
  (bif (ilt a4248 0) then
   (some (0, ([], (false, 4))))
  else
  bif (ile a4245.N a4248) then
   (some (0, ([], (false, 4))))
  else
  bif (ilt a4247 0) then
   (some (0, ([], (false, 1))))
  else
  bif (ilt 40 a4247) then
   (some (0, ([], (false, 1))))
  else
  bif a4251 then
   ((F143 K a4246.Prog).bind fun r4260 =>
   bif (areFns [r4260.1.start_, r4260.1.better_, r4260.1.send_] [158, 159, 160]) then
    ((F68 K a4245 a4248).bind fun r4263 =>
    bif (ieq a4247 0) then
     (bif r4260.1.only_ then
      ((F159 K a4250 a4249).bind fun r4267 =>
      bif r4267 then
       ((F99_l0_0 K a4250 r4260.1.only_ r4263 K [] 0).bind fun y4302 =>
       Sum.elim (fun w4303 =>
        some (0, ([], (false, 8))))
        (fun w4304 =>
        some (a4250, (w4304, (true, 0)))) y4302)
      else
      bif (ieq a4248 a4246.Source) then
       ((F99_l0_0 K a4249 r4260.1.only_ r4263 K [] 0).bind fun y4312 =>
       Sum.elim (fun w4313 =>
        some (0, ([], (false, 8))))
        (fun w4314 =>
        some (a4249, (w4314, (true, 0)))) y4312)
      else
      some (a4249, ([], (true, 0))))
     else
     (F159 K a4250 a4249).bind fun r4316 =>
     bif r4316 then
      ((F99_l0_0 K a4250 r4260.1.only_ r4263 K [] 0).bind fun y4324 =>
      Sum.elim (fun w4325 =>
       some (0, ([], (false, 8))))
       (fun w4326 =>
       some (a4250, (w4326, (true, 0)))) y4324)
     else
     (F99_l0_0 K a4249 r4260.1.only_ r4263 K [] 0).bind fun y4333 =>
     Sum.elim (fun w4334 =>
      some (0, ([], (false, 8))))
      (fun w4335 =>
      some (a4249, (w4335, (true, 0)))) y4333)
    else
    (F159 K a4250 a4249).bind fun r4337 =>
    bif r4337 then
     ((F99_l0_0 K a4250 r4260.1.only_ r4263 K [] 0).bind fun y4345 =>
     Sum.elim (fun w4346 =>
      some (0, ([], (false, 8))))
      (fun w4347 =>
      some (a4250, (w4347, (true, 0)))) y4345)
    else
    some (a4249, ([], (true, 0))))
   else
   bif (areFns [r4260.1.start_, r4260.1.better_, r4260.1.send_] [158, 159, 161]) then
    ((F68 K a4245 a4248).bind fun r4350 =>
    bif (ieq a4247 0) then
     (bif r4260.1.only_ then
      ((F159 K a4250 a4249).bind fun r4354 =>
      bif r4354 then
       ((F99_l0_1 K a4250 r4260.1.only_ r4350 K [] 0).bind fun y4389 =>
       Sum.elim (fun w4390 =>
        some (0, ([], (false, 8))))
        (fun w4391 =>
        some (a4250, (w4391, (true, 0)))) y4389)
      else
      bif (ieq a4248 a4246.Source) then
       ((F99_l0_1 K a4249 r4260.1.only_ r4350 K [] 0).bind fun y4399 =>
       Sum.elim (fun w4400 =>
        some (0, ([], (false, 8))))
        (fun w4401 =>
        some (a4249, (w4401, (true, 0)))) y4399)
      else
      some (a4249, ([], (true, 0))))
     else
     (F159 K a4250 a4249).bind fun r4403 =>
     bif r4403 then
      ((F99_l0_1 K a4250 r4260.1.only_ r4350 K [] 0).bind fun y4411 =>
      Sum.elim (fun w4412 =>
       some (0, ([], (false, 8))))
       (fun w4413 =>
       some (a4250, (w4413, (true, 0)))) y4411)
     else
     (F99_l0_1 K a4249 r4260.1.only_ r4350 K [] 0).bind fun y4420 =>
     Sum.elim (fun w4421 =>
      some (0, ([], (false, 8))))
      (fun w4422 =>
      some (a4249, (w4422, (true, 0)))) y4420)
    else
    (F159 K a4250 a4249).bind fun r4424 =>
    bif r4424 then
     ((F99_l0_1 K a4250 r4260.1.only_ r4350 K [] 0).bind fun y4432 =>
     Sum.elim (fun w4433 =>
      some (0, ([], (false, 8))))
      (fun w4434 =>
      some (a4250, (w4434, (true, 0)))) y4432)
    else
    some (a4249, ([], (true, 0))))
   else
   bif (areFns [r4260.1.start_, r4260.1.better_, r4260.1.send_] [162, 159, 163]) then
    ((F68 K a4245 a4248).bind fun r4437 =>
    bif (ieq a4247 0) then
     (bif r4260.1.only_ then
      ((F159 K a4250 a4249).bind fun r4441 =>
      bif r4441 then
       ((F99_l0_2 K a4250 r4260.1.only_ r4437 K [] 0).bind fun y4474 =>
       Sum.elim (fun w4475 =>
        some (0, ([], (false, 8))))
        (fun w4476 =>
        some (a4250, (w4476, (true, 0)))) y4474)
      else
      bif (ieq a4248 a4246.Source) then
       ((F99_l0_2 K a4249 r4260.1.only_ r4437 K [] 0).bind fun y4484 =>
       Sum.elim (fun w4485 =>
        some (0, ([], (false, 8))))
        (fun w4486 =>
        some (a4249, (w4486, (true, 0)))) y4484)
      else
      some (a4249, ([], (true, 0))))
     else
     (F159 K a4250 a4249).bind fun r4488 =>
     bif r4488 then
      ((F99_l0_2 K a4250 r4260.1.only_ r4437 K [] 0).bind fun y4496 =>
      Sum.elim (fun w4497 =>
       some (0, ([], (false, 8))))
       (fun w4498 =>
       some (a4250, (w4498, (true, 0)))) y4496)
     else
     (F99_l0_2 K a4249 r4260.1.only_ r4437 K [] 0).bind fun y4505 =>
     Sum.elim (fun w4506 =>
      some (0, ([], (false, 8))))
      (fun w4507 =>
      some (a4249, (w4507, (true, 0)))) y4505)
    else
    (F159 K a4250 a4249).bind fun r4509 =>
    bif r4509 then
     ((F99_l0_2 K a4250 r4260.1.only_ r4437 K [] 0).bind fun y4517 =>
     Sum.elim (fun w4518 =>
      some (0, ([], (false, 8))))
      (fun w4519 =>
      some (a4250, (w4519, (true, 0)))) y4517)
    else
    some (a4249, ([], (true, 0))))
   else
   bif (areFns [r4260.1.start_, r4260.1.better_, r4260.1.send_] [164, 165, 163]) then
    ((F68 K a4245 a4248).bind fun r4522 =>
    bif (ieq a4247 0) then
     (bif r4260.1.only_ then
      ((F165 K a4250 a4249).bind fun r4526 =>
      bif r4526 then
       ((F99_l0_3 K a4250 r4260.1.only_ r4522 K [] 0).bind fun y4556 =>
       Sum.elim (fun w4557 =>
        some (0, ([], (false, 8))))
        (fun w4558 =>
        some (a4250, (w4558, (true, 0)))) y4556)
      else
      bif (ieq a4248 a4246.Source) then
       ((F99_l0_3 K a4249 r4260.1.only_ r4522 K [] 0).bind fun y4566 =>
       Sum.elim (fun w4567 =>
        some (0, ([], (false, 8))))
        (fun w4568 =>
        some (a4249, (w4568, (true, 0)))) y4566)
      else
      some (a4249, ([], (true, 0))))
     else
     (F165 K a4250 a4249).bind fun r4570 =>
     bif r4570 then
      ((F99_l0_3 K a4250 r4260.1.only_ r4522 K [] 0).bind fun y4578 =>
      Sum.elim (fun w4579 =>
       some (0, ([], (false, 8))))
       (fun w4580 =>
       some (a4250, (w4580, (true, 0)))) y4578)
     else
     (F99_l0_3 K a4249 r4260.1.only_ r4522 K [] 0).bind fun y4587 =>
     Sum.elim (fun w4588 =>
      some (0, ([], (false, 8))))
      (fun w4589 =>
      some (a4249, (w4589, (true, 0)))) y4587)
    else
    (F165 K a4250 a4249).bind fun r4591 =>
    bif r4591 then
     ((F99_l0_3 K a4250 r4260.1.only_ r4522 K [] 0).bind fun y4599 =>
     Sum.elim (fun w4600 =>
      some (0, ([], (false, 8))))
      (fun w4601 =>
      some (a4250, (w4601, (true, 0)))) y4599)
    else
    some (a4249, ([], (true, 0))))
   else
   bif (areFns [r4260.1.start_, r4260.1.better_, r4260.1.send_] [166, 0, 163]) then
    ((F68 K a4245 a4248).bind fun r4604 =>
    (F146 K r4604 a4247 a4249 a4250).bind fun r4697 =>
    some (r4697.1, (r4697.2.1, (r4697.2.2.1, r4697.2.2.2))))
   else
   bif (areFns [r4260.1.start_, r4260.1.better_, r4260.1.send_] [0, 0, 0]) then
   (F68 K a4245 a4248).bind fun r4700 =>
   (F146 K r4700 a4247 a4249 a4250).bind fun r4702 =>
   some (r4702.1, (r4702.2.1, (r4702.2.2.1, r4702.2.2.2)))
   else none)
  else
  (F143 K a4246.Prog).bind fun r4704 =>
  bif (areFns [r4704.1.start_, r4704.1.better_, r4704.1.send_] [158, 159, 160]) then
   ((F68 K a4245 a4248).bind fun r4707 =>
   bif (ieq a4247 0) then
    (bif r4704.1.only_ then
     (bif (ieq a4248 a4246.Source) then
      ((F99_l0_0 K a4249 r4704.1.only_ r4707 K [] 0).bind fun y4717 =>
      Sum.elim (fun w4718 =>
       some (0, ([], (false, 8))))
       (fun w4719 =>
       some (a4249, (w4719, (true, 0)))) y4717)
     else
     some (a4249, ([], (true, 0))))
    else
    (F99_l0_0 K a4249 r4704.1.only_ r4707 K [] 0).bind fun y4726 =>
    Sum.elim (fun w4727 =>
     some (0, ([], (false, 8))))
     (fun w4728 =>
     some (a4249, (w4728, (true, 0)))) y4726)
   else
   some (a4249, ([], (true, 0))))
  else
  bif (areFns [r4704.1.start_, r4704.1.better_, r4704.1.send_] [158, 159, 161]) then
   ((F68 K a4245 a4248).bind fun r4731 =>
   bif (ieq a4247 0) then
    (bif r4704.1.only_ then
     (bif (ieq a4248 a4246.Source) then
      ((F99_l0_1 K a4249 r4704.1.only_ r4731 K [] 0).bind fun y4741 =>
      Sum.elim (fun w4742 =>
       some (0, ([], (false, 8))))
       (fun w4743 =>
       some (a4249, (w4743, (true, 0)))) y4741)
     else
     some (a4249, ([], (true, 0))))
    else
    (F99_l0_1 K a4249 r4704.1.only_ r4731 K [] 0).bind fun y4750 =>
    Sum.elim (fun w4751 =>
     some (0, ([], (false, 8))))
     (fun w4752 =>
     some (a4249, (w4752, (true, 0)))) y4750)
   else
   some (a4249, ([], (true, 0))))
  else
  bif (areFns [r4704.1.start_, r4704.1.better_, r4704.1.send_] [162, 159, 163]) then
   ((F68 K a4245 a4248).bind fun r4755 =>
   bif (ieq a4247 0) then
    (bif r4704.1.only_ then
     (bif (ieq a4248 a4246.Source) then
      ((F99_l0_2 K a4249 r4704.1.only_ r4755 K [] 0).bind fun y4765 =>
      Sum.elim (fun w4766 =>
       some (0, ([], (false, 8))))
       (fun w4767 =>
       some (a4249, (w4767, (true, 0)))) y4765)
     else
     some (a4249, ([], (true, 0))))
    else
    (F99_l0_2 K a4249 r4704.1.only_ r4755 K [] 0).bind fun y4774 =>
    Sum.elim (fun w4775 =>
     some (0, ([], (false, 8))))
     (fun w4776 =>
     some (a4249, (w4776, (true, 0)))) y4774)
   else
   some (a4249, ([], (true, 0))))
  else
  bif (areFns [r4704.1.start_, r4704.1.better_, r4704.1.send_] [164, 165, 163]) then
   ((F68 K a4245 a4248).bind fun r4779 =>
   bif (ieq a4247 0) then
    (bif r4704.1.only_ then
     (bif (ieq a4248 a4246.Source) then
      ((F99_l0_3 K a4249 r4704.1.only_ r4779 K [] 0).bind fun y4789 =>
      Sum.elim (fun w4790 =>
       some (0, ([], (false, 8))))
       (fun w4791 =>
       some (a4249, (w4791, (true, 0)))) y4789)
     else
     some (a4249, ([], (true, 0))))
    else
    (F99_l0_3 K a4249 r4704.1.only_ r4779 K [] 0).bind fun y4798 =>
    Sum.elim (fun w4799 =>
     some (0, ([], (false, 8))))
     (fun w4800 =>
     some (a4249, (w4800, (true, 0)))) y4798)
   else
   some (a4249, ([], (true, 0))))
  else
  bif (areFns [r4704.1.start_, r4704.1.better_, r4704.1.send_] [166, 0, 163]) then
   ((F68 K a4245 a4248).bind fun r4803 =>
   (F146 K r4803 a4247 a4249 0).bind fun r4805 =>
   some (r4805.1, (r4805.2.1, (r4805.2.2.1, r4805.2.2.2))))
  else
  bif (areFns [r4704.1.start_, r4704.1.better_, r4704.1.send_] [0, 0, 0]) then
  (F68 K a4245 a4248).bind fun r4808 =>
  (F146 K r4808 a4247 a4249 0).bind fun r4810 =>
  some (r4810.1, (r4810.2.1, (r4810.2.2.1, r4810.2.2.2)))
  else none)
 else
 some (0, ([], (false, r4252)))
theorem F99_ok (K : Nat) (a4245 : GGraph) (a4246 : GJob) (a4247 : Int) (a4248 : Int) (a4249 : Int) (a4250 : Int) (a4251 : Bool) (r : Int × List GMsg × Bool × Int) (hF : F99 K a4245 a4246 a4247 a4248 a4249 a4250 a4251 = some r) : Evt E H 99 [.agg (eGGraph a4245), .agg (eGJob a4246), .one (.lit (.int .i64 a4247)), .one (.lit (.int .i64 a4248)), .one (.lit (.int .i64 a4249)), .one (.lit (.int .i64 a4250)), .one (.lit (.bool a4251))] (F99_res r) := by
 rw [F99] at hF
 refine bind_some hF (fun r4252 h4253 hF => ?_)
 refine cond_some hF (fun h4254 hF => ?_) (fun h4254 hF => ?_)
 ·
  have pq4812 : ∀ {l : List Cond}, HoldAll E H hn99 l → HoldAll E H hn99 (.call 94 [.agg (eGGraph a4245), .agg (eGJob a4246)] (F94_res r4252) :: .test (leadsAny (Res.mk [(.one (.im (.lit (.int .i64 r4252))))] [])) false :: .test (ine r4252 0) false :: l) := fun z => ⟨(F94_ok K a4245 a4246 _ h4253), (leads_ok (by simp [leadsAny, RV.leads, RC.leads, leadsT, hasSl_lit, flat_ns eGJob_ns])), (ine_t h4254), z⟩
  refine cond_some hF (fun h4255 hF => ?_) (fun h4255 hF => ?_)
  ·
   obtain rfl := Option.some.inj hF
   have pz : HoldAll E H hn99 [.test (beqb (ilt a4248 0) false) false, .test (beqb (ilt a4248 0) false) false, .test (beqb (ilt a4248 0) false) false, .test (beqb (ilt a4248 0) false) false, .test (ilt a4248 0) true, .test true true] := ⟨(beqb_ft h4255), (beqb_ft h4255), (beqb_ft h4255), (beqb_ft h4255), h4255, rfl, trivial⟩
   exact fn_playC hn99 (r := F99_res (0, ([], (false, 4)))) (pq4812 pz) (by kernel_rfl) (by kernel_rfl)
  have pq4813 : ∀ {l : List Cond}, HoldAll E H hn99 l → HoldAll E H hn99 (.test (beqb (ilt a4248 0) false) true :: .test (beqb (ilt a4248 0) false) true :: .test (beqb (ilt a4248 0) false) true :: .test (beqb (ilt a4248 0) false) true :: .test (ilt a4248 0) false :: l) := fun z => ⟨(beqb_ff h4255), (beqb_ff h4255), (beqb_ff h4255), (beqb_ff h4255), h4255, z⟩
  refine cond_some hF (fun h4256 hF => ?_) (fun h4256 hF => ?_)
  ·
   obtain rfl := Option.some.inj hF
   have pz : HoldAll E H hn99 [.test (ige a4248 a4245.N) true] := ⟨(ige_eq h4256), trivial⟩
   exact fn_playC hn99 (r := F99_res (0, ([], (false, 4)))) (pq4812 (pq4813 pz)) (by kernel_rfl) (by kernel_rfl)
  refine cond_some hF (fun h4257 hF => ?_) (fun h4257 hF => ?_)
  ·
   obtain rfl := Option.some.inj hF
   have pz : HoldAll E H hn99 [.test (ige a4248 a4245.N) false, .test (beqb (ilt a4247 0) false) false, .test (beqb (ilt a4247 0) false) false, .test (ilt a4247 0) true, .test true true] := ⟨(ige_eq h4256), (beqb_ft h4257), (beqb_ft h4257), h4257, rfl, trivial⟩
   exact fn_playC hn99 (r := F99_res (0, ([], (false, 1)))) (pq4812 (pq4813 pz)) (by kernel_rfl) (by kernel_rfl)
  have pq4814 : ∀ {l : List Cond}, HoldAll E H hn99 l → HoldAll E H hn99 (.test (ige a4248 a4245.N) false :: .test (beqb (ilt a4247 0) false) true :: .test (beqb (ilt a4247 0) false) true :: .test (ilt a4247 0) false :: l) := fun z => ⟨(ige_eq h4256), (beqb_ff h4257), (beqb_ff h4257), h4257, z⟩
  refine cond_some hF (fun h4258 hF => ?_) (fun h4258 hF => ?_)
  ·
   obtain rfl := Option.some.inj hF
   have pz : HoldAll E H hn99 [.test (igt a4247 40) true] := ⟨(igt_eq h4258), trivial⟩
   exact fn_playC hn99 (r := F99_res (0, ([], (false, 1)))) (pq4812 (pq4813 (pq4814 pz))) (by kernel_rfl) (by kernel_rfl)
  refine cond_some hF (fun h4259 hF => ?_) (fun h4259 hF => ?_)
  ·
   refine bind_some hF (fun r4260 h4261 hF => ?_)
   refine cond_some hF (fun h4262 hF => ?_) (fun h4262 hF => ?_)
   ·
    refine bind_some hF (fun r4263 h4264 hF => ?_)
    have pq4815 : ∀ {l : List Cond}, HoldAll E H hn99 l → HoldAll E H hn99 (.test (igt a4247 40) false :: .test (bnot a4251) false :: .call 143 [.one (.lit (.int .i64 a4246.Prog))] (F143_res0 r4260) :: .test (leadsAny (Res.mk [(.agg [(.im (.lit (fnV 158))), (.im (.lit (fnV 159))), (.im (.lit (.bool r4260.1.only_))), (.im (.lit (fnV 160)))]), (.one (.im (.lit (.bool r4260.2))))] [])) false :: .call 68 [.agg (eGGraph a4245), .one (.lit (.int .i64 a4248))] (F68_res r4263) :: .test (leadsAny (Res.mk [(.one (.own 89 (.sl (len r4263) (flat eGEdge r4263))))] [])) false :: .test false false :: l) := fun z => ⟨(igt_eq h4258), (bnot_t h4259), (F143_ok0 _ h4262 (F143_ok K a4246.Prog _ h4261)), (leads_ok (by simp [leadsAny, RV.leads, RC.leads, leadsT, hasSl_lit, flat_ns eGEdge_ns])), (F68_ok K a4245 a4248 _ h4264), (leads_ok (by simp [leadsAny, RV.leads, RC.leads, leadsT, hasSl_lit, flat_ns eGEdge_ns])), rfl, z⟩
    refine cond_some hF (fun h4265 hF => ?_) (fun h4265 hF => ?_)
    ·
     have pq4816 : ∀ {l : List Cond}, HoldAll E H hn99 l → HoldAll E H hn99 (.test (beqb (ieq a4247 0) true) true :: .test (beqb (ieq a4247 0) true) true :: .test (beqb (ieq a4247 0) true) true :: .test (beqb (ieq a4247 0) true) true :: l) := fun z => ⟨(beqb_t h4265), (beqb_t h4265), (beqb_t h4265), (beqb_t h4265), z⟩
     refine cond_some hF (fun h4266 hF => ?_) (fun h4266 hF => ?_)
     ·
      refine bind_some hF (fun r4267 h4268 hF => ?_)
      have pq4817 : ∀ {l : List Cond}, HoldAll E H hn99 l → HoldAll E H hn99 (.test (beqb (bnot r4260.1.only_) false) true :: .test (beqb (bnot r4260.1.only_) false) true :: .test (beqb (bnot r4260.1.only_) false) true :: .test (beqb (bnot r4260.1.only_) false) true :: .test (beqb (ieq a4247 0) true) true :: .test (bnot r4260.1.only_) false :: .test (ieq a4247 0) true :: .test (beqb a4251 true) true :: .test (beqb a4251 true) true :: .test (beqb a4251 true) true :: .test (beqb a4251 true) true :: .test (beqb a4251 true) true :: .call 159 [.one (.lit (.int .i64 a4250)), .one (.lit (.int .i64 a4249))] (F159_res r4267) :: .test (leadsAny (Res.mk [(.one (.im (.lit (.bool r4267))))] [])) false :: .test a4251 true :: l) := fun z => ⟨(beqb_ff (bnot_t h4266)), (beqb_ff (bnot_t h4266)), (beqb_ff (bnot_t h4266)), (beqb_ff (bnot_t h4266)), (beqb_t h4265), (bnot_t h4266), h4265, (beqb_t h4259), (beqb_t h4259), (beqb_t h4259), (beqb_t h4259), (beqb_t h4259), (F159_ok K a4250 a4249 _ h4268), (leads_ok (by simp [leadsAny, RV.leads, RC.leads, leadsT, hasSl_lit])), h4259, z⟩
      refine cond_some hF (fun h4269 hF => ?_) (fun h4269 hF => ?_)
      ·
       have pq4818 : ∀ {l : List Cond}, HoldAll E H hn99 l → HoldAll E H hn99 (.test r4267 true :: .test (bnot true) false :: .int (nlen (len r4263)) (nlen (len r4263)) :: l) := fun z => ⟨h4269, (bnot_t rfl), rfl, z⟩
       refine bind_some hF (fun y4302 h4301 hF => ?_)
       refine sum_some hF (fun w4303 hx hF => ?_) (fun w4304 hx hF => ?_)
       ·
        subst hx
        obtain rfl := Option.some.inj hF
        have pz : HoldAll E H hn99 [.loop 0 c99_0 (F99_l0_0_S a4250 r4260.1.only_ r4263 [] 0) .ret (F99_l0_0_X0 a4250 r4260.1.only_ r4263 w4303)] := ⟨(F99_l0_0_ok K a4250 r4260.1.only_ r4263 K [] 0 _ h4301), trivial⟩
        exact fn_playC hn99 (r := F99_res (0, ([], (false, 8)))) (pq4812 (pq4813 (pq4814 (pq4815 (pq4816 (pq4817 (pq4818 pz))))))) (by kernel_rfl) (by kernel_rfl)
       subst hx
       obtain rfl := Option.some.inj hF
       have pz : HoldAll E H hn99 [.loop 0 c99_0 (F99_l0_0_S a4250 r4260.1.only_ r4263 [] 0) (.exit 0) (F99_l0_0_X1 a4250 r4260.1.only_ r4263 w4304)] := ⟨(F99_l0_0_ok K a4250 r4260.1.only_ r4263 K [] 0 _ h4301), trivial⟩
       exact fn_playC hn99 (r := F99_res (a4250, (w4304, (true, 0)))) (pq4812 (pq4813 (pq4814 (pq4815 (pq4816 (pq4817 (pq4818 pz))))))) (by kernel_rfl) (by kernel_rfl)
      refine cond_some hF (fun h4306 hF => ?_) (fun h4306 hF => ?_)
      ·
       have pq4819 : ∀ {l : List Cond}, HoldAll E H hn99 l → HoldAll E H hn99 (.test r4267 false :: .test (bnot (ieq a4248 a4246.Source)) false :: .int (nlen (len r4263)) (nlen (len r4263)) :: l) := fun z => ⟨h4269, (bnot_t h4306), rfl, z⟩
       refine bind_some hF (fun y4312 h4311 hF => ?_)
       refine sum_some hF (fun w4313 hx hF => ?_) (fun w4314 hx hF => ?_)
       ·
        subst hx
        obtain rfl := Option.some.inj hF
        have pz : HoldAll E H hn99 [.loop 0 c99_0 (F99_l0_0_S a4249 r4260.1.only_ r4263 [] 0) .ret (F99_l0_0_X0 a4249 r4260.1.only_ r4263 w4313)] := ⟨(F99_l0_0_ok K a4249 r4260.1.only_ r4263 K [] 0 _ h4311), trivial⟩
        exact fn_playC hn99 (r := F99_res (0, ([], (false, 8)))) (pq4812 (pq4813 (pq4814 (pq4815 (pq4816 (pq4817 (pq4819 pz))))))) (by kernel_rfl) (by kernel_rfl)
       subst hx
       obtain rfl := Option.some.inj hF
       have pz : HoldAll E H hn99 [.loop 0 c99_0 (F99_l0_0_S a4249 r4260.1.only_ r4263 [] 0) (.exit 0) (F99_l0_0_X1 a4249 r4260.1.only_ r4263 w4314)] := ⟨(F99_l0_0_ok K a4249 r4260.1.only_ r4263 K [] 0 _ h4311), trivial⟩
       exact fn_playC hn99 (r := F99_res (a4249, (w4314, (true, 0)))) (pq4812 (pq4813 (pq4814 (pq4815 (pq4816 (pq4817 (pq4819 pz))))))) (by kernel_rfl) (by kernel_rfl)
      obtain rfl := Option.some.inj hF
      have pz : HoldAll E H hn99 [.test r4267 false, .test (bnot (ieq a4248 a4246.Source)) true] := ⟨h4269, (bnot_f h4306), trivial⟩
      exact fn_playC hn99 (r := F99_res (a4249, ([], (true, 0)))) (pq4812 (pq4813 (pq4814 (pq4815 (pq4816 (pq4817 pz)))))) (by kernel_rfl) (by kernel_rfl)
     refine bind_some hF (fun r4316 h4317 hF => ?_)
     have pq4820 : ∀ {l : List Cond}, HoldAll E H hn99 l → HoldAll E H hn99 (.test (beqb (bnot r4260.1.only_) false) false :: .test (beqb (bnot r4260.1.only_) false) false :: .test (beqb (bnot r4260.1.only_) false) false :: .test (beqb (bnot r4260.1.only_) false) false :: .test (beqb (ieq a4247 0) true) true :: .test (bnot r4260.1.only_) true :: .test (ieq a4247 0) true :: .test (beqb a4251 true) true :: .test (beqb a4251 true) true :: .test (beqb a4251 true) true :: .test (beqb a4251 true) true :: .test (beqb a4251 true) true :: .call 159 [.one (.lit (.int .i64 a4250)), .one (.lit (.int .i64 a4249))] (F159_res r4316) :: .test (leadsAny (Res.mk [(.one (.im (.lit (.bool r4316))))] [])) false :: .test a4251 true :: l) := fun z => ⟨(beqb_ft (bnot_f h4266)), (beqb_ft (bnot_f h4266)), (beqb_ft (bnot_f h4266)), (beqb_ft (bnot_f h4266)), (beqb_t h4265), (bnot_f h4266), h4265, (beqb_t h4259), (beqb_t h4259), (beqb_t h4259), (beqb_t h4259), (beqb_t h4259), (F159_ok K a4250 a4249 _ h4317), (leads_ok (by simp [leadsAny, RV.leads, RC.leads, leadsT, hasSl_lit])), h4259, z⟩
     refine cond_some hF (fun h4318 hF => ?_) (fun h4318 hF => ?_)
     ·
      have pq4821 : ∀ {l : List Cond}, HoldAll E H hn99 l → HoldAll E H hn99 (.test r4316 true :: .test (bnot true) false :: .int (nlen (len r4263)) (nlen (len r4263)) :: l) := fun z => ⟨h4318, (bnot_t rfl), rfl, z⟩
      refine bind_some hF (fun y4324 h4323 hF => ?_)
      refine sum_some hF (fun w4325 hx hF => ?_) (fun w4326 hx hF => ?_)
      ·
       subst hx
       obtain rfl := Option.some.inj hF
       have pz : HoldAll E H hn99 [.loop 0 c99_0 (F99_l0_0_S a4250 r4260.1.only_ r4263 [] 0) .ret (F99_l0_0_X0 a4250 r4260.1.only_ r4263 w4325)] := ⟨(F99_l0_0_ok K a4250 r4260.1.only_ r4263 K [] 0 _ h4323), trivial⟩
       exact fn_playC hn99 (r := F99_res (0, ([], (false, 8)))) (pq4812 (pq4813 (pq4814 (pq4815 (pq4816 (pq4820 (pq4821 pz))))))) (by kernel_rfl) (by kernel_rfl)
      subst hx
      obtain rfl := Option.some.inj hF
      have pz : HoldAll E H hn99 [.loop 0 c99_0 (F99_l0_0_S a4250 r4260.1.only_ r4263 [] 0) (.exit 0) (F99_l0_0_X1 a4250 r4260.1.only_ r4263 w4326)] := ⟨(F99_l0_0_ok K a4250 r4260.1.only_ r4263 K [] 0 _ h4323), trivial⟩
      exact fn_playC hn99 (r := F99_res (a4250, (w4326, (true, 0)))) (pq4812 (pq4813 (pq4814 (pq4815 (pq4816 (pq4820 (pq4821 pz))))))) (by kernel_rfl) (by kernel_rfl)
     have pq4822 : ∀ {l : List Cond}, HoldAll E H hn99 l → HoldAll E H hn99 (.test r4316 false :: .test (bnot true) false :: .int (nlen (len r4263)) (nlen (len r4263)) :: l) := fun z => ⟨h4318, (bnot_t rfl), rfl, z⟩
     refine bind_some hF (fun y4333 h4332 hF => ?_)
     refine sum_some hF (fun w4334 hx hF => ?_) (fun w4335 hx hF => ?_)
     ·
      subst hx
      obtain rfl := Option.some.inj hF
      have pz : HoldAll E H hn99 [.loop 0 c99_0 (F99_l0_0_S a4249 r4260.1.only_ r4263 [] 0) .ret (F99_l0_0_X0 a4249 r4260.1.only_ r4263 w4334)] := ⟨(F99_l0_0_ok K a4249 r4260.1.only_ r4263 K [] 0 _ h4332), trivial⟩
      exact fn_playC hn99 (r := F99_res (0, ([], (false, 8)))) (pq4812 (pq4813 (pq4814 (pq4815 (pq4816 (pq4820 (pq4822 pz))))))) (by kernel_rfl) (by kernel_rfl)
     subst hx
     obtain rfl := Option.some.inj hF
     have pz : HoldAll E H hn99 [.loop 0 c99_0 (F99_l0_0_S a4249 r4260.1.only_ r4263 [] 0) (.exit 0) (F99_l0_0_X1 a4249 r4260.1.only_ r4263 w4335)] := ⟨(F99_l0_0_ok K a4249 r4260.1.only_ r4263 K [] 0 _ h4332), trivial⟩
     exact fn_playC hn99 (r := F99_res (a4249, (w4335, (true, 0)))) (pq4812 (pq4813 (pq4814 (pq4815 (pq4816 (pq4820 (pq4822 pz))))))) (by kernel_rfl) (by kernel_rfl)
    refine bind_some hF (fun r4337 h4338 hF => ?_)
    have pq4823 : ∀ {l : List Cond}, HoldAll E H hn99 l → HoldAll E H hn99 (.test (beqb (ieq a4247 0) true) false :: .test (beqb (ieq a4247 0) true) false :: .test (beqb (ieq a4247 0) true) false :: .test (beqb (ieq a4247 0) true) false :: .test (beqb (ieq a4247 0) true) false :: .test (ieq a4247 0) false :: .test (beqb a4251 true) true :: .test (beqb a4251 true) true :: .test (beqb a4251 true) true :: .test (beqb a4251 true) true :: .test (beqb a4251 true) true :: .call 159 [.one (.lit (.int .i64 a4250)), .one (.lit (.int .i64 a4249))] (F159_res r4337) :: .test (leadsAny (Res.mk [(.one (.im (.lit (.bool r4337))))] [])) false :: .test a4251 true :: l) := fun z => ⟨(beqb_t h4265), (beqb_t h4265), (beqb_t h4265), (beqb_t h4265), (beqb_t h4265), h4265, (beqb_t h4259), (beqb_t h4259), (beqb_t h4259), (beqb_t h4259), (beqb_t h4259), (F159_ok K a4250 a4249 _ h4338), (leads_ok (by simp [leadsAny, RV.leads, RC.leads, leadsT, hasSl_lit])), h4259, z⟩
    refine cond_some hF (fun h4339 hF => ?_) (fun h4339 hF => ?_)
    ·
     have pq4824 : ∀ {l : List Cond}, HoldAll E H hn99 l → HoldAll E H hn99 (.test r4337 true :: .test (bnot true) false :: .int (nlen (len r4263)) (nlen (len r4263)) :: l) := fun z => ⟨h4339, (bnot_t rfl), rfl, z⟩
     refine bind_some hF (fun y4345 h4344 hF => ?_)
     refine sum_some hF (fun w4346 hx hF => ?_) (fun w4347 hx hF => ?_)
     ·
      subst hx
      obtain rfl := Option.some.inj hF
      have pz : HoldAll E H hn99 [.loop 0 c99_0 (F99_l0_0_S a4250 r4260.1.only_ r4263 [] 0) .ret (F99_l0_0_X0 a4250 r4260.1.only_ r4263 w4346)] := ⟨(F99_l0_0_ok K a4250 r4260.1.only_ r4263 K [] 0 _ h4344), trivial⟩
      exact fn_playC hn99 (r := F99_res (0, ([], (false, 8)))) (pq4812 (pq4813 (pq4814 (pq4815 (pq4823 (pq4824 pz)))))) (by kernel_rfl) (by kernel_rfl)
     subst hx
     obtain rfl := Option.some.inj hF
     have pz : HoldAll E H hn99 [.loop 0 c99_0 (F99_l0_0_S a4250 r4260.1.only_ r4263 [] 0) (.exit 0) (F99_l0_0_X1 a4250 r4260.1.only_ r4263 w4347)] := ⟨(F99_l0_0_ok K a4250 r4260.1.only_ r4263 K [] 0 _ h4344), trivial⟩
     exact fn_playC hn99 (r := F99_res (a4250, (w4347, (true, 0)))) (pq4812 (pq4813 (pq4814 (pq4815 (pq4823 (pq4824 pz)))))) (by kernel_rfl) (by kernel_rfl)
    obtain rfl := Option.some.inj hF
    have pz : HoldAll E H hn99 [.test r4337 false, .test (bnot false) true] := ⟨h4339, (bnot_f rfl), trivial⟩
    exact fn_playC hn99 (r := F99_res (a4249, ([], (true, 0)))) (pq4812 (pq4813 (pq4814 (pq4815 (pq4823 pz))))) (by kernel_rfl) (by kernel_rfl)
   refine cond_some hF (fun h4349 hF => ?_) (fun h4349 hF => ?_)
   ·
    refine bind_some hF (fun r4350 h4351 hF => ?_)
    have pq4825 : ∀ {l : List Cond}, HoldAll E H hn99 l → HoldAll E H hn99 (.test (igt a4247 40) false :: .test (bnot a4251) false :: .call 143 [.one (.lit (.int .i64 a4246.Prog))] (F143_res1 r4260) :: .test (leadsAny (Res.mk [(.agg [(.im (.lit (fnV 158))), (.im (.lit (fnV 159))), (.im (.lit (.bool r4260.1.only_))), (.im (.lit (fnV 161)))]), (.one (.im (.lit (.bool r4260.2))))] [])) false :: .call 68 [.agg (eGGraph a4245), .one (.lit (.int .i64 a4248))] (F68_res r4350) :: .test (leadsAny (Res.mk [(.one (.own 89 (.sl (len r4350) (flat eGEdge r4350))))] [])) false :: .test false false :: l) := fun z => ⟨(igt_eq h4258), (bnot_t h4259), (F143_ok1 _ h4349 (F143_ok K a4246.Prog _ h4261)), (leads_ok (by simp [leadsAny, RV.leads, RC.leads, leadsT, hasSl_lit, flat_ns eGEdge_ns])), (F68_ok K a4245 a4248 _ h4351), (leads_ok (by simp [leadsAny, RV.leads, RC.leads, leadsT, hasSl_lit, flat_ns eGEdge_ns])), rfl, z⟩
    refine cond_some hF (fun h4352 hF => ?_) (fun h4352 hF => ?_)
    ·
     have pq4826 : ∀ {l : List Cond}, HoldAll E H hn99 l → HoldAll E H hn99 (.test (beqb (ieq a4247 0) true) true :: .test (beqb (ieq a4247 0) true) true :: .test (beqb (ieq a4247 0) true) true :: .test (beqb (ieq a4247 0) true) true :: l) := fun z => ⟨(beqb_t h4352), (beqb_t h4352), (beqb_t h4352), (beqb_t h4352), z⟩
     refine cond_some hF (fun h4353 hF => ?_) (fun h4353 hF => ?_)
     ·
      refine bind_some hF (fun r4354 h4355 hF => ?_)
      have pq4827 : ∀ {l : List Cond}, HoldAll E H hn99 l → HoldAll E H hn99 (.test (beqb (bnot r4260.1.only_) false) true :: .test (beqb (bnot r4260.1.only_) false) true :: .test (beqb (bnot r4260.1.only_) false) true :: .test (beqb (bnot r4260.1.only_) false) true :: .test (beqb (ieq a4247 0) true) true :: .test (bnot r4260.1.only_) false :: .test (ieq a4247 0) true :: .test (beqb a4251 true) true :: .test (beqb a4251 true) true :: .test (beqb a4251 true) true :: .test (beqb a4251 true) true :: .test (beqb a4251 true) true :: .call 159 [.one (.lit (.int .i64 a4250)), .one (.lit (.int .i64 a4249))] (F159_res r4354) :: .test (leadsAny (Res.mk [(.one (.im (.lit (.bool r4354))))] [])) false :: .test a4251 true :: l) := fun z => ⟨(beqb_ff (bnot_t h4353)), (beqb_ff (bnot_t h4353)), (beqb_ff (bnot_t h4353)), (beqb_ff (bnot_t h4353)), (beqb_t h4352), (bnot_t h4353), h4352, (beqb_t h4259), (beqb_t h4259), (beqb_t h4259), (beqb_t h4259), (beqb_t h4259), (F159_ok K a4250 a4249 _ h4355), (leads_ok (by simp [leadsAny, RV.leads, RC.leads, leadsT, hasSl_lit])), h4259, z⟩
      refine cond_some hF (fun h4356 hF => ?_) (fun h4356 hF => ?_)
      ·
       have pq4828 : ∀ {l : List Cond}, HoldAll E H hn99 l → HoldAll E H hn99 (.test r4354 true :: .test (bnot true) false :: .int (nlen (len r4350)) (nlen (len r4350)) :: l) := fun z => ⟨h4356, (bnot_t rfl), rfl, z⟩
       refine bind_some hF (fun y4389 h4388 hF => ?_)
       refine sum_some hF (fun w4390 hx hF => ?_) (fun w4391 hx hF => ?_)
       ·
        subst hx
        obtain rfl := Option.some.inj hF
        have pz : HoldAll E H hn99 [.loop 0 c99_0 (F99_l0_1_S a4250 r4260.1.only_ r4350 [] 0) .ret (F99_l0_1_X0 a4250 r4260.1.only_ r4350 w4390)] := ⟨(F99_l0_1_ok K a4250 r4260.1.only_ r4350 K [] 0 _ h4388), trivial⟩
        exact fn_playC hn99 (r := F99_res (0, ([], (false, 8)))) (pq4812 (pq4813 (pq4814 (pq4825 (pq4826 (pq4827 (pq4828 pz))))))) (by kernel_rfl) (by kernel_rfl)
       subst hx
       obtain rfl := Option.some.inj hF
       have pz : HoldAll E H hn99 [.loop 0 c99_0 (F99_l0_1_S a4250 r4260.1.only_ r4350 [] 0) (.exit 0) (F99_l0_1_X1 a4250 r4260.1.only_ r4350 w4391)] := ⟨(F99_l0_1_ok K a4250 r4260.1.only_ r4350 K [] 0 _ h4388), trivial⟩
       exact fn_playC hn99 (r := F99_res (a4250, (w4391, (true, 0)))) (pq4812 (pq4813 (pq4814 (pq4825 (pq4826 (pq4827 (pq4828 pz))))))) (by kernel_rfl) (by kernel_rfl)
      refine cond_some hF (fun h4393 hF => ?_) (fun h4393 hF => ?_)
      ·
       have pq4829 : ∀ {l : List Cond}, HoldAll E H hn99 l → HoldAll E H hn99 (.test r4354 false :: .test (bnot (ieq a4248 a4246.Source)) false :: .int (nlen (len r4350)) (nlen (len r4350)) :: l) := fun z => ⟨h4356, (bnot_t h4393), rfl, z⟩
       refine bind_some hF (fun y4399 h4398 hF => ?_)
       refine sum_some hF (fun w4400 hx hF => ?_) (fun w4401 hx hF => ?_)
       ·
        subst hx
        obtain rfl := Option.some.inj hF
        have pz : HoldAll E H hn99 [.loop 0 c99_0 (F99_l0_1_S a4249 r4260.1.only_ r4350 [] 0) .ret (F99_l0_1_X0 a4249 r4260.1.only_ r4350 w4400)] := ⟨(F99_l0_1_ok K a4249 r4260.1.only_ r4350 K [] 0 _ h4398), trivial⟩
        exact fn_playC hn99 (r := F99_res (0, ([], (false, 8)))) (pq4812 (pq4813 (pq4814 (pq4825 (pq4826 (pq4827 (pq4829 pz))))))) (by kernel_rfl) (by kernel_rfl)
       subst hx
       obtain rfl := Option.some.inj hF
       have pz : HoldAll E H hn99 [.loop 0 c99_0 (F99_l0_1_S a4249 r4260.1.only_ r4350 [] 0) (.exit 0) (F99_l0_1_X1 a4249 r4260.1.only_ r4350 w4401)] := ⟨(F99_l0_1_ok K a4249 r4260.1.only_ r4350 K [] 0 _ h4398), trivial⟩
       exact fn_playC hn99 (r := F99_res (a4249, (w4401, (true, 0)))) (pq4812 (pq4813 (pq4814 (pq4825 (pq4826 (pq4827 (pq4829 pz))))))) (by kernel_rfl) (by kernel_rfl)
      obtain rfl := Option.some.inj hF
      have pz : HoldAll E H hn99 [.test r4354 false, .test (bnot (ieq a4248 a4246.Source)) true] := ⟨h4356, (bnot_f h4393), trivial⟩
      exact fn_playC hn99 (r := F99_res (a4249, ([], (true, 0)))) (pq4812 (pq4813 (pq4814 (pq4825 (pq4826 (pq4827 pz)))))) (by kernel_rfl) (by kernel_rfl)
     refine bind_some hF (fun r4403 h4404 hF => ?_)
     have pq4830 : ∀ {l : List Cond}, HoldAll E H hn99 l → HoldAll E H hn99 (.test (beqb (bnot r4260.1.only_) false) false :: .test (beqb (bnot r4260.1.only_) false) false :: .test (beqb (bnot r4260.1.only_) false) false :: .test (beqb (bnot r4260.1.only_) false) false :: .test (beqb (ieq a4247 0) true) true :: .test (bnot r4260.1.only_) true :: .test (ieq a4247 0) true :: .test (beqb a4251 true) true :: .test (beqb a4251 true) true :: .test (beqb a4251 true) true :: .test (beqb a4251 true) true :: .test (beqb a4251 true) true :: .call 159 [.one (.lit (.int .i64 a4250)), .one (.lit (.int .i64 a4249))] (F159_res r4403) :: .test (leadsAny (Res.mk [(.one (.im (.lit (.bool r4403))))] [])) false :: .test a4251 true :: l) := fun z => ⟨(beqb_ft (bnot_f h4353)), (beqb_ft (bnot_f h4353)), (beqb_ft (bnot_f h4353)), (beqb_ft (bnot_f h4353)), (beqb_t h4352), (bnot_f h4353), h4352, (beqb_t h4259), (beqb_t h4259), (beqb_t h4259), (beqb_t h4259), (beqb_t h4259), (F159_ok K a4250 a4249 _ h4404), (leads_ok (by simp [leadsAny, RV.leads, RC.leads, leadsT, hasSl_lit])), h4259, z⟩
     refine cond_some hF (fun h4405 hF => ?_) (fun h4405 hF => ?_)
     ·
      have pq4831 : ∀ {l : List Cond}, HoldAll E H hn99 l → HoldAll E H hn99 (.test r4403 true :: .test (bnot true) false :: .int (nlen (len r4350)) (nlen (len r4350)) :: l) := fun z => ⟨h4405, (bnot_t rfl), rfl, z⟩
      refine bind_some hF (fun y4411 h4410 hF => ?_)
      refine sum_some hF (fun w4412 hx hF => ?_) (fun w4413 hx hF => ?_)
      ·
       subst hx
       obtain rfl := Option.some.inj hF
       have pz : HoldAll E H hn99 [.loop 0 c99_0 (F99_l0_1_S a4250 r4260.1.only_ r4350 [] 0) .ret (F99_l0_1_X0 a4250 r4260.1.only_ r4350 w4412)] := ⟨(F99_l0_1_ok K a4250 r4260.1.only_ r4350 K [] 0 _ h4410), trivial⟩
       exact fn_playC hn99 (r := F99_res (0, ([], (false, 8)))) (pq4812 (pq4813 (pq4814 (pq4825 (pq4826 (pq4830 (pq4831 pz))))))) (by kernel_rfl) (by kernel_rfl)
      subst hx
      obtain rfl := Option.some.inj hF
      have pz : HoldAll E H hn99 [.loop 0 c99_0 (F99_l0_1_S a4250 r4260.1.only_ r4350 [] 0) (.exit 0) (F99_l0_1_X1 a4250 r4260.1.only_ r4350 w4413)] := ⟨(F99_l0_1_ok K a4250 r4260.1.only_ r4350 K [] 0 _ h4410), trivial⟩
      exact fn_playC hn99 (r := F99_res (a4250, (w4413, (true, 0)))) (pq4812 (pq4813 (pq4814 (pq4825 (pq4826 (pq4830 (pq4831 pz))))))) (by kernel_rfl) (by kernel_rfl)
     have pq4832 : ∀ {l : List Cond}, HoldAll E H hn99 l → HoldAll E H hn99 (.test r4403 false :: .test (bnot true) false :: .int (nlen (len r4350)) (nlen (len r4350)) :: l) := fun z => ⟨h4405, (bnot_t rfl), rfl, z⟩
     refine bind_some hF (fun y4420 h4419 hF => ?_)
     refine sum_some hF (fun w4421 hx hF => ?_) (fun w4422 hx hF => ?_)
     ·
      subst hx
      obtain rfl := Option.some.inj hF
      have pz : HoldAll E H hn99 [.loop 0 c99_0 (F99_l0_1_S a4249 r4260.1.only_ r4350 [] 0) .ret (F99_l0_1_X0 a4249 r4260.1.only_ r4350 w4421)] := ⟨(F99_l0_1_ok K a4249 r4260.1.only_ r4350 K [] 0 _ h4419), trivial⟩
      exact fn_playC hn99 (r := F99_res (0, ([], (false, 8)))) (pq4812 (pq4813 (pq4814 (pq4825 (pq4826 (pq4830 (pq4832 pz))))))) (by kernel_rfl) (by kernel_rfl)
     subst hx
     obtain rfl := Option.some.inj hF
     have pz : HoldAll E H hn99 [.loop 0 c99_0 (F99_l0_1_S a4249 r4260.1.only_ r4350 [] 0) (.exit 0) (F99_l0_1_X1 a4249 r4260.1.only_ r4350 w4422)] := ⟨(F99_l0_1_ok K a4249 r4260.1.only_ r4350 K [] 0 _ h4419), trivial⟩
     exact fn_playC hn99 (r := F99_res (a4249, (w4422, (true, 0)))) (pq4812 (pq4813 (pq4814 (pq4825 (pq4826 (pq4830 (pq4832 pz))))))) (by kernel_rfl) (by kernel_rfl)
    refine bind_some hF (fun r4424 h4425 hF => ?_)
    have pq4833 : ∀ {l : List Cond}, HoldAll E H hn99 l → HoldAll E H hn99 (.test (beqb (ieq a4247 0) true) false :: .test (beqb (ieq a4247 0) true) false :: .test (beqb (ieq a4247 0) true) false :: .test (beqb (ieq a4247 0) true) false :: .test (beqb (ieq a4247 0) true) false :: .test (ieq a4247 0) false :: .test (beqb a4251 true) true :: .test (beqb a4251 true) true :: .test (beqb a4251 true) true :: .test (beqb a4251 true) true :: .test (beqb a4251 true) true :: .call 159 [.one (.lit (.int .i64 a4250)), .one (.lit (.int .i64 a4249))] (F159_res r4424) :: .test (leadsAny (Res.mk [(.one (.im (.lit (.bool r4424))))] [])) false :: .test a4251 true :: l) := fun z => ⟨(beqb_t h4352), (beqb_t h4352), (beqb_t h4352), (beqb_t h4352), (beqb_t h4352), h4352, (beqb_t h4259), (beqb_t h4259), (beqb_t h4259), (beqb_t h4259), (beqb_t h4259), (F159_ok K a4250 a4249 _ h4425), (leads_ok (by simp [leadsAny, RV.leads, RC.leads, leadsT, hasSl_lit])), h4259, z⟩
    refine cond_some hF (fun h4426 hF => ?_) (fun h4426 hF => ?_)
    ·
     have pq4834 : ∀ {l : List Cond}, HoldAll E H hn99 l → HoldAll E H hn99 (.test r4424 true :: .test (bnot true) false :: .int (nlen (len r4350)) (nlen (len r4350)) :: l) := fun z => ⟨h4426, (bnot_t rfl), rfl, z⟩
     refine bind_some hF (fun y4432 h4431 hF => ?_)
     refine sum_some hF (fun w4433 hx hF => ?_) (fun w4434 hx hF => ?_)
     ·
      subst hx
      obtain rfl := Option.some.inj hF
      have pz : HoldAll E H hn99 [.loop 0 c99_0 (F99_l0_1_S a4250 r4260.1.only_ r4350 [] 0) .ret (F99_l0_1_X0 a4250 r4260.1.only_ r4350 w4433)] := ⟨(F99_l0_1_ok K a4250 r4260.1.only_ r4350 K [] 0 _ h4431), trivial⟩
      exact fn_playC hn99 (r := F99_res (0, ([], (false, 8)))) (pq4812 (pq4813 (pq4814 (pq4825 (pq4833 (pq4834 pz)))))) (by kernel_rfl) (by kernel_rfl)
     subst hx
     obtain rfl := Option.some.inj hF
     have pz : HoldAll E H hn99 [.loop 0 c99_0 (F99_l0_1_S a4250 r4260.1.only_ r4350 [] 0) (.exit 0) (F99_l0_1_X1 a4250 r4260.1.only_ r4350 w4434)] := ⟨(F99_l0_1_ok K a4250 r4260.1.only_ r4350 K [] 0 _ h4431), trivial⟩
     exact fn_playC hn99 (r := F99_res (a4250, (w4434, (true, 0)))) (pq4812 (pq4813 (pq4814 (pq4825 (pq4833 (pq4834 pz)))))) (by kernel_rfl) (by kernel_rfl)
    obtain rfl := Option.some.inj hF
    have pz : HoldAll E H hn99 [.test r4424 false, .test (bnot false) true] := ⟨h4426, (bnot_f rfl), trivial⟩
    exact fn_playC hn99 (r := F99_res (a4249, ([], (true, 0)))) (pq4812 (pq4813 (pq4814 (pq4825 (pq4833 pz))))) (by kernel_rfl) (by kernel_rfl)
   refine cond_some hF (fun h4436 hF => ?_) (fun h4436 hF => ?_)
   ·
    refine bind_some hF (fun r4437 h4438 hF => ?_)
    have pq4835 : ∀ {l : List Cond}, HoldAll E H hn99 l → HoldAll E H hn99 (.test (igt a4247 40) false :: .test (bnot a4251) false :: .call 143 [.one (.lit (.int .i64 a4246.Prog))] (F143_res2 r4260) :: .test (leadsAny (Res.mk [(.agg [(.im (.lit (fnV 162))), (.im (.lit (fnV 159))), (.im (.lit (.bool r4260.1.only_))), (.im (.lit (fnV 163)))]), (.one (.im (.lit (.bool r4260.2))))] [])) false :: .call 68 [.agg (eGGraph a4245), .one (.lit (.int .i64 a4248))] (F68_res r4437) :: .test (leadsAny (Res.mk [(.one (.own 89 (.sl (len r4437) (flat eGEdge r4437))))] [])) false :: .test false false :: l) := fun z => ⟨(igt_eq h4258), (bnot_t h4259), (F143_ok2 _ h4436 (F143_ok K a4246.Prog _ h4261)), (leads_ok (by simp [leadsAny, RV.leads, RC.leads, leadsT, hasSl_lit, flat_ns eGEdge_ns])), (F68_ok K a4245 a4248 _ h4438), (leads_ok (by simp [leadsAny, RV.leads, RC.leads, leadsT, hasSl_lit, flat_ns eGEdge_ns])), rfl, z⟩
    refine cond_some hF (fun h4439 hF => ?_) (fun h4439 hF => ?_)
    ·
     have pq4836 : ∀ {l : List Cond}, HoldAll E H hn99 l → HoldAll E H hn99 (.test (beqb (ieq a4247 0) true) true :: .test (beqb (ieq a4247 0) true) true :: .test (beqb (ieq a4247 0) true) true :: .test (beqb (ieq a4247 0) true) true :: l) := fun z => ⟨(beqb_t h4439), (beqb_t h4439), (beqb_t h4439), (beqb_t h4439), z⟩
     refine cond_some hF (fun h4440 hF => ?_) (fun h4440 hF => ?_)
     ·
      refine bind_some hF (fun r4441 h4442 hF => ?_)
      have pq4837 : ∀ {l : List Cond}, HoldAll E H hn99 l → HoldAll E H hn99 (.test (beqb (bnot r4260.1.only_) false) true :: .test (beqb (bnot r4260.1.only_) false) true :: .test (beqb (bnot r4260.1.only_) false) true :: .test (beqb (bnot r4260.1.only_) false) true :: .test (beqb (ieq a4247 0) true) true :: .test (bnot r4260.1.only_) false :: .test (ieq a4247 0) true :: .test (beqb a4251 true) true :: .test (beqb a4251 true) true :: .test (beqb a4251 true) true :: .test (beqb a4251 true) true :: .test (beqb a4251 true) true :: .call 159 [.one (.lit (.int .i64 a4250)), .one (.lit (.int .i64 a4249))] (F159_res r4441) :: .test (leadsAny (Res.mk [(.one (.im (.lit (.bool r4441))))] [])) false :: .test a4251 true :: l) := fun z => ⟨(beqb_ff (bnot_t h4440)), (beqb_ff (bnot_t h4440)), (beqb_ff (bnot_t h4440)), (beqb_ff (bnot_t h4440)), (beqb_t h4439), (bnot_t h4440), h4439, (beqb_t h4259), (beqb_t h4259), (beqb_t h4259), (beqb_t h4259), (beqb_t h4259), (F159_ok K a4250 a4249 _ h4442), (leads_ok (by simp [leadsAny, RV.leads, RC.leads, leadsT, hasSl_lit])), h4259, z⟩
      refine cond_some hF (fun h4443 hF => ?_) (fun h4443 hF => ?_)
      ·
       have pq4838 : ∀ {l : List Cond}, HoldAll E H hn99 l → HoldAll E H hn99 (.test r4441 true :: .test (bnot true) false :: .int (nlen (len r4437)) (nlen (len r4437)) :: l) := fun z => ⟨h4443, (bnot_t rfl), rfl, z⟩
       refine bind_some hF (fun y4474 h4473 hF => ?_)
       refine sum_some hF (fun w4475 hx hF => ?_) (fun w4476 hx hF => ?_)
       ·
        subst hx
        obtain rfl := Option.some.inj hF
        have pz : HoldAll E H hn99 [.loop 0 c99_0 (F99_l0_2_S a4250 r4260.1.only_ r4437 [] 0) .ret (F99_l0_2_X0 a4250 r4260.1.only_ r4437 w4475)] := ⟨(F99_l0_2_ok K a4250 r4260.1.only_ r4437 K [] 0 _ h4473), trivial⟩
        exact fn_playC hn99 (r := F99_res (0, ([], (false, 8)))) (pq4812 (pq4813 (pq4814 (pq4835 (pq4836 (pq4837 (pq4838 pz))))))) (by kernel_rfl) (by kernel_rfl)
       subst hx
       obtain rfl := Option.some.inj hF
       have pz : HoldAll E H hn99 [.loop 0 c99_0 (F99_l0_2_S a4250 r4260.1.only_ r4437 [] 0) (.exit 0) (F99_l0_2_X1 a4250 r4260.1.only_ r4437 w4476)] := ⟨(F99_l0_2_ok K a4250 r4260.1.only_ r4437 K [] 0 _ h4473), trivial⟩
       exact fn_playC hn99 (r := F99_res (a4250, (w4476, (true, 0)))) (pq4812 (pq4813 (pq4814 (pq4835 (pq4836 (pq4837 (pq4838 pz))))))) (by kernel_rfl) (by kernel_rfl)
      refine cond_some hF (fun h4478 hF => ?_) (fun h4478 hF => ?_)
      ·
       have pq4839 : ∀ {l : List Cond}, HoldAll E H hn99 l → HoldAll E H hn99 (.test r4441 false :: .test (bnot (ieq a4248 a4246.Source)) false :: .int (nlen (len r4437)) (nlen (len r4437)) :: l) := fun z => ⟨h4443, (bnot_t h4478), rfl, z⟩
       refine bind_some hF (fun y4484 h4483 hF => ?_)
       refine sum_some hF (fun w4485 hx hF => ?_) (fun w4486 hx hF => ?_)
       ·
        subst hx
        obtain rfl := Option.some.inj hF
        have pz : HoldAll E H hn99 [.loop 0 c99_0 (F99_l0_2_S a4249 r4260.1.only_ r4437 [] 0) .ret (F99_l0_2_X0 a4249 r4260.1.only_ r4437 w4485)] := ⟨(F99_l0_2_ok K a4249 r4260.1.only_ r4437 K [] 0 _ h4483), trivial⟩
        exact fn_playC hn99 (r := F99_res (0, ([], (false, 8)))) (pq4812 (pq4813 (pq4814 (pq4835 (pq4836 (pq4837 (pq4839 pz))))))) (by kernel_rfl) (by kernel_rfl)
       subst hx
       obtain rfl := Option.some.inj hF
       have pz : HoldAll E H hn99 [.loop 0 c99_0 (F99_l0_2_S a4249 r4260.1.only_ r4437 [] 0) (.exit 0) (F99_l0_2_X1 a4249 r4260.1.only_ r4437 w4486)] := ⟨(F99_l0_2_ok K a4249 r4260.1.only_ r4437 K [] 0 _ h4483), trivial⟩
       exact fn_playC hn99 (r := F99_res (a4249, (w4486, (true, 0)))) (pq4812 (pq4813 (pq4814 (pq4835 (pq4836 (pq4837 (pq4839 pz))))))) (by kernel_rfl) (by kernel_rfl)
      obtain rfl := Option.some.inj hF
      have pz : HoldAll E H hn99 [.test r4441 false, .test (bnot (ieq a4248 a4246.Source)) true] := ⟨h4443, (bnot_f h4478), trivial⟩
      exact fn_playC hn99 (r := F99_res (a4249, ([], (true, 0)))) (pq4812 (pq4813 (pq4814 (pq4835 (pq4836 (pq4837 pz)))))) (by kernel_rfl) (by kernel_rfl)
     refine bind_some hF (fun r4488 h4489 hF => ?_)
     have pq4840 : ∀ {l : List Cond}, HoldAll E H hn99 l → HoldAll E H hn99 (.test (beqb (bnot r4260.1.only_) false) false :: .test (beqb (bnot r4260.1.only_) false) false :: .test (beqb (bnot r4260.1.only_) false) false :: .test (beqb (bnot r4260.1.only_) false) false :: .test (beqb (ieq a4247 0) true) true :: .test (bnot r4260.1.only_) true :: .test (ieq a4247 0) true :: .test (beqb a4251 true) true :: .test (beqb a4251 true) true :: .test (beqb a4251 true) true :: .test (beqb a4251 true) true :: .test (beqb a4251 true) true :: .call 159 [.one (.lit (.int .i64 a4250)), .one (.lit (.int .i64 a4249))] (F159_res r4488) :: .test (leadsAny (Res.mk [(.one (.im (.lit (.bool r4488))))] [])) false :: .test a4251 true :: l) := fun z => ⟨(beqb_ft (bnot_f h4440)), (beqb_ft (bnot_f h4440)), (beqb_ft (bnot_f h4440)), (beqb_ft (bnot_f h4440)), (beqb_t h4439), (bnot_f h4440), h4439, (beqb_t h4259), (beqb_t h4259), (beqb_t h4259), (beqb_t h4259), (beqb_t h4259), (F159_ok K a4250 a4249 _ h4489), (leads_ok (by simp [leadsAny, RV.leads, RC.leads, leadsT, hasSl_lit])), h4259, z⟩
     refine cond_some hF (fun h4490 hF => ?_) (fun h4490 hF => ?_)
     ·
      have pq4841 : ∀ {l : List Cond}, HoldAll E H hn99 l → HoldAll E H hn99 (.test r4488 true :: .test (bnot true) false :: .int (nlen (len r4437)) (nlen (len r4437)) :: l) := fun z => ⟨h4490, (bnot_t rfl), rfl, z⟩
      refine bind_some hF (fun y4496 h4495 hF => ?_)
      refine sum_some hF (fun w4497 hx hF => ?_) (fun w4498 hx hF => ?_)
      ·
       subst hx
       obtain rfl := Option.some.inj hF
       have pz : HoldAll E H hn99 [.loop 0 c99_0 (F99_l0_2_S a4250 r4260.1.only_ r4437 [] 0) .ret (F99_l0_2_X0 a4250 r4260.1.only_ r4437 w4497)] := ⟨(F99_l0_2_ok K a4250 r4260.1.only_ r4437 K [] 0 _ h4495), trivial⟩
       exact fn_playC hn99 (r := F99_res (0, ([], (false, 8)))) (pq4812 (pq4813 (pq4814 (pq4835 (pq4836 (pq4840 (pq4841 pz))))))) (by kernel_rfl) (by kernel_rfl)
      subst hx
      obtain rfl := Option.some.inj hF
      have pz : HoldAll E H hn99 [.loop 0 c99_0 (F99_l0_2_S a4250 r4260.1.only_ r4437 [] 0) (.exit 0) (F99_l0_2_X1 a4250 r4260.1.only_ r4437 w4498)] := ⟨(F99_l0_2_ok K a4250 r4260.1.only_ r4437 K [] 0 _ h4495), trivial⟩
      exact fn_playC hn99 (r := F99_res (a4250, (w4498, (true, 0)))) (pq4812 (pq4813 (pq4814 (pq4835 (pq4836 (pq4840 (pq4841 pz))))))) (by kernel_rfl) (by kernel_rfl)
     have pq4842 : ∀ {l : List Cond}, HoldAll E H hn99 l → HoldAll E H hn99 (.test r4488 false :: .test (bnot true) false :: .int (nlen (len r4437)) (nlen (len r4437)) :: l) := fun z => ⟨h4490, (bnot_t rfl), rfl, z⟩
     refine bind_some hF (fun y4505 h4504 hF => ?_)
     refine sum_some hF (fun w4506 hx hF => ?_) (fun w4507 hx hF => ?_)
     ·
      subst hx
      obtain rfl := Option.some.inj hF
      have pz : HoldAll E H hn99 [.loop 0 c99_0 (F99_l0_2_S a4249 r4260.1.only_ r4437 [] 0) .ret (F99_l0_2_X0 a4249 r4260.1.only_ r4437 w4506)] := ⟨(F99_l0_2_ok K a4249 r4260.1.only_ r4437 K [] 0 _ h4504), trivial⟩
      exact fn_playC hn99 (r := F99_res (0, ([], (false, 8)))) (pq4812 (pq4813 (pq4814 (pq4835 (pq4836 (pq4840 (pq4842 pz))))))) (by kernel_rfl) (by kernel_rfl)
     subst hx
     obtain rfl := Option.some.inj hF
     have pz : HoldAll E H hn99 [.loop 0 c99_0 (F99_l0_2_S a4249 r4260.1.only_ r4437 [] 0) (.exit 0) (F99_l0_2_X1 a4249 r4260.1.only_ r4437 w4507)] := ⟨(F99_l0_2_ok K a4249 r4260.1.only_ r4437 K [] 0 _ h4504), trivial⟩
     exact fn_playC hn99 (r := F99_res (a4249, (w4507, (true, 0)))) (pq4812 (pq4813 (pq4814 (pq4835 (pq4836 (pq4840 (pq4842 pz))))))) (by kernel_rfl) (by kernel_rfl)
    refine bind_some hF (fun r4509 h4510 hF => ?_)
    have pq4843 : ∀ {l : List Cond}, HoldAll E H hn99 l → HoldAll E H hn99 (.test (beqb (ieq a4247 0) true) false :: .test (beqb (ieq a4247 0) true) false :: .test (beqb (ieq a4247 0) true) false :: .test (beqb (ieq a4247 0) true) false :: .test (beqb (ieq a4247 0) true) false :: .test (ieq a4247 0) false :: .test (beqb a4251 true) true :: .test (beqb a4251 true) true :: .test (beqb a4251 true) true :: .test (beqb a4251 true) true :: .test (beqb a4251 true) true :: .call 159 [.one (.lit (.int .i64 a4250)), .one (.lit (.int .i64 a4249))] (F159_res r4509) :: .test (leadsAny (Res.mk [(.one (.im (.lit (.bool r4509))))] [])) false :: .test a4251 true :: l) := fun z => ⟨(beqb_t h4439), (beqb_t h4439), (beqb_t h4439), (beqb_t h4439), (beqb_t h4439), h4439, (beqb_t h4259), (beqb_t h4259), (beqb_t h4259), (beqb_t h4259), (beqb_t h4259), (F159_ok K a4250 a4249 _ h4510), (leads_ok (by simp [leadsAny, RV.leads, RC.leads, leadsT, hasSl_lit])), h4259, z⟩
    refine cond_some hF (fun h4511 hF => ?_) (fun h4511 hF => ?_)
    ·
     have pq4844 : ∀ {l : List Cond}, HoldAll E H hn99 l → HoldAll E H hn99 (.test r4509 true :: .test (bnot true) false :: .int (nlen (len r4437)) (nlen (len r4437)) :: l) := fun z => ⟨h4511, (bnot_t rfl), rfl, z⟩
     refine bind_some hF (fun y4517 h4516 hF => ?_)
     refine sum_some hF (fun w4518 hx hF => ?_) (fun w4519 hx hF => ?_)
     ·
      subst hx
      obtain rfl := Option.some.inj hF
      have pz : HoldAll E H hn99 [.loop 0 c99_0 (F99_l0_2_S a4250 r4260.1.only_ r4437 [] 0) .ret (F99_l0_2_X0 a4250 r4260.1.only_ r4437 w4518)] := ⟨(F99_l0_2_ok K a4250 r4260.1.only_ r4437 K [] 0 _ h4516), trivial⟩
      exact fn_playC hn99 (r := F99_res (0, ([], (false, 8)))) (pq4812 (pq4813 (pq4814 (pq4835 (pq4843 (pq4844 pz)))))) (by kernel_rfl) (by kernel_rfl)
     subst hx
     obtain rfl := Option.some.inj hF
     have pz : HoldAll E H hn99 [.loop 0 c99_0 (F99_l0_2_S a4250 r4260.1.only_ r4437 [] 0) (.exit 0) (F99_l0_2_X1 a4250 r4260.1.only_ r4437 w4519)] := ⟨(F99_l0_2_ok K a4250 r4260.1.only_ r4437 K [] 0 _ h4516), trivial⟩
     exact fn_playC hn99 (r := F99_res (a4250, (w4519, (true, 0)))) (pq4812 (pq4813 (pq4814 (pq4835 (pq4843 (pq4844 pz)))))) (by kernel_rfl) (by kernel_rfl)
    obtain rfl := Option.some.inj hF
    have pz : HoldAll E H hn99 [.test r4509 false, .test (bnot false) true] := ⟨h4511, (bnot_f rfl), trivial⟩
    exact fn_playC hn99 (r := F99_res (a4249, ([], (true, 0)))) (pq4812 (pq4813 (pq4814 (pq4835 (pq4843 pz))))) (by kernel_rfl) (by kernel_rfl)
   refine cond_some hF (fun h4521 hF => ?_) (fun h4521 hF => ?_)
   ·
    refine bind_some hF (fun r4522 h4523 hF => ?_)
    have pq4845 : ∀ {l : List Cond}, HoldAll E H hn99 l → HoldAll E H hn99 (.test (igt a4247 40) false :: .test (bnot a4251) false :: .call 143 [.one (.lit (.int .i64 a4246.Prog))] (F143_res3 r4260) :: .test (leadsAny (Res.mk [(.agg [(.im (.lit (fnV 164))), (.im (.lit (fnV 165))), (.im (.lit (.bool r4260.1.only_))), (.im (.lit (fnV 163)))]), (.one (.im (.lit (.bool r4260.2))))] [])) false :: .call 68 [.agg (eGGraph a4245), .one (.lit (.int .i64 a4248))] (F68_res r4522) :: .test (leadsAny (Res.mk [(.one (.own 89 (.sl (len r4522) (flat eGEdge r4522))))] [])) false :: .test false false :: l) := fun z => ⟨(igt_eq h4258), (bnot_t h4259), (F143_ok3 _ h4521 (F143_ok K a4246.Prog _ h4261)), (leads_ok (by simp [leadsAny, RV.leads, RC.leads, leadsT, hasSl_lit, flat_ns eGEdge_ns])), (F68_ok K a4245 a4248 _ h4523), (leads_ok (by simp [leadsAny, RV.leads, RC.leads, leadsT, hasSl_lit, flat_ns eGEdge_ns])), rfl, z⟩
    refine cond_some hF (fun h4524 hF => ?_) (fun h4524 hF => ?_)
    ·
     have pq4846 : ∀ {l : List Cond}, HoldAll E H hn99 l → HoldAll E H hn99 (.test (beqb (ieq a4247 0) true) true :: .test (beqb (ieq a4247 0) true) true :: .test (beqb (ieq a4247 0) true) true :: .test (beqb (ieq a4247 0) true) true :: l) := fun z => ⟨(beqb_t h4524), (beqb_t h4524), (beqb_t h4524), (beqb_t h4524), z⟩
     refine cond_some hF (fun h4525 hF => ?_) (fun h4525 hF => ?_)
     ·
      refine bind_some hF (fun r4526 h4527 hF => ?_)
      have pq4847 : ∀ {l : List Cond}, HoldAll E H hn99 l → HoldAll E H hn99 (.test (beqb (bnot r4260.1.only_) false) true :: .test (beqb (bnot r4260.1.only_) false) true :: .test (beqb (bnot r4260.1.only_) false) true :: .test (beqb (bnot r4260.1.only_) false) true :: .test (beqb (ieq a4247 0) true) true :: .test (bnot r4260.1.only_) false :: .test (ieq a4247 0) true :: .test (beqb a4251 true) true :: .test (beqb a4251 true) true :: .test (beqb a4251 true) true :: .test (beqb a4251 true) true :: .test (beqb a4251 true) true :: .call 165 [.one (.lit (.int .i64 a4250)), .one (.lit (.int .i64 a4249))] (F165_res r4526) :: .test (leadsAny (Res.mk [(.one (.im (.lit (.bool r4526))))] [])) false :: .test a4251 true :: l) := fun z => ⟨(beqb_ff (bnot_t h4525)), (beqb_ff (bnot_t h4525)), (beqb_ff (bnot_t h4525)), (beqb_ff (bnot_t h4525)), (beqb_t h4524), (bnot_t h4525), h4524, (beqb_t h4259), (beqb_t h4259), (beqb_t h4259), (beqb_t h4259), (beqb_t h4259), (F165_ok K a4250 a4249 _ h4527), (leads_ok (by simp [leadsAny, RV.leads, RC.leads, leadsT, hasSl_lit])), h4259, z⟩
      refine cond_some hF (fun h4528 hF => ?_) (fun h4528 hF => ?_)
      ·
       have pq4848 : ∀ {l : List Cond}, HoldAll E H hn99 l → HoldAll E H hn99 (.test r4526 true :: .test (bnot true) false :: .int (nlen (len r4522)) (nlen (len r4522)) :: l) := fun z => ⟨h4528, (bnot_t rfl), rfl, z⟩
       refine bind_some hF (fun y4556 h4555 hF => ?_)
       refine sum_some hF (fun w4557 hx hF => ?_) (fun w4558 hx hF => ?_)
       ·
        subst hx
        obtain rfl := Option.some.inj hF
        have pz : HoldAll E H hn99 [.loop 0 c99_0 (F99_l0_3_S a4250 r4260.1.only_ r4522 [] 0) .ret (F99_l0_3_X0 a4250 r4260.1.only_ r4522 w4557)] := ⟨(F99_l0_3_ok K a4250 r4260.1.only_ r4522 K [] 0 _ h4555), trivial⟩
        exact fn_playC hn99 (r := F99_res (0, ([], (false, 8)))) (pq4812 (pq4813 (pq4814 (pq4845 (pq4846 (pq4847 (pq4848 pz))))))) (by kernel_rfl) (by kernel_rfl)
       subst hx
       obtain rfl := Option.some.inj hF
       have pz : HoldAll E H hn99 [.loop 0 c99_0 (F99_l0_3_S a4250 r4260.1.only_ r4522 [] 0) (.exit 0) (F99_l0_3_X1 a4250 r4260.1.only_ r4522 w4558)] := ⟨(F99_l0_3_ok K a4250 r4260.1.only_ r4522 K [] 0 _ h4555), trivial⟩
       exact fn_playC hn99 (r := F99_res (a4250, (w4558, (true, 0)))) (pq4812 (pq4813 (pq4814 (pq4845 (pq4846 (pq4847 (pq4848 pz))))))) (by kernel_rfl) (by kernel_rfl)
      refine cond_some hF (fun h4560 hF => ?_) (fun h4560 hF => ?_)
      ·
       have pq4849 : ∀ {l : List Cond}, HoldAll E H hn99 l → HoldAll E H hn99 (.test r4526 false :: .test (bnot (ieq a4248 a4246.Source)) false :: .int (nlen (len r4522)) (nlen (len r4522)) :: l) := fun z => ⟨h4528, (bnot_t h4560), rfl, z⟩
       refine bind_some hF (fun y4566 h4565 hF => ?_)
       refine sum_some hF (fun w4567 hx hF => ?_) (fun w4568 hx hF => ?_)
       ·
        subst hx
        obtain rfl := Option.some.inj hF
        have pz : HoldAll E H hn99 [.loop 0 c99_0 (F99_l0_3_S a4249 r4260.1.only_ r4522 [] 0) .ret (F99_l0_3_X0 a4249 r4260.1.only_ r4522 w4567)] := ⟨(F99_l0_3_ok K a4249 r4260.1.only_ r4522 K [] 0 _ h4565), trivial⟩
        exact fn_playC hn99 (r := F99_res (0, ([], (false, 8)))) (pq4812 (pq4813 (pq4814 (pq4845 (pq4846 (pq4847 (pq4849 pz))))))) (by kernel_rfl) (by kernel_rfl)
       subst hx
       obtain rfl := Option.some.inj hF
       have pz : HoldAll E H hn99 [.loop 0 c99_0 (F99_l0_3_S a4249 r4260.1.only_ r4522 [] 0) (.exit 0) (F99_l0_3_X1 a4249 r4260.1.only_ r4522 w4568)] := ⟨(F99_l0_3_ok K a4249 r4260.1.only_ r4522 K [] 0 _ h4565), trivial⟩
       exact fn_playC hn99 (r := F99_res (a4249, (w4568, (true, 0)))) (pq4812 (pq4813 (pq4814 (pq4845 (pq4846 (pq4847 (pq4849 pz))))))) (by kernel_rfl) (by kernel_rfl)
      obtain rfl := Option.some.inj hF
      have pz : HoldAll E H hn99 [.test r4526 false, .test (bnot (ieq a4248 a4246.Source)) true] := ⟨h4528, (bnot_f h4560), trivial⟩
      exact fn_playC hn99 (r := F99_res (a4249, ([], (true, 0)))) (pq4812 (pq4813 (pq4814 (pq4845 (pq4846 (pq4847 pz)))))) (by kernel_rfl) (by kernel_rfl)
     refine bind_some hF (fun r4570 h4571 hF => ?_)
     have pq4850 : ∀ {l : List Cond}, HoldAll E H hn99 l → HoldAll E H hn99 (.test (beqb (bnot r4260.1.only_) false) false :: .test (beqb (bnot r4260.1.only_) false) false :: .test (beqb (bnot r4260.1.only_) false) false :: .test (beqb (bnot r4260.1.only_) false) false :: .test (beqb (ieq a4247 0) true) true :: .test (bnot r4260.1.only_) true :: .test (ieq a4247 0) true :: .test (beqb a4251 true) true :: .test (beqb a4251 true) true :: .test (beqb a4251 true) true :: .test (beqb a4251 true) true :: .test (beqb a4251 true) true :: .call 165 [.one (.lit (.int .i64 a4250)), .one (.lit (.int .i64 a4249))] (F165_res r4570) :: .test (leadsAny (Res.mk [(.one (.im (.lit (.bool r4570))))] [])) false :: .test a4251 true :: l) := fun z => ⟨(beqb_ft (bnot_f h4525)), (beqb_ft (bnot_f h4525)), (beqb_ft (bnot_f h4525)), (beqb_ft (bnot_f h4525)), (beqb_t h4524), (bnot_f h4525), h4524, (beqb_t h4259), (beqb_t h4259), (beqb_t h4259), (beqb_t h4259), (beqb_t h4259), (F165_ok K a4250 a4249 _ h4571), (leads_ok (by simp [leadsAny, RV.leads, RC.leads, leadsT, hasSl_lit])), h4259, z⟩
     refine cond_some hF (fun h4572 hF => ?_) (fun h4572 hF => ?_)
     ·
      have pq4851 : ∀ {l : List Cond}, HoldAll E H hn99 l → HoldAll E H hn99 (.test r4570 true :: .test (bnot true) false :: .int (nlen (len r4522)) (nlen (len r4522)) :: l) := fun z => ⟨h4572, (bnot_t rfl), rfl, z⟩
      refine bind_some hF (fun y4578 h4577 hF => ?_)
      refine sum_some hF (fun w4579 hx hF => ?_) (fun w4580 hx hF => ?_)
      ·
       subst hx
       obtain rfl := Option.some.inj hF
       have pz : HoldAll E H hn99 [.loop 0 c99_0 (F99_l0_3_S a4250 r4260.1.only_ r4522 [] 0) .ret (F99_l0_3_X0 a4250 r4260.1.only_ r4522 w4579)] := ⟨(F99_l0_3_ok K a4250 r4260.1.only_ r4522 K [] 0 _ h4577), trivial⟩
       exact fn_playC hn99 (r := F99_res (0, ([], (false, 8)))) (pq4812 (pq4813 (pq4814 (pq4845 (pq4846 (pq4850 (pq4851 pz))))))) (by kernel_rfl) (by kernel_rfl)
      subst hx
      obtain rfl := Option.some.inj hF
      have pz : HoldAll E H hn99 [.loop 0 c99_0 (F99_l0_3_S a4250 r4260.1.only_ r4522 [] 0) (.exit 0) (F99_l0_3_X1 a4250 r4260.1.only_ r4522 w4580)] := ⟨(F99_l0_3_ok K a4250 r4260.1.only_ r4522 K [] 0 _ h4577), trivial⟩
      exact fn_playC hn99 (r := F99_res (a4250, (w4580, (true, 0)))) (pq4812 (pq4813 (pq4814 (pq4845 (pq4846 (pq4850 (pq4851 pz))))))) (by kernel_rfl) (by kernel_rfl)
     have pq4852 : ∀ {l : List Cond}, HoldAll E H hn99 l → HoldAll E H hn99 (.test r4570 false :: .test (bnot true) false :: .int (nlen (len r4522)) (nlen (len r4522)) :: l) := fun z => ⟨h4572, (bnot_t rfl), rfl, z⟩
     refine bind_some hF (fun y4587 h4586 hF => ?_)
     refine sum_some hF (fun w4588 hx hF => ?_) (fun w4589 hx hF => ?_)
     ·
      subst hx
      obtain rfl := Option.some.inj hF
      have pz : HoldAll E H hn99 [.loop 0 c99_0 (F99_l0_3_S a4249 r4260.1.only_ r4522 [] 0) .ret (F99_l0_3_X0 a4249 r4260.1.only_ r4522 w4588)] := ⟨(F99_l0_3_ok K a4249 r4260.1.only_ r4522 K [] 0 _ h4586), trivial⟩
      exact fn_playC hn99 (r := F99_res (0, ([], (false, 8)))) (pq4812 (pq4813 (pq4814 (pq4845 (pq4846 (pq4850 (pq4852 pz))))))) (by kernel_rfl) (by kernel_rfl)
     subst hx
     obtain rfl := Option.some.inj hF
     have pz : HoldAll E H hn99 [.loop 0 c99_0 (F99_l0_3_S a4249 r4260.1.only_ r4522 [] 0) (.exit 0) (F99_l0_3_X1 a4249 r4260.1.only_ r4522 w4589)] := ⟨(F99_l0_3_ok K a4249 r4260.1.only_ r4522 K [] 0 _ h4586), trivial⟩
     exact fn_playC hn99 (r := F99_res (a4249, (w4589, (true, 0)))) (pq4812 (pq4813 (pq4814 (pq4845 (pq4846 (pq4850 (pq4852 pz))))))) (by kernel_rfl) (by kernel_rfl)
    refine bind_some hF (fun r4591 h4592 hF => ?_)
    have pq4853 : ∀ {l : List Cond}, HoldAll E H hn99 l → HoldAll E H hn99 (.test (beqb (ieq a4247 0) true) false :: .test (beqb (ieq a4247 0) true) false :: .test (beqb (ieq a4247 0) true) false :: .test (beqb (ieq a4247 0) true) false :: .test (beqb (ieq a4247 0) true) false :: .test (ieq a4247 0) false :: .test (beqb a4251 true) true :: .test (beqb a4251 true) true :: .test (beqb a4251 true) true :: .test (beqb a4251 true) true :: .test (beqb a4251 true) true :: .call 165 [.one (.lit (.int .i64 a4250)), .one (.lit (.int .i64 a4249))] (F165_res r4591) :: .test (leadsAny (Res.mk [(.one (.im (.lit (.bool r4591))))] [])) false :: .test a4251 true :: l) := fun z => ⟨(beqb_t h4524), (beqb_t h4524), (beqb_t h4524), (beqb_t h4524), (beqb_t h4524), h4524, (beqb_t h4259), (beqb_t h4259), (beqb_t h4259), (beqb_t h4259), (beqb_t h4259), (F165_ok K a4250 a4249 _ h4592), (leads_ok (by simp [leadsAny, RV.leads, RC.leads, leadsT, hasSl_lit])), h4259, z⟩
    refine cond_some hF (fun h4593 hF => ?_) (fun h4593 hF => ?_)
    ·
     have pq4854 : ∀ {l : List Cond}, HoldAll E H hn99 l → HoldAll E H hn99 (.test r4591 true :: .test (bnot true) false :: .int (nlen (len r4522)) (nlen (len r4522)) :: l) := fun z => ⟨h4593, (bnot_t rfl), rfl, z⟩
     refine bind_some hF (fun y4599 h4598 hF => ?_)
     refine sum_some hF (fun w4600 hx hF => ?_) (fun w4601 hx hF => ?_)
     ·
      subst hx
      obtain rfl := Option.some.inj hF
      have pz : HoldAll E H hn99 [.loop 0 c99_0 (F99_l0_3_S a4250 r4260.1.only_ r4522 [] 0) .ret (F99_l0_3_X0 a4250 r4260.1.only_ r4522 w4600)] := ⟨(F99_l0_3_ok K a4250 r4260.1.only_ r4522 K [] 0 _ h4598), trivial⟩
      exact fn_playC hn99 (r := F99_res (0, ([], (false, 8)))) (pq4812 (pq4813 (pq4814 (pq4845 (pq4853 (pq4854 pz)))))) (by kernel_rfl) (by kernel_rfl)
     subst hx
     obtain rfl := Option.some.inj hF
     have pz : HoldAll E H hn99 [.loop 0 c99_0 (F99_l0_3_S a4250 r4260.1.only_ r4522 [] 0) (.exit 0) (F99_l0_3_X1 a4250 r4260.1.only_ r4522 w4601)] := ⟨(F99_l0_3_ok K a4250 r4260.1.only_ r4522 K [] 0 _ h4598), trivial⟩
     exact fn_playC hn99 (r := F99_res (a4250, (w4601, (true, 0)))) (pq4812 (pq4813 (pq4814 (pq4845 (pq4853 (pq4854 pz)))))) (by kernel_rfl) (by kernel_rfl)
    obtain rfl := Option.some.inj hF
    have pz : HoldAll E H hn99 [.test r4591 false, .test (bnot false) true] := ⟨h4593, (bnot_f rfl), trivial⟩
    exact fn_playC hn99 (r := F99_res (a4249, ([], (true, 0)))) (pq4812 (pq4813 (pq4814 (pq4845 (pq4853 pz))))) (by kernel_rfl) (by kernel_rfl)
   refine cond_some hF (fun h4603 hF => ?_) (fun h4603 hF => ?_)
   ·
    refine bind_some hF (fun r4604 h4605 hF => ?_)
    refine bind_some hF (fun r4697 h4698 hF => ?_)
    obtain rfl := Option.some.inj hF
    have pz : HoldAll E H hn99 [.test (igt a4247 40) false, .test (bnot a4251) false, .call 143 [.one (.lit (.int .i64 a4246.Prog))] (F143_res4 r4260), .test (leadsAny (Res.mk [(.agg [(.im (.lit (fnV 166))), (.im (.lit .nilFunc)), (.im (.lit (.bool r4260.1.only_))), (.im (.lit (fnV 163)))]), (.one (.im (.lit (.bool r4260.2))))] [])) false, .call 68 [.agg (eGGraph a4245), .one (.lit (.int .i64 a4248))] (F68_res r4604), .test (leadsAny (Res.mk [(.one (.own 89 (.sl (len r4604) (flat eGEdge r4604))))] [])) false, .test true true, .call 146 [.one (.sl (len r4604) (flat eGEdge r4604)), .one (.lit (.int .i64 a4247)), .one (.lit (.int .i64 a4249)), .one (.lit (.int .i64 a4250))] (F146_res r4697), .test (leadsAny (Res.mk [(.one (.im (.lit (.int .i64 r4697.1)))), (.one (.own 130 (.sl (len r4697.2.1) (flat eGMsg r4697.2.1)))), (.one (.im (.lit (.bool r4697.2.2.1)))), (.one (.im (.lit (.int .i64 r4697.2.2.2))))] [])) false] := ⟨(igt_eq h4258), (bnot_t h4259), (F143_ok4 _ h4603 (F143_ok K a4246.Prog _ h4261)), (leads_ok (by simp [leadsAny, RV.leads, RC.leads, leadsT, hasSl_lit, flat_ns eGEdge_ns, flat_ns eGMsg_ns])), (F68_ok K a4245 a4248 _ h4605), (leads_ok (by simp [leadsAny, RV.leads, RC.leads, leadsT, hasSl_lit, flat_ns eGEdge_ns, flat_ns eGMsg_ns])), rfl, (F146_ok K r4604 a4247 a4249 a4250 _ h4698), (leads_ok (by simp [leadsAny, RV.leads, RC.leads, leadsT, hasSl_lit, flat_ns eGEdge_ns, flat_ns eGMsg_ns])), trivial⟩
    exact fn_playC hn99 (r := F99_res (r4697.1, (r4697.2.1, (r4697.2.2.1, r4697.2.2.2)))) (pq4812 (pq4813 (pq4814 pz))) (by kernel_rfl) (by kernel_rfl)
   refine cond_some hF (fun h4699 hF => ?_) (fun _ hF => nomatch hF)
   refine bind_some hF (fun r4700 h4701 hF => ?_)
   refine bind_some hF (fun r4702 h4703 hF => ?_)
   obtain rfl := Option.some.inj hF
   have pz : HoldAll E H hn99 [.test (igt a4247 40) false, .test (bnot a4251) false, .call 143 [.one (.lit (.int .i64 a4246.Prog))] (F143_res5 r4260), .test (leadsAny (Res.mk [(.agg [(.im (.lit .nilFunc)), (.im (.lit .nilFunc)), (.im (.lit (.bool r4260.1.only_))), (.im (.lit .nilFunc))]), (.one (.im (.lit (.bool r4260.2))))] [])) false, .call 68 [.agg (eGGraph a4245), .one (.lit (.int .i64 a4248))] (F68_res r4700), .test (leadsAny (Res.mk [(.one (.own 89 (.sl (len r4700) (flat eGEdge r4700))))] [])) false, .test true true, .call 146 [.one (.sl (len r4700) (flat eGEdge r4700)), .one (.lit (.int .i64 a4247)), .one (.lit (.int .i64 a4249)), .one (.lit (.int .i64 a4250))] (F146_res r4702), .test (leadsAny (Res.mk [(.one (.im (.lit (.int .i64 r4702.1)))), (.one (.own 130 (.sl (len r4702.2.1) (flat eGMsg r4702.2.1)))), (.one (.im (.lit (.bool r4702.2.2.1)))), (.one (.im (.lit (.int .i64 r4702.2.2.2))))] [])) false] := ⟨(igt_eq h4258), (bnot_t h4259), (F143_ok5 _ h4699 (F143_ok K a4246.Prog _ h4261)), (leads_ok (by simp [leadsAny, RV.leads, RC.leads, leadsT, hasSl_lit, flat_ns eGEdge_ns, flat_ns eGMsg_ns])), (F68_ok K a4245 a4248 _ h4701), (leads_ok (by simp [leadsAny, RV.leads, RC.leads, leadsT, hasSl_lit, flat_ns eGEdge_ns, flat_ns eGMsg_ns])), rfl, (F146_ok K r4700 a4247 a4249 a4250 _ h4703), (leads_ok (by simp [leadsAny, RV.leads, RC.leads, leadsT, hasSl_lit, flat_ns eGEdge_ns, flat_ns eGMsg_ns])), trivial⟩
   exact fn_playC hn99 (r := F99_res (r4702.1, (r4702.2.1, (r4702.2.2.1, r4702.2.2.2)))) (pq4812 (pq4813 (pq4814 pz))) (by kernel_rfl) (by kernel_rfl)
  refine bind_some hF (fun r4704 h4705 hF => ?_)
  refine cond_some hF (fun h4706 hF => ?_) (fun h4706 hF => ?_)
  ·
   refine bind_some hF (fun r4707 h4708 hF => ?_)
   have pq4855 : ∀ {l : List Cond}, HoldAll E H hn99 l → HoldAll E H hn99 (.test (igt a4247 40) false :: .test (bnot a4251) true :: .call 143 [.one (.lit (.int .i64 a4246.Prog))] (F143_res0 r4704) :: .test (leadsAny (Res.mk [(.agg [(.im (.lit (fnV 158))), (.im (.lit (fnV 159))), (.im (.lit (.bool r4704.1.only_))), (.im (.lit (fnV 160)))]), (.one (.im (.lit (.bool r4704.2))))] [])) false :: .call 68 [.agg (eGGraph a4245), .one (.lit (.int .i64 a4248))] (F68_res r4707) :: .test (leadsAny (Res.mk [(.one (.own 89 (.sl (len r4707) (flat eGEdge r4707))))] [])) false :: .test false false :: l) := fun z => ⟨(igt_eq h4258), (bnot_f h4259), (F143_ok0 _ h4706 (F143_ok K a4246.Prog _ h4705)), (leads_ok (by simp [leadsAny, RV.leads, RC.leads, leadsT, hasSl_lit, flat_ns eGEdge_ns])), (F68_ok K a4245 a4248 _ h4708), (leads_ok (by simp [leadsAny, RV.leads, RC.leads, leadsT, hasSl_lit, flat_ns eGEdge_ns])), rfl, z⟩
   refine cond_some hF (fun h4709 hF => ?_) (fun h4709 hF => ?_)
   ·
    have pq4856 : ∀ {l : List Cond}, HoldAll E H hn99 l → HoldAll E H hn99 (.test (beqb (ieq a4247 0) true) true :: .test (beqb (ieq a4247 0) true) true :: .test (beqb (ieq a4247 0) true) true :: .test (beqb (ieq a4247 0) true) true :: l) := fun z => ⟨(beqb_t h4709), (beqb_t h4709), (beqb_t h4709), (beqb_t h4709), z⟩
    refine cond_some hF (fun h4710 hF => ?_) (fun h4710 hF => ?_)
    ·
     have pq4857 : ∀ {l : List Cond}, HoldAll E H hn99 l → HoldAll E H hn99 (.test (beqb (bnot r4704.1.only_) false) true :: .test (beqb (bnot r4704.1.only_) false) true :: .test (beqb (bnot r4704.1.only_) false) true :: .test (beqb (bnot r4704.1.only_) false) true :: .test (beqb (ieq a4247 0) true) true :: .test (bnot r4704.1.only_) false :: .test (ieq a4247 0) true :: .test (beqb a4251 true) false :: .test (beqb a4251 true) false :: .test (beqb a4251 true) false :: .test (beqb a4251 true) false :: .test (beqb a4251 true) false :: .test a4251 false :: .test false false :: l) := fun z => ⟨(beqb_ff (bnot_t h4710)), (beqb_ff (bnot_t h4710)), (beqb_ff (bnot_t h4710)), (beqb_ff (bnot_t h4710)), (beqb_t h4709), (bnot_t h4710), h4709, (beqb_t h4259), (beqb_t h4259), (beqb_t h4259), (beqb_t h4259), (beqb_t h4259), h4259, rfl, z⟩
     refine cond_some hF (fun h4711 hF => ?_) (fun h4711 hF => ?_)
     ·
      refine bind_some hF (fun y4717 h4716 hF => ?_)
      refine sum_some hF (fun w4718 hx hF => ?_) (fun w4719 hx hF => ?_)
      ·
       subst hx
       obtain rfl := Option.some.inj hF
       have pz : HoldAll E H hn99 [.test (bnot (ieq a4248 a4246.Source)) false, .int (nlen (len r4707)) (nlen (len r4707)), .loop 0 c99_0 (F99_l0_0_S a4249 r4704.1.only_ r4707 [] 0) .ret (F99_l0_0_X0 a4249 r4704.1.only_ r4707 w4718)] := ⟨(bnot_t h4711), rfl, (F99_l0_0_ok K a4249 r4704.1.only_ r4707 K [] 0 _ h4716), trivial⟩
       exact fn_playC hn99 (r := F99_res (0, ([], (false, 8)))) (pq4812 (pq4813 (pq4814 (pq4855 (pq4856 (pq4857 pz)))))) (by kernel_rfl) (by kernel_rfl)
      subst hx
      obtain rfl := Option.some.inj hF
      have pz : HoldAll E H hn99 [.test (bnot (ieq a4248 a4246.Source)) false, .int (nlen (len r4707)) (nlen (len r4707)), .loop 0 c99_0 (F99_l0_0_S a4249 r4704.1.only_ r4707 [] 0) (.exit 0) (F99_l0_0_X1 a4249 r4704.1.only_ r4707 w4719)] := ⟨(bnot_t h4711), rfl, (F99_l0_0_ok K a4249 r4704.1.only_ r4707 K [] 0 _ h4716), trivial⟩
      exact fn_playC hn99 (r := F99_res (a4249, (w4719, (true, 0)))) (pq4812 (pq4813 (pq4814 (pq4855 (pq4856 (pq4857 pz)))))) (by kernel_rfl) (by kernel_rfl)
     obtain rfl := Option.some.inj hF
     have pz : HoldAll E H hn99 [.test (bnot (ieq a4248 a4246.Source)) true] := ⟨(bnot_f h4711), trivial⟩
     exact fn_playC hn99 (r := F99_res (a4249, ([], (true, 0)))) (pq4812 (pq4813 (pq4814 (pq4855 (pq4856 (pq4857 pz)))))) (by kernel_rfl) (by kernel_rfl)
    have pq4858 : ∀ {l : List Cond}, HoldAll E H hn99 l → HoldAll E H hn99 (.test (beqb (bnot r4704.1.only_) false) false :: .test (beqb (bnot r4704.1.only_) false) false :: .test (beqb (bnot r4704.1.only_) false) false :: .test (beqb (bnot r4704.1.only_) false) false :: .test (beqb (ieq a4247 0) true) true :: .test (bnot r4704.1.only_) true :: .test (ieq a4247 0) true :: .test (beqb a4251 true) false :: .test (beqb a4251 true) false :: .test (beqb a4251 true) false :: .test (beqb a4251 true) false :: .test (beqb a4251 true) false :: .test a4251 false :: .test false false :: .test (bnot true) false :: .int (nlen (len r4707)) (nlen (len r4707)) :: l) := fun z => ⟨(beqb_ft (bnot_f h4710)), (beqb_ft (bnot_f h4710)), (beqb_ft (bnot_f h4710)), (beqb_ft (bnot_f h4710)), (beqb_t h4709), (bnot_f h4710), h4709, (beqb_t h4259), (beqb_t h4259), (beqb_t h4259), (beqb_t h4259), (beqb_t h4259), h4259, rfl, (bnot_t rfl), rfl, z⟩
    refine bind_some hF (fun y4726 h4725 hF => ?_)
    refine sum_some hF (fun w4727 hx hF => ?_) (fun w4728 hx hF => ?_)
    ·
     subst hx
     obtain rfl := Option.some.inj hF
     have pz : HoldAll E H hn99 [.loop 0 c99_0 (F99_l0_0_S a4249 r4704.1.only_ r4707 [] 0) .ret (F99_l0_0_X0 a4249 r4704.1.only_ r4707 w4727)] := ⟨(F99_l0_0_ok K a4249 r4704.1.only_ r4707 K [] 0 _ h4725), trivial⟩
     exact fn_playC hn99 (r := F99_res (0, ([], (false, 8)))) (pq4812 (pq4813 (pq4814 (pq4855 (pq4856 (pq4858 pz)))))) (by kernel_rfl) (by kernel_rfl)
    subst hx
    obtain rfl := Option.some.inj hF
    have pz : HoldAll E H hn99 [.loop 0 c99_0 (F99_l0_0_S a4249 r4704.1.only_ r4707 [] 0) (.exit 0) (F99_l0_0_X1 a4249 r4704.1.only_ r4707 w4728)] := ⟨(F99_l0_0_ok K a4249 r4704.1.only_ r4707 K [] 0 _ h4725), trivial⟩
    exact fn_playC hn99 (r := F99_res (a4249, (w4728, (true, 0)))) (pq4812 (pq4813 (pq4814 (pq4855 (pq4856 (pq4858 pz)))))) (by kernel_rfl) (by kernel_rfl)
   obtain rfl := Option.some.inj hF
   have pz : HoldAll E H hn99 [.test (beqb (ieq a4247 0) true) false, .test (beqb (ieq a4247 0) true) false, .test (beqb (ieq a4247 0) true) false, .test (beqb (ieq a4247 0) true) false, .test (beqb (ieq a4247 0) true) false, .test (ieq a4247 0) false, .test (beqb a4251 true) false, .test (beqb a4251 true) false, .test (beqb a4251 true) false, .test (beqb a4251 true) false, .test (beqb a4251 true) false, .test a4251 false, .test false false, .test (bnot false) true] := ⟨(beqb_t h4709), (beqb_t h4709), (beqb_t h4709), (beqb_t h4709), (beqb_t h4709), h4709, (beqb_t h4259), (beqb_t h4259), (beqb_t h4259), (beqb_t h4259), (beqb_t h4259), h4259, rfl, (bnot_f rfl), trivial⟩
   exact fn_playC hn99 (r := F99_res (a4249, ([], (true, 0)))) (pq4812 (pq4813 (pq4814 (pq4855 pz)))) (by kernel_rfl) (by kernel_rfl)
  refine cond_some hF (fun h4730 hF => ?_) (fun h4730 hF => ?_)
  ·
   refine bind_some hF (fun r4731 h4732 hF => ?_)
   have pq4859 : ∀ {l : List Cond}, HoldAll E H hn99 l → HoldAll E H hn99 (.test (igt a4247 40) false :: .test (bnot a4251) true :: .call 143 [.one (.lit (.int .i64 a4246.Prog))] (F143_res1 r4704) :: .test (leadsAny (Res.mk [(.agg [(.im (.lit (fnV 158))), (.im (.lit (fnV 159))), (.im (.lit (.bool r4704.1.only_))), (.im (.lit (fnV 161)))]), (.one (.im (.lit (.bool r4704.2))))] [])) false :: .call 68 [.agg (eGGraph a4245), .one (.lit (.int .i64 a4248))] (F68_res r4731) :: .test (leadsAny (Res.mk [(.one (.own 89 (.sl (len r4731) (flat eGEdge r4731))))] [])) false :: .test false false :: l) := fun z => ⟨(igt_eq h4258), (bnot_f h4259), (F143_ok1 _ h4730 (F143_ok K a4246.Prog _ h4705)), (leads_ok (by simp [leadsAny, RV.leads, RC.leads, leadsT, hasSl_lit, flat_ns eGEdge_ns])), (F68_ok K a4245 a4248 _ h4732), (leads_ok (by simp [leadsAny, RV.leads, RC.leads, leadsT, hasSl_lit, flat_ns eGEdge_ns])), rfl, z⟩
   refine cond_some hF (fun h4733 hF => ?_) (fun h4733 hF => ?_)
   ·
    have pq4860 : ∀ {l : List Cond}, HoldAll E H hn99 l → HoldAll E H hn99 (.test (beqb (ieq a4247 0) true) true :: .test (beqb (ieq a4247 0) true) true :: .test (beqb (ieq a4247 0) true) true :: .test (beqb (ieq a4247 0) true) true :: l) := fun z => ⟨(beqb_t h4733), (beqb_t h4733), (beqb_t h4733), (beqb_t h4733), z⟩
    refine cond_some hF (fun h4734 hF => ?_) (fun h4734 hF => ?_)
    ·
     have pq4861 : ∀ {l : List Cond}, HoldAll E H hn99 l → HoldAll E H hn99 (.test (beqb (bnot r4704.1.only_) false) true :: .test (beqb (bnot r4704.1.only_) false) true :: .test (beqb (bnot r4704.1.only_) false) true :: .test (beqb (bnot r4704.1.only_) false) true :: .test (beqb (ieq a4247 0) true) true :: .test (bnot r4704.1.only_) false :: .test (ieq a4247 0) true :: .test (beqb a4251 true) false :: .test (beqb a4251 true) false :: .test (beqb a4251 true) false :: .test (beqb a4251 true) false :: .test (beqb a4251 true) false :: .test a4251 false :: .test false false :: l) := fun z => ⟨(beqb_ff (bnot_t h4734)), (beqb_ff (bnot_t h4734)), (beqb_ff (bnot_t h4734)), (beqb_ff (bnot_t h4734)), (beqb_t h4733), (bnot_t h4734), h4733, (beqb_t h4259), (beqb_t h4259), (beqb_t h4259), (beqb_t h4259), (beqb_t h4259), h4259, rfl, z⟩
     refine cond_some hF (fun h4735 hF => ?_) (fun h4735 hF => ?_)
     ·
      refine bind_some hF (fun y4741 h4740 hF => ?_)
      refine sum_some hF (fun w4742 hx hF => ?_) (fun w4743 hx hF => ?_)
      ·
       subst hx
       obtain rfl := Option.some.inj hF
       have pz : HoldAll E H hn99 [.test (bnot (ieq a4248 a4246.Source)) false, .int (nlen (len r4731)) (nlen (len r4731)), .loop 0 c99_0 (F99_l0_1_S a4249 r4704.1.only_ r4731 [] 0) .ret (F99_l0_1_X0 a4249 r4704.1.only_ r4731 w4742)] := ⟨(bnot_t h4735), rfl, (F99_l0_1_ok K a4249 r4704.1.only_ r4731 K [] 0 _ h4740), trivial⟩
       exact fn_playC hn99 (r := F99_res (0, ([], (false, 8)))) (pq4812 (pq4813 (pq4814 (pq4859 (pq4860 (pq4861 pz)))))) (by kernel_rfl) (by kernel_rfl)
      subst hx
      obtain rfl := Option.some.inj hF
      have pz : HoldAll E H hn99 [.test (bnot (ieq a4248 a4246.Source)) false, .int (nlen (len r4731)) (nlen (len r4731)), .loop 0 c99_0 (F99_l0_1_S a4249 r4704.1.only_ r4731 [] 0) (.exit 0) (F99_l0_1_X1 a4249 r4704.1.only_ r4731 w4743)] := ⟨(bnot_t h4735), rfl, (F99_l0_1_ok K a4249 r4704.1.only_ r4731 K [] 0 _ h4740), trivial⟩
      exact fn_playC hn99 (r := F99_res (a4249, (w4743, (true, 0)))) (pq4812 (pq4813 (pq4814 (pq4859 (pq4860 (pq4861 pz)))))) (by kernel_rfl) (by kernel_rfl)
     obtain rfl := Option.some.inj hF
     have pz : HoldAll E H hn99 [.test (bnot (ieq a4248 a4246.Source)) true] := ⟨(bnot_f h4735), trivial⟩
     exact fn_playC hn99 (r := F99_res (a4249, ([], (true, 0)))) (pq4812 (pq4813 (pq4814 (pq4859 (pq4860 (pq4861 pz)))))) (by kernel_rfl) (by kernel_rfl)
    have pq4862 : ∀ {l : List Cond}, HoldAll E H hn99 l → HoldAll E H hn99 (.test (beqb (bnot r4704.1.only_) false) false :: .test (beqb (bnot r4704.1.only_) false) false :: .test (beqb (bnot r4704.1.only_) false) false :: .test (beqb (bnot r4704.1.only_) false) false :: .test (beqb (ieq a4247 0) true) true :: .test (bnot r4704.1.only_) true :: .test (ieq a4247 0) true :: .test (beqb a4251 true) false :: .test (beqb a4251 true) false :: .test (beqb a4251 true) false :: .test (beqb a4251 true) false :: .test (beqb a4251 true) false :: .test a4251 false :: .test false false :: .test (bnot true) false :: .int (nlen (len r4731)) (nlen (len r4731)) :: l) := fun z => ⟨(beqb_ft (bnot_f h4734)), (beqb_ft (bnot_f h4734)), (beqb_ft (bnot_f h4734)), (beqb_ft (bnot_f h4734)), (beqb_t h4733), (bnot_f h4734), h4733, (beqb_t h4259), (beqb_t h4259), (beqb_t h4259), (beqb_t h4259), (beqb_t h4259), h4259, rfl, (bnot_t rfl), rfl, z⟩
    refine bind_some hF (fun y4750 h4749 hF => ?_)
    refine sum_some hF (fun w4751 hx hF => ?_) (fun w4752 hx hF => ?_)
    ·
     subst hx
     obtain rfl := Option.some.inj hF
     have pz : HoldAll E H hn99 [.loop 0 c99_0 (F99_l0_1_S a4249 r4704.1.only_ r4731 [] 0) .ret (F99_l0_1_X0 a4249 r4704.1.only_ r4731 w4751)] := ⟨(F99_l0_1_ok K a4249 r4704.1.only_ r4731 K [] 0 _ h4749), trivial⟩
     exact fn_playC hn99 (r := F99_res (0, ([], (false, 8)))) (pq4812 (pq4813 (pq4814 (pq4859 (pq4860 (pq4862 pz)))))) (by kernel_rfl) (by kernel_rfl)
    subst hx
    obtain rfl := Option.some.inj hF
    have pz : HoldAll E H hn99 [.loop 0 c99_0 (F99_l0_1_S a4249 r4704.1.only_ r4731 [] 0) (.exit 0) (F99_l0_1_X1 a4249 r4704.1.only_ r4731 w4752)] := ⟨(F99_l0_1_ok K a4249 r4704.1.only_ r4731 K [] 0 _ h4749), trivial⟩
    exact fn_playC hn99 (r := F99_res (a4249, (w4752, (true, 0)))) (pq4812 (pq4813 (pq4814 (pq4859 (pq4860 (pq4862 pz)))))) (by kernel_rfl) (by kernel_rfl)
   obtain rfl := Option.some.inj hF
   have pz : HoldAll E H hn99 [.test (beqb (ieq a4247 0) true) false, .test (beqb (ieq a4247 0) true) false, .test (beqb (ieq a4247 0) true) false, .test (beqb (ieq a4247 0) true) false, .test (beqb (ieq a4247 0) true) false, .test (ieq a4247 0) false, .test (beqb a4251 true) false, .test (beqb a4251 true) false, .test (beqb a4251 true) false, .test (beqb a4251 true) false, .test (beqb a4251 true) false, .test a4251 false, .test false false, .test (bnot false) true] := ⟨(beqb_t h4733), (beqb_t h4733), (beqb_t h4733), (beqb_t h4733), (beqb_t h4733), h4733, (beqb_t h4259), (beqb_t h4259), (beqb_t h4259), (beqb_t h4259), (beqb_t h4259), h4259, rfl, (bnot_f rfl), trivial⟩
   exact fn_playC hn99 (r := F99_res (a4249, ([], (true, 0)))) (pq4812 (pq4813 (pq4814 (pq4859 pz)))) (by kernel_rfl) (by kernel_rfl)
  refine cond_some hF (fun h4754 hF => ?_) (fun h4754 hF => ?_)
  ·
   refine bind_some hF (fun r4755 h4756 hF => ?_)
   have pq4863 : ∀ {l : List Cond}, HoldAll E H hn99 l → HoldAll E H hn99 (.test (igt a4247 40) false :: .test (bnot a4251) true :: .call 143 [.one (.lit (.int .i64 a4246.Prog))] (F143_res2 r4704) :: .test (leadsAny (Res.mk [(.agg [(.im (.lit (fnV 162))), (.im (.lit (fnV 159))), (.im (.lit (.bool r4704.1.only_))), (.im (.lit (fnV 163)))]), (.one (.im (.lit (.bool r4704.2))))] [])) false :: .call 68 [.agg (eGGraph a4245), .one (.lit (.int .i64 a4248))] (F68_res r4755) :: .test (leadsAny (Res.mk [(.one (.own 89 (.sl (len r4755) (flat eGEdge r4755))))] [])) false :: .test false false :: l) := fun z => ⟨(igt_eq h4258), (bnot_f h4259), (F143_ok2 _ h4754 (F143_ok K a4246.Prog _ h4705)), (leads_ok (by simp [leadsAny, RV.leads, RC.leads, leadsT, hasSl_lit, flat_ns eGEdge_ns])), (F68_ok K a4245 a4248 _ h4756), (leads_ok (by simp [leadsAny, RV.leads, RC.leads, leadsT, hasSl_lit, flat_ns eGEdge_ns])), rfl, z⟩
   refine cond_some hF (fun h4757 hF => ?_) (fun h4757 hF => ?_)
   ·
    have pq4864 : ∀ {l : List Cond}, HoldAll E H hn99 l → HoldAll E H hn99 (.test (beqb (ieq a4247 0) true) true :: .test (beqb (ieq a4247 0) true) true :: .test (beqb (ieq a4247 0) true) true :: .test (beqb (ieq a4247 0) true) true :: l) := fun z => ⟨(beqb_t h4757), (beqb_t h4757), (beqb_t h4757), (beqb_t h4757), z⟩
    refine cond_some hF (fun h4758 hF => ?_) (fun h4758 hF => ?_)
    ·
     have pq4865 : ∀ {l : List Cond}, HoldAll E H hn99 l → HoldAll E H hn99 (.test (beqb (bnot r4704.1.only_) false) true :: .test (beqb (bnot r4704.1.only_) false) true :: .test (beqb (bnot r4704.1.only_) false) true :: .test (beqb (bnot r4704.1.only_) false) true :: .test (beqb (ieq a4247 0) true) true :: .test (bnot r4704.1.only_) false :: .test (ieq a4247 0) true :: .test (beqb a4251 true) false :: .test (beqb a4251 true) false :: .test (beqb a4251 true) false :: .test (beqb a4251 true) false :: .test (beqb a4251 true) false :: .test a4251 false :: .test false false :: l) := fun z => ⟨(beqb_ff (bnot_t h4758)), (beqb_ff (bnot_t h4758)), (beqb_ff (bnot_t h4758)), (beqb_ff (bnot_t h4758)), (beqb_t h4757), (bnot_t h4758), h4757, (beqb_t h4259), (beqb_t h4259), (beqb_t h4259), (beqb_t h4259), (beqb_t h4259), h4259, rfl, z⟩
     refine cond_some hF (fun h4759 hF => ?_) (fun h4759 hF => ?_)
     ·
      refine bind_some hF (fun y4765 h4764 hF => ?_)
      refine sum_some hF (fun w4766 hx hF => ?_) (fun w4767 hx hF => ?_)
      ·
       subst hx
       obtain rfl := Option.some.inj hF
       have pz : HoldAll E H hn99 [.test (bnot (ieq a4248 a4246.Source)) false, .int (nlen (len r4755)) (nlen (len r4755)), .loop 0 c99_0 (F99_l0_2_S a4249 r4704.1.only_ r4755 [] 0) .ret (F99_l0_2_X0 a4249 r4704.1.only_ r4755 w4766)] := ⟨(bnot_t h4759), rfl, (F99_l0_2_ok K a4249 r4704.1.only_ r4755 K [] 0 _ h4764), trivial⟩
       exact fn_playC hn99 (r := F99_res (0, ([], (false, 8)))) (pq4812 (pq4813 (pq4814 (pq4863 (pq4864 (pq4865 pz)))))) (by kernel_rfl) (by kernel_rfl)
      subst hx
      obtain rfl := Option.some.inj hF
      have pz : HoldAll E H hn99 [.test (bnot (ieq a4248 a4246.Source)) false, .int (nlen (len r4755)) (nlen (len r4755)), .loop 0 c99_0 (F99_l0_2_S a4249 r4704.1.only_ r4755 [] 0) (.exit 0) (F99_l0_2_X1 a4249 r4704.1.only_ r4755 w4767)] := ⟨(bnot_t h4759), rfl, (F99_l0_2_ok K a4249 r4704.1.only_ r4755 K [] 0 _ h4764), trivial⟩
      exact fn_playC hn99 (r := F99_res (a4249, (w4767, (true, 0)))) (pq4812 (pq4813 (pq4814 (pq4863 (pq4864 (pq4865 pz)))))) (by kernel_rfl) (by kernel_rfl)
     obtain rfl := Option.some.inj hF
     have pz : HoldAll E H hn99 [.test (bnot (ieq a4248 a4246.Source)) true] := ⟨(bnot_f h4759), trivial⟩
     exact fn_playC hn99 (r := F99_res (a4249, ([], (true, 0)))) (pq4812 (pq4813 (pq4814 (pq4863 (pq4864 (pq4865 pz)))))) (by kernel_rfl) (by kernel_rfl)
    have pq4866 : ∀ {l : List Cond}, HoldAll E H hn99 l → HoldAll E H hn99 (.test (beqb (bnot r4704.1.only_) false) false :: .test (beqb (bnot r4704.1.only_) false) false :: .test (beqb (bnot r4704.1.only_) false) false :: .test (beqb (bnot r4704.1.only_) false) false :: .test (beqb (ieq a4247 0) true) true :: .test (bnot r4704.1.only_) true :: .test (ieq a4247 0) true :: .test (beqb a4251 true) false :: .test (beqb a4251 true) false :: .test (beqb a4251 true) false :: .test (beqb a4251 true) false :: .test (beqb a4251 true) false :: .test a4251 false :: .test false false :: .test (bnot true) false :: .int (nlen (len r4755)) (nlen (len r4755)) :: l) := fun z => ⟨(beqb_ft (bnot_f h4758)), (beqb_ft (bnot_f h4758)), (beqb_ft (bnot_f h4758)), (beqb_ft (bnot_f h4758)), (beqb_t h4757), (bnot_f h4758), h4757, (beqb_t h4259), (beqb_t h4259), (beqb_t h4259), (beqb_t h4259), (beqb_t h4259), h4259, rfl, (bnot_t rfl), rfl, z⟩
    refine bind_some hF (fun y4774 h4773 hF => ?_)
    refine sum_some hF (fun w4775 hx hF => ?_) (fun w4776 hx hF => ?_)
    ·
     subst hx
     obtain rfl := Option.some.inj hF
     have pz : HoldAll E H hn99 [.loop 0 c99_0 (F99_l0_2_S a4249 r4704.1.only_ r4755 [] 0) .ret (F99_l0_2_X0 a4249 r4704.1.only_ r4755 w4775)] := ⟨(F99_l0_2_ok K a4249 r4704.1.only_ r4755 K [] 0 _ h4773), trivial⟩
     exact fn_playC hn99 (r := F99_res (0, ([], (false, 8)))) (pq4812 (pq4813 (pq4814 (pq4863 (pq4864 (pq4866 pz)))))) (by kernel_rfl) (by kernel_rfl)
    subst hx
    obtain rfl := Option.some.inj hF
    have pz : HoldAll E H hn99 [.loop 0 c99_0 (F99_l0_2_S a4249 r4704.1.only_ r4755 [] 0) (.exit 0) (F99_l0_2_X1 a4249 r4704.1.only_ r4755 w4776)] := ⟨(F99_l0_2_ok K a4249 r4704.1.only_ r4755 K [] 0 _ h4773), trivial⟩
    exact fn_playC hn99 (r := F99_res (a4249, (w4776, (true, 0)))) (pq4812 (pq4813 (pq4814 (pq4863 (pq4864 (pq4866 pz)))))) (by kernel_rfl) (by kernel_rfl)
   obtain rfl := Option.some.inj hF
   have pz : HoldAll E H hn99 [.test (beqb (ieq a4247 0) true) false, .test (beqb (ieq a4247 0) true) false, .test (beqb (ieq a4247 0) true) false, .test (beqb (ieq a4247 0) true) false, .test (beqb (ieq a4247 0) true) false, .test (ieq a4247 0) false, .test (beqb a4251 true) false, .test (beqb a4251 true) false, .test (beqb a4251 true) false, .test (beqb a4251 true) false, .test (beqb a4251 true) false, .test a4251 false, .test false false, .test (bnot false) true] := ⟨(beqb_t h4757), (beqb_t h4757), (beqb_t h4757), (beqb_t h4757), (beqb_t h4757), h4757, (beqb_t h4259), (beqb_t h4259), (beqb_t h4259), (beqb_t h4259), (beqb_t h4259), h4259, rfl, (bnot_f rfl), trivial⟩
   exact fn_playC hn99 (r := F99_res (a4249, ([], (true, 0)))) (pq4812 (pq4813 (pq4814 (pq4863 pz)))) (by kernel_rfl) (by kernel_rfl)
  refine cond_some hF (fun h4778 hF => ?_) (fun h4778 hF => ?_)
  ·
   refine bind_some hF (fun r4779 h4780 hF => ?_)
   have pq4867 : ∀ {l : List Cond}, HoldAll E H hn99 l → HoldAll E H hn99 (.test (igt a4247 40) false :: .test (bnot a4251) true :: .call 143 [.one (.lit (.int .i64 a4246.Prog))] (F143_res3 r4704) :: .test (leadsAny (Res.mk [(.agg [(.im (.lit (fnV 164))), (.im (.lit (fnV 165))), (.im (.lit (.bool r4704.1.only_))), (.im (.lit (fnV 163)))]), (.one (.im (.lit (.bool r4704.2))))] [])) false :: .call 68 [.agg (eGGraph a4245), .one (.lit (.int .i64 a4248))] (F68_res r4779) :: .test (leadsAny (Res.mk [(.one (.own 89 (.sl (len r4779) (flat eGEdge r4779))))] [])) false :: .test false false :: l) := fun z => ⟨(igt_eq h4258), (bnot_f h4259), (F143_ok3 _ h4778 (F143_ok K a4246.Prog _ h4705)), (leads_ok (by simp [leadsAny, RV.leads, RC.leads, leadsT, hasSl_lit, flat_ns eGEdge_ns])), (F68_ok K a4245 a4248 _ h4780), (leads_ok (by simp [leadsAny, RV.leads, RC.leads, leadsT, hasSl_lit, flat_ns eGEdge_ns])), rfl, z⟩
   refine cond_some hF (fun h4781 hF => ?_) (fun h4781 hF => ?_)
   ·
    have pq4868 : ∀ {l : List Cond}, HoldAll E H hn99 l → HoldAll E H hn99 (.test (beqb (ieq a4247 0) true) true :: .test (beqb (ieq a4247 0) true) true :: .test (beqb (ieq a4247 0) true) true :: .test (beqb (ieq a4247 0) true) true :: l) := fun z => ⟨(beqb_t h4781), (beqb_t h4781), (beqb_t h4781), (beqb_t h4781), z⟩
    refine cond_some hF (fun h4782 hF => ?_) (fun h4782 hF => ?_)
    ·
     have pq4869 : ∀ {l : List Cond}, HoldAll E H hn99 l → HoldAll E H hn99 (.test (beqb (bnot r4704.1.only_) false) true :: .test (beqb (bnot r4704.1.only_) false) true :: .test (beqb (bnot r4704.1.only_) false) true :: .test (beqb (bnot r4704.1.only_) false) true :: .test (beqb (ieq a4247 0) true) true :: .test (bnot r4704.1.only_) false :: .test (ieq a4247 0) true :: .test (beqb a4251 true) false :: .test (beqb a4251 true) false :: .test (beqb a4251 true) false :: .test (beqb a4251 true) false :: .test (beqb a4251 true) false :: .test a4251 false :: .test false false :: l) := fun z => ⟨(beqb_ff (bnot_t h4782)), (beqb_ff (bnot_t h4782)), (beqb_ff (bnot_t h4782)), (beqb_ff (bnot_t h4782)), (beqb_t h4781), (bnot_t h4782), h4781, (beqb_t h4259), (beqb_t h4259), (beqb_t h4259), (beqb_t h4259), (beqb_t h4259), h4259, rfl, z⟩
     refine cond_some hF (fun h4783 hF => ?_) (fun h4783 hF => ?_)
     ·
      refine bind_some hF (fun y4789 h4788 hF => ?_)
      refine sum_some hF (fun w4790 hx hF => ?_) (fun w4791 hx hF => ?_)
      ·
       subst hx
       obtain rfl := Option.some.inj hF
       have pz : HoldAll E H hn99 [.test (bnot (ieq a4248 a4246.Source)) false, .int (nlen (len r4779)) (nlen (len r4779)), .loop 0 c99_0 (F99_l0_3_S a4249 r4704.1.only_ r4779 [] 0) .ret (F99_l0_3_X0 a4249 r4704.1.only_ r4779 w4790)] := ⟨(bnot_t h4783), rfl, (F99_l0_3_ok K a4249 r4704.1.only_ r4779 K [] 0 _ h4788), trivial⟩
       exact fn_playC hn99 (r := F99_res (0, ([], (false, 8)))) (pq4812 (pq4813 (pq4814 (pq4867 (pq4868 (pq4869 pz)))))) (by kernel_rfl) (by kernel_rfl)
      subst hx
      obtain rfl := Option.some.inj hF
      have pz : HoldAll E H hn99 [.test (bnot (ieq a4248 a4246.Source)) false, .int (nlen (len r4779)) (nlen (len r4779)), .loop 0 c99_0 (F99_l0_3_S a4249 r4704.1.only_ r4779 [] 0) (.exit 0) (F99_l0_3_X1 a4249 r4704.1.only_ r4779 w4791)] := ⟨(bnot_t h4783), rfl, (F99_l0_3_ok K a4249 r4704.1.only_ r4779 K [] 0 _ h4788), trivial⟩
      exact fn_playC hn99 (r := F99_res (a4249, (w4791, (true, 0)))) (pq4812 (pq4813 (pq4814 (pq4867 (pq4868 (pq4869 pz)))))) (by kernel_rfl) (by kernel_rfl)
     obtain rfl := Option.some.inj hF
     have pz : HoldAll E H hn99 [.test (bnot (ieq a4248 a4246.Source)) true] := ⟨(bnot_f h4783), trivial⟩
     exact fn_playC hn99 (r := F99_res (a4249, ([], (true, 0)))) (pq4812 (pq4813 (pq4814 (pq4867 (pq4868 (pq4869 pz)))))) (by kernel_rfl) (by kernel_rfl)
    have pq4870 : ∀ {l : List Cond}, HoldAll E H hn99 l → HoldAll E H hn99 (.test (beqb (bnot r4704.1.only_) false) false :: .test (beqb (bnot r4704.1.only_) false) false :: .test (beqb (bnot r4704.1.only_) false) false :: .test (beqb (bnot r4704.1.only_) false) false :: .test (beqb (ieq a4247 0) true) true :: .test (bnot r4704.1.only_) true :: .test (ieq a4247 0) true :: .test (beqb a4251 true) false :: .test (beqb a4251 true) false :: .test (beqb a4251 true) false :: .test (beqb a4251 true) false :: .test (beqb a4251 true) false :: .test a4251 false :: .test false false :: .test (bnot true) false :: .int (nlen (len r4779)) (nlen (len r4779)) :: l) := fun z => ⟨(beqb_ft (bnot_f h4782)), (beqb_ft (bnot_f h4782)), (beqb_ft (bnot_f h4782)), (beqb_ft (bnot_f h4782)), (beqb_t h4781), (bnot_f h4782), h4781, (beqb_t h4259), (beqb_t h4259), (beqb_t h4259), (beqb_t h4259), (beqb_t h4259), h4259, rfl, (bnot_t rfl), rfl, z⟩
    refine bind_some hF (fun y4798 h4797 hF => ?_)
    refine sum_some hF (fun w4799 hx hF => ?_) (fun w4800 hx hF => ?_)
    ·
     subst hx
     obtain rfl := Option.some.inj hF
     have pz : HoldAll E H hn99 [.loop 0 c99_0 (F99_l0_3_S a4249 r4704.1.only_ r4779 [] 0) .ret (F99_l0_3_X0 a4249 r4704.1.only_ r4779 w4799)] := ⟨(F99_l0_3_ok K a4249 r4704.1.only_ r4779 K [] 0 _ h4797), trivial⟩
     exact fn_playC hn99 (r := F99_res (0, ([], (false, 8)))) (pq4812 (pq4813 (pq4814 (pq4867 (pq4868 (pq4870 pz)))))) (by kernel_rfl) (by kernel_rfl)
    subst hx
    obtain rfl := Option.some.inj hF
    have pz : HoldAll E H hn99 [.loop 0 c99_0 (F99_l0_3_S a4249 r4704.1.only_ r4779 [] 0) (.exit 0) (F99_l0_3_X1 a4249 r4704.1.only_ r4779 w4800)] := ⟨(F99_l0_3_ok K a4249 r4704.1.only_ r4779 K [] 0 _ h4797), trivial⟩
    exact fn_playC hn99 (r := F99_res (a4249, (w4800, (true, 0)))) (pq4812 (pq4813 (pq4814 (pq4867 (pq4868 (pq4870 pz)))))) (by kernel_rfl) (by kernel_rfl)
   obtain rfl := Option.some.inj hF
   have pz : HoldAll E H hn99 [.test (beqb (ieq a4247 0) true) false, .test (beqb (ieq a4247 0) true) false, .test (beqb (ieq a4247 0) true) false, .test (beqb (ieq a4247 0) true) false, .test (beqb (ieq a4247 0) true) false, .test (ieq a4247 0) false, .test (beqb a4251 true) false, .test (beqb a4251 true) false, .test (beqb a4251 true) false, .test (beqb a4251 true) false, .test (beqb a4251 true) false, .test a4251 false, .test false false, .test (bnot false) true] := ⟨(beqb_t h4781), (beqb_t h4781), (beqb_t h4781), (beqb_t h4781), (beqb_t h4781), h4781, (beqb_t h4259), (beqb_t h4259), (beqb_t h4259), (beqb_t h4259), (beqb_t h4259), h4259, rfl, (bnot_f rfl), trivial⟩
   exact fn_playC hn99 (r := F99_res (a4249, ([], (true, 0)))) (pq4812 (pq4813 (pq4814 (pq4867 pz)))) (by kernel_rfl) (by kernel_rfl)
  refine cond_some hF (fun h4802 hF => ?_) (fun h4802 hF => ?_)
  ·
   refine bind_some hF (fun r4803 h4804 hF => ?_)
   refine bind_some hF (fun r4805 h4806 hF => ?_)
   obtain rfl := Option.some.inj hF
   have pz : HoldAll E H hn99 [.test (igt a4247 40) false, .test (bnot a4251) true, .call 143 [.one (.lit (.int .i64 a4246.Prog))] (F143_res4 r4704), .test (leadsAny (Res.mk [(.agg [(.im (.lit (fnV 166))), (.im (.lit .nilFunc)), (.im (.lit (.bool r4704.1.only_))), (.im (.lit (fnV 163)))]), (.one (.im (.lit (.bool r4704.2))))] [])) false, .call 68 [.agg (eGGraph a4245), .one (.lit (.int .i64 a4248))] (F68_res r4803), .test (leadsAny (Res.mk [(.one (.own 89 (.sl (len r4803) (flat eGEdge r4803))))] [])) false, .test true true, .call 146 [.one (.sl (len r4803) (flat eGEdge r4803)), .one (.lit (.int .i64 a4247)), .one (.lit (.int .i64 a4249)), .one (.lit (.int .i64 0))] (F146_res r4805), .test (leadsAny (Res.mk [(.one (.im (.lit (.int .i64 r4805.1)))), (.one (.own 130 (.sl (len r4805.2.1) (flat eGMsg r4805.2.1)))), (.one (.im (.lit (.bool r4805.2.2.1)))), (.one (.im (.lit (.int .i64 r4805.2.2.2))))] [])) false] := ⟨(igt_eq h4258), (bnot_f h4259), (F143_ok4 _ h4802 (F143_ok K a4246.Prog _ h4705)), (leads_ok (by simp [leadsAny, RV.leads, RC.leads, leadsT, hasSl_lit, flat_ns eGEdge_ns, flat_ns eGMsg_ns])), (F68_ok K a4245 a4248 _ h4804), (leads_ok (by simp [leadsAny, RV.leads, RC.leads, leadsT, hasSl_lit, flat_ns eGEdge_ns, flat_ns eGMsg_ns])), rfl, (F146_ok K r4803 a4247 a4249 0 _ h4806), (leads_ok (by simp [leadsAny, RV.leads, RC.leads, leadsT, hasSl_lit, flat_ns eGEdge_ns, flat_ns eGMsg_ns])), trivial⟩
   exact fn_playC hn99 (r := F99_res (r4805.1, (r4805.2.1, (r4805.2.2.1, r4805.2.2.2)))) (pq4812 (pq4813 (pq4814 pz))) (by kernel_rfl) (by kernel_rfl)
  refine cond_some hF (fun h4807 hF => ?_) (fun _ hF => nomatch hF)
  refine bind_some hF (fun r4808 h4809 hF => ?_)
  refine bind_some hF (fun r4810 h4811 hF => ?_)
  obtain rfl := Option.some.inj hF
  have pz : HoldAll E H hn99 [.test (igt a4247 40) false, .test (bnot a4251) true, .call 143 [.one (.lit (.int .i64 a4246.Prog))] (F143_res5 r4704), .test (leadsAny (Res.mk [(.agg [(.im (.lit .nilFunc)), (.im (.lit .nilFunc)), (.im (.lit (.bool r4704.1.only_))), (.im (.lit .nilFunc))]), (.one (.im (.lit (.bool r4704.2))))] [])) false, .call 68 [.agg (eGGraph a4245), .one (.lit (.int .i64 a4248))] (F68_res r4808), .test (leadsAny (Res.mk [(.one (.own 89 (.sl (len r4808) (flat eGEdge r4808))))] [])) false, .test true true, .call 146 [.one (.sl (len r4808) (flat eGEdge r4808)), .one (.lit (.int .i64 a4247)), .one (.lit (.int .i64 a4249)), .one (.lit (.int .i64 0))] (F146_res r4810), .test (leadsAny (Res.mk [(.one (.im (.lit (.int .i64 r4810.1)))), (.one (.own 130 (.sl (len r4810.2.1) (flat eGMsg r4810.2.1)))), (.one (.im (.lit (.bool r4810.2.2.1)))), (.one (.im (.lit (.int .i64 r4810.2.2.2))))] [])) false] := ⟨(igt_eq h4258), (bnot_f h4259), (F143_ok5 _ h4807 (F143_ok K a4246.Prog _ h4705)), (leads_ok (by simp [leadsAny, RV.leads, RC.leads, leadsT, hasSl_lit, flat_ns eGEdge_ns, flat_ns eGMsg_ns])), (F68_ok K a4245 a4248 _ h4809), (leads_ok (by simp [leadsAny, RV.leads, RC.leads, leadsT, hasSl_lit, flat_ns eGEdge_ns, flat_ns eGMsg_ns])), rfl, (F146_ok K r4808 a4247 a4249 0 _ h4811), (leads_ok (by simp [leadsAny, RV.leads, RC.leads, leadsT, hasSl_lit, flat_ns eGEdge_ns, flat_ns eGMsg_ns])), trivial⟩
  exact fn_playC hn99 (r := F99_res (r4810.1, (r4810.2.1, (r4810.2.2.1, r4810.2.2.2)))) (pq4812 (pq4813 (pq4814 pz))) (by kernel_rfl) (by kernel_rfl)
 obtain rfl := Option.some.inj hF
 have pz : HoldAll E H hn99 [.call 94 [.agg (eGGraph a4245), .agg (eGJob a4246)] (F94_res r4252), .test (leadsAny (Res.mk [(.one (.im (.lit (.int .i64 r4252))))] [])) false, .test (ine r4252 0) true] := ⟨(F94_ok K a4245 a4246 _ h4253), (leads_ok (by simp [leadsAny, RV.leads, RC.leads, leadsT, hasSl_lit, flat_ns eGJob_ns])), (ine_f h4254), trivial⟩
 exact fn_playC hn99 (r := F99_res (0, ([], (false, r4252)))) pz (by kernel_rfl) (by kernel_rfl)
def F171 (K : Nat) (a1284 : Int) (a1285 : Int) : Option (Int × Bool) :=
 bif (ieq a1284 0) then
  (some (0, true))
 else
 bif (ieq a1285 0) then
  (some (0, true))
 else
 bif (ieq a1284 (-1)) then
  (bif (ieq a1284 (-9223372036854775808)) then
   (some (0, false))
  else
  bif (ieq a1285 (-9223372036854775808)) then
   (some (0, false))
  else
  some ((wmul .i64 a1284 a1285), true))
 else
 bif (ieq a1285 (-1)) then
  (bif (ieq a1284 (-9223372036854775808)) then
   (some (0, false))
  else
  bif (ieq a1285 (-9223372036854775808)) then
   (some (0, false))
  else
  some ((wmul .i64 a1284 a1285), true))
 else
 bif (izero a1285) then none else
 bif (ieq (wquo .i64 (wmul .i64 a1284 a1285) a1285) a1284) then
  (some ((wmul .i64 a1284 a1285), true))
 else
 some (0, false)
def F168 (K : Nat) (a1280 : Int) (a1281 : Int) (a1282 : Int) : Option (Int × Bool) :=
 bif (ilt a1282 1) then
  (some (0, false))
 else
 (F171 K a1280 a1281).bind fun r1303 =>
 bif r1303.2 then
  (bif (izero a1282) then none else
  some ((wquo .i64 r1303.1 a1282), true))
 else
 some (0, false)
def F148 (K : Nat) (a1375 : Int) (a1376 : Int) (a1377 : GEdge) (a1378 : Int) : Option (Int × Bool) :=
 bif (ieq a1375 1) then
  ((F145 K a1376 a1377.W).bind fun r1380 =>
  some (r1380.1, r1380.2))
 else
 bif (ieq a1375 3) then
  ((F145 K a1376 1).bind fun r1383 =>
  some (r1383.1, r1383.2))
 else
 bif (ieq a1375 5) then
  ((F168 K a1376 1 a1378).bind fun r1386 =>
  some (r1386.1, r1386.2))
 else
 some (a1376, true)
def F100_l0_0 (K : Nat) (v1361 : Int) (v1362 : Int) (v1363 : Int) (v1364 : Int) (v1365 : Int) (v1366 : Bool) (v1369 : List GEdge) : Nat → List GMsg → Int → Option ((Unit) ⊕ (List GMsg))
 | 0, _, _ => none
 | k + 1, v1393, v1394 =>
  bif (ilt v1394 (nlen (len v1369))) then
   (bif v1366 then
    (bif (inr v1394 (len v1369)) then
    (elAt v1369 v1394).bind fun x1398 =>
    (F148 K v1362 v1361 x1398 (nlen (len v1369))).bind fun r1400 =>
    bif r1400.2 then
     (bif (apok (len v1393) 1 16) then
     F100_l0_0 K v1361 v1362 v1363 v1364 v1365 v1366 v1369 k (appL v1393 [(GMsg.mk x1398.To r1400.1)]) (wadd .i64 v1394 1)
     else none)
    else
    some (.inl ())
    else none)
   else
   some (.inr v1393))
  else
  some (.inr v1393)
def F100_l0_1 (K : Nat) (v1491 : Int) (v1492 : Int) (v1493 : Int) (v1494 : Int) (v1495 : Int) (v1497 : List GEdge) : Nat → List GMsg → Int → Option ((Unit) ⊕ (List GMsg))
 | 0, _, _ => none
 | k + 1, v1506, v1507 =>
  bif (ilt v1507 (nlen (len v1497))) then
   (bif (inr v1507 (len v1497)) then
   (elAt v1497 v1507).bind fun x1510 =>
   (F148 K v1492 v1491 x1510 (nlen (len v1497))).bind fun r1512 =>
   bif r1512.2 then
    (bif (apok (len v1506) 1 16) then
    F100_l0_1 K v1491 v1492 v1493 v1494 v1495 v1497 k (appL v1506 [(GMsg.mk x1510.To r1512.1)]) (wadd .i64 v1507 1)
    else none)
   else
   some (.inl ())
   else none)
  else
  some (.inr v1506)
def F100_l0_2 (K : Nat) (v1527 : Int) (v1528 : Int) (v1529 : Int) (v1530 : Int) (v1531 : Int) (v1532 : Bool) (v1534 : List GEdge) : Nat → List GMsg → Int → Option ((Unit) ⊕ (List GMsg))
 | 0, _, _ => none
 | k + 1, v1544, v1545 =>
  bif (ilt v1545 (nlen (len v1534))) then
   (bif v1532 then
    (bif (inr v1545 (len v1534)) then
    (elAt v1534 v1545).bind fun x1549 =>
    (F148 K v1528 v1527 x1549 (nlen (len v1534))).bind fun r1551 =>
    bif r1551.2 then
     (bif (apok (len v1544) 1 16) then
     F100_l0_2 K v1527 v1528 v1529 v1530 v1531 v1532 v1534 k (appL v1544 [(GMsg.mk x1549.To r1551.1)]) (wadd .i64 v1545 1)
     else none)
    else
    some (.inl ())
    else none)
   else
   some (.inr v1544))
  else
  some (.inr v1544)
def F100_l0_3 (K : Nat) (v1582 : Int) (v1583 : Int) (v1584 : Int) (v1585 : Int) (v1586 : Int) (v1589 : List GEdge) : Nat → List GMsg → Int → Option (((List GMsg)) ⊕ (Unit))
 | 0, _, _ => none
 | k + 1, v1599, v1600 =>
  bif (ilt v1600 (nlen (len v1589))) then
   (bif (ieq v1582 v1582) then
    (some (.inl v1599))
   else
   bif (inr v1600 (len v1589)) then
   (elAt v1589 v1600).bind fun x1604 =>
   (F148 K v1583 v1582 x1604 (nlen (len v1589))).bind fun r1606 =>
   bif r1606.2 then
    (bif (apok (len v1599) 1 16) then
    F100_l0_3 K v1582 v1583 v1584 v1585 v1586 v1589 k (appL v1599 [(GMsg.mk x1604.To r1606.1)]) (wadd .i64 v1600 1)
    else none)
   else
   some (.inr ())
   else none)
  else
  some (.inl v1599)
theorem u_add {a b : Int} (h : 0 ≤ a + b) (h2 : a + b < 18446744073709551616) : wadd .u64 a b = a + b := by
 show IntKind.u64.wrap (a + b) = _
 simp [IntKind.wrap, IntKind.signed, IntKind.bits]; omega
theorem u_mul {a b : Int} (h : 0 ≤ a * b) (h2 : a * b < 18446744073709551616) : wmul .u64 a b = a * b := by
 show IntKind.u64.wrap (a * b) = _
 simp only [IntKind.wrap, IntKind.signed, IntKind.bits, Bool.false_and]
 generalize a * b = t at *
 simp; omega
theorem u_quo {a : Int} (h : 0 ≤ a) (h2 : a < 18446744073709551616) : wquo .u64 a 4294967296 = a / 4294967296 := by
 show IntKind.u64.wrap (a.tdiv 4294967296) = _
 rw [Int.tdiv_eq_ediv_of_nonneg h]
 simp [IntKind.wrap, IntKind.signed, IntKind.bits]; omega
theorem u_rem {a : Int} (h : 0 ≤ a) : wrem a 4294967296 = a % 4294967296 := by
 show a.tmod 4294967296 = _
 exact Int.tmod_eq_emod_of_nonneg h
theorem F174_spec (K : Nat) {x b : Int} (hx : 0 ≤ x) (hx2 : x ≤ 9223372036854775808) (hb : 1 ≤ b) (hb2 : b ≤ 1000) :
   ∃ hi lo, F174 K x b = some (GA199.mk hi lo) ∧ hi * 18446744073709551616 + lo = x * b ∧ 0 ≤ lo ∧ lo < 18446744073709551616 ∧ 0 ≤ hi := by
 obtain ⟨u, hu⟩ : ∃ u, x / 4294967296 = u := ⟨_, rfl⟩
 obtain ⟨v, hv⟩ : ∃ v, x % 4294967296 = v := ⟨_, rfl⟩
 have hu0 : 0 ≤ u ∧ u ≤ 2147483648 := by omega
 have hv0 : 0 ≤ v ∧ v < 4294967296 := by omega
 have hxu : x = u * 4294967296 + v := by omega
 obtain ⟨P, hP⟩ : ∃ P, u * b = P := ⟨_, rfl⟩
 obtain ⟨Q, hQ⟩ : ∃ Q, v * b = Q := ⟨_, rfl⟩
 have hP0 : 0 ≤ P := hP ▸ Int.mul_nonneg hu0.1 (by omega)
 have hQ0 : 0 ≤ Q := hQ ▸ Int.mul_nonneg hv0.1 (by omega)
 have hP1 : P ≤ 2147483648 * 1000 := hP ▸ Int.mul_le_mul hu0.2 hb2 (by omega) (by omega)
 have hQ1 : Q ≤ 4294967296 * 1000 := hQ ▸ Int.mul_le_mul (by omega) hb2 (by omega) (by omega)
 have hxb : x * b = P * 4294967296 + Q := by rw [hxu, Int.add_mul, hQ, ← hP, Int.mul_right_comm]
 have a1 : wquo .u64 x 4294967296 = u := by rw [u_quo hx (by omega), hu]
 have a2 : wquo .u64 b 4294967296 = 0 := by rw [u_quo (by omega) (by omega)]; omega
 have a3 : wrem x 4294967296 = v := by rw [u_rem hx, hv]
 have a4 : wrem b 4294967296 = b := by rw [u_rem (by omega)]; omega
 have b1 : wmul .u64 u 0 = 0 := by rw [u_mul (by omega) (by omega)]; omega
 have b2 : wmul .u64 u b = P := by rw [u_mul (by omega) (by omega), hP]
 have b3 : wmul .u64 v 0 = 0 := by rw [u_mul (by omega) (by omega)]; omega
 have b4 : wmul .u64 v b = Q := by rw [u_mul (by omega) (by omega), hQ]
 have c1 : wquo .u64 P 4294967296 = P / 4294967296 := u_quo hP0 (by omega)
 have c2 : wquo .u64 0 4294967296 = 0 := by rw [u_quo (by omega) (by omega)]; omega
 have c3 : wquo .u64 Q 4294967296 = Q / 4294967296 := u_quo hQ0 (by omega)
 have c4 : wrem P 4294967296 = P % 4294967296 := u_rem hP0
 have c5 : wrem 0 4294967296 = 0 := by rw [u_rem (by omega)]; omega
 have c6 : wrem Q 4294967296 = Q % 4294967296 := u_rem hQ0
 have d1 : wadd .u64 (Q / 4294967296) (P % 4294967296) = Q / 4294967296 + P % 4294967296 := u_add (by omega) (by omega)
 have d2 : wadd .u64 (Q / 4294967296 + P % 4294967296) 0 = Q / 4294967296 + P % 4294967296 := by rw [u_add (by omega) (by omega)]; omega
 have d3 : wquo .u64 (Q / 4294967296 + P % 4294967296) 4294967296 = (Q / 4294967296 + P % 4294967296) / 4294967296 := u_quo (by omega) (by omega)
 have d4 : wrem (Q / 4294967296 + P % 4294967296) 4294967296 = (Q / 4294967296 + P % 4294967296) % 4294967296 := u_rem (by omega)
 have d5 : wadd .u64 0 (P / 4294967296) = P / 4294967296 := by rw [u_add (by omega) (by omega)]; omega
 have d6 : wadd .u64 (P / 4294967296) 0 = P / 4294967296 := by rw [u_add (by omega) (by omega)]; omega
 have d7 : wadd .u64 (P / 4294967296) ((Q / 4294967296 + P % 4294967296) / 4294967296) = P / 4294967296 + (Q / 4294967296 + P % 4294967296) / 4294967296 := u_add (by omega) (by omega)
 have d8 : wmul .u64 ((Q / 4294967296 + P % 4294967296) % 4294967296) 4294967296 = (Q / 4294967296 + P % 4294967296) % 4294967296 * 4294967296 := u_mul (by omega) (by omega)
 have d9 : wadd .u64 ((Q / 4294967296 + P % 4294967296) % 4294967296 * 4294967296) (Q % 4294967296) = (Q / 4294967296 + P % 4294967296) % 4294967296 * 4294967296 + Q % 4294967296 := u_add (by omega) (by omega)
 refine ⟨P / 4294967296 + (Q / 4294967296 + P % 4294967296) / 4294967296, (Q / 4294967296 + P % 4294967296) % 4294967296 * 4294967296 + Q % 4294967296, ?_, ?_, by omega, by omega, by omega⟩
 · rw [F174, a1, a2, a3, a4, b1, b2, b3, b4, c1, c2, c3, c4, c5, c6, d1, d2, d3, d4, d5, d6, d7, d8, d9]
 · rw [hxb]; omega
theorem F175_spec (K : Nat) {a : Int} (ha : i64 a) : F175 K a = some (bif ilt a 0 then -a else a) := by
 unfold i64 at ha
 rw [F175]
 cases h : ilt a 0
 · have := ilt_f.1 h
   have e : wconv .u64 a = a := by
     show IntKind.u64.wrap a = _
     simp [IntKind.wrap, IntKind.signed, IntKind.bits]; omega
   rw [e]; rfl
 · have := ilt_iff.1 h
   have e1 : wadd .i64 a 1 = a + 1 := wadd_i64 (by unfold i64; omega)
   have e2 : wneg .i64 (a + 1) = -(a + 1) := by
     show IntKind.i64.wrap (0 - (a + 1)) = _
     rw [IntKind.wrap_i64]; omega
   have e3 : wconv .u64 (-(a + 1)) = -(a + 1) := by
     show IntKind.u64.wrap _ = _
     simp [IntKind.wrap, IntKind.signed, IntKind.bits]; omega
   have e4 : wadd .u64 (-(a + 1)) 1 = -a := by rw [u_add (by omega) (by omega)]; omega
   rw [e1, e2, e3, e4]; rfl
def mulS (a b : Int) : Int × Bool := bif fitsB (a * b) then (a * b, true) else (0, false)
theorem F170_spec (K : Nat) {a b : Int} (ha : i64 a) (hb : 1 ≤ b) (hb2 : b ≤ 1000) : F170 K a b = some (mulS a b) := by
 have hb0 : ilt b 0 = false := ilt_f.2 (by omega)
 have h175 : F175 K b = some b := by rw [F175_spec K (by unfold i64; omega), hb0]; rfl
 have hconv : ∀ n : Int, 0 ≤ n → n ≤ 9223372036854775807 → wconv .i64 n = n := fun n h1 h2 => by
   show IntKind.i64.wrap n = _
   rw [IntKind.wrap_i64]; omega
 rw [F170, F175_spec K ha, h175, mulS, hb0]
 unfold i64 at ha
 cases h : ilt a 0
 · have hn := ilt_f.1 h
   obtain ⟨hi, lo, e, h1, h2, h3, h4⟩ := F174_spec K hn (by omega) hb hb2
   simp only [Option.bind_some, cond_false, e]
   cases c1 : ilt 0 hi
   · have c1' := ilt_f.1 c1
     cases c2 : ilt 9223372036854775808 lo
     · have c2' := ilt_f.1 c2
       cases c3 : ieq lo 9223372036854775808
       · have c3' := ieq_f.1 c3
         have hf : fitsB (a * b) = true := fitsB_iff.2 (by unfold i64; omega)
         have : lo = a * b := by omega
         rw [hf, hconv lo h2 (by omega), this]; rfl
       · have c3' := ieq_iff.1 c3
         have hf : fitsB (a * b) = false := fitsB_f.2 (by omega)
         rw [hf]; rfl
     · have c2' := ilt_iff.1 c2
       have hf : fitsB (a * b) = false := fitsB_f.2 (by omega)
       rw [hf]; rfl
   · have c1' := ilt_iff.1 c1
     have hf : fitsB (a * b) = false := fitsB_f.2 (by omega)
     rw [hf]; rfl
 · have hn := ilt_iff.1 h
   obtain ⟨hi, lo, e, h1, h2, h3, h4⟩ := F174_spec K (x := -a) (by omega) (by omega) hb hb2
   rw [Int.neg_mul] at h1
   simp only [Option.bind_some, cond_true, e]
   cases c1 : ilt 0 hi
   · have c1' := ilt_f.1 c1
     cases c2 : ilt 9223372036854775808 lo
     · have c2' := ilt_f.1 c2
       cases c3 : ieq lo 9223372036854775808
       · have c3' := ieq_f.1 c3
         have hf : fitsB (a * b) = true := fitsB_iff.2 (by unfold i64; omega)
         have hw : wneg .i64 lo = a * b := by
           show IntKind.i64.wrap (0 - lo) = _
           rw [IntKind.wrap_i64]; omega
         rw [hf, hconv lo h2 (by omega), hw]; rfl
       · have c3' := ieq_iff.1 c3
         have hf : fitsB (a * b) = true := fitsB_iff.2 (by unfold i64; omega)
         have : a * b = -9223372036854775808 := by omega
         rw [hf, this]; rfl
     · have c2' := ilt_iff.1 c2
       have hf : fitsB (a * b) = false := fitsB_f.2 (by omega)
       rw [hf]; rfl
   · have c1' := ilt_iff.1 c1
     have hf : fitsB (a * b) = false := fitsB_f.2 (by omega)
     rw [hf]; rfl
theorem tdiv_i64 {a d : Int} (ha : i64 a) (hd : 1 ≤ d) : wquo .i64 a d = a.tdiv d ∧ i64 (a.tdiv d) := by
 unfold i64 at ha
 have h1 : (a.tdiv d).natAbs ≤ a.natAbs := Int.natAbs_tdiv_le_natAbs a d
 have h2 : -9223372036854775808 ≤ a.tdiv d ∧ a.tdiv d ≤ 9223372036854775808 := by omega
 have h3 : 0 ≤ a → 0 ≤ a.tdiv d := fun h => Int.tdiv_nonneg h (by omega)
 have h4 : a ≤ 0 → a.tdiv d ≤ 0 := fun h => by
   have := Int.tdiv_nonneg (show 0 ≤ -a by omega) (show 0 ≤ d by omega)
   rw [Int.neg_tdiv] at this; omega
 have h5 : i64 (a.tdiv d) := by
   unfold i64
   rcases Int.le_total 0 a with h | h
   · have := h3 h; omega
   · have := h4 h; omega
 refine ⟨?_, h5⟩
 unfold i64 at h5
 show IntKind.i64.wrap (a.tdiv d) = _
 rw [IntKind.wrap_i64]; omega
theorem F171_spec (K : Nat) {a b : Int} (ha : i64 a) (hb : 1 ≤ b) (hb2 : b ≤ 1000) : F171 K a b = some (mulS a b) := by
 unfold i64 at ha
 rw [F171, mulS, ieq_f.2 (by omega : b ≠ 0), ieq_f.2 (by omega : b ≠ -1)]
 cases h0 : ieq a 0
 · have h0' := ieq_f.1 h0
   cases h1 : ieq a (-1)
   · have hz : izero b = false := decide_eq_false (by omega)
     simp only [cond_false, hz]
     obtain ⟨t, ht⟩ : ∃ t, a * b = t := ⟨_, rfl⟩
     obtain ⟨p, hp⟩ : ∃ p, wmul .i64 a b = p := ⟨_, rfl⟩
     have hp' : p = if 9223372036854775808 ≤ t % 18446744073709551616 then t % 18446744073709551616 - 18446744073709551616 else t % 18446744073709551616 := by
       rw [← hp, ← ht]
       show IntKind.i64.wrap (a * b) = _
       rw [IntKind.wrap_i64, ht]
       split <;> omega
     have hpr : -9223372036854775808 ≤ p ∧ p ≤ 9223372036854775807 := by rw [hp']; split <;> omega
     obtain ⟨q, hq⟩ : ∃ q, p.tdiv b = q := ⟨_, rfl⟩
     obtain ⟨r, hr⟩ : ∃ r, p.tmod b = r := ⟨_, rfl⟩
     have hdiv : b * q + r = p := by rw [← hq, ← hr]; exact Int.mul_tdiv_add_tmod p b
     have hrb : -1000 < r ∧ r < 1000 := by
       have h1 := Int.tmod_lt_of_pos p (show 0 < b by omega)
       have h2 := Int.lt_tmod_of_pos p (show 0 < b by omega)
       omega
     have hqr : -9223372036854775808 ≤ q ∧ q ≤ 9223372036854775807 := by
       have : i64 (p.tdiv b) := (tdiv_i64 (show i64 p from hpr) hb).2
       unfold i64 at this
       rw [hq] at this; exact this
     have hw : wquo .i64 p b = q := by rw [(tdiv_i64 (show i64 p from hpr) hb).1, hq]
     rw [hp, hw, ht]
     cases hf : fitsB t
     · have hf' := fitsB_f.1 hf
       have hne : ieq q a = false := ieq_f.2 fun hc => by
         have hba : b * q = t := by rw [hc, Int.mul_comm]; exact ht
         rw [hba] at hdiv
         have := hp'
         split at this <;> omega
       rw [hne]; rfl
     · have hf' := fitsB_iff.1 hf
       unfold i64 at hf'
       have hpt : p = t := by rw [hp']; split <;> omega
       have hqa : q = a := by
         rw [← hq, hpt, ← ht]
         exact Int.mul_tdiv_cancel a (by omega)
       rw [hqa, ieq_refl, hpt]; rfl
   · have h1' := ieq_iff.1 h1
     subst h1'
     have e1 : ieq (-1) (-9223372036854775808) = false := rfl
     have e2 : ieq b (-9223372036854775808) = false := ieq_f.2 (by omega)
     have e3 : fitsB (-1 * b) = true := fitsB_iff.2 (by unfold i64; omega)
     have e4 : wmul .i64 (-1) b = -1 * b := wmul_ok (by unfold i64; omega)
     rw [e1, e2, e3, e4]; rfl
 · have h0' := ieq_iff.1 h0
   subst h0'
   have e3 : fitsB (0 * b) = true := fitsB_iff.2 (by unfold i64; omega)
   rw [e3, Int.zero_mul]; rfl
def ratioS (v n d : Int) : Int × Bool := bif ilt d 1 then (0, false) else bif (mulS v n).2 then ((mulS v n).1.tdiv d, true) else (0, false)
theorem mulS_i64 {a b : Int} : i64 (mulS a b).1 := by
 rw [mulS]
 cases h : fitsB (a * b)
 · unfold i64; simp
 · exact fitsB_iff.1 h
theorem ratioS_i64 {v n d : Int} : i64 (ratioS v n d).1 := by
 have h0 : i64 0 := by unfold i64; omega
 rw [ratioS]
 cases hd : ilt d 1
 · cases (mulS v n).2
   · exact h0
   · exact (tdiv_i64 mulS_i64 (ilt_f.1 hd)).2
 · exact h0
theorem F167_spec (K : Nat) {v n : Int} (d : Int) (hv : i64 v) (hn : 1 ≤ n) (hn2 : n ≤ 1000) : F167 K v n d = some (ratioS v n d) := by
 rw [F167, F170_spec K hv hn hn2, Option.bind_some, ratioS]
 cases hd : ilt d 1
 · have hd' := ilt_f.1 hd
   have hz : izero d = false := decide_eq_false (by omega)
   rw [(tdiv_i64 (mulS_i64 (a := v) (b := n)) hd').1, hz]
   cases (mulS v n).2 <;> rfl
 · cases (mulS v n).2 <;> rfl
theorem F168_spec (K : Nat) {v n : Int} (d : Int) (hv : i64 v) (hn : 1 ≤ n) (hn2 : n ≤ 1000) : F168 K v n d = some (ratioS v n d) := by
 rw [F168, F171_spec K hv hn hn2, ratioS]
 cases hd : ilt d 1
 · have hd' := ilt_f.1 hd
   have hz : izero d = false := decide_eq_false (by omega)
   rw [cond_false, cond_false, Option.bind_some, (tdiv_i64 (mulS_i64 (a := v) (b := n)) hd').1, hz]
   cases (mulS v n).2 <;> rfl
 · rfl
def sumS (got : Int) : Int × Bool := bif (ratioS got 85 100).2 then addS 150000 (ratioS got 85 100).1 else (0, false)
theorem addS_i64 {a b : Int} : i64 (addS a b).1 := by
 rw [addS]
 cases h : fitsB (a + b)
 · unfold i64; simp
 · exact fitsB_iff.1 h
theorem sumS_i64 {got : Int} : i64 (sumS got).1 := by
 rw [sumS]
 cases (ratioS got 85 100).2
 · unfold i64; simp
 · exact addS_i64
def outs (g : GGraph) (v : Int) : List GEdge := bif ieq (gcheck g) 0 then g.Edges.filter (fun e => ieq e.From v) else []
theorem out_go (l : List GEdge) (v : Int) : ∀ (s : List GEdge), s.length + l.length ≤ 80 →
   goL (fun x (s : List GEdge) c => bif (ieq x.From v) then (bif (apok (len s) 1 24) then c (appL s [x]) else none) else c s) (fun s => some s) l s = some (s ++ l.filter (fun e => ieq e.From v)) := by
 induction l with
 | nil => intro s _; simp [goL]
 | cons x l ih =>
   intro s hs
   simp only [List.length_cons] at hs
   rw [goL]
   cases hx : ieq x.From v
   · rw [cond_false, ih s (by omega), List.filter_cons, hx]; rfl
   · have ha : apok (len s) 1 24 = true := decide_eq_true ⟨by show s.length + 1 ≤ _; omega, by show (s.length + 1) * 24 ≤ _; omega⟩
     rw [cond_true, ha, cond_true, ih _ (by simp [appL]; omega), List.filter_cons, hx]
     simp [appL]
theorem F68_spec {K : Nat} (hK : 100 ≤ K) (g : GGraph) (v : Int) : F68 K g v = some (outs g v) := by
 rw [F68, F64_spec hK, Option.bind_some, outs]
 cases hc : ieq (gcheck g) 0
 · rfl
 · obtain ⟨h1, h2, h3, h4⟩ := gcheck_ok hc
   have e : F68_l0_0 K g v K [] 0 = _ := scanL (l := g.Edges) (L := fun k s i => F68_l0_0 K g v k s i) (fun x (s : List GEdge) c => bif (ieq x.From v) then (bif (apok (len s) 1 24) then c (appL s [x]) else none) else c s) (fun s => some s) (fun k s i _ => rfl) (by omega) (by omega) []
   rw [cond_true, cond_true, e, out_go _ _ _ (by simpa using h3)]; rfl
theorem outs_len {g : GGraph} {v : Int} : (outs g v).length ≤ 80 := by
 rw [outs]
 cases hc : ieq (gcheck g) 0
 · simp
 · obtain ⟨h1, h2, h3, h4⟩ := gcheck_ok hc
   exact Nat.le_trans (List.length_filter_le _ _) h3
def sendS (p val : Int) (e : GEdge) (many : Int) : Int × Bool := bif ieq p 1 then addS val e.W else bif ieq p 3 then addS val 1 else bif ieq p 5 then ratioS val 1 many else (val, true)
def sendA (p val many : Int) : List GEdge → List GMsg → Option (List GMsg)
 | [], s => some s
 | e :: l, s => bif (sendS p val e many).2 then sendA p val many l (s ++ [GMsg.mk e.To (sendS p val e many).1]) else none
def sumO {α : Type} : Option α → Unit ⊕ α
 | none => .inl ()
 | some s => .inr s
def sendO (rest : Bool) (val : Int) : Option (List GMsg) → Int × List GMsg × Bool × Int
 | none => (0, [], false, 8)
 | some s => (val, s, rest, 0)
theorem sum_elim (rest : Bool) (val : Int) (o : Option (List GMsg)) : (some (sumO o)).bind (fun y => Sum.elim (fun w => some ((0, ([], (false, 8))) : Int × List GMsg × Bool × Int)) (fun w => some (val, (w, (rest, 0)))) y) = some (sendO rest val o) := by
 cases o <;> rfl
theorem sum_elim' (rest : Bool) (val : Int) (o : Option (List GMsg)) : Sum.elim (fun w => some ((0, ([], (false, 8))) : Int × List GMsg × Bool × Int)) (fun w => some (val, (w, (rest, 0)))) (sumO o) = some (sendO rest val o) := by
 cases o <;> rfl
theorem send_go (p val many : Int) (f : GEdge → Option (Int × Bool)) (l : List GEdge) (hf : ∀ e ∈ l, f e = some (sendS p val e many)) : ∀ (s : List GMsg), s.length + l.length ≤ 80 →
   goL (fun e (s : List GMsg) c => (f e).bind fun r => bif r.2 then (bif (apok (len s) 1 16) then c (appL s [(GMsg.mk e.To r.1)]) else none) else some (.inl ())) (fun s => some (.inr s)) l s = some (sumO (sendA p val many l s)) := by
 induction l with
 | nil => intro s _; rfl
 | cons x l ih =>
   intro s hs
   simp only [List.length_cons] at hs
   rw [goL, hf x List.mem_cons_self, Option.bind_some, sendA]
   cases (sendS p val x many).2
   · rfl
   · have ha : apok (len s) 1 16 = true := decide_eq_true ⟨by show s.length + 1 ≤ _; omega, by show (s.length + 1) * 16 ≤ _; omega⟩
     rw [cond_true, ha, cond_true, ih (fun e he => hf e (List.mem_cons_of_mem _ he)) _ (by simp [appL]; omega), cond_true]; rfl
theorem outs_W {g : GGraph} {v : Int} {e : GEdge} (h : e ∈ outs g v) : 0 ≤ e.W ∧ e.W ≤ 4611686018427387904 := by
 rw [outs] at h
 cases hc : ieq (gcheck g) 0
 · rw [hc] at h; cases h
 · obtain ⟨h1, h2, h3, h4⟩ := gcheck_ok hc
   rw [hc] at h
   have := badE_ok (gchk_mem h4 e (List.mem_filter.1 h).1)
   omega
theorem F160_spec (K : Nat) {val : Int} {e : GEdge} (many : Int) (hv : i64 val) (he : i64 e.W) : F160 K val e = some (sendS 1 val e many) := by
 rw [F160, F144_spec K hv he]; rfl
theorem F161_spec (K : Nat) {val : Int} (e : GEdge) (many : Int) (hv : i64 val) : F161 K val e = some (sendS 3 val e many) := by
 rw [F161, F144_spec K hv (by unfold i64; omega)]; rfl
theorem F148_spec (K : Nat) (p : Int) {val many : Int} {e : GEdge} (hv : i64 val) (he : i64 e.W) : F148 K p val e many = some (sendS p val e many) := by
 rw [F148, sendS, F145_spec K hv he, F145_spec K hv (show i64 1 by unfold i64; omega), F168_spec K many hv (show (1 : Int) ≤ 1 by omega) (show (1 : Int) ≤ 1000 by omega)]
 cases ieq p 1 <;> cases ieq p 3 <;> cases ieq p 5 <;> rfl
def manyO (g : GGraph) (v : Int) : Int := nlen (len (outs g v))
section loops
variable {K : Nat} (hK : 100 ≤ K) (g : GGraph) (v : Int) {val : Int} (hv : i64 val)
include hK hv
theorem loop99_0 (b : Bool) : F99_l0_0 K val b (outs g v) K [] 0 = some (sumO (sendA 1 val (manyO g v) (outs g v) [])) := by
 have hl := outs_len (g := g) (v := v)
 have e := scanL (l := outs g v) (L := fun k s i => F99_l0_0 K val b (outs g v) k s i) (fun e (s : List GMsg) c => (F160 K val e).bind fun r => bif r.2 then (bif (apok (len s) 1 16) then c (appL s [(GMsg.mk e.To r.1)]) else none) else some (.inl ())) (fun s => some (.inr s)) (fun k s i _ => rfl) (K := K) (by omega) (by omega) []
 exact e.trans (send_go 1 val (manyO g v) (F160 K val) _ (fun e he => F160_spec K _ hv (by have := outs_W he; unfold i64; omega)) [] (by simpa using hl))
theorem loop99_1 (b : Bool) : F99_l0_1 K val b (outs g v) K [] 0 = some (sumO (sendA 3 val (manyO g v) (outs g v) [])) := by
 have hl := outs_len (g := g) (v := v)
 have e := scanL (l := outs g v) (L := fun k s i => F99_l0_1 K val b (outs g v) k s i) (fun e (s : List GMsg) c => (F161 K val e).bind fun r => bif r.2 then (bif (apok (len s) 1 16) then c (appL s [(GMsg.mk e.To r.1)]) else none) else some (.inl ())) (fun s => some (.inr s)) (fun k s i _ => rfl) (K := K) (by omega) (by omega) []
 exact e.trans (send_go 3 val (manyO g v) (F161 K val) _ (fun e he => F161_spec K e _ hv) [] (by simpa using hl))
omit hv in
theorem loop99_2 (val : Int) (b : Bool) : F99_l0_2 K val b (outs g v) K [] 0 = some (sumO (sendA 2 val (manyO g v) (outs g v) [])) := by
 have hl := outs_len (g := g) (v := v)
 have e := scanL (l := outs g v) (L := fun k s i => F99_l0_2 K val b (outs g v) k s i) (fun e (s : List GMsg) c => (F163 K val e).bind fun r => bif r.2 then (bif (apok (len s) 1 16) then c (appL s [(GMsg.mk e.To r.1)]) else none) else some (.inl ())) (fun s => some (.inr s)) (fun k s i _ => rfl) (K := K) (by omega) (by omega) []
 exact e.trans (send_go 2 val (manyO g v) (F163 K val) _ (fun e he => rfl) [] (by simpa using hl))
omit hv in
theorem loop99_3 (val : Int) (b : Bool) : F99_l0_3 K val b (outs g v) K [] 0 = some (sumO (sendA 4 val (manyO g v) (outs g v) [])) := by
 have hl := outs_len (g := g) (v := v)
 have e := scanL (l := outs g v) (L := fun k s i => F99_l0_3 K val b (outs g v) k s i) (fun e (s : List GMsg) c => (F163 K val e).bind fun r => bif r.2 then (bif (apok (len s) 1 16) then c (appL s [(GMsg.mk e.To r.1)]) else none) else some (.inl ())) (fun s => some (.inr s)) (fun k s i _ => rfl) (K := K) (by omega) (by omega) []
 exact e.trans (send_go 4 val (manyO g v) (F163 K val) _ (fun e he => rfl) [] (by simpa using hl))
theorem loop146 : F146_l0_0 K (outs g v) val K [] 0 = some (sumO (sendA 5 val (manyO g v) (outs g v) [])) := by
 have hl := outs_len (g := g) (v := v)
 have e := scanL (l := outs g v) (L := fun k s i => F146_l0_0 K (outs g v) val k s i) (fun e (s : List GMsg) c => (F167 K val 1 (nlen (len (outs g v)))).bind fun r => bif r.2 then (bif (apok (len s) 1 16) then c (appL s [(GMsg.mk e.To r.1)]) else none) else some (.inl ())) (fun s => some (.inr s)) (fun k s i _ => rfl) (K := K) (by omega) (by omega) []
 exact e.trans (send_go 5 val (manyO g v) (fun _ => F167 K val 1 (nlen (len (outs g v)))) _ (fun e he => F167_spec K _ hv (by omega) (by omega)) [] (by simpa using hl))
theorem loop100_1 (p a b c : Int) : F100_l0_1 K val p a b c (outs g v) K [] 0 = some (sumO (sendA p val (manyO g v) (outs g v) [])) := by
 have hl := outs_len (g := g) (v := v)
 have e := scanL (l := outs g v) (L := fun k s i => F100_l0_1 K val p a b c (outs g v) k s i) (fun e (s : List GMsg) c => (F148 K p val e (nlen (len (outs g v)))).bind fun r => bif r.2 then (bif (apok (len s) 1 16) then c (appL s [(GMsg.mk e.To r.1)]) else none) else some (.inl ())) (fun s => some (.inr s)) (fun k s i _ => rfl) (K := K) (by omega) (by omega) []
 exact e.trans (send_go p val (manyO g v) (fun e => F148 K p val e (nlen (len (outs g v)))) _ (fun e he => F148_spec K p hv (by have := outs_W he; unfold i64; omega)) [] (by simpa using hl))
theorem loop100_0 (p a b c : Int) (m : Bool) : F100_l0_0 K val p a b c m (outs g v) K [] 0 = some (bif m then sumO (sendA p val (manyO g v) (outs g v) []) else .inr []) := by
 have hl := outs_len (g := g) (v := v)
 cases m
 · obtain ⟨k, rfl⟩ : ∃ k, K = k + 1 := ⟨K - 1, by omega⟩
   rw [F100_l0_0]
   cases ilt 0 (nlen (len (outs g v))) <;> rfl
 · have e := scanL (l := outs g v) (L := fun k s i => F100_l0_0 K val p a b c true (outs g v) k s i) (fun e (s : List GMsg) c => (F148 K p val e (nlen (len (outs g v)))).bind fun r => bif r.2 then (bif (apok (len s) 1 16) then c (appL s [(GMsg.mk e.To r.1)]) else none) else some (.inl ())) (fun s => some (.inr s)) (fun k s i _ => rfl) (K := K) (by omega) (by omega) []
   exact e.trans (send_go p val (manyO g v) (fun e => F148 K p val e (nlen (len (outs g v)))) _ (fun e he => F148_spec K p hv (by have := outs_W he; unfold i64; omega)) [] (by simpa using hl))
theorem loop100_2 (p a b c : Int) (m : Bool) : F100_l0_2 K val p a b c m (outs g v) K [] 0 = some (bif m then sumO (sendA p val (manyO g v) (outs g v) []) else .inr []) := by
 have hl := outs_len (g := g) (v := v)
 cases m
 · obtain ⟨k, rfl⟩ : ∃ k, K = k + 1 := ⟨K - 1, by omega⟩
   rw [F100_l0_2]
   cases ilt 0 (nlen (len (outs g v))) <;> rfl
 · have e := scanL (l := outs g v) (L := fun k s i => F100_l0_2 K val p a b c true (outs g v) k s i) (fun e (s : List GMsg) c => (F148 K p val e (nlen (len (outs g v)))).bind fun r => bif r.2 then (bif (apok (len s) 1 16) then c (appL s [(GMsg.mk e.To r.1)]) else none) else some (.inl ())) (fun s => some (.inr s)) (fun k s i _ => rfl) (K := K) (by omega) (by omega) []
   exact e.trans (send_go p val (manyO g v) (fun e => F148 K p val e (nlen (len (outs g v)))) _ (fun e he => F148_spec K p hv (by have := outs_W he; unfold i64; omega)) [] (by simpa using hl))
omit hv in
theorem loop100_3 (val p a b c : Int) : F100_l0_3 K val p a b c (outs g v) K [] 0 = some (.inl []) := by
 obtain ⟨k, rfl⟩ : ∃ k, K = k + 1 := ⟨K - 1, by omega⟩
 rw [F100_l0_3, ieq_refl]
 cases ilt 0 (nlen (len (outs g v))) <;> rfl
end loops
def rankW (step val got : Int) (sm : Bool) : Int × Bool := bif ilt 0 step then sumS (bif sm then got else 0) else (val, true)
def rankS (step : Int) (w : Int × Bool) (many : Int) (l : List GEdge) : Int × List GMsg × Bool × Int :=
 bif w.2 then (bif ile 10 step then (w.1, [], true, 0) else sendO false w.1 (sendA 5 w.1 many l [])) else (0, [], false, 8)
def turnV (p val got : Int) (sm : Bool) : Int := bif sm then (foldS p val got).1 else val
def turnM (p src step v val w : Int) : Bool := bif ieq step 0 && (bif ieq p 1 || ieq p 3 then ieq v src else true) then true else ine w val
def moveS (p : Int) (m : Bool) (w many : Int) (l : List GEdge) : Int × List GMsg × Bool × Int :=
 bif m then sendO true w (sendA p w many l []) else (w, [], true, 0)
def turnS (g : GGraph) (j : GJob) (step v val got : Int) (sm : Bool) : Int × List GMsg × Bool × Int :=
 bif ieq (jcheck g j) 0 then
   (bif ilt v 0 then (0, [], false, 4) else bif ile g.N v then (0, [], false, 4)
    else bif ilt step 0 then (0, [], false, 1) else bif ilt 40 step then (0, [], false, 1)
    else bif ieq j.Prog 5 then rankS step (rankW step val got sm) (manyO g v) (outs g v)
    else moveS j.Prog (turnM j.Prog j.Source step v val (turnV j.Prog val got sm)) (turnV j.Prog val got sm) (manyO g v) (outs g v))
 else (0, [], false, jcheck g j)
theorem F146_spec {K : Nat} (hK : 100 ≤ K) (g : GGraph) (v step : Int) {val got : Int} (hv : i64 val) (hg : i64 got) : F146 K (outs g v) step val got = some (rankS step (rankW step val got true) (manyO g v) (outs g v)) := by
 rw [F146, F167_spec K 100 hg (by omega) (by omega), Option.bind_some, F144_spec K (by unfold i64; omega) ratioS_i64, rankW, rankS]
 cases hs : ilt 0 step
 · rw [loop146 hK g v hv, sum_elim]
   cases ile 10 step <;> rfl
 · rw [cond_true, cond_true, Option.bind_some, cond_true, sumS]
   cases (ratioS got 85 100).2
   · rfl
   · cases h2 : (addS 150000 (ratioS got 85 100).1).2
     · rw [cond_true, cond_true, h2]; rfl
     · rw [cond_true, cond_true, cond_true, h2, cond_true, loop146 hK g v addS_i64, sum_elim]
       cases ile 10 step <;> rfl
theorem F99_spec {K : Nat} (hK : 100 ≤ K) (g : GGraph) (j : GJob) (step v : Int) {val got : Int} (sm : Bool) (hv : i64 val) (hg : i64 got) : F99 K g j step v val got sm = some (turnS g j step v val got sm) := by
 rw [F99, F94_spec hK, Option.bind_some, turnS]
 cases hc : ieq (jcheck g j) 0
 · rfl
 · obtain ⟨hgc, p1, p2, p3, p4, p5, p6, p7, p8⟩ := jcheck_ok hc
   rw [cond_true, cond_true]
   cases h1 : ilt v 0
   · cases h2 : ile g.N v
     · cases h3 : ilt step 0
       · cases h4 : ilt 40 step
         · simp only [cond_false]
           rcases prog_cases j.Prog with q | q | q | q | q | q
           · have e5 : ieq 1 5 = false := rfl
             have e4 : ieq 1 4 = false := rfl
             have e1 : ieq 1 1 = true := rfl
             have e3 : ieq 1 3 = false := rfl
             have eb : pbad 1 = false := rfl
             rw [F68_spec hK, q, F143_1, turnM, turnV, foldS, e5, e4, e1, e3, eb, moveS]
             simp only [Option.bind_some, cond_true, cond_false, af_1_1, af_1_3, af_1_2, af_1_4, af_1_5, af_1_0, af_3_1, af_3_3, af_3_2, af_3_4, af_3_5, af_3_0, af_2_1, af_2_3, af_2_2, af_2_4, af_2_5, af_2_0, af_4_1, af_4_3, af_4_2, af_4_4, af_4_5, af_4_0, af_5_1, af_5_3, af_5_2, af_5_4, af_5_5, af_5_0, af_0_1, af_0_3, af_0_2, af_0_4, af_0_5, af_0_0, loop99_0 hK g v hv, loop99_0 hK g v hg, F159, sum_elim', Bool.or_true, Bool.true_or, Bool.or_false, Bool.and_true]
             cases sm
             · have : ine val val = false := ine_t (ieq_refl val)
               simp only [cond_false, this]
               cases ieq step 0 <;> cases ieq v j.Source <;> rfl
             · cases hb : ilt got val
               · have : ine val val = false := ine_t (ieq_refl val)
                 simp only [cond_true, cond_false, this]
                 cases ieq step 0 <;> cases ieq v j.Source <;> rfl
               · have : ine got val = true := ine_f (ieq_f.2 (by have := ilt_iff.1 hb; omega))
                 simp only [cond_true, cond_false, this]
                 cases ieq step 0 <;> cases ieq v j.Source <;> rfl
           · have e5 : ieq 2 5 = false := rfl
             have e4 : ieq 2 4 = false := rfl
             have e1 : ieq 2 1 = false := rfl
             have e3 : ieq 2 3 = false := rfl
             have eb : pbad 2 = false := rfl
             rw [F68_spec hK, q, F143_2, turnM, turnV, foldS, e5, e4, e1, e3, eb, moveS]
             simp only [Option.bind_some, cond_true, cond_false, af_1_1, af_1_3, af_1_2, af_1_4, af_1_5, af_1_0, af_3_1, af_3_3, af_3_2, af_3_4, af_3_5, af_3_0, af_2_1, af_2_3, af_2_2, af_2_4, af_2_5, af_2_0, af_4_1, af_4_3, af_4_2, af_4_4, af_4_5, af_4_0, af_5_1, af_5_3, af_5_2, af_5_4, af_5_5, af_5_0, af_0_1, af_0_3, af_0_2, af_0_4, af_0_5, af_0_0, loop99_2 hK g v val, loop99_2 hK g v got, F159, sum_elim', Bool.or_true, Bool.true_or, Bool.or_false, Bool.and_true]
             cases sm
             · have : ine val val = false := ine_t (ieq_refl val)
               simp only [cond_false, this]
               cases ieq step 0 <;> rfl
             · cases hb : ilt got val
               · have : ine val val = false := ine_t (ieq_refl val)
                 simp only [cond_true, cond_false, this]
                 cases ieq step 0 <;> rfl
               · have : ine got val = true := ine_f (ieq_f.2 (by have := ilt_iff.1 hb; omega))
                 simp only [cond_true, cond_false, this]
                 cases ieq step 0 <;> rfl
           · have e5 : ieq 3 5 = false := rfl
             have e4 : ieq 3 4 = false := rfl
             have e1 : ieq 3 1 = false := rfl
             have e3 : ieq 3 3 = true := rfl
             have eb : pbad 3 = false := rfl
             rw [F68_spec hK, q, F143_3, turnM, turnV, foldS, e5, e4, e1, e3, eb, moveS]
             simp only [Option.bind_some, cond_true, cond_false, af_1_1, af_1_3, af_1_2, af_1_4, af_1_5, af_1_0, af_3_1, af_3_3, af_3_2, af_3_4, af_3_5, af_3_0, af_2_1, af_2_3, af_2_2, af_2_4, af_2_5, af_2_0, af_4_1, af_4_3, af_4_2, af_4_4, af_4_5, af_4_0, af_5_1, af_5_3, af_5_2, af_5_4, af_5_5, af_5_0, af_0_1, af_0_3, af_0_2, af_0_4, af_0_5, af_0_0, loop99_1 hK g v hv, loop99_1 hK g v hg, F159, sum_elim', Bool.or_true, Bool.true_or, Bool.or_false, Bool.and_true]
             cases sm
             · have : ine val val = false := ine_t (ieq_refl val)
               simp only [cond_false, this]
               cases ieq step 0 <;> cases ieq v j.Source <;> rfl
             · cases hb : ilt got val
               · have : ine val val = false := ine_t (ieq_refl val)
                 simp only [cond_true, cond_false, this]
                 cases ieq step 0 <;> cases ieq v j.Source <;> rfl
               · have : ine got val = true := ine_f (ieq_f.2 (by have := ilt_iff.1 hb; omega))
                 simp only [cond_true, cond_false, this]
                 cases ieq step 0 <;> cases ieq v j.Source <;> rfl
           · have e5 : ieq 4 5 = false := rfl
             have e4 : ieq 4 4 = true := rfl
             have e1 : ieq 4 1 = false := rfl
             have e3 : ieq 4 3 = false := rfl
             have eb : pbad 4 = false := rfl
             rw [F68_spec hK, q, F143_4, turnM, turnV, foldS, e5, e4, e1, e3, eb, moveS]
             simp only [Option.bind_some, cond_true, cond_false, af_1_1, af_1_3, af_1_2, af_1_4, af_1_5, af_1_0, af_3_1, af_3_3, af_3_2, af_3_4, af_3_5, af_3_0, af_2_1, af_2_3, af_2_2, af_2_4, af_2_5, af_2_0, af_4_1, af_4_3, af_4_2, af_4_4, af_4_5, af_4_0, af_5_1, af_5_3, af_5_2, af_5_4, af_5_5, af_5_0, af_0_1, af_0_3, af_0_2, af_0_4, af_0_5, af_0_0, loop99_3 hK g v val, loop99_3 hK g v got, F165, igt, sum_elim', Bool.or_true, Bool.true_or, Bool.or_false, Bool.and_true]
             have hd : decide (got > val) = ilt val got := rfl
             rw [hd]
             cases sm
             · have : ine val val = false := ine_t (ieq_refl val)
               simp only [cond_false, this]
               cases ieq step 0 <;> rfl
             · cases hb : ilt val got
               · have : ine val val = false := ine_t (ieq_refl val)
                 simp only [cond_true, cond_false, this]
                 cases ieq step 0 <;> rfl
               · have : ine got val = true := ine_f (ieq_f.2 (by have := ilt_iff.1 hb; omega))
                 simp only [cond_true, cond_false, this]
                 cases ieq step 0 <;> rfl
           · have e5 : ieq 5 5 = true := rfl
             rw [F68_spec hK, q, F143_5, e5]
             simp only [Option.bind_some, cond_true, cond_false, af_1_1, af_1_3, af_1_2, af_1_4, af_1_5, af_1_0, af_3_1, af_3_3, af_3_2, af_3_4, af_3_5, af_3_0, af_2_1, af_2_3, af_2_2, af_2_4, af_2_5, af_2_0, af_4_1, af_4_3, af_4_2, af_4_4, af_4_5, af_4_0, af_5_1, af_5_3, af_5_2, af_5_4, af_5_5, af_5_0, af_0_1, af_0_3, af_0_2, af_0_4, af_0_5, af_0_0, F146_spec hK g v step hv hg, F146_spec hK g v step hv (show i64 0 by unfold i64; omega)]
             cases sm <;> rfl
           · omega
         · rfl
       · rfl
     · rfl
   · rfl
theorem sendA_To {p val many : Int} : ∀ {l : List GEdge} {s r : List GMsg}, sendA p val many l s = some r → r.map (·.To) = s.map (·.To) ++ l.map (·.To)
 | [], s, r, h => by injection h with h; subst h; simp
 | e :: l, s, r, h => by
   rw [sendA] at h
   cases hq : (sendS p val e many).2
   · rw [hq] at h; cases h
   · rw [hq, cond_true] at h
     rw [sendA_To h]; simp
theorem turn_out {g : GGraph} {j : GJob} {step v val got : Int} {sm : Bool} (h : ieq (turnS g j step v val got sm).2.2.2 0 = true) :
   (turnS g j step v val got sm).2.1 = [] ∨ ((turnS g j step v val got sm).2.1.map (·.To) = (outs g v).map (·.To)) := by
 have hs : ∀ (b : Bool) (w : Int) (p : Int), (sendO b w (sendA p w (manyO g v) (outs g v) [])).2.1 = [] ∨ (sendO b w (sendA p w (manyO g v) (outs g v) [])).2.1.map (·.To) = (outs g v).map (·.To) := fun b w p => by
   cases hq : sendA p w (manyO g v) (outs g v) []
   · left; rfl
   · right; have := sendA_To hq; simpa [sendO] using this
 rw [turnS]
 cases ieq (jcheck g j) 0
 · left; rfl
 · cases ilt v 0
   · cases ile g.N v
     · cases ilt step 0
       · cases ilt 40 step
         · simp only [cond_true, cond_false]
           cases ieq j.Prog 5
           · rw [cond_false, moveS]
             cases turnM j.Prog j.Source step v val (turnV j.Prog val got sm)
             · left; rfl
             · exact hs _ _ _
           · rw [cond_true, rankS]
             cases (rankW step val got sm).2
             · left; rfl
             · cases ile 10 step
               · exact hs _ _ _
               · left; rfl
         · left; rfl
       · left; rfl
     · left; rfl
   · left; rfl
theorem turn_bad {g : GGraph} {j : GJob} {step v val got : Int} {sm : Bool} (h : ieq (turnS g j step v val got sm).2.2.2 0 = false) : (turnS g j step v val got sm).1 = 0 ∧ (turnS g j step v val got sm).2.1 = [] := by
 have hs : ∀ (b : Bool) (w : Int) (o : Option (List GMsg)), ieq (sendO b w o).2.2.2 0 = false → (sendO b w o).1 = 0 ∧ (sendO b w o).2.1 = [] := fun b w o => by
   cases o
   · intro _; exact ⟨rfl, rfl⟩
   · intro h; cases h
 rw [turnS] at h ⊢
 cases hc : ieq (jcheck g j) 0
 · exact ⟨rfl, rfl⟩
 · rw [hc] at h
   cases h1 : ilt v 0
   · cases h2 : ile g.N v
     · cases h3 : ilt step 0
       · cases h4 : ilt 40 step
         · rw [h1, h2, h3, h4] at h
           simp only [cond_true, cond_false] at h ⊢
           cases h5 : ieq j.Prog 5
           · rw [h5, cond_false, moveS] at h
             rw [cond_false, moveS]
             cases hm : turnM j.Prog j.Source step v val (turnV j.Prog val got sm)
             · rw [hm] at h; cases h
             · rw [hm] at h; exact hs _ _ _ h
           · rw [h5, cond_true, rankS] at h
             rw [cond_true, rankS]
             cases hw : (rankW step val got sm).2
             · exact ⟨rfl, rfl⟩
             · rw [hw] at h
               cases h10 : ile 10 step
               · rw [h10] at h; exact hs _ _ _ h
               · rw [h10] at h; cases h
         · exact ⟨rfl, rfl⟩
       · exact ⟨rfl, rfl⟩
     · exact ⟨rfl, rfl⟩
   · exact ⟨rfl, rfl⟩
theorem scanN {σ β : Type} {N : Int} {L : Nat → σ → Int → Option β} (step : Nat → σ → (σ → Option β) → Option β) (fin : σ → Option β)
   (h : ∀ k s (i : Nat), i ≤ N.toNat → L (k + 1) s i = bif ilt i N then step i s (fun s' => L k s' (wadd .i64 i 1)) else fin s) (hN : N ≤ 1000000) {K : Nat} (hK : N.toNat < K) (s : σ) :
   L K s 0 = goL step fin (List.range N.toNat) s := by
 have hw : ∀ (k : Nat) (s : σ) (i : Nat), N.toNat - i < k → i ≤ N.toNat → L k s i = goL step fin ((List.range N.toNat).drop i) s := by
   intro k
   induction k with
   | zero => intro s i h; omega
   | succ k ih =>
     intro s i hk hi
     rw [h k s i hi]
     by_cases hlt : i < N.toNat
     · have e : (List.range N.toNat).drop i = i :: (List.range N.toNat).drop (i + 1) := by
         rw [List.drop_eq_getElem_cons (by simpa using hlt)]; simp
       rw [ilt_iff.2 (by omega : (i : Int) < N), cond_true, e, goL]
       congr 1
       funext s'
       rw [wadd_nat (by omega)]
       exact ih s' (i + 1) (by omega) (by omega)
     · have e : (List.range N.toNat).drop i = [] := List.drop_eq_nil_of_le (by simp; omega)
       rw [ilt_f.2 (by omega : N ≤ (i : Int)), cond_false, e]; rfl
 have := hw K s 0 (by omega) (by omega)
 rw [List.drop_zero] at this
 exact this
noncomputable def hn104 : Hint := { H 104 with nt := 61, prot := 0 }
noncomputable def c104_0 : Code := loopOf E 104 0
def F104_res (r3470 : Bool) : Res := ⟨[(.one (.im (.lit (.bool r3470))))], []⟩
def F104_l0_0 (K : Nat) (a3434 : GGraph) (a3436 : GState) : Nat → Int → Int → Option ((Unit) ⊕ (Unit))
 | 0, _, _ => none
 | k + 1, v3450, v3451 =>
  bif (ilt v3451 (nlen (len a3436.In))) then
   (bif (inr v3451 (len a3436.In)) then
   (elAt a3436.In v3451).bind fun x3454 =>
   bif (ile x3454.To v3450) then
    (some (.inl ()))
   else
   bif (ile a3434.N x3454.To) then
    (some (.inl ()))
   else
   F104_l0_0 K a3434 a3436 k x3454.To (wadd .i64 v3451 1)
   else none)
  else
  some (.inr ())
def F104_l0_0_S (a3434 : GGraph) (a3436 : GState) (v3450 : Int) (v3451 : Int) : TS := .on [192, 193, 194, 320, 321, 322, 323, 324, 448, 449, 2560, 2624, 2625, 2688, 2689, 2752, 2753] [(192, ⟨(.box 62 2), 0, nob⟩), (193, ⟨.im, 0, (.lit (.int .i64 a3434.N))⟩), (194, ⟨.im, 0, (.sl (len a3434.Edges) (flat eGEdge a3434.Edges))⟩), (320, ⟨(.box 74 4), 0, nob⟩), (321, ⟨.im, 0, (.lit (.int .i64 a3436.Step))⟩), (322, ⟨.im, 0, (.sl (len a3436.Vals) (flat (eInt .i64) a3436.Vals))⟩), (323, ⟨.im, 0, (.sl (len a3436.Rest) (flat eBool a3436.Rest))⟩), (324, ⟨.im, 0, (.sl (len a3436.In) (flat eGMsg a3436.In))⟩), (448, ⟨.one, 0, nob⟩), (449, ⟨.im, 0, (.lit (.int .i64 v3450))⟩), (2560, ⟨(.ad 5 0 3), 0, nob⟩), (2624, ⟨.one, 0, nob⟩), (2625, ⟨.im, 0, (.sl (len a3436.In) (flat eGMsg a3436.In))⟩), (2688, ⟨.one, 0, nob⟩), (2689, ⟨.im, 0, (.lit (.int .i64 (nlen (len a3436.In))))⟩), (2752, ⟨.one, 0, nob⟩), (2753, ⟨.im, 0, (.lit (.int .i64 v3451))⟩)]
def F104_l0_0_X0 (a3434 : GGraph) (a3436 : GState) (w3458 : Unit) : TS := .on [384, 385] [(384, ⟨.one, 0, nob⟩), (385, ⟨.im, 0, (.lit (.bool false))⟩)]
def F104_l0_0_X1 (a3434 : GGraph) (a3436 : GState) (w3459 : Unit) : TS := .on [] []
theorem F104_l0_0_ok (K : Nat) (a3434 : GGraph) (a3436 : GState) : ∀ (k : Nat) (v3450 : Int) (v3451 : Int) (r : (Unit) ⊕ (Unit)), F104_l0_0 K a3434 a3436 k v3450 v3451 = some r → (Sum.elim (fun w => LoopEv E H hn104 0 c104_0 (F104_l0_0_S a3434 a3436 v3450 v3451) .ret (F104_l0_0_X0 a3434 a3436 w)) (fun w => LoopEv E H hn104 0 c104_0 (F104_l0_0_S a3434 a3436 v3450 v3451) (.exit 0) (F104_l0_0_X1 a3434 a3436 w))) r := by
 intro k
 induction k with
 | zero => intro v3450 v3451 r hF; cases hF
 | succ k ih =>
  intro v3450 v3451 r hF
  rw [F104_l0_0] at hF
  refine cond_some hF (fun h3452 hF => ?_) (fun h3452 hF => ?_)
  ·
   refine cond_some hF (fun h3453 hF => ?_) (fun _ hF => nomatch hF)
   refine bind_some hF (fun x3454 h3455 hF => ?_)
   have pq3460 : ∀ {l : List Cond}, HoldAll E H hn104 l → HoldAll E H hn104 (.test (ilt v3451 (nlen (len a3436.In))) true :: .test (inr v3451 (len a3436.In)) true :: .sub (flat eGMsg a3436.In) (nidx v3451 2) 2 [(.lit (.int .i64 x3454.To)), (.lit (.int .i64 x3454.V))] :: l) := fun z => ⟨h3452, h3453, ⟨rfl, sub_flat0 eGMsg_len h3455 2 (by decide)⟩, z⟩
   refine cond_some hF (fun h3456 hF => ?_) (fun h3456 hF => ?_)
   ·
    obtain rfl := Option.some.inj hF
    have pz : HoldAll E H hn104 [.test (beqb (ile x3454.To v3450) false) false, .test (beqb (ile x3454.To v3450) false) false, .test (beqb (ile x3454.To v3450) false) false, .test (beqb (ile x3454.To v3450) false) false, .test (beqb (ile x3454.To v3450) false) false, .test (ile x3454.To v3450) true, .test true true] := ⟨(beqb_ft h3456), (beqb_ft h3456), (beqb_ft h3456), (beqb_ft h3456), (beqb_ft h3456), h3456, rfl, trivial⟩
    exact loop_endC (h := hn104) (l := 0) (c := c104_0) (ts := F104_l0_0_S a3434 a3436 v3450 v3451) (ts' := F104_l0_0_X0 a3434 a3436 ()) (ex := .ret) (pq3460 pz) (by kernel_rfl) trivial
   have pq3461 : ∀ {l : List Cond}, HoldAll E H hn104 l → HoldAll E H hn104 (.test (beqb (ile x3454.To v3450) false) true :: .test (beqb (ile x3454.To v3450) false) true :: .test (beqb (ile x3454.To v3450) false) true :: .test (beqb (ile x3454.To v3450) false) true :: .test (beqb (ile x3454.To v3450) false) true :: .test (ile x3454.To v3450) false :: l) := fun z => ⟨(beqb_ff h3456), (beqb_ff h3456), (beqb_ff h3456), (beqb_ff h3456), (beqb_ff h3456), h3456, z⟩
   refine cond_some hF (fun h3457 hF => ?_) (fun h3457 hF => ?_)
   ·
    obtain rfl := Option.some.inj hF
    have pz : HoldAll E H hn104 [.test (ige x3454.To a3434.N) true] := ⟨(ige_eq h3457), trivial⟩
    exact loop_endC (h := hn104) (l := 0) (c := c104_0) (ts := F104_l0_0_S a3434 a3436 v3450 v3451) (ts' := F104_l0_0_X0 a3434 a3436 ()) (ex := .ret) (pq3460 (pq3461 pz)) (by kernel_rfl) trivial
   have pz : HoldAll E H hn104 [.test (ige x3454.To a3434.N) false, .int (wadd .i64 v3451 1) (wadd .i64 v3451 1)] := ⟨(ige_eq h3457), rfl, trivial⟩
   have h0 := ih _ _ _ hF
   have hn := fun ex ts' => loop_nextC (h := hn104) (l := 0) (c := c104_0) (ts := F104_l0_0_S a3434 a3436 v3450 v3451) (ts1 := (F104_l0_0_S a3434 a3436 x3454.To (wadd .i64 v3451 1))) (ex := ex) (ts' := ts') (pq3460 (pq3461 pz)) (by kernel_rfl)
   cases r with
   | inl w => exact hn _ _ h0
   | inr w => exact hn _ _ h0
  obtain rfl := Option.some.inj hF
  have pz : HoldAll E H hn104 [.test (ilt v3451 (nlen (len a3436.In))) false] := ⟨h3452, trivial⟩
  exact loop_endC (h := hn104) (l := 0) (c := c104_0) (ts := F104_l0_0_S a3434 a3436 v3450 v3451) (ts' := F104_l0_0_X1 a3434 a3436 ()) (ex := (.exit 0)) pz (by kernel_rfl) trivial
def F104 (K : Nat) (a3434 : GGraph) (a3435 : GJob) (a3436 : GState) : Option (Bool) :=
 (F94 K a3434 a3435).bind fun r3437 =>
 bif (ieq r3437 0) then
  (bif (ilt a3436.Step 0) then
   (some false)
  else
  bif (ilt 40 a3436.Step) then
   (some false)
  else
  bif (ieq (nlen (len a3436.Vals)) a3434.N) then
   (bif (ieq (nlen (len a3436.Rest)) a3434.N) then
    ((F104_l0_0 K a3434 a3436 K (-1) 0).bind fun y3463 =>
    Sum.elim (fun w3464 =>
     some false)
     (fun w3465 =>
     some true) y3463)
   else
   some false)
  else
  some false)
 else
 some false
theorem F104_ok (K : Nat) (a3434 : GGraph) (a3435 : GJob) (a3436 : GState) (r : Bool) (hF : F104 K a3434 a3435 a3436 = some r) : Evt E H 104 [.agg (eGGraph a3434), .agg (eGJob a3435), .agg (eGState a3436)] (F104_res r) := by
 rw [F104] at hF
 refine bind_some hF (fun r3437 h3438 hF => ?_)
 refine cond_some hF (fun h3439 hF => ?_) (fun h3439 hF => ?_)
 ·
  have pq3466 : ∀ {l : List Cond}, HoldAll E H hn104 l → HoldAll E H hn104 (.call 94 [.agg (eGGraph a3434), .agg (eGJob a3435)] (F94_res r3437) :: .test (leadsAny (Res.mk [(.one (.im (.lit (.int .i64 r3437))))] [])) false :: .test (beqb (ine r3437 0) false) true :: .test (beqb (ine r3437 0) false) true :: .test (beqb (ine r3437 0) false) true :: .test (ine r3437 0) false :: l) := fun z => ⟨(F94_ok K a3434 a3435 _ h3438), (leads_ok (by simp [leadsAny, RV.leads, RC.leads, leadsT, hasSl_lit, flat_ns eGJob_ns])), (beqb_ff (ine_t h3439)), (beqb_ff (ine_t h3439)), (beqb_ff (ine_t h3439)), (ine_t h3439), z⟩
  refine cond_some hF (fun h3440 hF => ?_) (fun h3440 hF => ?_)
  ·
   obtain rfl := Option.some.inj hF
   have pz : HoldAll E H hn104 [.test (beqb (ilt a3436.Step 0) false) false, .test (beqb (ilt a3436.Step 0) false) false, .test (beqb (ilt a3436.Step 0) false) false, .test (ilt a3436.Step 0) true, .test (beqb true false) false, .test (beqb true false) false, .test (beqb true false) false, .test (beqb true false) false, .test (beqb true false) false, .test (beqb true false) false, .test true true, .test (beqb true false) false, .test (beqb true false) false, .test (beqb true false) false, .test (beqb true false) false, .test (beqb true false) false, .test (beqb true false) false, .test true true, .test true true] := ⟨(beqb_ft h3440), (beqb_ft h3440), (beqb_ft h3440), h3440, (beqb_ft rfl), (beqb_ft rfl), (beqb_ft rfl), (beqb_ft rfl), (beqb_ft rfl), (beqb_ft rfl), rfl, (beqb_ft rfl), (beqb_ft rfl), (beqb_ft rfl), (beqb_ft rfl), (beqb_ft rfl), (beqb_ft rfl), rfl, rfl, trivial⟩
   exact fn_playC hn104 (r := F104_res false) (pq3466 pz) (by kernel_rfl) (by kernel_rfl)
  have pq3467 : ∀ {l : List Cond}, HoldAll E H hn104 l → HoldAll E H hn104 (.test (beqb (ilt a3436.Step 0) false) true :: .test (beqb (ilt a3436.Step 0) false) true :: .test (beqb (ilt a3436.Step 0) false) true :: .test (ilt a3436.Step 0) false :: l) := fun z => ⟨(beqb_ff h3440), (beqb_ff h3440), (beqb_ff h3440), h3440, z⟩
  refine cond_some hF (fun h3441 hF => ?_) (fun h3441 hF => ?_)
  ·
   obtain rfl := Option.some.inj hF
   have pz : HoldAll E H hn104 [.test (beqb (igt a3436.Step 40) false) false, .test (beqb (igt a3436.Step 40) false) false, .test (beqb (igt a3436.Step 40) false) false, .test (beqb (igt a3436.Step 40) false) false, .test (beqb (igt a3436.Step 40) false) false, .test (beqb (igt a3436.Step 40) false) false, .test (igt a3436.Step 40) true, .test (beqb true false) false, .test (beqb true false) false, .test (beqb true false) false, .test (beqb true false) false, .test (beqb true false) false, .test (beqb true false) false, .test true true, .test true true] := ⟨(beqb_ft (igt_eq h3441)), (beqb_ft (igt_eq h3441)), (beqb_ft (igt_eq h3441)), (beqb_ft (igt_eq h3441)), (beqb_ft (igt_eq h3441)), (beqb_ft (igt_eq h3441)), (igt_eq h3441), (beqb_ft rfl), (beqb_ft rfl), (beqb_ft rfl), (beqb_ft rfl), (beqb_ft rfl), (beqb_ft rfl), rfl, rfl, trivial⟩
   exact fn_playC hn104 (r := F104_res false) (pq3466 (pq3467 pz)) (by kernel_rfl) (by kernel_rfl)
  have pq3468 : ∀ {l : List Cond}, HoldAll E H hn104 l → HoldAll E H hn104 (.test (beqb (igt a3436.Step 40) false) true :: .test (beqb (igt a3436.Step 40) false) true :: .test (beqb (igt a3436.Step 40) false) true :: .int (nlen (len a3436.Vals)) (nlen (len a3436.Vals)) :: .test (beqb (igt a3436.Step 40) false) true :: .test (beqb (igt a3436.Step 40) false) true :: .test (beqb (igt a3436.Step 40) false) true :: .test (igt a3436.Step 40) false :: l) := fun z => ⟨(beqb_ff (igt_eq h3441)), (beqb_ff (igt_eq h3441)), (beqb_ff (igt_eq h3441)), rfl, (beqb_ff (igt_eq h3441)), (beqb_ff (igt_eq h3441)), (beqb_ff (igt_eq h3441)), (igt_eq h3441), z⟩
  refine cond_some hF (fun h3442 hF => ?_) (fun h3442 hF => ?_)
  ·
   have pq3469 : ∀ {l : List Cond}, HoldAll E H hn104 l → HoldAll E H hn104 (.test (beqb (ine (nlen (len a3436.Vals)) a3434.N) false) true :: .test (beqb (ine (nlen (len a3436.Vals)) a3434.N) false) true :: .test (beqb (ine (nlen (len a3436.Vals)) a3434.N) false) true :: .int (nlen (len a3436.Rest)) (nlen (len a3436.Rest)) :: .test (beqb (ine (nlen (len a3436.Vals)) a3434.N) false) true :: .test (beqb (ine (nlen (len a3436.Vals)) a3434.N) false) true :: .test (beqb (ine (nlen (len a3436.Vals)) a3434.N) false) true :: .test (ine (nlen (len a3436.Vals)) a3434.N) false :: l) := fun z => ⟨(beqb_ff (ine_t h3442)), (beqb_ff (ine_t h3442)), (beqb_ff (ine_t h3442)), rfl, (beqb_ff (ine_t h3442)), (beqb_ff (ine_t h3442)), (beqb_ff (ine_t h3442)), (ine_t h3442), z⟩
   refine cond_some hF (fun h3443 hF => ?_) (fun h3443 hF => ?_)
   ·
    refine bind_some hF (fun y3463 h3462 hF => ?_)
    refine sum_some hF (fun w3464 hx hF => ?_) (fun w3465 hx hF => ?_)
    ·
     subst hx
     obtain rfl := Option.some.inj hF
     have pz : HoldAll E H hn104 [.test (ine (nlen (len a3436.Rest)) a3434.N) false, .int (nlen (len a3436.In)) (nlen (len a3436.In)), .loop 0 c104_0 (F104_l0_0_S a3434 a3436 (-1) 0) .ret (F104_l0_0_X0 a3434 a3436 w3464)] := ⟨(ine_t h3443), rfl, (F104_l0_0_ok K a3434 a3436 K (-1) 0 _ h3462), trivial⟩
     exact fn_playC hn104 (r := F104_res false) (pq3466 (pq3467 (pq3468 (pq3469 pz)))) (by kernel_rfl) (by kernel_rfl)
    subst hx
    obtain rfl := Option.some.inj hF
    have pz : HoldAll E H hn104 [.test (ine (nlen (len a3436.Rest)) a3434.N) false, .int (nlen (len a3436.In)) (nlen (len a3436.In)), .loop 0 c104_0 (F104_l0_0_S a3434 a3436 (-1) 0) (.exit 0) (F104_l0_0_X1 a3434 a3436 w3465)] := ⟨(ine_t h3443), rfl, (F104_l0_0_ok K a3434 a3436 K (-1) 0 _ h3462), trivial⟩
    exact fn_playC hn104 (r := F104_res true) (pq3466 (pq3467 (pq3468 (pq3469 pz)))) (by kernel_rfl) (by kernel_rfl)
   obtain rfl := Option.some.inj hF
   have pz : HoldAll E H hn104 [.test (ine (nlen (len a3436.Rest)) a3434.N) true] := ⟨(ine_f h3443), trivial⟩
   exact fn_playC hn104 (r := F104_res false) (pq3466 (pq3467 (pq3468 (pq3469 pz)))) (by kernel_rfl) (by kernel_rfl)
  obtain rfl := Option.some.inj hF
  have pz : HoldAll E H hn104 [.test (beqb (ine (nlen (len a3436.Vals)) a3434.N) false) false, .test (beqb (ine (nlen (len a3436.Vals)) a3434.N) false) false, .test (beqb (ine (nlen (len a3436.Vals)) a3434.N) false) false, .test (beqb (ine (nlen (len a3436.Vals)) a3434.N) false) false, .test (beqb (ine (nlen (len a3436.Vals)) a3434.N) false) false, .test (beqb (ine (nlen (len a3436.Vals)) a3434.N) false) false, .test (ine (nlen (len a3436.Vals)) a3434.N) true, .test true true] := ⟨(beqb_ft (ine_f h3442)), (beqb_ft (ine_f h3442)), (beqb_ft (ine_f h3442)), (beqb_ft (ine_f h3442)), (beqb_ft (ine_f h3442)), (beqb_ft (ine_f h3442)), (ine_f h3442), rfl, trivial⟩
  exact fn_playC hn104 (r := F104_res false) (pq3466 (pq3467 (pq3468 pz))) (by kernel_rfl) (by kernel_rfl)
 obtain rfl := Option.some.inj hF
 have pz : HoldAll E H hn104 [.call 94 [.agg (eGGraph a3434), .agg (eGJob a3435)] (F94_res r3437), .test (leadsAny (Res.mk [(.one (.im (.lit (.int .i64 r3437))))] [])) false, .test (beqb (ine r3437 0) false) false, .test (beqb (ine r3437 0) false) false, .test (beqb (ine r3437 0) false) false, .test (ine r3437 0) true, .test (beqb true false) false, .test (beqb true false) false, .test (beqb true false) false, .test true true, .test (beqb true false) false, .test (beqb true false) false, .test (beqb true false) false, .test (beqb true false) false, .test (beqb true false) false, .test (beqb true false) false, .test true true, .test (beqb true false) false, .test (beqb true false) false, .test (beqb true false) false, .test (beqb true false) false, .test (beqb true false) false, .test (beqb true false) false, .test true true, .test true true] := ⟨(F94_ok K a3434 a3435 _ h3438), (leads_ok (by simp [leadsAny, RV.leads, RC.leads, leadsT, hasSl_lit, flat_ns eGJob_ns])), (beqb_ft (ine_f h3439)), (beqb_ft (ine_f h3439)), (beqb_ft (ine_f h3439)), (ine_f h3439), (beqb_ft rfl), (beqb_ft rfl), (beqb_ft rfl), rfl, (beqb_ft rfl), (beqb_ft rfl), (beqb_ft rfl), (beqb_ft rfl), (beqb_ft rfl), (beqb_ft rfl), rfl, (beqb_ft rfl), (beqb_ft rfl), (beqb_ft rfl), (beqb_ft rfl), (beqb_ft rfl), (beqb_ft rfl), rfl, rfl, trivial⟩
 exact fn_playC hn104 (r := F104_res false) pz (by kernel_rfl) (by kernel_rfl)
def inSt (n : Int) : Int → List GMsg → Bool
 | _, [] => true
 | prev, m :: r => ilt prev m.To && (ilt m.To n && inSt n m.To r)
def sumU (b : Bool) : Unit ⊕ Unit := bif b then .inr () else .inl ()
theorem sumU_elim (b : Bool) : (some (sumU b)).bind (fun y => Sum.elim (fun w => some false) (fun w => some true) y) = some b := by cases b <;> rfl
theorem not_ile {a b : Int} : ile a b = !(ilt b a) := by
 unfold ile ilt; by_cases h : b < a <;> simp [h] <;> omega
def stRight (g : GGraph) (j : GJob) (s : GState) : Bool :=
 ieq (jcheck g j) 0 && (ile 0 s.Step && (ile s.Step 40 && (ieq (s.Vals.length : Int) g.N && (ieq (s.Rest.length : Int) g.N && inSt g.N (-1) s.In))))
theorem F104_loop {K : Nat} (g : GGraph) (s : GState) (hl : s.In.length < 1000000) (hK : s.In.length < K) : F104_l0_0 K g s K (-1) 0 = some (sumU (inSt g.N (-1) s.In)) := by
 let step : GMsg → Int → (Int → Option (Unit ⊕ Unit)) → Option (Unit ⊕ Unit) := fun m s c =>
   bif (ile m.To s) then (some (.inl ())) else bif (ile g.N m.To) then (some (.inl ())) else c m.To
 have h := scanL (l := s.In) (L := fun k v i => F104_l0_0 K g s k v i) step (fun _ => some (.inr ())) (fun k s i _ => rfl) (by omega) (K := K) hK (-1)
 have hw : ∀ (l : List GMsg) (v : Int), goL step (fun _ => some (.inr ())) l v = some (sumU (inSt g.N v l)) := by
   intro l
   induction l with
   | nil => intro s; rfl
   | cons m l ih =>
     intro v
     rw [goL]
     show (bif (ile m.To v) then (some (.inl ())) else bif (ile g.N m.To) then (some (.inl ())) else goL step (fun _ => some (.inr ())) l m.To) = _
     rw [inSt, not_ile, not_ile, ih]
     cases ilt v m.To <;> cases ilt m.To g.N <;> rfl
 rw [hw] at h
 exact h
theorem F104_spec {K : Nat} (hK : 1000 ≤ K) (g : GGraph) (j : GJob) (s : GState) (hl : s.In.length < 1000000) (hk : s.In.length < K) : F104 K g j s = some (stRight g j s) := by
 rw [F104, F94_spec (by omega), Option.bind_some, stRight]
 cases hc : ieq (jcheck g j) 0
 · rfl
 · rw [cond_true, F104_loop g s hl hk]
   have n1 : nlen (len s.Vals) = (s.Vals.length : Int) := rfl
   have n2 : nlen (len s.Rest) = (s.Rest.length : Int) := rfl
   rw [ilt_not' s.Step 0, ilt_not' 40 s.Step, n1, n2, sumU_elim]
   cases ile 0 s.Step <;> cases ile s.Step 40 <;> cases ieq (s.Vals.length : Int) g.N <;> cases ieq (s.Rest.length : Int) g.N <;> rfl
theorem stRight_ok {g : GGraph} {j : GJob} {s : GState} (h : stRight g j s = true) : ieq (jcheck g j) 0 = true ∧ 0 ≤ s.Step ∧ s.Step ≤ 40 ∧ (s.Vals.length : Int) = g.N ∧ (s.Rest.length : Int) = g.N ∧ inSt g.N (-1) s.In = true := by
 simp only [stRight, Bool.and_eq_true, ile_iff, ieq_iff] at h
 obtain ⟨h1, h2, h3, h4, h5, h6⟩ := h
 exact ⟨ieq_iff.2 h1, h2, h3, h4, h5, h6⟩
theorem inSt_ok {n : Int} : ∀ {l : List GMsg} {v : Int}, inSt n v l = true → l.Pairwise (fun a b => a.To < b.To) ∧ (∀ m ∈ l, v < m.To ∧ m.To < n)
 | [], v, _ => ⟨List.Pairwise.nil, fun m h => (nomatch h)⟩
 | m :: l, v, h => by
   simp only [inSt, Bool.and_eq_true, ilt_iff] at h
   obtain ⟨h1, h2, h3⟩ := h
   obtain ⟨a, b⟩ := inSt_ok h3
   refine ⟨List.pairwise_cons.2 ⟨fun x hx => (b x hx).1, a⟩, fun x hx => ?_⟩
   rcases List.mem_cons.1 hx with e | e
   · subst e; exact ⟨h1, h2⟩
   · have := b x e; exact ⟨by omega, this.2⟩
theorem inSt_len {n : Int} : ∀ {l : List GMsg} {v : Int}, inSt n v l = true → v ≤ n → (l.length : Int) ≤ n - v
 | [], v, _, hv => by simp; omega
 | m :: l, v, h, hv => by
   simp only [inSt, Bool.and_eq_true, ilt_iff] at h
   obtain ⟨h1, h2, h3⟩ := h
   have := inSt_len h3 (by omega)
   simp only [List.length_cons]; omega
noncomputable def hn112 : Hint := { H 112 with nt := 123, prot := 0 }
noncomputable def c112_0 : Code := loopOf E 112 0
def F112_res (r5421 : GState × Int) : Res := ⟨[(.agg [(.im (.lit (.int .i64 r5421.1.Step))), (.own 2 (.sl (len r5421.1.Vals) (flat (eInt .i64) r5421.1.Vals))), (.own 4 (.sl (len r5421.1.Rest) (flat eBool r5421.1.Rest))), (.own 130 (.sl (len r5421.1.In) (flat eGMsg r5421.1.In)))]), (.one (.im (.lit (.int .i64 r5421.2))))], []⟩
def F112_l0_0 (K : Nat) (a5157 : GGraph) (a5158 : GJob) (a5159 : GState) : Nat → List Int → List Bool → List GMsg → Int → Option ((Int) ⊕ (List Int × List Bool × List GMsg))
 | 0, _, _, _, _ => none
 | k + 1, v5229, v5230, v5231, v5232 =>
  bif (ilt v5232 a5157.N) then
   ((F149 K a5159.In v5232).bind fun r5234 =>
   bif (inr v5232 (len a5159.Rest)) then
   (elAt a5159.Rest v5232).bind fun x5237 =>
   bif x5237 then
    (bif r5234.2 then
     (bif (inr v5232 (len a5159.Vals)) then
     (elAt a5159.Vals v5232).bind fun x5242 =>
     (F99 K a5157 a5158 a5159.Step v5232 x5242 r5234.1 r5234.2).bind fun r5244 =>
     bif (ieq r5244.2.2.2 0) then
      (bif (inr v5232 (len v5229)) then
      (elAt v5229 v5232).bind fun x5248 =>
      bif (inr v5232 (len v5230)) then
      (elAt v5230 v5232).bind fun x5251 =>
      bif (apok (len v5231) (len r5244.2.1) 16) then
      F112_l0_0 K a5157 a5158 a5159 k (putAt v5229 v5232 r5244.1) (putAt v5230 v5232 r5244.2.2.1) (appL v5231 r5244.2.1) (wadd .i64 v5232 1)
      else none
      else none
      else none)
     else
     some (.inl r5244.2.2.2)
     else none)
    else
    bif (inr v5232 (len v5230)) then
    (elAt v5230 v5232).bind fun x5255 =>
    F112_l0_0 K a5157 a5158 a5159 k v5229 (putAt v5230 v5232 true) v5231 (wadd .i64 v5232 1)
    else none)
   else
   bif (inr v5232 (len a5159.Vals)) then
   (elAt a5159.Vals v5232).bind fun x5258 =>
   (F99 K a5157 a5158 a5159.Step v5232 x5258 r5234.1 r5234.2).bind fun r5260 =>
   bif (ieq r5260.2.2.2 0) then
    (bif (inr v5232 (len v5229)) then
    (elAt v5229 v5232).bind fun x5264 =>
    bif (inr v5232 (len v5230)) then
    (elAt v5230 v5232).bind fun x5267 =>
    bif (apok (len v5231) (len r5260.2.1) 16) then
    F112_l0_0 K a5157 a5158 a5159 k (putAt v5229 v5232 r5260.1) (putAt v5230 v5232 r5260.2.2.1) (appL v5231 r5260.2.1) (wadd .i64 v5232 1)
    else none
    else none
    else none)
   else
   some (.inl r5260.2.2.2)
   else none
   else none)
  else
  some (.inr (v5229, (v5230, v5231)))
def F112_l0_0_S (a5157 : GGraph) (a5158 : GJob) (a5159 : GState) (v5229 : List Int) (v5230 : List Bool) (v5231 : List GMsg) (v5232 : Int) : TS := .on [192, 193, 194, 256, 257, 258, 259, 260, 320, 321, 322, 323, 324, 384, 385, 386, 387, 388, 576, 577, 578, 579, 580, 640, 641, 3136, 3137, 3200, 3201] [(192, ⟨(.box 62 2), 0, nob⟩), (193, ⟨.im, 0, (.lit (.int .i64 a5157.N))⟩), (194, ⟨.im, 0, (.sl (len a5157.Edges) (flat eGEdge a5157.Edges))⟩), (256, ⟨(.box 64 4), 0, nob⟩), (257, ⟨.im, 0, (.lit (.int .i64 a5158.Prog))⟩), (258, ⟨.im, 0, (.lit (.int .i64 a5158.Source))⟩), (259, ⟨.im, 0, (.lit (.int .i64 a5158.Limit))⟩), (260, ⟨.im, 0, (.lit (.int .i64 a5158.Parts))⟩), (320, ⟨(.box 74 4), 0, nob⟩), (321, ⟨.im, 0, (.lit (.int .i64 a5159.Step))⟩), (322, ⟨.im, 0, (.sl (len a5159.Vals) (flat (eInt .i64) a5159.Vals))⟩), (323, ⟨.im, 0, (.sl (len a5159.Rest) (flat eBool a5159.Rest))⟩), (324, ⟨.im, 0, (.sl (len a5159.In) (flat eGMsg a5159.In))⟩), (384, ⟨(.box 74 4), 0, nob⟩), (385, ⟨.im, 0, (.lit (.int .i64 0))⟩), (386, ⟨(.own 2), 0, (.sl 0 [])⟩), (387, ⟨(.own 4), 0, (.sl 0 [])⟩), (388, ⟨(.own 130), 0, (.sl 0 [])⟩), (576, ⟨(.box 74 4), 0, nob⟩), (577, ⟨.im, 0, (.lit (.int .i64 (wadd .i64 a5159.Step 1)))⟩), (578, ⟨(.own 2), 0, (.sl (len v5229) (flat (eInt .i64) v5229))⟩), (579, ⟨(.own 4), 0, (.sl (len v5230) (flat eBool v5230))⟩), (580, ⟨(.own 130), 0, (.sl 0 [])⟩), (640, ⟨.one, 0, nob⟩), (641, ⟨(.own 130), 0, (.sl (len v5231) (flat eGMsg v5231))⟩), (3136, ⟨.one, 0, nob⟩), (3137, ⟨.im, 0, (.lit (.int .i64 a5157.N))⟩), (3200, ⟨.one, 0, nob⟩), (3201, ⟨.im, 0, (.lit (.int .i64 v5232))⟩)]
def F112_l0_0_X0 (a5157 : GGraph) (a5158 : GJob) (a5159 : GState) (w5270 : Int) : TS := .on [384, 385, 386, 387, 388, 448, 449] [(384, ⟨(.box 74 4), 0, nob⟩), (385, ⟨.im, 0, (.lit (.int .i64 0))⟩), (386, ⟨(.own 2), 0, (.sl 0 [])⟩), (387, ⟨(.own 4), 0, (.sl 0 [])⟩), (388, ⟨(.own 130), 0, (.sl 0 [])⟩), (448, ⟨.one, 0, nob⟩), (449, ⟨.im, 0, (.lit (.int .i64 w5270))⟩)]
def F112_l0_0_X1 (a5157 : GGraph) (a5158 : GJob) (a5159 : GState) (w5272 : List Int × List Bool × List GMsg) : TS := .on [256, 257, 258, 259, 260, 384, 385, 386, 387, 388, 576, 577, 578, 579, 580, 640, 641] [(256, ⟨(.box 64 4), 0, nob⟩), (257, ⟨.im, 0, (.lit (.int .i64 a5158.Prog))⟩), (258, ⟨.im, 0, (.lit (.int .i64 a5158.Source))⟩), (259, ⟨.im, 0, (.lit (.int .i64 a5158.Limit))⟩), (260, ⟨.im, 0, (.lit (.int .i64 a5158.Parts))⟩), (384, ⟨(.box 74 4), 0, nob⟩), (385, ⟨.im, 0, (.lit (.int .i64 0))⟩), (386, ⟨(.own 2), 0, (.sl 0 [])⟩), (387, ⟨(.own 4), 0, (.sl 0 [])⟩), (388, ⟨(.own 130), 0, (.sl 0 [])⟩), (576, ⟨(.box 74 4), 0, nob⟩), (577, ⟨.im, 0, (.lit (.int .i64 (wadd .i64 a5159.Step 1)))⟩), (578, ⟨(.own 2), 0, (.sl (len w5272.1) (flat (eInt .i64) w5272.1))⟩), (579, ⟨(.own 4), 0, (.sl (len w5272.2.1) (flat eBool w5272.2.1))⟩), (580, ⟨(.own 130), 0, (.sl 0 [])⟩), (640, ⟨.one, 0, nob⟩), (641, ⟨(.own 130), 0, (.sl (len w5272.2.2) (flat eGMsg w5272.2.2))⟩)]
theorem F112_l0_0_ok (K : Nat) (a5157 : GGraph) (a5158 : GJob) (a5159 : GState) : ∀ (k : Nat) (v5229 : List Int) (v5230 : List Bool) (v5231 : List GMsg) (v5232 : Int) (r : (Int) ⊕ (List Int × List Bool × List GMsg)), F112_l0_0 K a5157 a5158 a5159 k v5229 v5230 v5231 v5232 = some r → (Sum.elim (fun w => LoopEv E H hn112 0 c112_0 (F112_l0_0_S a5157 a5158 a5159 v5229 v5230 v5231 v5232) .ret (F112_l0_0_X0 a5157 a5158 a5159 w)) (fun w => LoopEv E H hn112 0 c112_0 (F112_l0_0_S a5157 a5158 a5159 v5229 v5230 v5231 v5232) (.exit 0) (F112_l0_0_X1 a5157 a5158 a5159 w))) r := by
 intro k
 induction k with
 | zero => intro v5229 v5230 v5231 v5232 r hF; cases hF
 | succ k ih =>
  intro v5229 v5230 v5231 v5232 r hF
  rw [F112_l0_0] at hF
  refine cond_some hF (fun h5233 hF => ?_) (fun h5233 hF => ?_)
  ·
   refine bind_some hF (fun r5234 h5235 hF => ?_)
   refine cond_some hF (fun h5236 hF => ?_) (fun _ hF => nomatch hF)
   refine bind_some hF (fun x5237 h5238 hF => ?_)
   have pq5276 : ∀ {l : List Cond}, HoldAll E H hn112 l → HoldAll E H hn112 (.test (ilt v5232 a5157.N) true :: .call 149 [.one (.sl (len a5159.In) (flat eGMsg a5159.In)), .one (.lit (.int .i64 v5232))] (F149_res r5234) :: .test (leadsAny (Res.mk [(.one (.im (.lit (.int .i64 r5234.1)))), (.one (.im (.lit (.bool r5234.2))))] [])) false :: .test (inr v5232 (len a5159.Rest)) true :: .sub (flat eBool a5159.Rest) (nidx v5232 1) 1 [(.lit (.bool x5237))] :: l) := fun z => ⟨h5233, (F149_ok K a5159.In v5232 _ h5235), (leads_ok (by simp [leadsAny, RV.leads, RC.leads, leadsT, hasSl_lit, flat_ns eBool_ns, flat_ns eGMsg_ns])), h5236, ⟨rfl, sub_flat0 eBool_len h5238 1 (by decide)⟩, z⟩
   refine cond_some hF (fun h5239 hF => ?_) (fun h5239 hF => ?_)
   ·
    have pq5277 : ∀ {l : List Cond}, HoldAll E H hn112 l → HoldAll E H hn112 (.test (beqb x5237 true) true :: .test (beqb x5237 true) true :: .test x5237 true :: l) := fun z => ⟨(beqb_t h5239), (beqb_t h5239), h5239, z⟩
    refine cond_some hF (fun h5240 hF => ?_) (fun h5240 hF => ?_)
    ·
     refine cond_some hF (fun h5241 hF => ?_) (fun _ hF => nomatch hF)
     refine bind_some hF (fun x5242 h5243 hF => ?_)
     refine bind_some hF (fun r5244 h5245 hF => ?_)
     have pq5278 : ∀ {l : List Cond}, HoldAll E H hn112 l → HoldAll E H hn112 (.test (bnot r5234.2) false :: .test (inr v5232 (len a5159.Vals)) true :: .sub (flat (eInt .i64) a5159.Vals) (nidx v5232 1) 1 [(.lit (.int .i64 x5242))] :: .call 99 [.agg (eGGraph a5157), .agg (eGJob a5158), .one (.lit (.int .i64 a5159.Step)), .one (.lit (.int .i64 v5232)), .one (.lit (.int .i64 x5242)), .one (.lit (.int .i64 r5234.1)), .one (.lit (.bool r5234.2))] (F99_res r5244) :: .test (leadsAny (Res.mk [(.one (.im (.lit (.int .i64 r5244.1)))), (.one (.own 130 (.sl (len r5244.2.1) (flat eGMsg r5244.2.1)))), (.one (.im (.lit (.bool r5244.2.2.1)))), (.one (.im (.lit (.int .i64 r5244.2.2.2))))] [])) false :: l) := fun z => ⟨(bnot_t h5240), h5241, ⟨rfl, sub_flat0 (eInt_len _) h5243 1 (by decide)⟩, (F99_ok K a5157 a5158 a5159.Step v5232 x5242 r5234.1 r5234.2 _ h5245), (leads_ok (by simp [leadsAny, RV.leads, RC.leads, leadsT, hasSl_lit, flat_ns (eInt_ns _), flat_ns eGJob_ns, flat_ns eGMsg_ns])), z⟩
     refine cond_some hF (fun h5246 hF => ?_) (fun h5246 hF => ?_)
     ·
      refine cond_some hF (fun h5247 hF => ?_) (fun _ hF => nomatch hF)
      refine bind_some hF (fun x5248 h5249 hF => ?_)
      refine cond_some hF (fun h5250 hF => ?_) (fun _ hF => nomatch hF)
      refine bind_some hF (fun x5251 h5252 hF => ?_)
      refine cond_some hF (fun h5253 hF => ?_) (fun _ hF => nomatch hF)
      have pz : HoldAll E H hn112 [.test (ine r5244.2.2.2 0) false, .test (inr v5232 (len v5229)) true, .test (lfits (nidx v5232 1) 1 (flat (eInt .i64) v5229)) true, .sl (len v5229) (lset (flat (eInt .i64) v5229) (nidx v5232 1) [(.lit (.int .i64 r5244.1))]) (len (α := Int) (putAt v5229 v5232 r5244.1)) (flat (eInt .i64) (putAt v5229 v5232 r5244.1)), .test (inr v5232 (len v5230)) true, .test (lfits (nidx v5232 1) 1 (flat eBool v5230)) true, .sl (len v5230) (lset (flat eBool v5230) (nidx v5232 1) [(.lit (.bool r5244.2.2.1))]) (len (α := Bool) (putAt v5230 v5232 r5244.2.2.1)) (flat eBool (putAt v5230 v5232 r5244.2.2.1)), .test (leqm (flat eGMsg r5244.2.1) (len r5244.2.1) 2) true, .test (apok (len v5231) (len r5244.2.1) 16) true, .sl (nadd (len v5231) (len r5244.2.1)) (lapp (flat eGMsg v5231) (flat eGMsg r5244.2.1)) (len (α := GMsg) (appL v5231 r5244.2.1)) (flat eGMsg (appL v5231 r5244.2.1)), .int (wadd .i64 v5232 1) (wadd .i64 v5232 1)] := ⟨(ine_t h5246), h5247, (lfits_flat0 (eInt_len _) h5249 _ (by decide)), (set_ok0 (eInt_len _) h5249 _ (by simp) rfl), h5250, (lfits_flat0 eBool_len h5252 _ (by decide)), (set_ok0 eBool_len h5252 _ (by simp) rfl), (leqm_flat eGMsg_len _), h5253, (app_ok (enc := eGMsg) (v5231 : List GMsg) r5244.2.1), rfl, trivial⟩
      have h0 := ih _ _ _ _ _ hF
      have hn := fun ex ts' => loop_nextC (h := hn112) (l := 0) (c := c112_0) (ts := F112_l0_0_S a5157 a5158 a5159 v5229 v5230 v5231 v5232) (ts1 := (F112_l0_0_S a5157 a5158 a5159 (putAt v5229 v5232 r5244.1) (putAt v5230 v5232 r5244.2.2.1) (appL v5231 r5244.2.1) (wadd .i64 v5232 1))) (ex := ex) (ts' := ts') (pq5276 (pq5277 (pq5278 pz))) (by kernel_rfl)
      cases r with
      | inl w => exact hn _ _ h0
      | inr w => exact hn _ _ h0
     obtain rfl := Option.some.inj hF
     have pz : HoldAll E H hn112 [.test (ine r5244.2.2.2 0) true] := ⟨(ine_f h5246), trivial⟩
     exact loop_endC (h := hn112) (l := 0) (c := c112_0) (ts := F112_l0_0_S a5157 a5158 a5159 v5229 v5230 v5231 v5232) (ts' := F112_l0_0_X0 a5157 a5158 a5159 r5244.2.2.2) (ex := .ret) (pq5276 (pq5277 (pq5278 pz))) (by kernel_rfl) trivial
    refine cond_some hF (fun h5254 hF => ?_) (fun _ hF => nomatch hF)
    refine bind_some hF (fun x5255 h5256 hF => ?_)
    have pz : HoldAll E H hn112 [.test (bnot r5234.2) true, .test (inr v5232 (len v5230)) true, .test (lfits (nidx v5232 1) 1 (flat eBool v5230)) true, .sl (len v5230) (lset (flat eBool v5230) (nidx v5232 1) [(.lit (.bool true))]) (len (α := Bool) (putAt v5230 v5232 true)) (flat eBool (putAt v5230 v5232 true)), .int (wadd .i64 v5232 1) (wadd .i64 v5232 1)] := ⟨(bnot_f h5240), h5254, (lfits_flat0 eBool_len h5256 _ (by decide)), (set_ok0 eBool_len h5256 _ (by simp) rfl), rfl, trivial⟩
    have h0 := ih _ _ _ _ _ hF
    have hn := fun ex ts' => loop_nextC (h := hn112) (l := 0) (c := c112_0) (ts := F112_l0_0_S a5157 a5158 a5159 v5229 v5230 v5231 v5232) (ts1 := (F112_l0_0_S a5157 a5158 a5159 v5229 (putAt v5230 v5232 true) v5231 (wadd .i64 v5232 1))) (ex := ex) (ts' := ts') (pq5276 (pq5277 pz)) (by kernel_rfl)
    cases r with
    | inl w => exact hn _ _ h0
    | inr w => exact hn _ _ h0
   refine cond_some hF (fun h5257 hF => ?_) (fun _ hF => nomatch hF)
   refine bind_some hF (fun x5258 h5259 hF => ?_)
   refine bind_some hF (fun r5260 h5261 hF => ?_)
   have pq5279 : ∀ {l : List Cond}, HoldAll E H hn112 l → HoldAll E H hn112 (.test (beqb x5237 true) false :: .test (beqb x5237 true) false :: .test x5237 false :: .test false false :: .test (inr v5232 (len a5159.Vals)) true :: .sub (flat (eInt .i64) a5159.Vals) (nidx v5232 1) 1 [(.lit (.int .i64 x5258))] :: .call 99 [.agg (eGGraph a5157), .agg (eGJob a5158), .one (.lit (.int .i64 a5159.Step)), .one (.lit (.int .i64 v5232)), .one (.lit (.int .i64 x5258)), .one (.lit (.int .i64 r5234.1)), .one (.lit (.bool r5234.2))] (F99_res r5260) :: .test (leadsAny (Res.mk [(.one (.im (.lit (.int .i64 r5260.1)))), (.one (.own 130 (.sl (len r5260.2.1) (flat eGMsg r5260.2.1)))), (.one (.im (.lit (.bool r5260.2.2.1)))), (.one (.im (.lit (.int .i64 r5260.2.2.2))))] [])) false :: l) := fun z => ⟨(beqb_t h5239), (beqb_t h5239), h5239, rfl, h5257, ⟨rfl, sub_flat0 (eInt_len _) h5259 1 (by decide)⟩, (F99_ok K a5157 a5158 a5159.Step v5232 x5258 r5234.1 r5234.2 _ h5261), (leads_ok (by simp [leadsAny, RV.leads, RC.leads, leadsT, hasSl_lit, flat_ns (eInt_ns _), flat_ns eGJob_ns, flat_ns eGMsg_ns])), z⟩
   refine cond_some hF (fun h5262 hF => ?_) (fun h5262 hF => ?_)
   ·
    refine cond_some hF (fun h5263 hF => ?_) (fun _ hF => nomatch hF)
    refine bind_some hF (fun x5264 h5265 hF => ?_)
    refine cond_some hF (fun h5266 hF => ?_) (fun _ hF => nomatch hF)
    refine bind_some hF (fun x5267 h5268 hF => ?_)
    refine cond_some hF (fun h5269 hF => ?_) (fun _ hF => nomatch hF)
    have pz : HoldAll E H hn112 [.test (ine r5260.2.2.2 0) false, .test (inr v5232 (len v5229)) true, .test (lfits (nidx v5232 1) 1 (flat (eInt .i64) v5229)) true, .sl (len v5229) (lset (flat (eInt .i64) v5229) (nidx v5232 1) [(.lit (.int .i64 r5260.1))]) (len (α := Int) (putAt v5229 v5232 r5260.1)) (flat (eInt .i64) (putAt v5229 v5232 r5260.1)), .test (inr v5232 (len v5230)) true, .test (lfits (nidx v5232 1) 1 (flat eBool v5230)) true, .sl (len v5230) (lset (flat eBool v5230) (nidx v5232 1) [(.lit (.bool r5260.2.2.1))]) (len (α := Bool) (putAt v5230 v5232 r5260.2.2.1)) (flat eBool (putAt v5230 v5232 r5260.2.2.1)), .test (leqm (flat eGMsg r5260.2.1) (len r5260.2.1) 2) true, .test (apok (len v5231) (len r5260.2.1) 16) true, .sl (nadd (len v5231) (len r5260.2.1)) (lapp (flat eGMsg v5231) (flat eGMsg r5260.2.1)) (len (α := GMsg) (appL v5231 r5260.2.1)) (flat eGMsg (appL v5231 r5260.2.1)), .int (wadd .i64 v5232 1) (wadd .i64 v5232 1)] := ⟨(ine_t h5262), h5263, (lfits_flat0 (eInt_len _) h5265 _ (by decide)), (set_ok0 (eInt_len _) h5265 _ (by simp) rfl), h5266, (lfits_flat0 eBool_len h5268 _ (by decide)), (set_ok0 eBool_len h5268 _ (by simp) rfl), (leqm_flat eGMsg_len _), h5269, (app_ok (enc := eGMsg) (v5231 : List GMsg) r5260.2.1), rfl, trivial⟩
    have h0 := ih _ _ _ _ _ hF
    have hn := fun ex ts' => loop_nextC (h := hn112) (l := 0) (c := c112_0) (ts := F112_l0_0_S a5157 a5158 a5159 v5229 v5230 v5231 v5232) (ts1 := (F112_l0_0_S a5157 a5158 a5159 (putAt v5229 v5232 r5260.1) (putAt v5230 v5232 r5260.2.2.1) (appL v5231 r5260.2.1) (wadd .i64 v5232 1))) (ex := ex) (ts' := ts') (pq5276 (pq5279 pz)) (by kernel_rfl)
    cases r with
    | inl w => exact hn _ _ h0
    | inr w => exact hn _ _ h0
   obtain rfl := Option.some.inj hF
   have pz : HoldAll E H hn112 [.test (ine r5260.2.2.2 0) true] := ⟨(ine_f h5262), trivial⟩
   exact loop_endC (h := hn112) (l := 0) (c := c112_0) (ts := F112_l0_0_S a5157 a5158 a5159 v5229 v5230 v5231 v5232) (ts' := F112_l0_0_X0 a5157 a5158 a5159 r5260.2.2.2) (ex := .ret) (pq5276 (pq5279 pz)) (by kernel_rfl) trivial
  obtain rfl := Option.some.inj hF
  have pz : HoldAll E H hn112 [.test (ilt v5232 a5157.N) false] := ⟨h5233, trivial⟩
  exact loop_endC (h := hn112) (l := 0) (c := c112_0) (ts := F112_l0_0_S a5157 a5158 a5159 v5229 v5230 v5231 v5232) (ts' := F112_l0_0_X1 a5157 a5158 a5159 (v5229, (v5230, v5231))) (ex := (.exit 0)) pz (by kernel_rfl) trivial
def F112 (K : Nat) (a5157 : GGraph) (a5158 : GJob) (a5159 : GState) : Option (GState × Int) :=
 (F94 K a5157 a5158).bind fun r5160 =>
 bif (ieq r5160 0) then
  ((F104 K a5157 a5158 a5159).bind fun r5163 =>
  bif r5163 then
   (bif (ieq a5159.Step 40) then
    (some ((GState.mk 0 [] [] []), 6))
   else
   bif (apok 0 (len a5159.Vals) 8) then
   bif (mkok a5157.N a5157.N 1) then
   (F112_l0_0 K a5157 a5158 a5159 K (appL [] a5159.Vals) (repL (α := Bool) a5157.N false) [] 0).bind fun y5281 =>
   Sum.elim (fun w5282 =>
    some ((GState.mk 0 [] [] []), w5282))
    (fun w5284 =>
    (F150 K a5158.Prog w5284.2.2).bind fun r5415 =>
    bif (ieq r5415.2 0) then
     (some ((GState.mk (wadd .i64 a5159.Step 1) w5284.1 w5284.2.1 r5415.1), 0))
    else
    some ((GState.mk 0 [] [] []), r5415.2)) y5281
   else none
   else none)
  else
  some ((GState.mk 0 [] [] []), 1))
 else
 some ((GState.mk 0 [] [] []), r5160)
theorem F112_ok (K : Nat) (a5157 : GGraph) (a5158 : GJob) (a5159 : GState) (r : GState × Int) (hF : F112 K a5157 a5158 a5159 = some r) : Evt E H 112 [.agg (eGGraph a5157), .agg (eGJob a5158), .agg (eGState a5159)] (F112_res r) := by
 rw [F112] at hF
 refine bind_some hF (fun r5160 h5161 hF => ?_)
 refine cond_some hF (fun h5162 hF => ?_) (fun h5162 hF => ?_)
 ·
  refine bind_some hF (fun r5163 h5164 hF => ?_)
  have pq5418 : ∀ {l : List Cond}, HoldAll E H hn112 l → HoldAll E H hn112 (.call 94 [.agg (eGGraph a5157), .agg (eGJob a5158)] (F94_res r5160) :: .test (leadsAny (Res.mk [(.one (.im (.lit (.int .i64 r5160))))] [])) false :: .test (ine r5160 0) false :: .call 104 [.agg (eGGraph a5157), .agg (eGJob a5158), .agg (eGState a5159)] (F104_res r5163) :: .test (leadsAny (Res.mk [(.one (.im (.lit (.bool r5163))))] [])) false :: l) := fun z => ⟨(F94_ok K a5157 a5158 _ h5161), (leads_ok (by simp [leadsAny, RV.leads, RC.leads, leadsT, hasSl_lit, flat_ns eGJob_ns])), (ine_t h5162), (F104_ok K a5157 a5158 a5159 _ h5164), (leads_ok (by simp [leadsAny, RV.leads, RC.leads, leadsT, hasSl_lit, flat_ns eGJob_ns])), z⟩
  refine cond_some hF (fun h5165 hF => ?_) (fun h5165 hF => ?_)
  ·
   refine cond_some hF (fun h5166 hF => ?_) (fun h5166 hF => ?_)
   ·
    obtain rfl := Option.some.inj hF
    have pz : HoldAll E H hn112 [.test (bnot r5163) false, .test (ieq a5159.Step 40) true] := ⟨(bnot_t h5165), h5166, trivial⟩
    exact fn_playC hn112 (r := F112_res ((GState.mk 0 [] [] []), 6)) (pq5418 pz) (by kernel_rfl) (by kernel_rfl)
   refine cond_some hF (fun h5167 hF => ?_) (fun _ hF => nomatch hF)
   refine cond_some hF (fun h5168 hF => ?_) (fun _ hF => nomatch hF)
   have pq5419 : ∀ {l : List Cond}, HoldAll E H hn112 l → HoldAll E H hn112 (.test (bnot r5163) false :: .test (ieq a5159.Step 40) false :: .int (wadd .i64 a5159.Step 1) (wadd .i64 a5159.Step 1) :: .test (leqm (flat (eInt .i64) a5159.Vals) (len a5159.Vals) 1) true :: .test (apok 0 (len a5159.Vals) 8) true :: .sl (nadd 0 (len a5159.Vals)) (lapp [] (flat (eInt .i64) a5159.Vals)) (len (α := Int) (appL [] a5159.Vals)) (flat (eInt .i64) (appL [] a5159.Vals)) :: .test (mkok a5157.N a5157.N 1) true :: .sl (nint a5157.N) (lrep a5157.N [(.lit (.bool false))]) (len (α := Bool) (repL (α := Bool) a5157.N false)) (flat eBool (repL (α := Bool) a5157.N false)) :: l) := fun z => ⟨(bnot_t h5165), h5166, rfl, (leqm_flat (eInt_len _) _), h5167, (app_ok (enc := (eInt .i64)) ([] : List Int) a5159.Vals), h5168, (rep_okC (enc := eBool) (n := a5157.N) (x := false) rfl), z⟩
   refine bind_some hF (fun y5281 h5280 hF => ?_)
   refine sum_some hF (fun w5282 hx hF => ?_) (fun w5284 hx hF => ?_)
   ·
    subst hx
    obtain rfl := Option.some.inj hF
    have pz : HoldAll E H hn112 [.loop 0 c112_0 (F112_l0_0_S a5157 a5158 a5159 (appL [] a5159.Vals) (repL (α := Bool) a5157.N false) [] 0) .ret (F112_l0_0_X0 a5157 a5158 a5159 w5282)] := ⟨(F112_l0_0_ok K a5157 a5158 a5159 K (appL [] a5159.Vals) (repL (α := Bool) a5157.N false) [] 0 _ h5280), trivial⟩
    exact fn_playC hn112 (r := F112_res ((GState.mk 0 [] [] []), w5282)) (pq5418 (pq5419 pz)) (by kernel_rfl) (by kernel_rfl)
   subst hx
   refine bind_some hF (fun r5415 h5416 hF => ?_)
   have pq5420 : ∀ {l : List Cond}, HoldAll E H hn112 l → HoldAll E H hn112 (.loop 0 c112_0 (F112_l0_0_S a5157 a5158 a5159 (appL [] a5159.Vals) (repL (α := Bool) a5157.N false) [] 0) (.exit 0) (F112_l0_0_X1 a5157 a5158 a5159 w5284) :: .call 150 [.one (.lit (.int .i64 a5158.Prog)), .one (.sl (len w5284.2.2) (flat eGMsg w5284.2.2))] (F150_res r5415) :: .test (leadsAny (Res.mk [(.one (.own 130 (.sl (len r5415.1) (flat eGMsg r5415.1)))), (.one (.im (.lit (.int .i64 r5415.2))))] [])) false :: l) := fun z => ⟨(F112_l0_0_ok K a5157 a5158 a5159 K (appL [] a5159.Vals) (repL (α := Bool) a5157.N false) [] 0 _ h5280), (F150_ok K a5158.Prog w5284.2.2 _ h5416), (leads_ok (by simp [leadsAny, RV.leads, RC.leads, leadsT, hasSl_lit, flat_ns eGMsg_ns])), z⟩
   refine cond_some hF (fun h5417 hF => ?_) (fun h5417 hF => ?_)
   ·
    obtain rfl := Option.some.inj hF
    have pz : HoldAll E H hn112 [.test (ine r5415.2 0) false] := ⟨(ine_t h5417), trivial⟩
    exact fn_playC hn112 (r := F112_res ((GState.mk (wadd .i64 a5159.Step 1) w5284.1 w5284.2.1 r5415.1), 0)) (pq5418 (pq5419 (pq5420 pz))) (by kernel_rfl) (by kernel_rfl)
   obtain rfl := Option.some.inj hF
   have pz : HoldAll E H hn112 [.test (ine r5415.2 0) true] := ⟨(ine_f h5417), trivial⟩
   exact fn_playC hn112 (r := F112_res ((GState.mk 0 [] [] []), r5415.2)) (pq5418 (pq5419 (pq5420 pz))) (by kernel_rfl) (by kernel_rfl)
  obtain rfl := Option.some.inj hF
  have pz : HoldAll E H hn112 [.test (bnot r5163) true] := ⟨(bnot_f h5165), trivial⟩
  exact fn_playC hn112 (r := F112_res ((GState.mk 0 [] [] []), 1)) (pq5418 pz) (by kernel_rfl) (by kernel_rfl)
 obtain rfl := Option.some.inj hF
 have pz : HoldAll E H hn112 [.call 94 [.agg (eGGraph a5157), .agg (eGJob a5158)] (F94_res r5160), .test (leadsAny (Res.mk [(.one (.im (.lit (.int .i64 r5160))))] [])) false, .test (ine r5160 0) true] := ⟨(F94_ok K a5157 a5158 _ h5161), (leads_ok (by simp [leadsAny, RV.leads, RC.leads, leadsT, hasSl_lit, flat_ns eGJob_ns])), (ine_f h5162), trivial⟩
 exact fn_playC hn112 (r := F112_res ((GState.mk 0 [] [] []), r5160)) pz (by kernel_rfl) (by kernel_rfl)
abbrev Tri := List Int × List Bool × List GMsg
def oneS (g : GGraph) (j : GJob) (s : GState) (v : Nat) : Int × List GMsg × Bool × Int :=
 bif s.Rest.getD v false && !(atS s.In (v : Int)).2 then (s.Vals.getD v 0, [], true, 0)
 else turnS g j s.Step (v : Int) (s.Vals.getD v 0) (atS s.In (v : Int)).1 (atS s.In (v : Int)).2
def stepA (g : GGraph) (j : GJob) (s : GState) : List Nat → List Int → List Bool → List GMsg → Int ⊕ Tri
 | [], a, b, c => .inr (a, b, c)
 | v :: l, a, b, c => bif ieq (oneS g j s v).2.2.2 0 then stepA g j s l (a ++ [(oneS g j s v).1]) (b ++ [(oneS g j s v).2.2.1]) (c ++ (oneS g j s v).2.1) else .inl (oneS g j s v).2.2.2
def zeroS : GState := GState.mk 0 [] [] []
def stepB (g : GGraph) (j : GJob) (s : GState) : Int ⊕ Tri → GState × Int
 | .inl e => (zeroS, e)
 | .inr w => bif ieq (boxS j.Prog w.2.2).2 0 then (GState.mk (s.Step + 1) w.1 w.2.1 (boxS j.Prog w.2.2).1, 0) else (zeroS, (boxS j.Prog w.2.2).2)
def stepS (g : GGraph) (j : GJob) (s : GState) : GState × Int :=
 bif ieq (jcheck g j) 0 then (bif stRight g j s then (bif ieq s.Step 40 then (zeroS, 6) else stepB g j s (stepA g j s (List.range g.N.toNat) [] [] [])) else (zeroS, 1)) else (zeroS, jcheck g j)
def niceS (s : GState) : Prop := (∀ v ∈ s.Vals, i64 v) ∧ (∀ m ∈ s.In, i64 m.V)
theorem sendS_i64 {p val many : Int} {e : GEdge} (hv : i64 val) : i64 (sendS p val e many).1 := by
 rw [sendS]
 cases ieq p 1
 · cases ieq p 3
   · cases ieq p 5
     · exact hv
     · exact ratioS_i64
   · exact addS_i64
 · exact addS_i64
theorem sendA_i64 {p val many : Int} (hv : i64 val) : ∀ {l : List GEdge} {s r : List GMsg}, (∀ m ∈ s, i64 m.V) → sendA p val many l s = some r → ∀ m ∈ r, i64 m.V
 | [], s, r, hs, h => by injection h with h; subst h; exact hs
 | e :: l, s, r, hs, h => by
   rw [sendA] at h
   cases hq : (sendS p val e many).2
   · rw [hq] at h; cases h
   · rw [hq, cond_true] at h
     refine sendA_i64 hv (fun m hm => ?_) h
     rcases List.mem_append.1 hm with hm | hm
     · exact hs m hm
     · rw [List.mem_singleton.1 hm]; exact sendS_i64 hv
theorem sendO_i64 {p w many : Int} {b : Bool} {l : List GEdge} (hw : i64 w) : i64 (sendO b w (sendA p w many l [])).1 ∧ ∀ m ∈ (sendO b w (sendA p w many l [])).2.1, i64 m.V := by
 have h0 : i64 0 := by unfold i64; omega
 cases hq : sendA p w many l []
 · exact ⟨h0, fun m hm => absurd hm (List.not_mem_nil)⟩
 · exact ⟨hw, sendA_i64 hw (fun m hm => absurd hm (List.not_mem_nil)) hq⟩
theorem turn_i64 {g : GGraph} {j : GJob} {step v val got : Int} {sm : Bool} (hv : i64 val) (hg : i64 got) : i64 (turnS g j step v val got sm).1 ∧ ∀ m ∈ (turnS g j step v val got sm).2.1, i64 m.V := by
 have h0 : i64 0 := by unfold i64; omega
 have hn : ∀ m ∈ ([] : List GMsg), i64 m.V := fun m hm => absurd hm (List.not_mem_nil)
 rw [turnS]
 cases ieq (jcheck g j) 0
 · exact ⟨h0, hn⟩
 · cases ilt v 0
   · cases ile g.N v
     · cases ilt step 0
       · cases ilt 40 step
         · simp only [cond_true, cond_false]
           cases ieq j.Prog 5
           · have hw : i64 (turnV j.Prog val got sm) := by
               rw [turnV]
               cases sm
               · exact hv
               · exact foldS_i64 hv hg
             rw [cond_false, moveS]
             cases turnM j.Prog j.Source step v val (turnV j.Prog val got sm)
             · exact ⟨hw, hn⟩
             · exact sendO_i64 hw
           · have hw : i64 (rankW step val got sm).1 := by
               rw [rankW]
               cases ilt 0 step
               · exact hv
               · exact sumS_i64
             rw [cond_true, rankS]
             cases (rankW step val got sm).2
             · exact ⟨h0, hn⟩
             · cases ile 10 step
               · exact sendO_i64 hw
               · exact ⟨hw, hn⟩
         · exact ⟨h0, hn⟩
       · exact ⟨h0, hn⟩
     · exact ⟨h0, hn⟩
   · exact ⟨h0, hn⟩
theorem turn_outs {g : GGraph} {j : GJob} {step v val got : Int} {sm : Bool} : (turnS g j step v val got sm).2.1.length ≤ (g.Edges.filter fun e => ieq e.From v).length := by
 have ho : (outs g v).length ≤ (g.Edges.filter fun e => ieq e.From v).length := by
   rw [outs]
   cases ieq (gcheck g) 0
   · exact Nat.zero_le _
   · exact Nat.le_refl _
 cases h : ieq (turnS g j step v val got sm).2.2.2 0
 · rw [(turn_bad h).2]; exact Nat.zero_le _
 · rcases turn_out h with hz | hz
   · rw [hz]; exact Nat.zero_le _
   · have := congrArg List.length hz
     simp only [List.length_map] at this
     omega
theorem from_add (E : List GEdge) (v : Int) : (E.filter fun e => ilt e.From v).length + (E.filter fun e => ieq e.From v).length = (E.filter fun e => ilt e.From (v + 1)).length := by
 induction E with
 | nil => rfl
 | cons e E ih =>
   simp only [List.filter_cons]
   cases h1 : ilt e.From v
   · have h1' := ilt_f.1 h1
     cases h2 : ieq e.From v
     · have h2' := ieq_f.1 h2
       rw [ilt_f.2 (by omega : v + 1 ≤ e.From)]
       simpa using ih
     · have h2' := ieq_iff.1 h2
       rw [ilt_iff.2 (by omega : e.From < v + 1)]
       simp; omega
   · have h1' := ilt_iff.1 h1
     rw [ieq_f.2 (by omega : e.From ≠ v), ilt_iff.2 (by omega : e.From < v + 1)]
     simp; omega
theorem one_i64 {g : GGraph} {j : GJob} {s : GState} (hn : niceS s) {v : Nat} : i64 (oneS g j s v).1 ∧ ∀ m ∈ (oneS g j s v).2.1, i64 m.V := by
 have h0 : i64 0 := by unfold i64; omega
 have hx : i64 (s.Vals.getD v 0) := by
   rw [List.getD_eq_getElem?_getD]
   cases hq : s.Vals[v]? with
   | none => exact h0
   | some x => exact hn.1 x (List.mem_of_getElem? hq)
 rw [oneS]
 cases s.Rest.getD v false && !(atS s.In (v : Int)).2
 · exact turn_i64 hx (atS_i64 hn.2)
 · exact ⟨hx, fun m hm => absurd hm (List.not_mem_nil)⟩
theorem one_outs {g : GGraph} {j : GJob} {s : GState} {v : Nat} : (oneS g j s v).2.1.length ≤ (g.Edges.filter fun e => ieq e.From (v : Int)).length := by
 rw [oneS]
 cases s.Rest.getD v false && !(atS s.In (v : Int)).2
 · exact turn_outs
 · exact Nat.zero_le _
structure keepS (g : GGraph) (i : Nat) (a : List Int) (b : List Bool) (c : List GMsg) : Prop where
 la : a.length = i
 lb : b.length = i
 lc : c.length ≤ (g.Edges.filter fun e => ilt e.From (i : Int)).length
 va : ∀ v ∈ a, i64 v
 vc : ∀ m ∈ c, i64 m.V
theorem keep_next {g : GGraph} {j : GJob} {s : GState} (hn : niceS s) {i : Nat} {a : List Int} {b : List Bool} {c : List GMsg} (h : keepS g i a b c) :
   keepS g (i + 1) (a ++ [(oneS g j s i).1]) (b ++ [(oneS g j s i).2.2.1]) (c ++ (oneS g j s i).2.1) := by
 obtain ⟨o1, o2⟩ := one_i64 (g := g) (j := j) hn (v := i)
 refine ⟨by simp [h.la], by simp [h.lb], ?_, fun v hv => ?_, fun m hm => ?_⟩
 · have h1 := one_outs (g := g) (j := j) (s := s) (v := i)
   have h2 := from_add g.Edges (i : Int)
   have h3 := h.lc
   rw [List.length_append]
   show _ ≤ (g.Edges.filter fun e => ilt e.From ((i + 1 : Nat) : Int)).length
   have : ((i + 1 : Nat) : Int) = (i : Int) + 1 := by omega
   rw [this]; omega
 · rcases List.mem_append.1 hv with hv | hv
   · exact h.va v hv
   · rw [List.mem_singleton.1 hv]; exact o1
 · rcases List.mem_append.1 hm with hm | hm
   · exact h.vc m hm
   · exact o2 m hm
theorem keep_len {g : GGraph} {i : Nat} {a : List Int} {b : List Bool} {c : List GMsg} (h : keepS g i a b c) (he : g.Edges.length ≤ 80) : c.length ≤ 80 :=
 Nat.le_trans h.lc (Nat.le_trans (List.length_filter_le _ _) he)
theorem stepA_keep {g : GGraph} {j : GJob} {s : GState} (hn : niceS s) : ∀ (n i : Nat) (a : List Int) (b : List Bool) (c : List GMsg), keepS g i a b c → ∀ w, stepA g j s (List.range' i n) a b c = .inr w → keepS g (i + n) w.1 w.2.1 w.2.2 := by
 intro n
 induction n with
 | zero => intro i a b c h w hw; injection hw with hw; subst hw; exact h
 | succ n ih =>
   intro i a b c h w hw
   rw [List.range'_succ, stepA] at hw
   cases hq : ieq (oneS g j s i).2.2.2 0
   · rw [hq] at hw; cases hw
   · rw [hq] at hw
     have := ih (i + 1) _ _ _ (keep_next hn h) w hw
     rwa [show i + 1 + n = i + (n + 1) by omega] at this
theorem elAt_get {α : Type} {l : List α} {i : Nat} (h : i < l.length) (d : α) : inr (i : Int) (len l) = true ∧ elAt l (i : Int) = some (l.getD i d) := by
 refine ⟨decide_eq_true ⟨by omega, by show (i : Int) < (l.length : Int); omega⟩, ?_⟩
 rw [elAt_nat, List.getElem?_eq_getElem h, List.getD_eq_getElem?_getD, List.getElem?_eq_getElem h]; rfl
theorem keep0 (g : GGraph) : keepS g 0 [] [] [] := ⟨rfl, rfl, Nat.zero_le _, fun v hv => absurd hv (List.not_mem_nil), fun m hm => absurd hm (List.not_mem_nil)⟩
def st112 (K : Nat) (g : GGraph) (j : GJob) (s : GState) (i : Nat) (w : Tri) (c : Tri → Option (Int ⊕ Tri)) : Option (Int ⊕ Tri) :=
 (F149 K s.In (i : Int)).bind fun r5234 =>
 bif (inr (i : Int) (len s.Rest)) then
 (elAt s.Rest (i : Int)).bind fun x5237 =>
 bif x5237 then
   (bif r5234.2 then
     (bif (inr (i : Int) (len s.Vals)) then
     (elAt s.Vals (i : Int)).bind fun x5242 =>
     (F99 K g j s.Step (i : Int) x5242 r5234.1 r5234.2).bind fun r5244 =>
     bif (ieq r5244.2.2.2 0) then
       (bif (inr (i : Int) (len w.1)) then
       (elAt w.1 (i : Int)).bind fun x5248 =>
       bif (inr (i : Int) (len w.2.1)) then
       (elAt w.2.1 (i : Int)).bind fun x5251 =>
       bif (apok (len w.2.2) (len r5244.2.1) 16) then
       c (putAt w.1 (i : Int) r5244.1, putAt w.2.1 (i : Int) r5244.2.2.1, appL w.2.2 r5244.2.1)
       else none
       else none
       else none)
     else
     some (.inl r5244.2.2.2)
     else none)
   else
   bif (inr (i : Int) (len w.2.1)) then
   (elAt w.2.1 (i : Int)).bind fun x5255 =>
   c (w.1, putAt w.2.1 (i : Int) true, w.2.2)
   else none)
 else
 bif (inr (i : Int) (len s.Vals)) then
 (elAt s.Vals (i : Int)).bind fun x5258 =>
 (F99 K g j s.Step (i : Int) x5258 r5234.1 r5234.2).bind fun r5260 =>
 bif (ieq r5260.2.2.2 0) then
   (bif (inr (i : Int) (len w.1)) then
   (elAt w.1 (i : Int)).bind fun x5264 =>
   bif (inr (i : Int) (len w.2.1)) then
   (elAt w.2.1 (i : Int)).bind fun x5267 =>
   bif (apok (len w.2.2) (len r5260.2.1) 16) then
   c (putAt w.1 (i : Int) r5260.1, putAt w.2.1 (i : Int) r5260.2.2.1, appL w.2.2 r5260.2.1)
   else none
   else none
   else none)
 else
 some (.inl r5260.2.2.2)
 else none
 else none
theorem put_mid {α : Type} (a : List α) (x y : α) (r : List α) (i : Nat) (h : a.length = i) : inr (i : Int) (len (a ++ x :: r)) = true ∧ elAt (a ++ x :: r) (i : Int) = some x ∧ putAt (a ++ x :: r) (i : Int) y = (a ++ [y]) ++ r := by
 subst h
 refine ⟨decide_eq_true ⟨by omega, by show (a.length : Int) < ((a ++ x :: r).length : Int); rw [List.length_append, List.length_cons]; omega⟩, ?_, ?_⟩
 · rw [elAt_nat]; simp
 · unfold putAt
   rw [Int.toNat_natCast, List.set_append_right (h := by omega)]; simp
theorem go112 {K : Nat} (hK : 1000 ≤ K) (g : GGraph) (j : GJob) (s : GState) (hr : stRight g j s = true) (hn : niceS s) : ∀ (n i : Nat) (a : List Int) (b : List Bool) (c : List GMsg), i + n = g.N.toNat → keepS g i a b c →
   goL (st112 K g j s) (fun w => some (.inr w)) (List.range' i n) (a ++ s.Vals.drop i, b ++ List.replicate n false, c) = some (stepA g j s (List.range' i n) a b c) := by
 obtain ⟨hc, s1, s2, s3, s4, s5⟩ := stRight_ok hr
 obtain ⟨hg, _⟩ := jcheck_ok hc
 obtain ⟨g1, g2, g3, _⟩ := gcheck_ok hg
 have hil := inSt_len s5 (by omega)
 intro n
 induction n with
 | zero =>
   intro i a b c hin _
   have : s.Vals.drop i = [] := List.drop_eq_nil_of_le (by omega)
   rw [this, List.append_nil]
   show goL (st112 K g j s) (fun w => some (.inr w)) [] (a, b ++ [], c) = _
   rw [List.append_nil]; rfl
 | succ n ih =>
   intro i a b c hin h
   have hlc := keep_len h g3
   have hnx := keep_next (j := j) hn h
   have hlc2 := keep_len hnx g3
   rw [List.length_append] at hlc2
   obtain ⟨la, lb, _, _, _⟩ := h
   obtain ⟨v1, v2⟩ := elAt_get (l := s.Vals) (i := i) (by omega) 0
   obtain ⟨r1, r2⟩ := elAt_get (l := s.Rest) (i := i) (by omega) false
   have hdr : s.Vals.drop i = s.Vals.getD i 0 :: s.Vals.drop (i + 1) := by
     rw [List.drop_eq_getElem_cons (by omega : i < s.Vals.length), List.getD_eq_getElem?_getD, List.getElem?_eq_getElem (by omega : i < s.Vals.length)]; rfl
   have a4 : apok (len c) (len (oneS g j s i).2.1) 16 = true := decide_eq_true ⟨by show c.length + (oneS g j s i).2.1.length ≤ _; omega, by show (c.length + (oneS g j s i).2.1.length) * 16 ≤ _; omega⟩
   obtain ⟨m1, m2, m3⟩ := put_mid a (s.Vals.getD i 0) (oneS g j s i).1 (s.Vals.drop (i + 1)) i la
   obtain ⟨n1, n2, n3⟩ := put_mid b false (oneS g j s i).2.2.1 (List.replicate n false) i lb
   have hx : i64 (s.Vals.getD i 0) := by
     rw [List.getD_eq_getElem?_getD]
     cases hq : s.Vals[i]? with
     | none => show i64 0; unfold i64; omega
     | some x => exact hn.1 x (List.mem_of_getElem? hq)
   have hat := atS_i64 (l := s.In) (v := (i : Int)) hn.2
   have nx := ih (i + 1) _ _ _ (by omega) hnx
   have f99 := F99_spec (K := K) (by omega) g j s.Step (i : Int) (atS s.In (i : Int)).2 hx hat
   rw [List.range'_succ, hdr, List.replicate_succ, goL, st112, stepA, F149_spec s.In (i : Int) (by omega) (by omega), v1, v2, r1, r2]
   simp only [cond_true, Option.bind_some, f99, m1, m2, n1, n2]
   cases hs : (atS s.In (i : Int)).2
   · cases hy : s.Rest.getD i false
     · have hT : oneS g j s i = turnS g j s.Step (i : Int) (s.Vals.getD i 0) (atS s.In (i : Int)).1 false := by rw [oneS, hy, hs]; rfl
       rw [hT] at a4 nx m3 n3 ⊢
       simp only [cond_false, a4, cond_true, m3, n3]
       cases ieq (turnS g j s.Step (i : Int) (s.Vals.getD i 0) (atS s.In (i : Int)).1 false).2.2.2 0
       · rfl
       · exact nx
     · have hT : oneS g j s i = (s.Vals.getD i 0, [], true, 0) := by rw [oneS, hy, hs]; rfl
       rw [hT] at nx n3 ⊢
       simp only [cond_false, cond_true, n3, ieq_refl]
       have e1 : a ++ s.Vals.getD i 0 :: s.Vals.drop (i + 1) = a ++ [s.Vals.getD i 0] ++ s.Vals.drop (i + 1) := by simp
       rw [e1]
       simp only [List.append_nil] at nx ⊢
       exact nx
   · have hT : oneS g j s i = turnS g j s.Step (i : Int) (s.Vals.getD i 0) (atS s.In (i : Int)).1 true := by rw [oneS, hs, Bool.not_true, Bool.and_false]; rfl
     rw [hT] at a4 nx m3 n3 ⊢
     simp only [cond_false, a4, cond_true, m3, n3]
     cases s.Rest.getD i false <;> cases ieq (turnS g j s.Step (i : Int) (s.Vals.getD i 0) (atS s.In (i : Int)).1 true).2.2.2 0 <;> first | rfl | exact nx
theorem F112_spec {K : Nat} (hK : 1000 ≤ K) (g : GGraph) (j : GJob) (s : GState) (hn : niceS s) (hl : s.In.length < 1000000) (hk : s.In.length < K) : F112 K g j s = some (stepS g j s) := by
 rw [F112, F94_spec (by omega), F104_spec hK g j s hl hk, Option.bind_some, Option.bind_some, stepS]
 cases hc : ieq (jcheck g j) 0
 · rfl
 · cases hr : stRight g j s
   · rfl
   · cases h40 : ieq s.Step 40
     · obtain ⟨_, s1, s2, s3, s4, s5⟩ := stRight_ok hr
       obtain ⟨hg, _⟩ := jcheck_ok hc
       obtain ⟨g1, g2, g3, _⟩ := gcheck_ok hg
       have h := scanN (N := g.N) (L := fun k (w : Tri) i => F112_l0_0 K g j s k w.1 w.2.1 w.2.2 i) (st112 K g j s) (fun w => some (.inr w)) (fun k w i _ => rfl) (by omega) (K := K) (by omega) (s.Vals, List.replicate g.N.toNat false, [])
       have h' : F112_l0_0 K g j s K (appL [] s.Vals) (repL (α := Bool) g.N false) [] 0 = some (stepA g j s (List.range g.N.toNat) [] [] []) := by
         rw [show F112_l0_0 K g j s K (appL [] s.Vals) (repL (α := Bool) g.N false) [] 0 = _ from h, List.range_eq_range']
         exact go112 hK g j s hr hn g.N.toNat 0 [] [] [] (by omega) (keep0 g)
       have a1 : apok 0 (len s.Vals) 8 = true := decide_eq_true ⟨by show 0 + s.Vals.length ≤ _; omega, by show (0 + s.Vals.length) * 8 ≤ _; omega⟩
       have hmk : mkok g.N g.N 1 = true := by simp [mkok]; omega
       simp only [cond_true, cond_false, h', Option.bind_some, a1, hmk]
       cases hA : stepA g j s (List.range g.N.toNat) [] [] [] with
       | inl e => rfl
       | inr w =>
         rw [List.range_eq_range'] at hA
         have kw := stepA_keep hn g.N.toNat 0 [] [] [] (keep0 g) w hA
         have hwl := keep_len kw g3
         have hw : wadd .i64 s.Step 1 = s.Step + 1 := wadd_i64 (by unfold i64; omega)
         simp only [Sum.elim_inr, F150_spec j.Prog w.2.2 kw.vc (show w.2.2.length < K by omega) (by omega), Option.bind_some, stepB, hw]
         cases ieq (boxS j.Prog w.2.2).2 0 <;> rfl
     · rfl
noncomputable def hn101 : Hint := { H 101 with nt := 7, prot := 0 }
def F101_res (r5048 : Bool) : Res := ⟨[(.one (.im (.lit (.bool r5048))))], []⟩
def F101 (K : Nat) (a5047 : GGraph) : Option (Bool) :=
 some (igt (nlen (len a5047.Edges)) 200)
theorem F101_ok (K : Nat) (a5047 : GGraph) (r : Bool) (hF : F101 K a5047 = some r) : Evt E H 101 [.agg (eGGraph a5047)] (F101_res r) := by
 rw [F101] at hF
 obtain rfl := Option.some.inj hF
 have pz : HoldAll E H hn101 [.int (nlen (len a5047.Edges)) (nlen (len a5047.Edges))] := ⟨rfl, trivial⟩
 exact fn_playC hn101 (r := F101_res (igt (nlen (len a5047.Edges)) 200)) pz (by kernel_rfl) (by kernel_rfl)
noncomputable def hn105 : Hint := { H 105 with nt := 19, prot := 0 }
noncomputable def c105_0 : Code := loopOf E 105 0
def F105_res (r5084 : Bool) : Res := ⟨[(.one (.im (.lit (.bool r5084))))], []⟩
def F105_l0_0 (K : Nat) (a5065 : GState) : Nat → Int → Option ((Unit) ⊕ (Unit))
 | 0, _ => none
 | k + 1, v5071 =>
  bif (ilt v5071 (nlen (len a5065.Rest))) then
   (bif (inr v5071 (len a5065.Rest)) then
   (elAt a5065.Rest v5071).bind fun x5074 =>
   bif x5074 then
    (F105_l0_0 K a5065 k (wadd .i64 v5071 1))
   else
   some (.inl ())
   else none)
  else
  some (.inr ())
def F105_l0_0_S (a5065 : GState) (v5071 : Int) : TS := .on [64, 65, 66, 67, 68, 320, 384, 385, 448, 449, 512, 513] [(64, ⟨(.box 74 4), 0, nob⟩), (65, ⟨.im, 0, (.lit (.int .i64 a5065.Step))⟩), (66, ⟨.im, 0, (.sl (len a5065.Vals) (flat (eInt .i64) a5065.Vals))⟩), (67, ⟨.im, 0, (.sl (len a5065.Rest) (flat eBool a5065.Rest))⟩), (68, ⟨.im, 0, (.sl (len a5065.In) (flat eGMsg a5065.In))⟩), (320, ⟨(.ad 1 0 2), 0, nob⟩), (384, ⟨.one, 0, nob⟩), (385, ⟨.im, 0, (.sl (len a5065.Rest) (flat eBool a5065.Rest))⟩), (448, ⟨.one, 0, nob⟩), (449, ⟨.im, 0, (.lit (.int .i64 (nlen (len a5065.Rest))))⟩), (512, ⟨.one, 0, nob⟩), (513, ⟨.im, 0, (.lit (.int .i64 v5071))⟩)]
def F105_l0_0_X0 (a5065 : GState) (w5077 : Unit) : TS := .on [128, 129] [(128, ⟨.one, 0, nob⟩), (129, ⟨.im, 0, (.lit (.bool false))⟩)]
def F105_l0_0_X1 (a5065 : GState) (w5078 : Unit) : TS := .on [64, 65, 66, 67, 68] [(64, ⟨(.box 74 4), 0, nob⟩), (65, ⟨.im, 0, (.lit (.int .i64 a5065.Step))⟩), (66, ⟨.im, 0, (.sl (len a5065.Vals) (flat (eInt .i64) a5065.Vals))⟩), (67, ⟨.im, 0, (.sl (len a5065.Rest) (flat eBool a5065.Rest))⟩), (68, ⟨.im, 0, (.sl (len a5065.In) (flat eGMsg a5065.In))⟩)]
theorem F105_l0_0_ok (K : Nat) (a5065 : GState) : ∀ (k : Nat) (v5071 : Int) (r : (Unit) ⊕ (Unit)), F105_l0_0 K a5065 k v5071 = some r → (Sum.elim (fun w => LoopEv E H hn105 0 c105_0 (F105_l0_0_S a5065 v5071) .ret (F105_l0_0_X0 a5065 w)) (fun w => LoopEv E H hn105 0 c105_0 (F105_l0_0_S a5065 v5071) (.exit 0) (F105_l0_0_X1 a5065 w))) r := by
 intro k
 induction k with
 | zero => intro v5071 r hF; cases hF
 | succ k ih =>
  intro v5071 r hF
  rw [F105_l0_0] at hF
  refine cond_some hF (fun h5072 hF => ?_) (fun h5072 hF => ?_)
  ·
   refine cond_some hF (fun h5073 hF => ?_) (fun _ hF => nomatch hF)
   refine bind_some hF (fun x5074 h5075 hF => ?_)
   have pq5079 : ∀ {l : List Cond}, HoldAll E H hn105 l → HoldAll E H hn105 (.test (ilt v5071 (nlen (len a5065.Rest))) true :: .test (inr v5071 (len a5065.Rest)) true :: .sub (flat eBool a5065.Rest) (nidx v5071 1) 1 [(.lit (.bool x5074))] :: l) := fun z => ⟨h5072, h5073, ⟨rfl, sub_flat0 eBool_len h5075 1 (by decide)⟩, z⟩
   refine cond_some hF (fun h5076 hF => ?_) (fun h5076 hF => ?_)
   ·
    have pz : HoldAll E H hn105 [.test (bnot x5074) false, .int (wadd .i64 v5071 1) (wadd .i64 v5071 1)] := ⟨(bnot_t h5076), rfl, trivial⟩
    have h0 := ih _ _ hF
    have hn := fun ex ts' => loop_nextC (h := hn105) (l := 0) (c := c105_0) (ts := F105_l0_0_S a5065 v5071) (ts1 := (F105_l0_0_S a5065 (wadd .i64 v5071 1))) (ex := ex) (ts' := ts') (pq5079 pz) (by kernel_rfl)
    cases r with
    | inl w => exact hn _ _ h0
    | inr w => exact hn _ _ h0
   obtain rfl := Option.some.inj hF
   have pz : HoldAll E H hn105 [.test (bnot x5074) true] := ⟨(bnot_f h5076), trivial⟩
   exact loop_endC (h := hn105) (l := 0) (c := c105_0) (ts := F105_l0_0_S a5065 v5071) (ts' := F105_l0_0_X0 a5065 ()) (ex := .ret) (pq5079 pz) (by kernel_rfl) trivial
  obtain rfl := Option.some.inj hF
  have pz : HoldAll E H hn105 [.test (ilt v5071 (nlen (len a5065.Rest))) false] := ⟨h5072, trivial⟩
  exact loop_endC (h := hn105) (l := 0) (c := c105_0) (ts := F105_l0_0_S a5065 v5071) (ts' := F105_l0_0_X1 a5065 ()) (ex := (.exit 0)) pz (by kernel_rfl) trivial
def F105 (K : Nat) (a5065 : GState) : Option (Bool) :=
 (F105_l0_0 K a5065 K 0).bind fun y5081 =>
 Sum.elim (fun w5082 =>
  some false)
  (fun w5083 =>
  some (ieq (nlen (len a5065.In)) 0)) y5081
theorem F105_ok (K : Nat) (a5065 : GState) (r : Bool) (hF : F105 K a5065 = some r) : Evt E H 105 [.agg (eGState a5065)] (F105_res r) := by
 rw [F105] at hF
 refine bind_some hF (fun y5081 h5080 hF => ?_)
 refine sum_some hF (fun w5082 hx hF => ?_) (fun w5083 hx hF => ?_)
 ·
  subst hx
  obtain rfl := Option.some.inj hF
  have pz : HoldAll E H hn105 [.int (nlen (len a5065.Rest)) (nlen (len a5065.Rest)), .loop 0 c105_0 (F105_l0_0_S a5065 0) .ret (F105_l0_0_X0 a5065 w5082)] := ⟨rfl, (F105_l0_0_ok K a5065 K 0 _ h5080), trivial⟩
  exact fn_playC hn105 (r := F105_res false) pz (by kernel_rfl) (by kernel_rfl)
 subst hx
 obtain rfl := Option.some.inj hF
 have pz : HoldAll E H hn105 [.int (nlen (len a5065.Rest)) (nlen (len a5065.Rest)), .loop 0 c105_0 (F105_l0_0_S a5065 0) (.exit 0) (F105_l0_0_X1 a5065 w5083), .int (nlen (len a5065.In)) (nlen (len a5065.In))] := ⟨rfl, (F105_l0_0_ok K a5065 K 0 _ h5080), rfl, trivial⟩
 exact fn_playC hn105 (r := F105_res (ieq (nlen (len a5065.In)) 0)) pz (by kernel_rfl) (by kernel_rfl)
def restsS (s : GState) : Bool := s.Rest.all id && ieq (nlen (len s.In)) 0
theorem rest_go (l : List Bool) : goL (fun r (_ : Unit) c => bif r then c () else some (.inl ())) (fun _ => some (.inr ())) l () = (some (sumU (l.all id)) : Option (Unit ⊕ Unit)) := by
 induction l with
 | nil => rfl
 | cons r l ih => cases r <;> simp [goL, ih, sumU]
theorem F105_spec (K : Nat) (x : GState) (h : x.Rest.length < 4611686018427387904) (hK : x.Rest.length < K) : F105 K x = some (restsS x) := by
 have e : F105_l0_0 K x K 0 = _ := scanL (L := fun k (_ : Unit) i => F105_l0_0 K x k i) (fun r _ c => bif r then c () else some (.inl ())) (fun _ => some (.inr ())) (fun k s i _ => rfl) h hK ()
 rw [F105, e, rest_go, restsS]
 cases x.Rest.all id <;> rfl
noncomputable def hn107 : Hint := { H 107 with nt := 42, prot := 0 }
noncomputable def c107_0 : Code := loopOf E 107 0
def F107_res (r5121 : GState × Int) : Res := ⟨[(.agg [(.im (.lit (.int .i64 r5121.1.Step))), (.own 2 (.sl (len r5121.1.Vals) (flat (eInt .i64) r5121.1.Vals))), (.own 4 (.sl (len r5121.1.Rest) (flat eBool r5121.1.Rest))), (.own 130 (.sl (len r5121.1.In) (flat eGMsg r5121.1.In)))]), (.one (.im (.lit (.int .i64 r5121.2))))], []⟩
def F107_l0_0 (K : Nat) (a5099 : GGraph) (a5100 : GJob) : Nat → List Int → Int → Option (List Int)
 | 0, _, _ => none
 | k + 1, v5109, v5110 =>
  bif (ilt v5110 a5099.N) then
   ((F95 K a5099 a5100 v5110).bind fun r5112 =>
   bif (apok (len v5109) 1 8) then
   F107_l0_0 K a5099 a5100 k (appL v5109 [r5112.1]) (wadd .i64 v5110 1)
   else none)
  else
  some v5109
def F107_l0_0_S (a5099 : GGraph) (a5100 : GJob) (v5109 : List Int) (v5110 : Int) : TS := .on [128, 129, 130, 192, 193, 194, 195, 196, 256, 257, 258, 259, 260, 448, 449, 450, 451, 452, 1472, 1473, 1536, 1537] [(128, ⟨(.box 62 2), 0, nob⟩), (129, ⟨.im, 0, (.lit (.int .i64 a5099.N))⟩), (130, ⟨.im, 0, (.sl (len a5099.Edges) (flat eGEdge a5099.Edges))⟩), (192, ⟨(.box 64 4), 0, nob⟩), (193, ⟨.im, 0, (.lit (.int .i64 a5100.Prog))⟩), (194, ⟨.im, 0, (.lit (.int .i64 a5100.Source))⟩), (195, ⟨.im, 0, (.lit (.int .i64 a5100.Limit))⟩), (196, ⟨.im, 0, (.lit (.int .i64 a5100.Parts))⟩), (256, ⟨(.box 74 4), 0, nob⟩), (257, ⟨.im, 0, (.lit (.int .i64 0))⟩), (258, ⟨(.own 2), 0, (.sl 0 [])⟩), (259, ⟨(.own 4), 0, (.sl 0 [])⟩), (260, ⟨(.own 130), 0, (.sl 0 [])⟩), (448, ⟨(.box 74 4), 0, nob⟩), (449, ⟨.im, 0, (.lit (.int .i64 0))⟩), (450, ⟨(.own 2), 0, (.sl (len v5109) (flat (eInt .i64) v5109))⟩), (451, ⟨(.own 4), 0, (.sl (len (α := Bool) (repL (α := Bool) a5099.N false)) (flat eBool (repL (α := Bool) a5099.N false)))⟩), (452, ⟨(.own 130), 0, (.sl 0 [])⟩), (1472, ⟨.one, 0, nob⟩), (1473, ⟨.im, 0, (.lit (.int .i64 a5099.N))⟩), (1536, ⟨.one, 0, nob⟩), (1537, ⟨.im, 0, (.lit (.int .i64 v5110))⟩)]
def F107_l0_0_X0 (a5099 : GGraph) (a5100 : GJob) (w5115 : List Int) : TS := .on [256, 257, 258, 259, 260, 448, 449, 450, 451, 452] [(256, ⟨(.box 74 4), 0, nob⟩), (257, ⟨.im, 0, (.lit (.int .i64 0))⟩), (258, ⟨(.own 2), 0, (.sl 0 [])⟩), (259, ⟨(.own 4), 0, (.sl 0 [])⟩), (260, ⟨(.own 130), 0, (.sl 0 [])⟩), (448, ⟨(.box 74 4), 0, nob⟩), (449, ⟨.im, 0, (.lit (.int .i64 0))⟩), (450, ⟨(.own 2), 0, (.sl (len w5115) (flat (eInt .i64) w5115))⟩), (451, ⟨(.own 4), 0, (.sl (len (α := Bool) (repL (α := Bool) a5099.N false)) (flat eBool (repL (α := Bool) a5099.N false)))⟩), (452, ⟨(.own 130), 0, (.sl 0 [])⟩)]
theorem F107_l0_0_ok (K : Nat) (a5099 : GGraph) (a5100 : GJob) : ∀ (k : Nat) (v5109 : List Int) (v5110 : Int) (r : List Int), F107_l0_0 K a5099 a5100 k v5109 v5110 = some r → LoopEv E H hn107 0 c107_0 (F107_l0_0_S a5099 a5100 v5109 v5110) (.exit 0) (F107_l0_0_X0 a5099 a5100 r) := by
 intro k
 induction k with
 | zero => intro v5109 v5110 r hF; cases hF
 | succ k ih =>
  intro v5109 v5110 r hF
  rw [F107_l0_0] at hF
  refine cond_some hF (fun h5111 hF => ?_) (fun h5111 hF => ?_)
  ·
   refine bind_some hF (fun r5112 h5113 hF => ?_)
   refine cond_some hF (fun h5114 hF => ?_) (fun _ hF => nomatch hF)
   have pz : HoldAll E H hn107 [.test (ilt v5110 a5099.N) true, .call 95 [.agg (eGGraph a5099), .agg (eGJob a5100), .one (.lit (.int .i64 v5110))] (F95_res r5112), .test (leadsAny (Res.mk [(.one (.im (.lit (.int .i64 r5112.1)))), (.one (.im (.lit (.int .i64 r5112.2))))] [])) false, .test (leqm [(.lit (.int .i64 r5112.1))] 1 1) true, .test (apok (len v5109) 1 8) true, .sl (nadd (len v5109) 1) (lapp (flat (eInt .i64) v5109) [(.lit (.int .i64 r5112.1))]) (len (α := Int) (appL v5109 [r5112.1])) (flat (eInt .i64) (appL v5109 [r5112.1])), .int (wadd .i64 v5110 1) (wadd .i64 v5110 1)] := ⟨h5111, (F95_ok K a5099 a5100 v5110 _ h5113), (leads_ok (by simp [leadsAny, RV.leads, RC.leads, leadsT, hasSl_lit, flat_ns (eInt_ns _), flat_ns eGJob_ns])), rfl, h5114, (app_ok (enc := (eInt .i64)) (v5109 : List Int) [r5112.1]), rfl, trivial⟩
   have h0 := ih _ _ _ hF
   have hn := fun ex ts' => loop_nextC (h := hn107) (l := 0) (c := c107_0) (ts := F107_l0_0_S a5099 a5100 v5109 v5110) (ts1 := (F107_l0_0_S a5099 a5100 (appL v5109 [r5112.1]) (wadd .i64 v5110 1))) (ex := ex) (ts' := ts') pz (by kernel_rfl)
   exact hn _ _ h0
  obtain rfl := Option.some.inj hF
  have pz : HoldAll E H hn107 [.test (ilt v5110 a5099.N) false] := ⟨h5111, trivial⟩
  exact loop_endC (h := hn107) (l := 0) (c := c107_0) (ts := F107_l0_0_S a5099 a5100 v5109 v5110) (ts' := F107_l0_0_X0 a5099 a5100 v5109) (ex := (.exit 0)) pz (by kernel_rfl) trivial
def F107 (K : Nat) (a5099 : GGraph) (a5100 : GJob) : Option (GState × Int) :=
 (F94 K a5099 a5100).bind fun r5101 =>
 bif (ieq r5101 0) then
  (bif (mkok a5099.N a5099.N 1) then
  (F107_l0_0 K a5099 a5100 K [] 0).bind fun w5119 =>
  some ((GState.mk 0 w5119 (repL (α := Bool) a5099.N false) []), 0)
  else none)
 else
 some ((GState.mk 0 [] [] []), r5101)
theorem F107_ok (K : Nat) (a5099 : GGraph) (a5100 : GJob) (r : GState × Int) (hF : F107 K a5099 a5100 = some r) : Evt E H 107 [.agg (eGGraph a5099), .agg (eGJob a5100)] (F107_res r) := by
 rw [F107] at hF
 refine bind_some hF (fun r5101 h5102 hF => ?_)
 refine cond_some hF (fun h5103 hF => ?_) (fun h5103 hF => ?_)
 ·
  refine cond_some hF (fun h5104 hF => ?_) (fun _ hF => nomatch hF)
  refine bind_some hF (fun w5119 h5117 hF => ?_)
  obtain rfl := Option.some.inj hF
  have pz : HoldAll E H hn107 [.call 94 [.agg (eGGraph a5099), .agg (eGJob a5100)] (F94_res r5101), .test (leadsAny (Res.mk [(.one (.im (.lit (.int .i64 r5101))))] [])) false, .test (ine r5101 0) false, .test (mkok a5099.N a5099.N 1) true, .sl (nint a5099.N) (lrep a5099.N [(.lit (.bool false))]) (len (α := Bool) (repL (α := Bool) a5099.N false)) (flat eBool (repL (α := Bool) a5099.N false)), .loop 0 c107_0 (F107_l0_0_S a5099 a5100 [] 0) (.exit 0) (F107_l0_0_X0 a5099 a5100 w5119)] := ⟨(F94_ok K a5099 a5100 _ h5102), (leads_ok (by simp [leadsAny, RV.leads, RC.leads, leadsT, hasSl_lit, flat_ns eBool_ns, flat_ns eGJob_ns])), (ine_t h5103), h5104, (rep_okC (enc := eBool) (n := a5099.N) (x := false) rfl), (F107_l0_0_ok K a5099 a5100 K [] 0 _ h5117), trivial⟩
  exact fn_playC hn107 (r := F107_res ((GState.mk 0 w5119 (repL (α := Bool) a5099.N false) []), 0)) pz (by kernel_rfl) (by kernel_rfl)
 obtain rfl := Option.some.inj hF
 have pz : HoldAll E H hn107 [.call 94 [.agg (eGGraph a5099), .agg (eGJob a5100)] (F94_res r5101), .test (leadsAny (Res.mk [(.one (.im (.lit (.int .i64 r5101))))] [])) false, .test (ine r5101 0) true] := ⟨(F94_ok K a5099 a5100 _ h5102), (leads_ok (by simp [leadsAny, RV.leads, RC.leads, leadsT, hasSl_lit, flat_ns eGJob_ns])), (ine_f h5103), trivial⟩
 exact fn_playC hn107 (r := F107_res ((GState.mk 0 [] [] []), r5101)) pz (by kernel_rfl) (by kernel_rfl)
def beginS (g : GGraph) (j : GJob) : GState := GState.mk 0 ((List.range g.N.toNat).map fun (v : Nat) => startS j (v : Int)) (List.replicate g.N.toNat false) []
theorem F107_spec {K : Nat} (hK : 1000 ≤ K) (g : GGraph) (j : GJob) : F107 K g j = some (bif ieq (jcheck g j) 0 then (beginS g j, 0) else (GState.mk 0 [] [] [], jcheck g j)) := by
 rw [F107, F94_spec (by omega), Option.bind_some]
 cases hc : ieq (jcheck g j) 0
 · rfl
 · obtain ⟨hg, p1, p2, p3, p4, p5, p6, p7, p8⟩ := jcheck_ok hc
   obtain ⟨g1, g2, _, _⟩ := gcheck_ok hg
   have hmk : mkok g.N g.N 1 = true := by simp [mkok]; omega
   let step : Nat → List Int → (List Int → Option (List Int)) → Option (List Int) := fun i s c => (F95 K g j (i : Int)).bind fun r => bif (apok (len s) 1 8) then c (appL s [r.1]) else none
   have h := scanN (N := g.N) (L := fun k s i => F107_l0_0 K g j k s i) step (fun s => some s) (fun k s i _ => rfl) (by omega) (K := K) (by omega) []
   have hw : ∀ (l : List Nat) (s : List Int), s.length + l.length ≤ 1000 → (∀ v ∈ l, (v : Int) < g.N) → goL step (fun s => some s) l s = some (s ++ l.map fun (v : Nat) => startS j (v : Int)) := by
     intro l
     induction l with
     | nil => intro s _ _; simp [goL]
     | cons v l ih =>
       intro s hs hm
       simp only [List.length_cons] at hs
       have hv := hm v List.mem_cons_self
       rw [goL]
       show ((F95 K g j (v : Int)).bind fun r => bif (apok (len s) 1 8) then goL step (fun s => some s) l (appL s [r.1]) else none) = _
       have ha : apok (len s) 1 8 = true := decide_eq_true ⟨by show s.length + 1 ≤ _; omega, by show (s.length + 1) * 8 ≤ _; omega⟩
       rw [F95_spec (by omega), hc, ilt_f.2 (by omega : (0 : Int) ≤ (v : Int)), ile_f.2 (by omega : (v : Int) < g.N), Option.bind_some, ha]
       simp only [cond_true, cond_false, Bool.or_false]
       rw [ih _ (by simp [appL]; omega) (fun w hw => hm w (List.mem_cons_of_mem _ hw))]
       simp [appL]
   have h' : F107_l0_0 K g j K [] 0 = some ((List.range g.N.toNat).map fun (v : Nat) => startS j (v : Int)) := by
     rw [show F107_l0_0 K g j K [] 0 = _ from h, hw _ [] (by simp; omega) (fun v hv => by have := List.mem_range.1 hv; omega)]; simp
   rw [cond_true, hmk, cond_true, h', Option.bind_some]; rfl
noncomputable def hn110 : Hint := { H 110 with nt := 48, prot := 0 }
noncomputable def c110_0 : Code := loopOf E 110 0
def F110_res (r5448 : GAnswer) : Res := ⟨[(.agg [(.im (.lit (.int .i64 r5448.Kind))), (.im (.lit (.int .i64 r5448.Step))), (.own 2 (.sl (len r5448.Vals) (flat (eInt .i64) r5448.Vals)))])], []⟩
def F110_l0_0 (K : Nat) (a5148 : GGraph) (a5149 : GJob) : Nat → Int → List Int → List Bool → List GMsg → Option (Int × Int × List Int)
 | 0, _, _, _, _ => none
 | k + 1, v5425, v5426, v5427, v5428 =>
  (F105 K (GState.mk v5425 v5426 v5427 v5428)).bind fun r5429 =>
  bif r5429 then
   (some (1, (v5425, v5426)))
  else
  bif (ile a5149.Limit v5425) then
   (some (3, (v5425, v5426)))
  else
  (F112 K a5148 a5149 (GState.mk v5425 v5426 v5427 v5428)).bind fun r5433 =>
  bif (ieq r5433.2 0) then
   (F110_l0_0 K a5148 a5149 k r5433.1.Step r5433.1.Vals r5433.1.Rest r5433.1.In)
  else
  some (2, (v5425, []))
def F110_l0_0_S (a5148 : GGraph) (a5149 : GJob) (v5425 : Int) (v5426 : List Int) (v5427 : List Bool) (v5428 : List GMsg) : TS := .on [128, 129, 130, 192, 193, 194, 195, 196, 256, 257, 258, 259, 320, 321, 322, 323, 324] [(128, ⟨(.box 62 2), 0, nob⟩), (129, ⟨.im, 0, (.lit (.int .i64 a5148.N))⟩), (130, ⟨.im, 0, (.sl (len a5148.Edges) (flat eGEdge a5148.Edges))⟩), (192, ⟨(.box 64 4), 0, nob⟩), (193, ⟨.im, 0, (.lit (.int .i64 a5149.Prog))⟩), (194, ⟨.im, 0, (.lit (.int .i64 a5149.Source))⟩), (195, ⟨.im, 0, (.lit (.int .i64 a5149.Limit))⟩), (196, ⟨.im, 0, (.lit (.int .i64 a5149.Parts))⟩), (256, ⟨(.box 68 3), 0, nob⟩), (257, ⟨.im, 0, (.lit (.int .i64 0))⟩), (258, ⟨.im, 0, (.lit (.int .i64 0))⟩), (259, ⟨(.own 2), 0, (.sl 0 [])⟩), (320, ⟨(.box 74 4), 0, nob⟩), (321, ⟨.im, 0, (.lit (.int .i64 v5425))⟩), (322, ⟨(.own 2), 0, (.sl (len v5426) (flat (eInt .i64) v5426))⟩), (323, ⟨(.own 4), 0, (.sl (len v5427) (flat eBool v5427))⟩), (324, ⟨(.own 130), 0, (.sl (len v5428) (flat eGMsg v5428))⟩)]
def F110_l0_0_X0 (a5148 : GGraph) (a5149 : GJob) (w5436 : Int × Int × List Int) : TS := .on [256, 257, 258, 259] [(256, ⟨(.box 68 3), 0, nob⟩), (257, ⟨.im, 0, (.lit (.int .i64 w5436.1))⟩), (258, ⟨.im, 0, (.lit (.int .i64 w5436.2.1))⟩), (259, ⟨(.own 2), 0, (.sl (len w5436.2.2) (flat (eInt .i64) w5436.2.2))⟩)]
theorem F110_l0_0_ok (K : Nat) (a5148 : GGraph) (a5149 : GJob) : ∀ (k : Nat) (v5425 : Int) (v5426 : List Int) (v5427 : List Bool) (v5428 : List GMsg) (r : Int × Int × List Int), F110_l0_0 K a5148 a5149 k v5425 v5426 v5427 v5428 = some r → LoopEv E H hn110 0 c110_0 (F110_l0_0_S a5148 a5149 v5425 v5426 v5427 v5428) .ret (F110_l0_0_X0 a5148 a5149 r) := by
 intro k
 induction k with
 | zero => intro v5425 v5426 v5427 v5428 r hF; cases hF
 | succ k ih =>
  intro v5425 v5426 v5427 v5428 r hF
  rw [F110_l0_0] at hF
  refine bind_some hF (fun r5429 h5430 hF => ?_)
  refine cond_some hF (fun h5431 hF => ?_) (fun h5431 hF => ?_)
  ·
   obtain rfl := Option.some.inj hF
   have pz : HoldAll E H hn110 [.call 105 [.agg (eGState (GState.mk v5425 v5426 v5427 v5428))] (F105_res r5429), .test (leadsAny (Res.mk [(.one (.im (.lit (.bool r5429))))] [])) false, .test r5429 true] := ⟨(F105_ok K (GState.mk v5425 v5426 v5427 v5428) _ h5430), (leads_ok (by simp [leadsAny, RV.leads, RC.leads, leadsT, hasSl_lit])), h5431, trivial⟩
   exact loop_endC (h := hn110) (l := 0) (c := c110_0) (ts := F110_l0_0_S a5148 a5149 v5425 v5426 v5427 v5428) (ts' := F110_l0_0_X0 a5148 a5149 (1, (v5425, v5426))) (ex := .ret) pz (by kernel_rfl) trivial
  have pq5440 : ∀ {l : List Cond}, HoldAll E H hn110 l → HoldAll E H hn110 (.call 105 [.agg (eGState (GState.mk v5425 v5426 v5427 v5428))] (F105_res r5429) :: .test (leadsAny (Res.mk [(.one (.im (.lit (.bool r5429))))] [])) false :: .test r5429 false :: l) := fun z => ⟨(F105_ok K (GState.mk v5425 v5426 v5427 v5428) _ h5430), (leads_ok (by simp [leadsAny, RV.leads, RC.leads, leadsT, hasSl_lit])), h5431, z⟩
  refine cond_some hF (fun h5432 hF => ?_) (fun h5432 hF => ?_)
  ·
   obtain rfl := Option.some.inj hF
   have pz : HoldAll E H hn110 [.test (ige v5425 a5149.Limit) true] := ⟨(ige_eq h5432), trivial⟩
   exact loop_endC (h := hn110) (l := 0) (c := c110_0) (ts := F110_l0_0_S a5148 a5149 v5425 v5426 v5427 v5428) (ts' := F110_l0_0_X0 a5148 a5149 (3, (v5425, v5426))) (ex := .ret) (pq5440 pz) (by kernel_rfl) trivial
  refine bind_some hF (fun r5433 h5434 hF => ?_)
  have pq5441 : ∀ {l : List Cond}, HoldAll E H hn110 l → HoldAll E H hn110 (.test (ige v5425 a5149.Limit) false :: .call 112 [.agg (eGGraph a5148), .agg (eGJob a5149), .agg (eGState (GState.mk v5425 v5426 v5427 v5428))] (F112_res r5433) :: .test (leadsAny (Res.mk [(.agg [(.im (.lit (.int .i64 r5433.1.Step))), (.own 2 (.sl (len r5433.1.Vals) (flat (eInt .i64) r5433.1.Vals))), (.own 4 (.sl (len r5433.1.Rest) (flat eBool r5433.1.Rest))), (.own 130 (.sl (len r5433.1.In) (flat eGMsg r5433.1.In)))]), (.one (.im (.lit (.int .i64 r5433.2))))] [])) false :: l) := fun z => ⟨(ige_eq h5432), (F112_ok K a5148 a5149 (GState.mk v5425 v5426 v5427 v5428) _ h5434), (leads_ok (by simp [leadsAny, RV.leads, RC.leads, leadsT, hasSl_lit, flat_ns (eInt_ns _), flat_ns eBool_ns, flat_ns eGJob_ns, flat_ns eGMsg_ns])), z⟩
  refine cond_some hF (fun h5435 hF => ?_) (fun h5435 hF => ?_)
  ·
   have pz : HoldAll E H hn110 [.test (ine r5433.2 0) false] := ⟨(ine_t h5435), trivial⟩
   have h0 := ih _ _ _ _ _ hF
   have hn := fun ex ts' => loop_nextC (h := hn110) (l := 0) (c := c110_0) (ts := F110_l0_0_S a5148 a5149 v5425 v5426 v5427 v5428) (ts1 := (F110_l0_0_S a5148 a5149 r5433.1.Step r5433.1.Vals r5433.1.Rest r5433.1.In)) (ex := ex) (ts' := ts') (pq5440 (pq5441 pz)) (by kernel_rfl)
   exact hn _ _ h0
  obtain rfl := Option.some.inj hF
  have pz : HoldAll E H hn110 [.test (ine r5433.2 0) true] := ⟨(ine_f h5435), trivial⟩
  exact loop_endC (h := hn110) (l := 0) (c := c110_0) (ts := F110_l0_0_S a5148 a5149 v5425 v5426 v5427 v5428) (ts' := F110_l0_0_X0 a5148 a5149 (2, (v5425, []))) (ex := .ret) (pq5440 (pq5441 pz)) (by kernel_rfl) trivial
def F110 (K : Nat) (a5148 : GGraph) (a5149 : GJob) : Option (GAnswer) :=
 (F107 K a5148 a5149).bind fun r5150 =>
 bif (ieq r5150.2 0) then
  ((F110_l0_0 K a5148 a5149 K r5150.1.Step r5150.1.Vals r5150.1.Rest r5150.1.In).bind fun w5444 =>
  some (GAnswer.mk w5444.1 w5444.2.1 w5444.2.2))
 else
 some (GAnswer.mk 4 0 [])
theorem F110_ok (K : Nat) (a5148 : GGraph) (a5149 : GJob) (r : GAnswer) (hF : F110 K a5148 a5149 = some r) : Evt E H 110 [.agg (eGGraph a5148), .agg (eGJob a5149)] (F110_res r) := by
 rw [F110] at hF
 refine bind_some hF (fun r5150 h5151 hF => ?_)
 refine cond_some hF (fun h5152 hF => ?_) (fun h5152 hF => ?_)
 ·
  refine bind_some hF (fun w5444 h5442 hF => ?_)
  obtain rfl := Option.some.inj hF
  have pz : HoldAll E H hn110 [.call 107 [.agg (eGGraph a5148), .agg (eGJob a5149)] (F107_res r5150), .test (leadsAny (Res.mk [(.agg [(.im (.lit (.int .i64 r5150.1.Step))), (.own 2 (.sl (len r5150.1.Vals) (flat (eInt .i64) r5150.1.Vals))), (.own 4 (.sl (len r5150.1.Rest) (flat eBool r5150.1.Rest))), (.own 130 (.sl (len r5150.1.In) (flat eGMsg r5150.1.In)))]), (.one (.im (.lit (.int .i64 r5150.2))))] [])) false, .test (ine r5150.2 0) false, .loop 0 c110_0 (F110_l0_0_S a5148 a5149 r5150.1.Step r5150.1.Vals r5150.1.Rest r5150.1.In) .ret (F110_l0_0_X0 a5148 a5149 w5444)] := ⟨(F107_ok K a5148 a5149 _ h5151), (leads_ok (by simp [leadsAny, RV.leads, RC.leads, leadsT, hasSl_lit, flat_ns (eInt_ns _), flat_ns eBool_ns, flat_ns eGJob_ns, flat_ns eGMsg_ns])), (ine_t h5152), (F110_l0_0_ok K a5148 a5149 K r5150.1.Step r5150.1.Vals r5150.1.Rest r5150.1.In _ h5442), trivial⟩
  exact fn_playC hn110 (r := F110_res (GAnswer.mk w5444.1 w5444.2.1 w5444.2.2)) pz (by kernel_rfl) (by kernel_rfl)
 obtain rfl := Option.some.inj hF
 have pz : HoldAll E H hn110 [.call 107 [.agg (eGGraph a5148), .agg (eGJob a5149)] (F107_res r5150), .test (leadsAny (Res.mk [(.agg [(.im (.lit (.int .i64 r5150.1.Step))), (.own 2 (.sl (len r5150.1.Vals) (flat (eInt .i64) r5150.1.Vals))), (.own 4 (.sl (len r5150.1.Rest) (flat eBool r5150.1.Rest))), (.own 130 (.sl (len r5150.1.In) (flat eGMsg r5150.1.In)))]), (.one (.im (.lit (.int .i64 r5150.2))))] [])) false, .test (ine r5150.2 0) true] := ⟨(F107_ok K a5148 a5149 _ h5151), (leads_ok (by simp [leadsAny, RV.leads, RC.leads, leadsT, hasSl_lit, flat_ns (eInt_ns _), flat_ns eBool_ns, flat_ns eGJob_ns, flat_ns eGMsg_ns])), (ine_f h5152), trivial⟩
 exact fn_playC hn110 (r := F110_res (GAnswer.mk 4 0 [])) pz (by kernel_rfl) (by kernel_rfl)
structure goodS (s : GState) : Prop where
 nice : niceS s
 lin : s.In.length ≤ 80
 lre : s.Rest.length ≤ 24
 lva : s.Vals.length ≤ 24
theorem foldC_ok (p : Int) : ∀ (r : List GMsg) (c : GMsg) (d w : List GMsg), foldC p r c d = .inr w → i64 c.V → (∀ x ∈ r, i64 x.V) → (∀ x ∈ d, i64 x.V) → w.length ≤ d.length + r.length + 1 ∧ ∀ x ∈ w, i64 x.V
 | [], c, d, w, h, hc, _, hd => by
   injection h with h
   subst h
   refine ⟨by simp, fun x hx => ?_⟩
   rcases List.mem_append.1 hx with hx | hx
   · exact hd x hx
   · rw [List.mem_singleton.1 hx]; exact hc
 | x :: r, c, d, w, h, hc, hr, hd => by
   rw [foldC] at h
   have hx := hr x List.mem_cons_self
   have hr' := fun y hy => hr y (List.mem_cons_of_mem _ hy)
   cases h1 : ieq c.To x.To
   · rw [h1, cond_false] at h
     have := foldC_ok p r x (d ++ [c]) w h hx hr' (fun y hy => by
       rcases List.mem_append.1 hy with hy | hy
       · exact hd y hy
       · rw [List.mem_singleton.1 hy]; exact hc)
     rw [List.length_append] at this
     simp only [List.length_singleton] at this
     exact ⟨by simp only [List.length_cons]; omega, this.2⟩
   · rw [h1, cond_true] at h
     cases h2 : ieq (foldS p c.V x.V).2 0
     · rw [h2] at h; cases h
     · rw [h2, cond_true] at h
       have := foldC_ok p r _ d w h (foldS_i64 hc hx) hr' hd
       exact ⟨by simp only [List.length_cons]; omega, this.2⟩
theorem boxS_ok {p : Int} {l : List GMsg} (hl : ∀ x ∈ l, i64 x.V) : (boxS p l).1.length ≤ l.length ∧ ∀ x ∈ (boxS p l).1, i64 x.V := by
 have hn : ∀ x ∈ ([] : List GMsg), i64 x.V := fun x hx => absurd hx List.not_mem_nil
 have hs : ∀ x ∈ sortM l, i64 x.V := fun x hx => hl x ((sortM_perm l).mem_iff.1 hx)
 have hsl := sortM_len l
 rw [boxS]
 cases pbad p
 · rw [cond_false]
   generalize sortM l = m at *
   cases m with
   | nil => exact ⟨Nat.zero_le _, hn⟩
   | cons x r =>
     rw [foldO]
     cases hq : foldC p r x [] with
     | inl e => exact ⟨Nat.zero_le _, hn⟩
     | inr w =>
       have := foldC_ok p r x [] w hq (hs x List.mem_cons_self) (fun y hy => hs y (List.mem_cons_of_mem _ hy)) hn
       simp only [List.length_cons, List.length_nil] at hsl this
       exact ⟨by show w.length ≤ _; omega, this.2⟩
 · exact ⟨Nat.zero_le _, hn⟩
theorem step_ok {g : GGraph} {j : GJob} {s : GState} (h : ieq (stepS g j s).2 0 = true) : ieq (jcheck g j) 0 = true ∧ stRight g j s = true ∧ ieq s.Step 40 = false ∧
   ∃ w, stepA g j s (List.range g.N.toNat) [] [] [] = .inr w ∧ ieq (boxS j.Prog w.2.2).2 0 = true ∧ (stepS g j s).1 = GState.mk (s.Step + 1) w.1 w.2.1 (boxS j.Prog w.2.2).1 := by
 rw [stepS] at h ⊢
 cases hc : ieq (jcheck g j) 0
 · rw [hc, cond_false] at h
   have h' : ieq (jcheck g j) 0 = true := h
   rw [hc] at h'; cases h'
 · rw [hc] at h
   cases hr : stRight g j s
   · rw [hr] at h; cases h
   · rw [hr] at h
     cases h40 : ieq s.Step 40
     · rw [h40] at h
       simp only [cond_true, cond_false] at h ⊢
       cases hA : stepA g j s (List.range g.N.toNat) [] [] [] with
       | inl e =>
         rw [hA] at h
         have he : ieq e 0 = true := h
         exfalso
         have hno : ∀ (l : List Nat) a b c e, stepA g j s l a b c = .inl e → ieq e 0 = false := by
           intro l
           induction l with
           | nil => intro a b c e h; cases h
           | cons v l ih =>
             intro a b c e h
             rw [stepA] at h
             cases hq : ieq (oneS g j s v).2.2.2 0
             · rw [hq] at h
               injection h with h
               rw [← h]; exact hq
             · rw [hq] at h; exact ih _ _ _ _ h
         rw [hno _ _ _ _ _ hA] at he; cases he
       | inr w =>
         rw [hA, stepB] at h
         rw [stepB]
         cases hb : ieq (boxS j.Prog w.2.2).2 0
         · rw [hb, cond_false] at h
           have h' : ieq (boxS j.Prog w.2.2).2 0 = true := h
           rw [hb] at h'; cases h'
         · exact ⟨trivial, trivial, trivial, w, rfl, hb, rfl⟩
     · rw [h40] at h; cases h
theorem step_good {g : GGraph} {j : GJob} {s : GState} (hg : goodS s) (h : ieq (stepS g j s).2 0 = true) : goodS (stepS g j s).1 ∧ (stepS g j s).1.Step = s.Step + 1 := by
 obtain ⟨hc, hr, h40, w, hA, hb, he⟩ := step_ok h
 obtain ⟨hgc, _⟩ := jcheck_ok hc
 obtain ⟨g1, g2, g3, _⟩ := gcheck_ok hgc
 rw [List.range_eq_range'] at hA
 have kw := stepA_keep hg.nice g.N.toNat 0 [] [] [] (keep0 g) w hA
 have hwl := keep_len kw g3
 obtain ⟨b1, b2⟩ := boxS_ok (p := j.Prog) kw.vc
 rw [he]
 refine ⟨⟨⟨kw.va, b2⟩, ?_, ?_, ?_⟩, rfl⟩
 · show (boxS j.Prog w.2.2).1.length ≤ 80; omega
 · show w.2.1.length ≤ 24; rw [kw.lb]; omega
 · show w.1.length ≤ 24; rw [kw.la]; omega
theorem startS_i64 {j : GJob} {v : Int} (h0 : 0 ≤ v) (h : v ≤ 1000) : i64 (startS j v) := by
 rw [startS]
 unfold i64
 cases ieq j.Prog 2
 · cases ieq j.Prog 4
   · cases ieq j.Prog 5
     · cases ieq v j.Source <;> simp
     · simp
   · simp only [cond_true, cond_false]; omega
 · simp only [cond_true]; omega
theorem begin_good {g : GGraph} {j : GJob} (hg : ieq (gcheck g) 0 = true) : goodS (beginS g j) ∧ (beginS g j).Step = 0 := by
 obtain ⟨g1, g2, g3, _⟩ := gcheck_ok hg
 refine ⟨⟨⟨fun v hv => ?_, fun m hm => absurd hm List.not_mem_nil⟩, Nat.zero_le _, by simp [beginS]; omega, by simp [beginS]; omega⟩, rfl⟩
 obtain ⟨n, hn, rfl⟩ := List.mem_map.1 (show v ∈ (List.range g.N.toNat).map fun (v : Nat) => startS j (v : Int) from hv)
 have := List.mem_range.1 hn
 exact startS_i64 (by omega) (by omega)
def runL (g : GGraph) (j : GJob) : Nat → GState → List GState × GAnswer
 | 0, s => ([s], GAnswer.mk 0 s.Step [])
 | f + 1, s => bif restsS s then ([s], GAnswer.mk 1 s.Step s.Vals) else bif ile j.Limit s.Step then ([s], GAnswer.mk 3 s.Step s.Vals)
   else bif ieq (stepS g j s).2 0 then (s :: (runL g j f (stepS g j s).1).1, (runL g j f (stepS g j s).1).2) else ([s], GAnswer.mk 2 s.Step [])
def runS (g : GGraph) (j : GJob) : List GState × GAnswer := bif ieq (jcheck g j) 0 then runL g j 50 (beginS g j) else ([], GAnswer.mk 4 0 [])
theorem F110_loop {K : Nat} (hK : 1000 ≤ K) (g : GGraph) (j : GJob) : ∀ (f k : Nat) (s : GState), goodS s → s.Step ≤ j.Limit → j.Limit - s.Step < f → f ≤ k →
   F110_l0_0 K g j k s.Step s.Vals s.Rest s.In = some ((runL g j f s).2.Kind, ((runL g j f s).2.Step, (runL g j f s).2.Vals)) := by
 intro f
 induction f with
 | zero => intro k s hs h0 hf hk; omega
 | succ f ih =>
   intro k s hs h0 hf hk
   obtain ⟨k, rfl⟩ : ∃ q, k = q + 1 := ⟨k - 1, by omega⟩
   have e : GState.mk s.Step s.Vals s.Rest s.In = s := rfl
   have l1 := hs.lin
   have l2 := hs.lre
   rw [F110_l0_0, e, F105_spec K s (by omega) (by omega), F112_spec hK g j s hs.nice (by omega) (by omega), Option.bind_some, Option.bind_some, runL]
   cases h1 : restsS s
   · cases h2 : ile j.Limit s.Step
     · cases h3 : ieq (stepS g j s).2 0
       · rfl
       · obtain ⟨g1, g2⟩ := step_good hs h3
         have := ile_f.1 h2
         exact ih k (stepS g j s).1 g1 (by omega) (by omega) (by omega)
     · rfl
   · rfl
theorem F110_spec {K : Nat} (hK : 1000 ≤ K) (g : GGraph) (j : GJob) : F110 K g j = some (runS g j).2 := by
 rw [F110, F107_spec hK, Option.bind_some, runS]
 cases hc : ieq (jcheck g j) 0
 · simp only [cond_false, hc]
 · obtain ⟨hg, _, _, _, _, p5, p6, _⟩ := jcheck_ok hc
   obtain ⟨b1, b2⟩ := begin_good (j := j) hg
   have z : ieq 0 0 = true := rfl
   simp only [cond_true, z]
   rw [F110_loop hK g j 50 K (beginS g j) b1 (by omega) (by omega) (by omega)]; rfl
def far : Int := 9223372036854775807
def wayJ (src : Int) : GJob := GJob.mk 1 src 40 1
def dist (s : GState) (v : Int) : Int := s.Vals.getD v.toNat 0
theorem fold1 (a b : Int) : foldS 1 a b = (bif ilt b a then b else a, 0) := by
 have e : pbad 1 = false := rfl
 have e5 : ieq 1 5 = false := rfl
 have e4 : ieq 1 4 = false := rfl
 rw [foldS, e, e5, e4]
 cases ilt b a <;> rfl
theorem foldC1 : ∀ (r : List GMsg) (c : GMsg) (d : List GMsg), ∃ w, foldC 1 r c d = .inr w ∧ (∀ m ∈ w, m ∈ d ∨ m = c ∨ m ∈ r) ∧ (∀ m, (m ∈ d ∨ m = c ∨ m ∈ r) → ∃ m' ∈ w, m'.To = m.To ∧ m'.V ≤ m.V)
 | [], c, d => by
   refine ⟨d ++ [c], rfl, fun m hm => ?_, fun m hm => ⟨m, ?_, rfl, Int.le_refl _⟩⟩
   · rcases List.mem_append.1 hm with h | h
     · exact .inl h
     · exact .inr (.inl (List.mem_singleton.1 h))
   · rcases hm with h | h | h
     · exact List.mem_append.2 (.inl h)
     · exact List.mem_append.2 (.inr (List.mem_singleton.2 h))
     · cases h
 | x :: r, c, d => by
   have z : ieq 0 0 = true := rfl
   rw [foldC, fold1]
   simp only [z, cond_true]
   cases h1 : ieq c.To x.To
   · obtain ⟨w, e, p, q⟩ := foldC1 r x (d ++ [c])
     refine ⟨w, e, fun m hm => ?_, fun m hm => q m ?_⟩
     · rcases p m hm with h | h | h
       · rcases List.mem_append.1 h with h | h
         · exact .inl h
         · exact .inr (.inl (List.mem_singleton.1 h))
       · exact .inr (.inr (List.mem_cons.2 (.inl h)))
       · exact .inr (.inr (List.mem_cons_of_mem _ h))
     · rcases hm with h | h | h
       · exact .inl (List.mem_append.2 (.inl h))
       · exact .inl (List.mem_append.2 (.inr (List.mem_singleton.2 h)))
       · rcases List.mem_cons.1 h with h | h
         · exact .inr (.inl h)
         · exact .inr (.inr h)
   · have hto := ieq_iff.1 h1
     cases h2 : ilt x.V c.V
     · have h2' := ilt_f.1 h2
       obtain ⟨w, e, p, q⟩ := foldC1 r c d
       refine ⟨w, e, fun m hm => ?_, fun m hm => ?_⟩
       · rcases p m hm with h | h | h
         · exact .inl h
         · exact .inr (.inl h)
         · exact .inr (.inr (List.mem_cons_of_mem _ h))
       · rcases hm with h | h | h
         · exact q m (.inl h)
         · exact q m (.inr (.inl h))
         · rcases List.mem_cons.1 h with h | h
           · subst h
             obtain ⟨m', a, b, e'⟩ := q c (.inr (.inl rfl))
             exact ⟨m', a, by omega, by omega⟩
           · exact q m (.inr (.inr h))
     · have h2' := ilt_iff.1 h2
       have hx : GMsg.mk c.To x.V = x := by rw [hto]
       simp only [cond_true, hx]
       obtain ⟨w, e, p, q⟩ := foldC1 r x d
       refine ⟨w, e, fun m hm => ?_, fun m hm => ?_⟩
       · rcases p m hm with h | h | h
         · exact .inl h
         · exact .inr (.inr (List.mem_cons.2 (.inl h)))
         · exact .inr (.inr (List.mem_cons_of_mem _ h))
       · rcases hm with h | h | h
         · exact q m (.inl h)
         · subst h
           obtain ⟨m', a, b, e'⟩ := q x (.inr (.inl rfl))
           exact ⟨m', a, by omega, by omega⟩
         · rcases List.mem_cons.1 h with h | h
           · exact q m (.inr (.inl h))
           · exact q m (.inr (.inr h))
theorem box1 (l : List GMsg) : (∀ m ∈ (boxS 1 l).1, m ∈ l) ∧ (∀ m ∈ l, ∃ m' ∈ (boxS 1 l).1, m'.To = m.To ∧ m'.V ≤ m.V) := by
 have e : pbad 1 = false := rfl
 have hp : ∀ m, m ∈ sortM l ↔ m ∈ l := fun m => (sortM_perm l).mem_iff
 rw [boxS, e, cond_false]
 generalize sortM l = s at *
 cases s with
 | nil => exact ⟨fun m hm => (by cases hm), fun m hm => (by cases (hp m).2 hm)⟩
 | cons x r =>
   obtain ⟨w, e, p, q⟩ := foldC1 r x []
   rw [foldO, e]
   refine ⟨fun m hm => (hp m).1 ?_, fun m hm => ?_⟩
   · rcases p m hm with h | h | h
     · cases h
     · exact List.mem_cons.2 (.inl h)
     · exact List.mem_cons_of_mem _ h
   · rcases List.mem_cons.1 ((hp m).2 hm) with h | h
     · exact q m (.inr (.inl h))
     · exact q m (.inr (.inr h))
theorem sendA1 {val many : Int} : ∀ {l : List GEdge} {s r : List GMsg}, sendA 1 val many l s = some r → (∀ m, m ∈ r ↔ m ∈ s ∨ ∃ e ∈ l, m = GMsg.mk e.To (val + e.W)) ∧ ∀ e ∈ l, i64 (val + e.W)
 | [], s, r, h => by injection h with h; subst h; simp
 | e :: l, s, r, h => by
   have hs : sendS 1 val e many = addS val e.W := rfl
   rw [sendA, hs, addS] at h
   cases hf : fitsB (val + e.W)
   · rw [hf] at h; cases h
   · rw [hf] at h
     simp only [cond_true] at h
     obtain ⟨p, q⟩ := sendA1 h
     refine ⟨fun m => ?_, fun d hd => ?_⟩
     · rw [p m, List.mem_append, List.mem_singleton]
       constructor
       · rintro ((h | h) | ⟨d, hd, h⟩)
         · exact .inl h
         · exact .inr ⟨e, List.mem_cons_self, h⟩
         · exact .inr ⟨d, List.mem_cons_of_mem _ hd, h⟩
       · rintro (h' | ⟨d, hd, h'⟩)
         · exact .inl (.inl h')
         · rcases List.mem_cons.1 hd with hd | hd
           · rw [hd] at h'; exact .inl (.inr h')
           · exact .inr ⟨d, hd, h'⟩
     · rcases List.mem_cons.1 hd with rfl | hd
       · exact fitsB_iff.1 hf
       · exact q d hd
def newD (s : GState) (v : Nat) : Int := bif (atS s.In (v : Int)).2 then (bif ilt (atS s.In (v : Int)).1 (s.Vals.getD v 0) then (atS s.In (v : Int)).1 else s.Vals.getD v 0) else s.Vals.getD v 0
def movedD (src : Int) (s : GState) (v : Nat) : Prop := (s.Step = 0 ∧ (v : Int) = src) ∨ newD s v ≠ s.Vals.getD v 0
theorem one1 {g : GGraph} {src : Int} {s : GState} {v : Nat} (hc : ieq (jcheck g (wayJ src)) 0 = true) (hvN : (v : Int) < g.N) (h0 : 0 ≤ s.Step) (h40 : s.Step ≤ 40)
   (hrest : s.Step = 0 → s.Rest.getD v false = false) (he : ieq (oneS g (wayJ src) s v).2.2.2 0 = true) :
   (oneS g (wayJ src) s v).1 = newD s v ∧ (movedD src s v → (∀ m, m ∈ (oneS g (wayJ src) s v).2.1 ↔ ∃ e ∈ outs g (v : Int), m = GMsg.mk e.To (newD s v + e.W)) ∧ ∀ e ∈ outs g (v : Int), i64 (newD s v + e.W)) ∧ (¬ movedD src s v → (oneS g (wayJ src) s v).2.1 = []) := by
 cases hr : s.Rest.getD v false && !(atS s.In (v : Int)).2
 · have hT : oneS g (wayJ src) s v = moveS 1 (turnM 1 src s.Step (v : Int) (s.Vals.getD v 0) (newD s v)) (newD s v) (manyO g (v : Int)) (outs g (v : Int)) := by
     have e5 : ieq (wayJ src).Prog 5 = false := rfl
     have hV : turnV (wayJ src).Prog (s.Vals.getD v 0) (atS s.In (v : Int)).1 (atS s.In (v : Int)).2 = newD s v := by
       rw [turnV, show (wayJ src).Prog = 1 from rfl, fold1, newD]
     rw [oneS, hr, turnS, hc, ilt_f.2 (by omega : (0 : Int) ≤ (v : Int)), ile_f.2 hvN, ilt_f.2 h0, ilt_f.2 h40, e5, hV]; rfl
   rw [hT] at he ⊢
   have hm : turnM 1 src s.Step (v : Int) (s.Vals.getD v 0) (newD s v) = true ↔ movedD src s v := by
     have o1 : ieq 1 1 = true := rfl
     rw [turnM, movedD, o1]
     cases q1 : ieq s.Step 0
     · have q1' := ieq_f.1 q1
       cases q3 : ieq (newD s v) (s.Vals.getD v 0)
       · simp [ine_f q3, ieq_f.1 q3, q1']
       · simp [ine_t q3, ieq_iff.1 q3, q1']
     · have q1' := ieq_iff.1 q1
       cases q2 : ieq (v : Int) src
       · have q2' := ieq_f.1 q2
         cases q3 : ieq (newD s v) (s.Vals.getD v 0)
         · simp [ine_f q3, ieq_f.1 q3, q2']
         · simp [ine_t q3, ieq_iff.1 q3, q2']
       · have q2' := ieq_iff.1 q2
         simp [q1', q2']
   cases hmv : turnM 1 src s.Step (v : Int) (s.Vals.getD v 0) (newD s v)
   · rw [hmv] at hm
     have hno : ¬ movedD src s v := fun q => by have := hm.2 q; cases this
     exact ⟨rfl, fun q => absurd q hno, fun _ => rfl⟩
   · rw [hmv] at hm he
     have hyes : movedD src s v := hm.1 rfl
     rw [moveS, cond_true] at he ⊢
     cases hA : sendA 1 (newD s v) (manyO g (v : Int)) (outs g (v : Int)) [] with
     | none => rw [hA] at he; cases he
     | some r =>
       obtain ⟨p, q⟩ := sendA1 hA
       refine ⟨rfl, fun _ => ⟨fun m => ?_, q⟩, fun h => absurd hyes h⟩
       show m ∈ r ↔ _
       rw [p m]; simp
 · simp only [Bool.and_eq_true, Bool.not_eq_true'] at hr
   have hT : oneS g (wayJ src) s v = (s.Vals.getD v 0, [], true, 0) := by rw [oneS, hr.1, hr.2]; rfl
   have hn : newD s v = s.Vals.getD v 0 := by rw [newD, hr.2]; rfl
   have hno : ¬ movedD src s v := fun q => by
     rcases q with ⟨q, _⟩ | q
     · have := hrest q; rw [this] at hr; cases hr.1
     · exact q hn
   rw [hT, hn]
   exact ⟨rfl, fun q => absurd q hno, fun _ => rfl⟩
theorem gather {g : GGraph} {j : GJob} {s : GState} : ∀ (n i : Nat) (a : List Int) (b : List Bool) (c : List GMsg) (w : Tri), stepA g j s (List.range' i n) a b c = .inr w → a.length = i →
   (∀ v, i ≤ v → v < i + n → ieq (oneS g j s v).2.2.2 0 = true ∧ w.1[v]? = some (oneS g j s v).1) ∧ (∀ v, v < i → w.1[v]? = a[v]?) ∧ (∀ m, m ∈ w.2.2 ↔ m ∈ c ∨ ∃ v, i ≤ v ∧ v < i + n ∧ m ∈ (oneS g j s v).2.1) := by
 intro n
 induction n with
 | zero =>
   intro i a b c w h ha
   injection h with h
   subst h
   exact ⟨fun v h1 h2 => by omega, fun v _ => rfl, fun m => ⟨fun h => .inl h, fun h => h.elim id fun ⟨v, h1, h2, _⟩ => by omega⟩⟩
 | succ n ih =>
   intro i a b c w h ha
   rw [List.range'_succ, stepA] at h
   cases hq : ieq (oneS g j s i).2.2.2 0
   · rw [hq] at h; cases h
   · rw [hq, cond_true] at h
     obtain ⟨p, q, r⟩ := ih (i + 1) _ _ _ w h (by simp [ha])
     refine ⟨fun v h1 h2 => ?_, fun v hv => ?_, fun m => ?_⟩
     · rcases Nat.lt_or_ge i v with h3 | h3
       · exact p v (by omega) (by omega)
       · have : v = i := by omega
         subst this
         refine ⟨hq, ?_⟩
         rw [q v (by omega), List.getElem?_append_right (by omega), ha]; simp
     · rw [q v (by omega), List.getElem?_append_left (by omega)]
     · rw [r m, List.mem_append]
       constructor
       · rintro ((h | h) | ⟨v, h1, h2, h3⟩)
         · exact .inl h
         · exact .inr ⟨i, Nat.le_refl _, by omega, h⟩
         · exact .inr ⟨v, by omega, by omega, h3⟩
       · rintro (h | ⟨v, h1, h2, h3⟩)
         · exact .inl (.inl h)
         · rcases Nat.lt_or_ge i v with h4 | h4
           · exact .inr ⟨v, by omega, by omega, h3⟩
           · have : v = i := by omega
             subst this
             exact .inl (.inr h3)
theorem at_mem {l : List GMsg} (hp : l.Pairwise fun a b => a.To < b.To) {m : GMsg} (hm : m ∈ l) : atS l m.To = (m.V, true) := by
 have : l.find? (fun x => ieq x.To m.To) = some m := by
   induction l with
   | nil => cases hm
   | cons x l ih =>
     rw [List.find?_cons]
     rcases List.mem_cons.1 hm with rfl | h
     · rw [ieq_refl]
     · have hlt := (List.pairwise_cons.1 hp).1 m h
       rw [ieq_f.2 (by omega : x.To ≠ m.To)]
       exact ih (List.pairwise_cons.1 hp).2 h
 rw [atS, this]
theorem at_some {l : List GMsg} {v : Int} (h : (atS l v).2 = true) : ∃ m ∈ l, m.To = v ∧ (atS l v).1 = m.V := by
 rw [atS] at h ⊢
 cases hq : l.find? (fun x => ieq x.To v) with
 | none => rw [hq] at h; cases h
 | some m => exact ⟨m, List.mem_of_find?_eq_some hq, ieq_iff.1 (by simpa using List.find?_some hq), rfl⟩
theorem newD_le (s : GState) (n : Nat) : newD s n ≤ s.Vals.getD n 0 := by
 rw [newD]
 cases (atS s.In (n : Int)).2
 · exact Int.le_refl _
 · cases h : ilt (atS s.In (n : Int)).1 (s.Vals.getD n 0)
   · exact Int.le_refl _
   · have := ilt_iff.1 h
     show (atS s.In (n : Int)).1 ≤ _; omega
theorem newD_or (s : GState) (n : Nat) : newD s n = s.Vals.getD n 0 ∨ ∃ m ∈ s.In, m.To = (n : Int) ∧ newD s n = m.V := by
 rw [newD]
 cases h2 : (atS s.In (n : Int)).2
 · exact .inl rfl
 · cases h : ilt (atS s.In (n : Int)).1 (s.Vals.getD n 0)
   · exact .inl rfl
   · obtain ⟨m, hm, h3, h4⟩ := at_some h2
     exact .inr ⟨m, hm, h3, h4⟩
theorem newD_msg {s : GState} (hp : s.In.Pairwise fun a b => a.To < b.To) {n : Nat} {m : GMsg} (hm : m ∈ s.In) (ht : m.To = (n : Int)) : newD s n ≤ m.V := by
 have := at_mem hp hm
 rw [newD, ← ht, this]
 cases h : ilt m.V (s.Vals.getD n 0)
 · have := ilt_f.1 h
   simp only [cond_true, cond_false]; omega
 · exact Int.le_refl _
structure wayS (g : GGraph) (src : Int) (s : GState) : Prop where
 zz : dist s src = 0
 nn : ∀ v, 0 ≤ dist s v
 mm : ∀ m ∈ s.In, ∃ e ∈ g.Edges, e.To = m.To ∧ dist s e.From ≠ far ∧ dist s e.From + e.W ≤ m.V
 ee : ∀ v, 0 ≤ v → v < g.N → v ≠ src → dist s v ≠ far → ∃ e ∈ g.Edges, e.To = v ∧ dist s e.From ≠ far ∧ dist s e.From + e.W ≤ dist s v
 aa : ∀ e ∈ g.Edges, dist s e.From ≠ far → (s.Step = 0 ∧ e.From = src) ∨ (dist s e.From + e.W ≤ far ∧ (dist s e.To ≤ dist s e.From + e.W ∨ ∃ m ∈ s.In, m.To = e.To ∧ m.V ≤ dist s e.From + e.W))
 rr : s.Step = 0 → ∀ v : Nat, s.Rest.getD v false = false
 s0 : 0 ≤ s.Step
theorem way_step {g : GGraph} {src : Int} {s : GState} (hg : goodS s) (hw : wayS g src s) (h : ieq (stepS g (wayJ src) s).2 0 = true) : wayS g src (stepS g (wayJ src) s).1 := by
 obtain ⟨hc, hr, h40, w, hA, hb, he⟩ := step_ok h
 obtain ⟨_, s1, s2, s3, s4, s5⟩ := stRight_ok hr
 obtain ⟨hgc, _, _, p3, p4, _⟩ := jcheck_ok hc
 have p3' : 0 ≤ src := p3
 have p4' : src < g.N := p4
 obtain ⟨g1, g2, g3, g4⟩ := gcheck_ok hgc
 have hed : ∀ e ∈ g.Edges, 0 ≤ e.From ∧ e.From < g.N ∧ 0 ≤ e.To ∧ e.To < g.N ∧ 0 ≤ e.W := fun e hE => by
   have := badE_ok (gchk_mem g4 e hE); omega
 obtain ⟨hpw, hrange⟩ := inSt_ok s5
 rw [List.range_eq_range'] at hA
 have kw := stepA_keep hg.nice g.N.toNat 0 [] [] [] (keep0 g) w hA
 obtain ⟨ga, _, gc⟩ := gather g.N.toNat 0 [] [] [] w hA rfl
 have hone := fun (v : Nat) (hv : v < g.N.toNat) => one1 (g := g) (src := src) (s := s) (v := v) hc (by omega) s1 s2 (fun q => hw.rr q v) (ga v (Nat.zero_le _) (by omega)).1
 generalize ht : (stepS g (wayJ src) s).1 = t at he ⊢
 have tV : t.Vals = w.1 := by rw [he]
 have tI : t.In = (boxS 1 w.2.2).1 := by rw [he]; rfl
 have tS : t.Step = s.Step + 1 := by rw [he]
 have lw : w.1.length = g.N.toNat := by have := kw.la; omega
 have hd : ∀ v : Int, 0 ≤ v → v < g.N → dist t v = newD s v.toNat := fun v h1 h2 => by
   rw [dist, tV, List.getD_eq_getElem?_getD, (ga v.toNat (Nat.zero_le _) (by omega)).2, (hone v.toNat (by omega)).1]; rfl
 have hds : ∀ v : Int, dist s v = s.Vals.getD v.toNat 0 := fun v => rfl
 have hle : ∀ v : Int, 0 ≤ v → v < g.N → dist t v ≤ dist s v := fun v h1 h2 => by rw [hd v h1 h2, hds]; exact newD_le s _
 have hms : ∀ m ∈ s.In, dist t m.To ≤ m.V := fun m hm => by
   have := hrange m hm
   rw [hd m.To (by omega) (by omega)]
   exact newD_msg hpw hm (by omega)
 have hor : ∀ v : Int, 0 ≤ v → v < g.N → dist t v = dist s v ∨ ∃ m ∈ s.In, m.To = v ∧ dist t v = m.V := fun v h1 h2 => by
   rw [hd v h1 h2, hds]
   rcases newD_or s v.toNat with q | ⟨m, hm, q1, q2⟩
   · exact .inl q
   · exact .inr ⟨m, hm, by omega, q2⟩
 have hmx : ∀ v : Int, 0 ≤ v → v < g.N → dist s v ≤ far := fun v h1 h2 => by
   rw [hds, List.getD_eq_getElem?_getD]
   cases hq : s.Vals[v.toNat]? with
   | none => show (0 : Int) ≤ far; unfold far; omega
   | some x => have := hg.nice.1 x (List.mem_of_getElem? hq); unfold i64 at this; unfold far; show x ≤ _; omega
 have hm0 : ∀ m ∈ s.In, 0 ≤ m.V := fun m hm => by
   obtain ⟨e, hE, _, _, q⟩ := hw.mm m hm
   have := hw.nn e.From
   have := hed e hE
   omega
 have zz : dist t src = 0 := by
   have hz := hw.zz
   have h1 := hle src p3' p4'
   rcases hor src p3' p4' with q | ⟨m, hm, _, q⟩
   · omega
   · have := hm0 m hm; omega
 -- a message of the step
 have hc2 : ∀ m, m ∈ w.2.2 ↔ ∃ v : Nat, v < g.N.toNat ∧ m ∈ (oneS g (wayJ src) s v).2.1 := fun m => by
   rw [gc m]
   constructor
   · rintro (q | ⟨v, _, h2, h3⟩)
     · cases q
     · exact ⟨v, by omega, h3⟩
   · rintro ⟨v, h2, h3⟩
     exact .inr ⟨v, Nat.zero_le _, by omega, h3⟩
 have hout : ∀ (v : Nat) e, e ∈ outs g (v : Int) ↔ e ∈ g.Edges ∧ e.From = (v : Int) := fun v e => by
   rw [outs, hgc, cond_true, List.mem_filter, ieq_iff]
 obtain ⟨bx1, bx2⟩ := box1 w.2.2
 have mm : ∀ m ∈ t.In, ∃ e ∈ g.Edges, e.To = m.To ∧ dist t e.From ≠ far ∧ dist t e.From + e.W ≤ m.V := fun m hm => by
   rw [tI] at hm
   obtain ⟨v, hv, hmv⟩ := (hc2 m).1 (bx1 m hm)
   obtain ⟨o1, o2, o3⟩ := hone v hv
   by_cases hmo : movedD src s v
   · obtain ⟨e, hE, rfl⟩ := ((o2 hmo).1 m).1 hmv
     obtain ⟨hE1, hE2⟩ := (hout v e).1 hE
     have hdv : dist t e.From = newD s v := by rw [hE2, hd (v : Int) (by omega) (by omega)]; rfl
     refine ⟨e, hE1, rfl, ?_, by rw [hdv]; exact Int.le_refl _⟩
     rcases hmo with ⟨_, q⟩ | q
     · rw [hE2, q, zz]; unfold far; omega
     · have h1 := newD_le s v
       have h2 := hmx (v : Int) (by omega) (by omega)
       rw [hds] at h2
       rw [hdv]
       have : (v : Int).toNat = v := by omega
       rw [this] at h2
       omega
   · rw [o3 hmo] at hmv; cases hmv
 refine ⟨zz, fun v => ?_, mm, fun v h1 h2 h3 h4 => ?_, fun e hE hfar => .inr ?_, fun q => by omega, by omega⟩
 · by_cases hv : v.toNat < g.N.toNat
   · have e1 : dist t v = dist t (v.toNat : Int) := rfl
     rw [e1]
     rcases hor (v.toNat : Int) (by omega) (by omega) with q | ⟨m, hm, _, q⟩
     · rw [q]; exact hw.nn _
     · rw [q]; exact hm0 m hm
   · rw [dist, tV, List.getD_eq_getElem?_getD, List.getElem?_eq_none (by omega)]; exact Int.le_refl _
 · rcases hor v h1 h2 with q | ⟨m, hm, q1, q2⟩
   · obtain ⟨e, hE, a1, a2, a3⟩ := hw.ee v h1 h2 h3 (by rw [← q]; exact h4)
     obtain ⟨f1, f2, _⟩ := hed e hE
     have h5 := hle e.From f1 f2
     have h6 := hmx e.From f1 f2
     exact ⟨e, hE, a1, by omega, by omega⟩
   · obtain ⟨e, hE, a1, a2, a3⟩ := hw.mm m hm
     obtain ⟨f1, f2, _⟩ := hed e hE
     have h5 := hle e.From f1 f2
     have h6 := hmx e.From f1 f2
     exact ⟨e, hE, by omega, by omega, by omega⟩
 · obtain ⟨f1, f2, f3, f4, f5⟩ := hed e hE
   have hfn : e.From.toNat < g.N.toNat := by omega
   obtain ⟨o1, o2, o3⟩ := hone e.From.toNat hfn
   have eF : ((e.From.toNat : Nat) : Int) = e.From := by omega
   by_cases hmo : movedD src s e.From.toNat
   · obtain ⟨q1, q2⟩ := o2 hmo
     have hEo : e ∈ outs g ((e.From.toNat : Nat) : Int) := (hout _ e).2 ⟨hE, eF.symm⟩
     have hdv : dist t e.From = newD s e.From.toNat := hd e.From f1 f2
     have hi := q2 e hEo
     unfold i64 at hi
     refine ⟨by rw [hdv]; unfold far; omega, .inr ?_⟩
     have hin : GMsg.mk e.To (newD s e.From.toNat + e.W) ∈ w.2.2 := (hc2 _).2 ⟨e.From.toNat, hfn, (q1 _).2 ⟨e, hEo, rfl⟩⟩
     obtain ⟨m', a1, a2, a3⟩ := bx2 _ hin
     exact ⟨m', by rw [tI]; exact a1, a2, by rw [hdv]; exact a3⟩
   · have hnm : newD s e.From.toNat = s.Vals.getD e.From.toNat 0 := by
       by_cases q : newD s e.From.toNat = s.Vals.getD e.From.toNat 0
       · exact q
       · exact absurd (.inr q) hmo
     have hsame : dist t e.From = dist s e.From := by rw [hd e.From f1 f2, hnm, hds]
     rcases hw.aa e hE (by rw [← hsame]; exact hfar) with ⟨q1, q2⟩ | ⟨q1, q2⟩
     · exact absurd (.inl ⟨q1, by omega⟩) hmo
     · refine ⟨by omega, .inl ?_⟩
       have h5 := hle e.To f3 f4
       rcases q2 with q2 | ⟨m, hm, a1, a2⟩
       · omega
       · have := hms m hm
         rw [a1] at this; omega
theorem way_begin {g : GGraph} {src : Int} (hc : ieq (jcheck g (wayJ src)) 0 = true) : wayS g src (beginS g (wayJ src)) := by
 obtain ⟨hgc, _, _, p3, p4, _⟩ := jcheck_ok hc
 have p3' : 0 ≤ src := p3
 have p4' : src < g.N := p4
 obtain ⟨g1, g2, g3, g4⟩ := gcheck_ok hgc
 have hd : ∀ v : Int, dist (beginS g (wayJ src)) v = if v.toNat < g.N.toNat then (if (v.toNat : Int) = src then 0 else far) else 0 := fun v => by
   rw [dist, beginS, List.getD_eq_getElem?_getD, List.getElem?_map]
   by_cases h : v.toNat < g.N.toNat
   · rw [List.getElem?_range h, if_pos h]
     show startS (wayJ src) (v.toNat : Int) = _
     have e2 : ieq (wayJ src).Prog 2 = false := rfl
     have e4 : ieq (wayJ src).Prog 4 = false := rfl
     have e5 : ieq (wayJ src).Prog 5 = false := rfl
     rw [startS, e2, e4, e5, show (wayJ src).Source = src from rfl]
     cases hq : ieq (v.toNat : Int) src
     · rw [if_neg (ieq_f.1 hq)]; rfl
     · rw [if_pos (ieq_iff.1 hq)]; rfl
   · rw [List.getElem?_eq_none (by simpa using h), if_neg h]; rfl
 have hed : ∀ e ∈ g.Edges, 0 ≤ e.From ∧ e.From < g.N := fun e hE => by
   have := badE_ok (gchk_mem g4 e hE); omega
 refine ⟨?_, fun v => ?_, fun m hm => (by cases hm), fun v h1 h2 h3 h4 => ?_, fun e hE hf => .inl ⟨rfl, ?_⟩, fun _ v => ?_, Int.le_refl _⟩
 · rw [hd, if_pos (by omega), if_pos (by omega)]
 · rw [hd]; unfold far; split
   · split <;> omega
   · omega
 · rw [hd, if_pos (by omega), if_neg (by omega)] at h4
   exact absurd rfl h4
 · obtain ⟨f1, f2⟩ := hed e hE
   rw [hd, if_pos (by omega)] at hf
   by_cases q : ((e.From.toNat : Nat) : Int) = src
   · omega
   · rw [if_neg q] at hf; exact absurd rfl hf
 · rw [beginS, List.getD_eq_getElem?_getD, List.getElem?_replicate]
   split <;> rfl
theorem way_run {g : GGraph} {src : Int} : ∀ (f : Nat) (s : GState), goodS s → wayS g src s → s.Vals.length = g.N.toNat ∧ s.Rest.length = g.N.toNat → s.Step ≤ 40 → 40 - s.Step < f →
   (runL g (wayJ src) f s).2.Kind = 2 ∨ (runL g (wayJ src) f s).2.Kind = 3 ∨ ((runL g (wayJ src) f s).2.Kind = 1 ∧ ∃ t, goodS t ∧ wayS g src t ∧ restsS t = true ∧ (t.Vals.length = g.N.toNat ∧ t.Rest.length = g.N.toNat) ∧ (runL g (wayJ src) f s).2.Vals = t.Vals) := by
 intro f
 induction f with
 | zero => intro s _ _ _ _ h; omega
 | succ f ih =>
   intro s hg hw hl h40 hf
   rw [runL]
   cases hx : restsS s
   · cases h2 : ile (wayJ src).Limit s.Step
     · have h2' : s.Step < 40 := ile_f.1 h2
       cases h3 : ieq (stepS g (wayJ src) s).2 0
       · exact .inl rfl
       · obtain ⟨g1, g2⟩ := step_good hg h3
         obtain ⟨hc, hr, _, w, hA, hb, he⟩ := step_ok h3
         rw [List.range_eq_range'] at hA
         have kw := stepA_keep hg.nice g.N.toNat 0 [] [] [] (keep0 g) w hA
         have ka := kw.la
         have kb := kw.lb
         exact ih _ g1 (way_step hg hw h3) (by rw [he]; exact ⟨show w.1.length = _ by omega, show w.2.1.length = _ by omega⟩) (by omega) (by omega)
     · exact .inr (.inl rfl)
   · exact .inr (.inr ⟨rfl, s, hg, hw, hx, hl, rfl⟩)
noncomputable def hn34 : Hint := { H 34 with nt := 150, prot := 0 }
noncomputable def c34_0 : Code := loopOf E 34 0
noncomputable def c34_1 : Code := loopOf E 34 1
def F34_res (r5871 : Bool) : Res := ⟨[(.one (.im (.lit (.bool r5871))))], []⟩
def F34_l1_1 (K : Nat) (v5752 : Int) (v5753 : Int) (v5754 : List GEdge) (v5755 : Int) (v5756 : Int) (v5757 : List Int) (v5758 : Int) : Nat → Int → Option ((Unit) ⊕ (Unit))
 | 0, _ => none
 | k + 1, v5773 =>
  bif (ilt v5773 (nlen (len v5754))) then
   (bif (inr v5773 (len v5754)) then
   (elAt v5754 v5773).bind fun x5776 =>
   bif (ieq x5776.To v5758) then
    (bif (inr x5776.From (len v5757)) then
    (elAt v5757 x5776.From).bind fun x5780 =>
    bif (ieq x5780 9223372036854775807) then
     (F34_l1_1 K v5752 v5753 v5754 v5755 v5756 v5757 v5758 k (wadd .i64 v5773 1))
    else
    bif (ilt (wsub .i64 9223372036854775807 x5776.W) x5780) then
     (some (.inl ()))
    else
    bif (inr v5758 (len v5757)) then
    (elAt v5757 v5758).bind fun x5785 =>
    bif (ilt (wadd .i64 x5780 x5776.W) x5785) then
     (some (.inl ()))
    else
    F34_l1_1 K v5752 v5753 v5754 v5755 v5756 v5757 v5758 k (wadd .i64 v5773 1)
    else none
    else none)
   else
   F34_l1_1 K v5752 v5753 v5754 v5755 v5756 v5757 v5758 k (wadd .i64 v5773 1)
   else none)
  else
  some (.inr ())
def F34_l1_1_S (v5752 : Int) (v5753 : Int) (v5754 : List GEdge) (v5755 : Int) (v5756 : Int) (v5757 : List Int) (v5758 : Int) (v5773 : Int) : TS := .on [64, 65, 128, 129, 130, 320, 321, 322, 323, 384, 385, 448, 449, 512, 513] [(64, ⟨.one, 0, nob⟩), (65, ⟨.im, 0, (.lit (.int .i64 v5752))⟩), (128, ⟨(.box 62 2), 0, nob⟩), (129, ⟨.im, 0, (.lit (.int .i64 v5753))⟩), (130, ⟨.im, 0, (.sl (len v5754) (flat eGEdge v5754))⟩), (320, ⟨(.box 68 3), 0, nob⟩), (321, ⟨.im, 0, (.lit (.int .i64 v5755))⟩), (322, ⟨.im, 0, (.lit (.int .i64 v5756))⟩), (323, ⟨(.own 2), 0, (.sl (len v5757) (flat (eInt .i64) v5757))⟩), (384, ⟨.one, 0, nob⟩), (385, ⟨.im, 0, (.lit (.int .i64 v5758))⟩), (448, ⟨.one, 0, nob⟩), (449, ⟨.im, 0, (.lit (.bool true))⟩), (512, ⟨.one, 0, nob⟩), (513, ⟨.im, 0, (.lit (.int .i64 v5773))⟩)]
def F34_l1_1_X0 (v5752 : Int) (v5753 : Int) (v5754 : List GEdge) (v5755 : Int) (v5756 : Int) (v5757 : List Int) (v5758 : Int) (w5788 : Unit) : TS := .on [256, 257] [(256, ⟨.one, 0, nob⟩), (257, ⟨.im, 0, (.lit (.bool false))⟩)]
def F34_l1_1_X1 (v5752 : Int) (v5753 : Int) (v5754 : List GEdge) (v5755 : Int) (v5756 : Int) (v5757 : List Int) (v5758 : Int) (w5789 : Unit) : TS := .on [64, 65, 128, 129, 130, 320, 321, 322, 323, 384, 385, 448, 449] [(64, ⟨.one, 0, nob⟩), (65, ⟨.im, 0, (.lit (.int .i64 v5752))⟩), (128, ⟨(.box 62 2), 0, nob⟩), (129, ⟨.im, 0, (.lit (.int .i64 v5753))⟩), (130, ⟨.im, 0, (.sl (len v5754) (flat eGEdge v5754))⟩), (320, ⟨(.box 68 3), 0, nob⟩), (321, ⟨.im, 0, (.lit (.int .i64 v5755))⟩), (322, ⟨.im, 0, (.lit (.int .i64 v5756))⟩), (323, ⟨(.own 2), 0, (.sl (len v5757) (flat (eInt .i64) v5757))⟩), (384, ⟨.one, 0, nob⟩), (385, ⟨.im, 0, (.lit (.int .i64 v5758))⟩), (448, ⟨.one, 0, nob⟩), (449, ⟨.im, 0, (.lit (.bool true))⟩)]
theorem F34_l1_1_ok (K : Nat) (v5752 : Int) (v5753 : Int) (v5754 : List GEdge) (v5755 : Int) (v5756 : Int) (v5757 : List Int) (v5758 : Int) : ∀ (k : Nat) (v5773 : Int) (r : (Unit) ⊕ (Unit)), F34_l1_1 K v5752 v5753 v5754 v5755 v5756 v5757 v5758 k v5773 = some r → (Sum.elim (fun w => LoopEv E H hn34 2 c34_1 (F34_l1_1_S v5752 v5753 v5754 v5755 v5756 v5757 v5758 v5773) .ret (F34_l1_1_X0 v5752 v5753 v5754 v5755 v5756 v5757 v5758 w)) (fun w => LoopEv E H hn34 2 c34_1 (F34_l1_1_S v5752 v5753 v5754 v5755 v5756 v5757 v5758 v5773) (.exit 2) (F34_l1_1_X1 v5752 v5753 v5754 v5755 v5756 v5757 v5758 w))) r := by
 intro k
 induction k with
 | zero => intro v5773 r hF; cases hF
 | succ k ih =>
  intro v5773 r hF
  rw [F34_l1_1] at hF
  refine cond_some hF (fun h5774 hF => ?_) (fun h5774 hF => ?_)
  ·
   refine cond_some hF (fun h5775 hF => ?_) (fun _ hF => nomatch hF)
   refine bind_some hF (fun x5776 h5777 hF => ?_)
   have pq5790 : ∀ {l : List Cond}, HoldAll E H hn34 l → HoldAll E H hn34 (.int (nlen (len v5754)) (nlen (len v5754)) :: .test (ilt v5773 (nlen (len v5754))) true :: .test (inr v5773 (len v5754)) true :: .sub (flat eGEdge v5754) (nidx v5773 3) 3 [(.lit (.int .i64 x5776.From)), (.lit (.int .i64 x5776.To)), (.lit (.int .i64 x5776.W))] :: l) := fun z => ⟨rfl, h5774, h5775, ⟨rfl, sub_flat0 eGEdge_len h5777 3 (by decide)⟩, z⟩
   refine cond_some hF (fun h5778 hF => ?_) (fun h5778 hF => ?_)
   ·
    refine cond_some hF (fun h5779 hF => ?_) (fun _ hF => nomatch hF)
    refine bind_some hF (fun x5780 h5781 hF => ?_)
    have pq5791 : ∀ {l : List Cond}, HoldAll E H hn34 l → HoldAll E H hn34 (.test (beqb (ine x5776.To v5758) false) true :: .test (beqb (ine x5776.To v5758) false) true :: .test (beqb (ine x5776.To v5758) false) true :: .test (beqb (ine x5776.To v5758) false) true :: .test (beqb (ine x5776.To v5758) false) true :: .test (inr x5776.From (len v5757)) true :: .test (beqb (ine x5776.To v5758) false) true :: .sub (flat (eInt .i64) v5757) (nidx x5776.From 1) 1 [(.lit (.int .i64 x5780))] :: .test (beqb (ine x5776.To v5758) false) true :: .test (ine x5776.To v5758) false :: l) := fun z => ⟨(beqb_ff (ine_t h5778)), (beqb_ff (ine_t h5778)), (beqb_ff (ine_t h5778)), (beqb_ff (ine_t h5778)), (beqb_ff (ine_t h5778)), h5779, (beqb_ff (ine_t h5778)), ⟨rfl, sub_flat0 (eInt_len _) h5781 1 (by decide)⟩, (beqb_ff (ine_t h5778)), (ine_t h5778), z⟩
    refine cond_some hF (fun h5782 hF => ?_) (fun h5782 hF => ?_)
    ·
     have pz : HoldAll E H hn34 [.test (ieq x5780 9223372036854775807) true, .int (wadd .i64 v5773 1) (wadd .i64 v5773 1)] := ⟨h5782, rfl, trivial⟩
     have h0 := ih _ _ hF
     have hn := fun ex ts' => loop_nextC (h := hn34) (l := 2) (c := c34_1) (ts := F34_l1_1_S v5752 v5753 v5754 v5755 v5756 v5757 v5758 v5773) (ts1 := (F34_l1_1_S v5752 v5753 v5754 v5755 v5756 v5757 v5758 (wadd .i64 v5773 1))) (ex := ex) (ts' := ts') (pq5790 (pq5791 pz)) (by kernel_rfl)
     cases r with
     | inl w => exact hn _ _ h0
     | inr w => exact hn _ _ h0
    have pq5792 : ∀ {l : List Cond}, HoldAll E H hn34 l → HoldAll E H hn34 (.test (ieq x5780 9223372036854775807) false :: .test (inr x5776.From (len v5757)) true :: .sub (flat (eInt .i64) v5757) (nidx x5776.From 1) 1 [(.lit (.int .i64 x5780))] :: .int (wsub .i64 9223372036854775807 x5776.W) (wsub .i64 9223372036854775807 x5776.W) :: l) := fun z => ⟨h5782, h5779, ⟨rfl, sub_flat0 (eInt_len _) h5781 1 (by decide)⟩, rfl, z⟩
    refine cond_some hF (fun h5783 hF => ?_) (fun h5783 hF => ?_)
    ·
     obtain rfl := Option.some.inj hF
     have pz : HoldAll E H hn34 [.test (beqb (igt x5780 (wsub .i64 9223372036854775807 x5776.W)) false) false, .test (beqb (igt x5780 (wsub .i64 9223372036854775807 x5776.W)) false) false, .test (beqb (igt x5780 (wsub .i64 9223372036854775807 x5776.W)) false) false, .test (beqb (igt x5780 (wsub .i64 9223372036854775807 x5776.W)) false) false, .test (beqb (igt x5780 (wsub .i64 9223372036854775807 x5776.W)) false) false, .test (beqb (igt x5780 (wsub .i64 9223372036854775807 x5776.W)) false) false, .test (beqb (igt x5780 (wsub .i64 9223372036854775807 x5776.W)) false) false, .test (beqb (igt x5780 (wsub .i64 9223372036854775807 x5776.W)) false) false, .test (beqb (igt x5780 (wsub .i64 9223372036854775807 x5776.W)) false) false, .test (beqb (igt x5780 (wsub .i64 9223372036854775807 x5776.W)) false) false, .test (beqb (igt x5780 (wsub .i64 9223372036854775807 x5776.W)) false) false, .test (beqb (igt x5780 (wsub .i64 9223372036854775807 x5776.W)) false) false, .test (beqb (igt x5780 (wsub .i64 9223372036854775807 x5776.W)) false) false, .test (beqb (igt x5780 (wsub .i64 9223372036854775807 x5776.W)) false) false, .test (beqb (igt x5780 (wsub .i64 9223372036854775807 x5776.W)) false) false, .test (igt x5780 (wsub .i64 9223372036854775807 x5776.W)) true, .test true true] := ⟨(beqb_ft (igt_eq h5783)), (beqb_ft (igt_eq h5783)), (beqb_ft (igt_eq h5783)), (beqb_ft (igt_eq h5783)), (beqb_ft (igt_eq h5783)), (beqb_ft (igt_eq h5783)), (beqb_ft (igt_eq h5783)), (beqb_ft (igt_eq h5783)), (beqb_ft (igt_eq h5783)), (beqb_ft (igt_eq h5783)), (beqb_ft (igt_eq h5783)), (beqb_ft (igt_eq h5783)), (beqb_ft (igt_eq h5783)), (beqb_ft (igt_eq h5783)), (beqb_ft (igt_eq h5783)), (igt_eq h5783), rfl, trivial⟩
     exact loop_endC (h := hn34) (l := 2) (c := c34_1) (ts := F34_l1_1_S v5752 v5753 v5754 v5755 v5756 v5757 v5758 v5773) (ts' := F34_l1_1_X0 v5752 v5753 v5754 v5755 v5756 v5757 v5758 ()) (ex := .ret) (pq5790 (pq5791 (pq5792 pz))) (by kernel_rfl) trivial
    refine cond_some hF (fun h5784 hF => ?_) (fun _ hF => nomatch hF)
    refine bind_some hF (fun x5785 h5786 hF => ?_)
    have pq5793 : ∀ {l : List Cond}, HoldAll E H hn34 l → HoldAll E H hn34 (.test (beqb (igt x5780 (wsub .i64 9223372036854775807 x5776.W)) false) true :: .test (beqb (igt x5780 (wsub .i64 9223372036854775807 x5776.W)) false) true :: .test (beqb (igt x5780 (wsub .i64 9223372036854775807 x5776.W)) false) true :: .test (beqb (igt x5780 (wsub .i64 9223372036854775807 x5776.W)) false) true :: .test (inr v5758 (len v5757)) true :: .test (beqb (igt x5780 (wsub .i64 9223372036854775807 x5776.W)) false) true :: .sub (flat (eInt .i64) v5757) (nidx v5758 1) 1 [(.lit (.int .i64 x5785))] :: .test (beqb (igt x5780 (wsub .i64 9223372036854775807 x5776.W)) false) true :: .test (beqb (igt x5780 (wsub .i64 9223372036854775807 x5776.W)) false) true :: .test (beqb (igt x5780 (wsub .i64 9223372036854775807 x5776.W)) false) true :: .test (beqb (igt x5780 (wsub .i64 9223372036854775807 x5776.W)) false) true :: .test (beqb (igt x5780 (wsub .i64 9223372036854775807 x5776.W)) false) true :: .test (inr x5776.From (len v5757)) true :: .test (beqb (igt x5780 (wsub .i64 9223372036854775807 x5776.W)) false) true :: .sub (flat (eInt .i64) v5757) (nidx x5776.From 1) 1 [(.lit (.int .i64 x5780))] :: .test (beqb (igt x5780 (wsub .i64 9223372036854775807 x5776.W)) false) true :: .test (beqb (igt x5780 (wsub .i64 9223372036854775807 x5776.W)) false) true :: .test (beqb (igt x5780 (wsub .i64 9223372036854775807 x5776.W)) false) true :: .int (wadd .i64 x5780 x5776.W) (wadd .i64 x5780 x5776.W) :: .test (beqb (igt x5780 (wsub .i64 9223372036854775807 x5776.W)) false) true :: .test (igt x5780 (wsub .i64 9223372036854775807 x5776.W)) false :: l) := fun z => ⟨(beqb_ff (igt_eq h5783)), (beqb_ff (igt_eq h5783)), (beqb_ff (igt_eq h5783)), (beqb_ff (igt_eq h5783)), h5784, (beqb_ff (igt_eq h5783)), ⟨rfl, sub_flat0 (eInt_len _) h5786 1 (by decide)⟩, (beqb_ff (igt_eq h5783)), (beqb_ff (igt_eq h5783)), (beqb_ff (igt_eq h5783)), (beqb_ff (igt_eq h5783)), (beqb_ff (igt_eq h5783)), h5779, (beqb_ff (igt_eq h5783)), ⟨rfl, sub_flat0 (eInt_len _) h5781 1 (by decide)⟩, (beqb_ff (igt_eq h5783)), (beqb_ff (igt_eq h5783)), (beqb_ff (igt_eq h5783)), rfl, (beqb_ff (igt_eq h5783)), (igt_eq h5783), z⟩
    refine cond_some hF (fun h5787 hF => ?_) (fun h5787 hF => ?_)
    ·
     obtain rfl := Option.some.inj hF
     have pz : HoldAll E H hn34 [.test (igt x5785 (wadd .i64 x5780 x5776.W)) true] := ⟨(igt_eq h5787), trivial⟩
     exact loop_endC (h := hn34) (l := 2) (c := c34_1) (ts := F34_l1_1_S v5752 v5753 v5754 v5755 v5756 v5757 v5758 v5773) (ts' := F34_l1_1_X0 v5752 v5753 v5754 v5755 v5756 v5757 v5758 ()) (ex := .ret) (pq5790 (pq5791 (pq5792 (pq5793 pz)))) (by kernel_rfl) trivial
    have pz : HoldAll E H hn34 [.test (igt x5785 (wadd .i64 x5780 x5776.W)) false, .test (beqb true false) false, .test (beqb true false) false, .test (beqb true false) false, .test (beqb true false) false, .test (beqb true false) false, .test (beqb true false) false, .test (beqb true false) false, .test (beqb true false) false, .test (beqb true false) false, .test (beqb true false) false, .test (beqb true false) false, .test (beqb true false) false, .test (beqb true false) false, .test (beqb true false) false, .test (beqb true false) false, .test true true, .int (wadd .i64 v5773 1) (wadd .i64 v5773 1)] := ⟨(igt_eq h5787), (beqb_ft rfl), (beqb_ft rfl), (beqb_ft rfl), (beqb_ft rfl), (beqb_ft rfl), (beqb_ft rfl), (beqb_ft rfl), (beqb_ft rfl), (beqb_ft rfl), (beqb_ft rfl), (beqb_ft rfl), (beqb_ft rfl), (beqb_ft rfl), (beqb_ft rfl), (beqb_ft rfl), rfl, rfl, trivial⟩
    have h0 := ih _ _ hF
    have hn := fun ex ts' => loop_nextC (h := hn34) (l := 2) (c := c34_1) (ts := F34_l1_1_S v5752 v5753 v5754 v5755 v5756 v5757 v5758 v5773) (ts1 := (F34_l1_1_S v5752 v5753 v5754 v5755 v5756 v5757 v5758 (wadd .i64 v5773 1))) (ex := ex) (ts' := ts') (pq5790 (pq5791 (pq5792 (pq5793 pz)))) (by kernel_rfl)
    cases r with
    | inl w => exact hn _ _ h0
    | inr w => exact hn _ _ h0
   have pz : HoldAll E H hn34 [.test (beqb (ine x5776.To v5758) false) false, .test (beqb (ine x5776.To v5758) false) false, .test (beqb (ine x5776.To v5758) false) false, .test (beqb (ine x5776.To v5758) false) false, .test (beqb (ine x5776.To v5758) false) false, .test (beqb (ine x5776.To v5758) false) false, .test (beqb (ine x5776.To v5758) false) false, .test (ine x5776.To v5758) true, .test true true, .int (wadd .i64 v5773 1) (wadd .i64 v5773 1)] := ⟨(beqb_ft (ine_f h5778)), (beqb_ft (ine_f h5778)), (beqb_ft (ine_f h5778)), (beqb_ft (ine_f h5778)), (beqb_ft (ine_f h5778)), (beqb_ft (ine_f h5778)), (beqb_ft (ine_f h5778)), (ine_f h5778), rfl, rfl, trivial⟩
   have h0 := ih _ _ hF
   have hn := fun ex ts' => loop_nextC (h := hn34) (l := 2) (c := c34_1) (ts := F34_l1_1_S v5752 v5753 v5754 v5755 v5756 v5757 v5758 v5773) (ts1 := (F34_l1_1_S v5752 v5753 v5754 v5755 v5756 v5757 v5758 (wadd .i64 v5773 1))) (ex := ex) (ts' := ts') (pq5790 pz) (by kernel_rfl)
   cases r with
   | inl w => exact hn _ _ h0
   | inr w => exact hn _ _ h0
  obtain rfl := Option.some.inj hF
  have pz : HoldAll E H hn34 [.int (nlen (len v5754)) (nlen (len v5754)), .test (ilt v5773 (nlen (len v5754))) false] := ⟨rfl, h5774, trivial⟩
  exact loop_endC (h := hn34) (l := 2) (c := c34_1) (ts := F34_l1_1_S v5752 v5753 v5754 v5755 v5756 v5757 v5758 v5773) (ts' := F34_l1_1_X1 v5752 v5753 v5754 v5755 v5756 v5757 v5758 ()) (ex := (.exit 2)) pz (by kernel_rfl) trivial
def F34_l1_2 (K : Nat) (v5801 : Int) (v5802 : Int) (v5803 : List GEdge) (v5804 : Int) (v5805 : Int) (v5806 : List Int) (v5807 : Int) : Nat → Bool → Int → Option ((Unit) ⊕ (Bool))
 | 0, _, _ => none
 | k + 1, v5824, v5825 =>
  bif (ilt v5825 (nlen (len v5803))) then
   (bif (inr v5825 (len v5803)) then
   (elAt v5803 v5825).bind fun x5828 =>
   bif (ieq x5828.To v5807) then
    (bif (inr x5828.From (len v5806)) then
    (elAt v5806 x5828.From).bind fun x5832 =>
    bif (ieq x5832 9223372036854775807) then
     (F34_l1_2 K v5801 v5802 v5803 v5804 v5805 v5806 v5807 k v5824 (wadd .i64 v5825 1))
    else
    bif (ilt (wsub .i64 9223372036854775807 x5828.W) x5832) then
     (some (.inl ()))
    else
    bif (inr v5807 (len v5806)) then
    (elAt v5806 v5807).bind fun x5837 =>
    bif (ilt (wadd .i64 x5832 x5828.W) x5837) then
     (some (.inl ()))
    else
    bif v5824 then
     (F34_l1_2 K v5801 v5802 v5803 v5804 v5805 v5806 v5807 k true (wadd .i64 v5825 1))
    else
    F34_l1_2 K v5801 v5802 v5803 v5804 v5805 v5806 v5807 k (ieq x5837 (wadd .i64 x5832 x5828.W)) (wadd .i64 v5825 1)
    else none
    else none)
   else
   F34_l1_2 K v5801 v5802 v5803 v5804 v5805 v5806 v5807 k v5824 (wadd .i64 v5825 1)
   else none)
  else
  some (.inr v5824)
def F34_l1_2_S (v5801 : Int) (v5802 : Int) (v5803 : List GEdge) (v5804 : Int) (v5805 : Int) (v5806 : List Int) (v5807 : Int) (v5824 : Bool) (v5825 : Int) : TS := .on [64, 65, 128, 129, 130, 320, 321, 322, 323, 384, 385, 448, 449, 512, 513] [(64, ⟨.one, 0, nob⟩), (65, ⟨.im, 0, (.lit (.int .i64 v5801))⟩), (128, ⟨(.box 62 2), 0, nob⟩), (129, ⟨.im, 0, (.lit (.int .i64 v5802))⟩), (130, ⟨.im, 0, (.sl (len v5803) (flat eGEdge v5803))⟩), (320, ⟨(.box 68 3), 0, nob⟩), (321, ⟨.im, 0, (.lit (.int .i64 v5804))⟩), (322, ⟨.im, 0, (.lit (.int .i64 v5805))⟩), (323, ⟨(.own 2), 0, (.sl (len v5806) (flat (eInt .i64) v5806))⟩), (384, ⟨.one, 0, nob⟩), (385, ⟨.im, 0, (.lit (.int .i64 v5807))⟩), (448, ⟨.one, 0, nob⟩), (449, ⟨.im, 0, (.lit (.bool v5824))⟩), (512, ⟨.one, 0, nob⟩), (513, ⟨.im, 0, (.lit (.int .i64 v5825))⟩)]
def F34_l1_2_X0 (v5801 : Int) (v5802 : Int) (v5803 : List GEdge) (v5804 : Int) (v5805 : Int) (v5806 : List Int) (v5807 : Int) (w5841 : Unit) : TS := .on [256, 257] [(256, ⟨.one, 0, nob⟩), (257, ⟨.im, 0, (.lit (.bool false))⟩)]
def F34_l1_2_X1 (v5801 : Int) (v5802 : Int) (v5803 : List GEdge) (v5804 : Int) (v5805 : Int) (v5806 : List Int) (v5807 : Int) (w5842 : Bool) : TS := .on [64, 65, 128, 129, 130, 320, 321, 322, 323, 384, 385, 448, 449] [(64, ⟨.one, 0, nob⟩), (65, ⟨.im, 0, (.lit (.int .i64 v5801))⟩), (128, ⟨(.box 62 2), 0, nob⟩), (129, ⟨.im, 0, (.lit (.int .i64 v5802))⟩), (130, ⟨.im, 0, (.sl (len v5803) (flat eGEdge v5803))⟩), (320, ⟨(.box 68 3), 0, nob⟩), (321, ⟨.im, 0, (.lit (.int .i64 v5804))⟩), (322, ⟨.im, 0, (.lit (.int .i64 v5805))⟩), (323, ⟨(.own 2), 0, (.sl (len v5806) (flat (eInt .i64) v5806))⟩), (384, ⟨.one, 0, nob⟩), (385, ⟨.im, 0, (.lit (.int .i64 v5807))⟩), (448, ⟨.one, 0, nob⟩), (449, ⟨.im, 0, (.lit (.bool w5842))⟩)]
end Go.Proofs.Ytnjanliihnadjaa.Tm

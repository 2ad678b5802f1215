/- What the row of WorkDoes leans on: printed functions and plain laws. Conditions: none. -/
import Derived.Test.YtnjanliihnadjaaTy
import Derived.Test.YtnjanliihnadjaaTab
import Derived.Test.YtnjanliihnadjaaKn
import Derived.Test.YtnjanliihnadjaaWf
import Derived.IntWalk
import Derived.KernelRfl
import Derived.OpenShut
import Derived.Test.YtnjanliihnadjaaBWorkDoes2
set_option linter.unusedVariables false
set_option linter.unusedSimpArgs false
namespace Go.Proofs.Ytnjanliihnadjaa.Tm
open Go
def F100 (K : Nat) (a1 : GGraph) (a2 : GJob) (a3 : Int) (a4 : Int) (a5 : Int) (a6 : Int) (a7 : Bool) : Option (GTurned) :=
 (F59 K a1 a2).bind fun r8 =>
 bif (ieq r8 0) then
  (bif (ilt a4 0) then
   (some (GTurned.mk 0 [] false 4))
  else
  bif (ile a1.N a4) then
   (some (GTurned.mk 0 [] false 4))
  else
  bif (ilt a3 0) then
   (some (GTurned.mk 0 [] false 1))
  else
  bif (ilt 40 a3) then
   (some (GTurned.mk 0 [] false 1))
  else
  bif (ieq a2.Prog 5) then
   (bif a7 then
    (bif (ilt 0 a3) then
     ((F147 K a6).bind fun r9 =>
     bif r9.2 then
      ((F69 K a1 a4).bind fun r10 =>
      (F100_l0_0 K r9.1 a2.Prog a2.Source a2.Limit a2.Parts (ilt a3 10) r10 K [] 0).bind fun y11 =>
      Sum.elim (fun w12 =>
       some (GTurned.mk 0 [] false 8))
       (fun w13 =>
       some (GTurned.mk r9.1 w13 (bnot (ilt a3 10)) 0)) y11)
     else
     some (GTurned.mk 0 [] false 8))
    else
    (F69 K a1 a4).bind fun r14 =>
    (F100_l0_0 K a5 a2.Prog a2.Source a2.Limit a2.Parts (ilt a3 10) r14 K [] 0).bind fun y15 =>
    Sum.elim (fun w16 =>
     some (GTurned.mk 0 [] false 8))
     (fun w17 =>
     some (GTurned.mk a5 w17 (bnot (ilt a3 10)) 0)) y15)
   else
   bif (ilt 0 a3) then
    ((F147 K 0).bind fun r18 =>
    bif r18.2 then
     ((F69 K a1 a4).bind fun r19 =>
     (F100_l0_0 K r18.1 a2.Prog a2.Source a2.Limit a2.Parts (ilt a3 10) r19 K [] 0).bind fun y20 =>
     Sum.elim (fun w21 =>
      some (GTurned.mk 0 [] false 8))
      (fun w22 =>
      some (GTurned.mk r18.1 w22 (bnot (ilt a3 10)) 0)) y20)
    else
    some (GTurned.mk 0 [] false 8))
   else
   (F69 K a1 a4).bind fun r23 =>
   (F100_l0_0 K a5 a2.Prog a2.Source a2.Limit a2.Parts (ilt a3 10) r23 K [] 0).bind fun y24 =>
   Sum.elim (fun w25 =>
    some (GTurned.mk 0 [] false 8))
    (fun w26 =>
    some (GTurned.mk a5 w26 (bnot (ilt a3 10)) 0)) y24)
  else
  bif (ieq a2.Prog 1) then
   (bif (ieq a4 a2.Source) then
    (bif a7 then
     ((F98 K a2.Prog a5 a6).bind fun r27 =>
     bif (ieq a3 0) then
      ((F69 K a1 a4).bind fun r28 =>
      (F100_l0_1 K r27.1 a2.Prog a2.Source a2.Limit a2.Parts r28 K [] 0).bind fun y29 =>
      Sum.elim (fun w30 =>
       some (GTurned.mk 0 [] false 8))
       (fun w31 =>
       some (GTurned.mk r27.1 w31 true 0)) y29)
     else
     (F69 K a1 a4).bind fun r32 =>
     (F100_l0_2 K r27.1 a2.Prog a2.Source a2.Limit a2.Parts (ine r27.1 a5) r32 K [] 0).bind fun y33 =>
     Sum.elim (fun w34 =>
      some (GTurned.mk 0 [] false 8))
      (fun w35 =>
      some (GTurned.mk r27.1 w35 true 0)) y33)
    else
    bif (ieq a3 0) then
     ((F69 K a1 a4).bind fun r36 =>
     (F100_l0_1 K a5 a2.Prog a2.Source a2.Limit a2.Parts r36 K [] 0).bind fun y37 =>
     Sum.elim (fun w38 =>
      some (GTurned.mk 0 [] false 8))
      (fun w39 =>
      some (GTurned.mk a5 w39 true 0)) y37)
    else
    (F69 K a1 a4).bind fun r40 =>
    (F100_l0_3 K a5 a2.Prog a2.Source a2.Limit a2.Parts r40 K [] 0).bind fun y41 =>
    Sum.elim (fun w42 =>
     some (GTurned.mk a5 w42 true 0))
     (fun w43 =>
     some (GTurned.mk 0 [] false 8)) y41)
   else
   bif a7 then
    ((F98 K a2.Prog a5 a6).bind fun r44 =>
    (F69 K a1 a4).bind fun r45 =>
    (F100_l0_2 K r44.1 a2.Prog a2.Source a2.Limit a2.Parts (ine r44.1 a5) r45 K [] 0).bind fun y46 =>
    Sum.elim (fun w47 =>
     some (GTurned.mk 0 [] false 8))
     (fun w48 =>
     some (GTurned.mk r44.1 w48 true 0)) y46)
   else
   (F69 K a1 a4).bind fun r49 =>
   (F100_l0_3 K a5 a2.Prog a2.Source a2.Limit a2.Parts r49 K [] 0).bind fun y50 =>
   Sum.elim (fun w51 =>
    some (GTurned.mk a5 w51 true 0))
    (fun w52 =>
    some (GTurned.mk 0 [] false 8)) y50)
  else
  bif (ieq a2.Prog 3) then
   (bif (ieq a4 a2.Source) then
    (bif a7 then
     ((F98 K a2.Prog a5 a6).bind fun r53 =>
     bif (ieq a3 0) then
      ((F69 K a1 a4).bind fun r54 =>
      (F100_l0_1 K r53.1 a2.Prog a2.Source a2.Limit a2.Parts r54 K [] 0).bind fun y55 =>
      Sum.elim (fun w56 =>
       some (GTurned.mk 0 [] false 8))
       (fun w57 =>
       some (GTurned.mk r53.1 w57 true 0)) y55)
     else
     (F69 K a1 a4).bind fun r58 =>
     (F100_l0_2 K r53.1 a2.Prog a2.Source a2.Limit a2.Parts (ine r53.1 a5) r58 K [] 0).bind fun y59 =>
     Sum.elim (fun w60 =>
      some (GTurned.mk 0 [] false 8))
      (fun w61 =>
      some (GTurned.mk r53.1 w61 true 0)) y59)
    else
    bif (ieq a3 0) then
     ((F69 K a1 a4).bind fun r62 =>
     (F100_l0_1 K a5 a2.Prog a2.Source a2.Limit a2.Parts r62 K [] 0).bind fun y63 =>
     Sum.elim (fun w64 =>
      some (GTurned.mk 0 [] false 8))
      (fun w65 =>
      some (GTurned.mk a5 w65 true 0)) y63)
    else
    (F69 K a1 a4).bind fun r66 =>
    (F100_l0_3 K a5 a2.Prog a2.Source a2.Limit a2.Parts r66 K [] 0).bind fun y67 =>
    Sum.elim (fun w68 =>
     some (GTurned.mk a5 w68 true 0))
     (fun w69 =>
     some (GTurned.mk 0 [] false 8)) y67)
   else
   bif a7 then
    ((F98 K a2.Prog a5 a6).bind fun r70 =>
    (F69 K a1 a4).bind fun r71 =>
    (F100_l0_2 K r70.1 a2.Prog a2.Source a2.Limit a2.Parts (ine r70.1 a5) r71 K [] 0).bind fun y72 =>
    Sum.elim (fun w73 =>
     some (GTurned.mk 0 [] false 8))
     (fun w74 =>
     some (GTurned.mk r70.1 w74 true 0)) y72)
   else
   (F69 K a1 a4).bind fun r75 =>
   (F100_l0_3 K a5 a2.Prog a2.Source a2.Limit a2.Parts r75 K [] 0).bind fun y76 =>
   Sum.elim (fun w77 =>
    some (GTurned.mk a5 w77 true 0))
    (fun w78 =>
    some (GTurned.mk 0 [] false 8)) y76)
  else
  bif a7 then
   ((F98 K a2.Prog a5 a6).bind fun r79 =>
   bif (ieq a3 0) then
    ((F69 K a1 a4).bind fun r80 =>
    (F100_l0_1 K r79.1 a2.Prog a2.Source a2.Limit a2.Parts r80 K [] 0).bind fun y81 =>
    Sum.elim (fun w82 =>
     some (GTurned.mk 0 [] false 8))
     (fun w83 =>
     some (GTurned.mk r79.1 w83 true 0)) y81)
   else
   (F69 K a1 a4).bind fun r84 =>
   (F100_l0_2 K r79.1 a2.Prog a2.Source a2.Limit a2.Parts (ine r79.1 a5) r84 K [] 0).bind fun y85 =>
   Sum.elim (fun w86 =>
    some (GTurned.mk 0 [] false 8))
    (fun w87 =>
    some (GTurned.mk r79.1 w87 true 0)) y85)
  else
  bif (ieq a3 0) then
   ((F69 K a1 a4).bind fun r88 =>
   (F100_l0_1 K a5 a2.Prog a2.Source a2.Limit a2.Parts r88 K [] 0).bind fun y89 =>
   Sum.elim (fun w90 =>
    some (GTurned.mk 0 [] false 8))
    (fun w91 =>
    some (GTurned.mk a5 w91 true 0)) y89)
  else
  (F69 K a1 a4).bind fun r92 =>
  (F100_l0_3 K a5 a2.Prog a2.Source a2.Limit a2.Parts r92 K [] 0).bind fun y93 =>
  Sum.elim (fun w94 =>
   some (GTurned.mk a5 w94 true 0))
   (fun w95 =>
   some (GTurned.mk 0 [] false 8)) y93)
 else
 some (GTurned.mk 0 [] false r8)
theorem F100_ok (K : Nat) (a1 : GGraph) (a2 : GJob) (a3 : Int) (a4 : Int) (a5 : Int) (a6 : Int) (a7 : Bool) (r : GTurned) (hF : F100 K a1 a2 a3 a4 a5 a6 a7 = some r) : Evt E H 100 [.agg (eGGraph a1), .agg (eGJob a2), .one (.lit (.int .i64 a3)), .one (.lit (.int .i64 a4)), .one (.lit (.int .i64 a5)), .one (.lit (.int .i64 a6)), .one (.lit (.bool a7))] (F100_res r) := by
 rw [F100] at hF
 refine bind_some hF (fun r8 h9 hF => ?_)
 refine cond_some hF (fun h10 hF => ?_) (fun h10 hF => ?_)
 ·
  have q170 : PQ hn100 fun l => (.call 59 [.agg (eGGraph a1), .agg (eGJob a2)] (F59_res r8) :: .test (leadsAny (Res.mk [(.one (.im (.lit (.int .i64 r8))))] [])) false :: .test (ine r8 0) false :: l) := fun z => ⟨(F59_ok K a1 a2 _ h9), (leads_ok (by simp [leadsAny, RV.leads, RC.leads, leadsT, hasSl_lit, flat_ns eGJob_ns])), (ine_t h10), z⟩
  refine cond_some hF (fun h11 hF => ?_) (fun h11 hF => ?_)
  ·
   obtain rfl := Option.some.inj hF
   have pz : HoldAll E H hn100 [.test (beqb (ilt a4 0) false) false, .test (beqb (ilt a4 0) false) false, .test (beqb (ilt a4 0) false) false, .test (beqb (ilt a4 0) false) false, .test (ilt a4 0) true, .test true true] := ⟨(beqb_ft h11), (beqb_ft h11), (beqb_ft h11), (beqb_ft h11), h11, rfl, trivial⟩
   exact fn_playC hn100 (r := F100_res (GTurned.mk 0 [] false 4)) (q170 pz) (by kernel_rfl) (by kernel_rfl)
  have q171 : PQ hn100 fun l => (.test (beqb (ilt a4 0) false) true :: .test (beqb (ilt a4 0) false) true :: .test (beqb (ilt a4 0) false) true :: .test (beqb (ilt a4 0) false) true :: .test (ilt a4 0) false :: l) := fun z => ⟨(beqb_ff h11), (beqb_ff h11), (beqb_ff h11), (beqb_ff h11), h11, z⟩
  refine cond_some hF (fun h12 hF => ?_) (fun h12 hF => ?_)
  ·
   obtain rfl := Option.some.inj hF
   have pz : HoldAll E H hn100 [.test (ige a4 a1.N) true] := ⟨(ige_eq h12), trivial⟩
   exact fn_playC hn100 (r := F100_res (GTurned.mk 0 [] false 4)) (q170 (q171 pz)) (by kernel_rfl) (by kernel_rfl)
  refine cond_some hF (fun h13 hF => ?_) (fun h13 hF => ?_)
  ·
   obtain rfl := Option.some.inj hF
   have pz : HoldAll E H hn100 [.test (ige a4 a1.N) false, .test (beqb (ilt a3 0) false) false, .test (beqb (ilt a3 0) false) false, .test (ilt a3 0) true, .test true true] := ⟨(ige_eq h12), (beqb_ft h13), (beqb_ft h13), h13, rfl, trivial⟩
   exact fn_playC hn100 (r := F100_res (GTurned.mk 0 [] false 1)) (q170 (q171 pz)) (by kernel_rfl) (by kernel_rfl)
  have q172 : PQ hn100 fun l => (.test (ige a4 a1.N) false :: .test (beqb (ilt a3 0) false) true :: .test (beqb (ilt a3 0) false) true :: .test (ilt a3 0) false :: l) := fun z => ⟨(ige_eq h12), (beqb_ff h13), (beqb_ff h13), h13, z⟩
  refine cond_some hF (fun h14 hF => ?_) (fun h14 hF => ?_)
  ·
   obtain rfl := Option.some.inj hF
   have pz : HoldAll E H hn100 [.test (igt a3 40) true] := ⟨(igt_eq h14), trivial⟩
   exact fn_playC hn100 (r := F100_res (GTurned.mk 0 [] false 1)) (q170 (q171 (q172 pz))) (by kernel_rfl) (by kernel_rfl)
  refine cond_some hF (fun h15 hF => ?_) (fun h15 hF => ?_)
  ·
   refine cond_some hF (fun h16 hF => ?_) (fun h16 hF => ?_)
   ·
    have q173 : PQ hn100 fun l => (.test (igt a3 40) false :: .test (ieq a2.Prog 5) true :: .test (bnot a7) false :: l) := fun z => ⟨(igt_eq h14), h15, (bnot_t h16), z⟩
    refine cond_some hF (fun h17 hF => ?_) (fun h17 hF => ?_)
    ·
     refine bind_some hF (fun r18 h19 hF => ?_)
     have q174 : PQ hn100 fun l => (.test (igt a3 0) true :: .call 147 [.one (.lit (.int .i64 a6))] (F147_res r18) :: .test (leadsAny (Res.mk [(.one (.im (.lit (.int .i64 r18.1)))), (.one (.im (.lit (.bool r18.2))))] [])) false :: l) := fun z => ⟨(igt_eq h17), (F147_ok K a6 _ h19), (leads_ok (by simp [leadsAny, RV.leads, RC.leads, leadsT, hasSl_lit])), z⟩
     refine cond_some hF (fun h20 hF => ?_) (fun h20 hF => ?_)
     ·
      refine bind_some hF (fun r21 h22 hF => ?_)
      have q175 : PQ hn100 fun l => (.test (bnot r18.2) false :: .call 69 [.agg (eGGraph a1), .one (.lit (.int .i64 a4))] (F69_res r21) :: .test (leadsAny (Res.mk [(.one (.own 89 (.sl (len r21) (flat eGEdge r21))))] [])) false :: l) := fun z => ⟨(bnot_t h20), (F69_ok K a1 a4 _ h22), (leads_ok (by simp [leadsAny, RV.leads, RC.leads, leadsT, hasSl_lit, flat_ns eGEdge_ns])), z⟩
      refine bind_some hF (fun y24 h23 hF => ?_)
      refine sum_some hF (fun w25 hx hF => ?_) (fun w26 hx hF => ?_)
      ·
       subst hx
       obtain rfl := Option.some.inj hF
       have pz : HoldAll E H hn100 [.loop 0 c100_0 (F100_l0_0_S r18.1 a2.Prog a2.Source a2.Limit a2.Parts (ilt a3 10) r21 [] 0) .ret (F100_l0_0_X0 r18.1 a2.Prog a2.Source a2.Limit a2.Parts (ilt a3 10) r21 w25)] := ⟨(F100_l0_0_ok K r18.1 a2.Prog a2.Source a2.Limit a2.Parts (ilt a3 10) r21 K [] 0 _ h23), trivial⟩
       exact fn_playC hn100 (r := F100_res (GTurned.mk 0 [] false 8)) (q170 (q171 (q172 (q173 (q174 (q175 pz)))))) (by kernel_rfl) (by kernel_rfl)
      subst hx
      obtain rfl := Option.some.inj hF
      have pz : HoldAll E H hn100 [.loop 0 c100_0 (F100_l0_0_S r18.1 a2.Prog a2.Source a2.Limit a2.Parts (ilt a3 10) r21 [] 0) (.exit 0) (F100_l0_0_X1 r18.1 a2.Prog a2.Source a2.Limit a2.Parts (ilt a3 10) r21 w26)] := ⟨(F100_l0_0_ok K r18.1 a2.Prog a2.Source a2.Limit a2.Parts (ilt a3 10) r21 K [] 0 _ h23), trivial⟩
      exact fn_playC hn100 (r := F100_res (GTurned.mk r18.1 w26 (bnot (ilt a3 10)) 0)) (q170 (q171 (q172 (q173 (q174 (q175 pz)))))) (by kernel_rfl) (by kernel_rfl)
     obtain rfl := Option.some.inj hF
     have pz : HoldAll E H hn100 [.test (bnot r18.2) true] := ⟨(bnot_f h20), trivial⟩
     exact fn_playC hn100 (r := F100_res (GTurned.mk 0 [] false 8)) (q170 (q171 (q172 (q173 (q174 pz))))) (by kernel_rfl) (by kernel_rfl)
    refine bind_some hF (fun r27 h28 hF => ?_)
    have q176 : PQ hn100 fun l => (.test (igt a3 0) false :: .call 69 [.agg (eGGraph a1), .one (.lit (.int .i64 a4))] (F69_res r27) :: .test (leadsAny (Res.mk [(.one (.own 89 (.sl (len r27) (flat eGEdge r27))))] [])) false :: l) := fun z => ⟨(igt_eq h17), (F69_ok K a1 a4 _ h28), (leads_ok (by simp [leadsAny, RV.leads, RC.leads, leadsT, hasSl_lit, flat_ns eGEdge_ns])), z⟩
    refine bind_some hF (fun y30 h29 hF => ?_)
    refine sum_some hF (fun w31 hx hF => ?_) (fun w32 hx hF => ?_)
    ·
     subst hx
     obtain rfl := Option.some.inj hF
     have pz : HoldAll E H hn100 [.loop 0 c100_0 (F100_l0_0_S a5 a2.Prog a2.Source a2.Limit a2.Parts (ilt a3 10) r27 [] 0) .ret (F100_l0_0_X0 a5 a2.Prog a2.Source a2.Limit a2.Parts (ilt a3 10) r27 w31)] := ⟨(F100_l0_0_ok K a5 a2.Prog a2.Source a2.Limit a2.Parts (ilt a3 10) r27 K [] 0 _ h29), trivial⟩
     exact fn_playC hn100 (r := F100_res (GTurned.mk 0 [] false 8)) (q170 (q171 (q172 (q173 (q176 pz))))) (by kernel_rfl) (by kernel_rfl)
    subst hx
    obtain rfl := Option.some.inj hF
    have pz : HoldAll E H hn100 [.loop 0 c100_0 (F100_l0_0_S a5 a2.Prog a2.Source a2.Limit a2.Parts (ilt a3 10) r27 [] 0) (.exit 0) (F100_l0_0_X1 a5 a2.Prog a2.Source a2.Limit a2.Parts (ilt a3 10) r27 w32)] := ⟨(F100_l0_0_ok K a5 a2.Prog a2.Source a2.Limit a2.Parts (ilt a3 10) r27 K [] 0 _ h29), trivial⟩
    exact fn_playC hn100 (r := F100_res (GTurned.mk a5 w32 (bnot (ilt a3 10)) 0)) (q170 (q171 (q172 (q173 (q176 pz))))) (by kernel_rfl) (by kernel_rfl)
   have q177 : PQ hn100 fun l => (.test (igt a3 40) false :: .test (ieq a2.Prog 5) true :: .test (bnot a7) true :: l) := fun z => ⟨(igt_eq h14), h15, (bnot_f h16), z⟩
   refine cond_some hF (fun h33 hF => ?_) (fun h33 hF => ?_)
   ·
    refine bind_some hF (fun r34 h35 hF => ?_)
    have q178 : PQ hn100 fun l => (.test (igt a3 0) true :: .call 147 [.one (.lit (.int .i64 0))] (F147_res r34) :: .test (leadsAny (Res.mk [(.one (.im (.lit (.int .i64 r34.1)))), (.one (.im (.lit (.bool r34.2))))] [])) false :: l) := fun z => ⟨(igt_eq h33), (F147_ok K 0 _ h35), (leads_ok (by simp [leadsAny, RV.leads, RC.leads, leadsT, hasSl_lit])), z⟩
    refine cond_some hF (fun h36 hF => ?_) (fun h36 hF => ?_)
    ·
     refine bind_some hF (fun r37 h38 hF => ?_)
     have q179 : PQ hn100 fun l => (.test (bnot r34.2) false :: .call 69 [.agg (eGGraph a1), .one (.lit (.int .i64 a4))] (F69_res r37) :: .test (leadsAny (Res.mk [(.one (.own 89 (.sl (len r37) (flat eGEdge r37))))] [])) false :: l) := fun z => ⟨(bnot_t h36), (F69_ok K a1 a4 _ h38), (leads_ok (by simp [leadsAny, RV.leads, RC.leads, leadsT, hasSl_lit, flat_ns eGEdge_ns])), z⟩
     refine bind_some hF (fun y40 h39 hF => ?_)
     refine sum_some hF (fun w41 hx hF => ?_) (fun w42 hx hF => ?_)
     ·
      subst hx
      obtain rfl := Option.some.inj hF
      have pz : HoldAll E H hn100 [.loop 0 c100_0 (F100_l0_0_S r34.1 a2.Prog a2.Source a2.Limit a2.Parts (ilt a3 10) r37 [] 0) .ret (F100_l0_0_X0 r34.1 a2.Prog a2.Source a2.Limit a2.Parts (ilt a3 10) r37 w41)] := ⟨(F100_l0_0_ok K r34.1 a2.Prog a2.Source a2.Limit a2.Parts (ilt a3 10) r37 K [] 0 _ h39), trivial⟩
      exact fn_playC hn100 (r := F100_res (GTurned.mk 0 [] false 8)) (q170 (q171 (q172 (q177 (q178 (q179 pz)))))) (by kernel_rfl) (by kernel_rfl)
     subst hx
     obtain rfl := Option.some.inj hF
     have pz : HoldAll E H hn100 [.loop 0 c100_0 (F100_l0_0_S r34.1 a2.Prog a2.Source a2.Limit a2.Parts (ilt a3 10) r37 [] 0) (.exit 0) (F100_l0_0_X1 r34.1 a2.Prog a2.Source a2.Limit a2.Parts (ilt a3 10) r37 w42)] := ⟨(F100_l0_0_ok K r34.1 a2.Prog a2.Source a2.Limit a2.Parts (ilt a3 10) r37 K [] 0 _ h39), trivial⟩
     exact fn_playC hn100 (r := F100_res (GTurned.mk r34.1 w42 (bnot (ilt a3 10)) 0)) (q170 (q171 (q172 (q177 (q178 (q179 pz)))))) (by kernel_rfl) (by kernel_rfl)
    obtain rfl := Option.some.inj hF
    have pz : HoldAll E H hn100 [.test (bnot r34.2) true] := ⟨(bnot_f h36), trivial⟩
    exact fn_playC hn100 (r := F100_res (GTurned.mk 0 [] false 8)) (q170 (q171 (q172 (q177 (q178 pz))))) (by kernel_rfl) (by kernel_rfl)
   refine bind_some hF (fun r43 h44 hF => ?_)
   have q180 : PQ hn100 fun l => (.test (igt a3 0) false :: .call 69 [.agg (eGGraph a1), .one (.lit (.int .i64 a4))] (F69_res r43) :: .test (leadsAny (Res.mk [(.one (.own 89 (.sl (len r43) (flat eGEdge r43))))] [])) false :: l) := fun z => ⟨(igt_eq h33), (F69_ok K a1 a4 _ h44), (leads_ok (by simp [leadsAny, RV.leads, RC.leads, leadsT, hasSl_lit, flat_ns eGEdge_ns])), z⟩
   refine bind_some hF (fun y46 h45 hF => ?_)
   refine sum_some hF (fun w47 hx hF => ?_) (fun w48 hx hF => ?_)
   ·
    subst hx
    obtain rfl := Option.some.inj hF
    have pz : HoldAll E H hn100 [.loop 0 c100_0 (F100_l0_0_S a5 a2.Prog a2.Source a2.Limit a2.Parts (ilt a3 10) r43 [] 0) .ret (F100_l0_0_X0 a5 a2.Prog a2.Source a2.Limit a2.Parts (ilt a3 10) r43 w47)] := ⟨(F100_l0_0_ok K a5 a2.Prog a2.Source a2.Limit a2.Parts (ilt a3 10) r43 K [] 0 _ h45), trivial⟩
    exact fn_playC hn100 (r := F100_res (GTurned.mk 0 [] false 8)) (q170 (q171 (q172 (q177 (q180 pz))))) (by kernel_rfl) (by kernel_rfl)
   subst hx
   obtain rfl := Option.some.inj hF
   have pz : HoldAll E H hn100 [.loop 0 c100_0 (F100_l0_0_S a5 a2.Prog a2.Source a2.Limit a2.Parts (ilt a3 10) r43 [] 0) (.exit 0) (F100_l0_0_X1 a5 a2.Prog a2.Source a2.Limit a2.Parts (ilt a3 10) r43 w48)] := ⟨(F100_l0_0_ok K a5 a2.Prog a2.Source a2.Limit a2.Parts (ilt a3 10) r43 K [] 0 _ h45), trivial⟩
   exact fn_playC hn100 (r := F100_res (GTurned.mk a5 w48 (bnot (ilt a3 10)) 0)) (q170 (q171 (q172 (q177 (q180 pz))))) (by kernel_rfl) (by kernel_rfl)
  refine cond_some hF (fun h49 hF => ?_) (fun h49 hF => ?_)
  ·
   have q181 : PQ hn100 fun l => (.test (igt a3 40) false :: .test (ieq a2.Prog 5) false :: .test (beqb (ieq a2.Prog 1) false) false :: .test (beqb (ieq a2.Prog 1) false) false :: .test (beqb (ieq a2.Prog 1) false) false :: .test (ieq a2.Prog 1) true :: .test (beqb true true) true :: .test (beqb true true) true :: .test (beqb true true) true :: .test (beqb true true) true :: .test true true :: l) := fun z => ⟨(igt_eq h14), h15, (beqb_ft h49), (beqb_ft h49), (beqb_ft h49), h49, (beqb_t rfl), (beqb_t rfl), (beqb_t rfl), (beqb_t rfl), rfl, z⟩
   refine cond_some hF (fun h50 hF => ?_) (fun h50 hF => ?_)
   ·
    refine cond_some hF (fun h51 hF => ?_) (fun h51 hF => ?_)
    ·
     refine bind_some hF (fun r52 h53 hF => ?_)
     have q182 : PQ hn100 fun l => (.test (ine a4 a2.Source) false :: .test a7 true :: .call 98 [.one (.lit (.int .i64 a2.Prog)), .one (.lit (.int .i64 a5)), .one (.lit (.int .i64 a6))] (F98_res r52) :: .test (leadsAny (Res.mk [(.one (.im (.lit (.int .i64 r52.1)))), (.one (.im (.lit (.int .i64 r52.2))))] [])) false :: l) := fun z => ⟨(ine_t h50), h51, (F98_ok K a2.Prog a5 a6 _ h53), (leads_ok (by simp [leadsAny, RV.leads, RC.leads, leadsT, hasSl_lit])), z⟩
     refine cond_some hF (fun h54 hF => ?_) (fun h54 hF => ?_)
     ·
      refine bind_some hF (fun r55 h56 hF => ?_)
      have q183 : PQ hn100 fun l => (.test (beqb (ieq a3 0) false) false :: .test (beqb (ieq a3 0) false) false :: .test (beqb (ieq a3 0) false) false :: .test (ieq a3 0) true :: .call 69 [.agg (eGGraph a1), .one (.lit (.int .i64 a4))] (F69_res r55) :: .test (leadsAny (Res.mk [(.one (.own 89 (.sl (len r55) (flat eGEdge r55))))] [])) false :: l) := fun z => ⟨(beqb_ft h54), (beqb_ft h54), (beqb_ft h54), h54, (F69_ok K a1 a4 _ h56), (leads_ok (by simp [leadsAny, RV.leads, RC.leads, leadsT, hasSl_lit, flat_ns eGEdge_ns])), z⟩
      refine bind_some hF (fun y58 h57 hF => ?_)
      refine sum_some hF (fun w59 hx hF => ?_) (fun w60 hx hF => ?_)
      ·
       subst hx
       obtain rfl := Option.some.inj hF
       have pz : HoldAll E H hn100 [.loop 0 c100_0 (F100_l0_1_S r52.1 a2.Prog a2.Source a2.Limit a2.Parts r55 [] 0) .ret (F100_l0_1_X0 r52.1 a2.Prog a2.Source a2.Limit a2.Parts r55 w59)] := ⟨(F100_l0_1_ok K r52.1 a2.Prog a2.Source a2.Limit a2.Parts r55 K [] 0 _ h57), trivial⟩
       exact fn_playC hn100 (r := F100_res (GTurned.mk 0 [] false 8)) (q170 (q171 (q172 (q181 (q182 (q183 pz)))))) (by kernel_rfl) (by kernel_rfl)
      subst hx
      obtain rfl := Option.some.inj hF
      have pz : HoldAll E H hn100 [.loop 0 c100_0 (F100_l0_1_S r52.1 a2.Prog a2.Source a2.Limit a2.Parts r55 [] 0) (.exit 0) (F100_l0_1_X1 r52.1 a2.Prog a2.Source a2.Limit a2.Parts r55 w60)] := ⟨(F100_l0_1_ok K r52.1 a2.Prog a2.Source a2.Limit a2.Parts r55 K [] 0 _ h57), trivial⟩
      exact fn_playC hn100 (r := F100_res (GTurned.mk r52.1 w60 true 0)) (q170 (q171 (q172 (q181 (q182 (q183 pz)))))) (by kernel_rfl) (by kernel_rfl)
     refine bind_some hF (fun r61 h62 hF => ?_)
     have q184 : PQ hn100 fun l => (.test (beqb (ieq a3 0) false) true :: .test (beqb (ieq a3 0) false) true :: .test (beqb (ieq a3 0) false) true :: .test (ieq a3 0) false :: .call 69 [.agg (eGGraph a1), .one (.lit (.int .i64 a4))] (F69_res r61) :: .test (leadsAny (Res.mk [(.one (.own 89 (.sl (len r61) (flat eGEdge r61))))] [])) false :: l) := fun z => ⟨(beqb_ff h54), (beqb_ff h54), (beqb_ff h54), h54, (F69_ok K a1 a4 _ h62), (leads_ok (by simp [leadsAny, RV.leads, RC.leads, leadsT, hasSl_lit, flat_ns eGEdge_ns])), z⟩
     refine bind_some hF (fun y64 h63 hF => ?_)
     refine sum_some hF (fun w65 hx hF => ?_) (fun w66 hx hF => ?_)
     ·
      subst hx
      obtain rfl := Option.some.inj hF
      have pz : HoldAll E H hn100 [.loop 0 c100_0 (F100_l0_2_S r52.1 a2.Prog a2.Source a2.Limit a2.Parts (ine r52.1 a5) r61 [] 0) .ret (F100_l0_2_X0 r52.1 a2.Prog a2.Source a2.Limit a2.Parts (ine r52.1 a5) r61 w65)] := ⟨(F100_l0_2_ok K r52.1 a2.Prog a2.Source a2.Limit a2.Parts (ine r52.1 a5) r61 K [] 0 _ h63), trivial⟩
      exact fn_playC hn100 (r := F100_res (GTurned.mk 0 [] false 8)) (q170 (q171 (q172 (q181 (q182 (q184 pz)))))) (by kernel_rfl) (by kernel_rfl)
     subst hx
     obtain rfl := Option.some.inj hF
     have pz : HoldAll E H hn100 [.loop 0 c100_0 (F100_l0_2_S r52.1 a2.Prog a2.Source a2.Limit a2.Parts (ine r52.1 a5) r61 [] 0) (.exit 0) (F100_l0_2_X1 r52.1 a2.Prog a2.Source a2.Limit a2.Parts (ine r52.1 a5) r61 w66)] := ⟨(F100_l0_2_ok K r52.1 a2.Prog a2.Source a2.Limit a2.Parts (ine r52.1 a5) r61 K [] 0 _ h63), trivial⟩
     exact fn_playC hn100 (r := F100_res (GTurned.mk r52.1 w66 true 0)) (q170 (q171 (q172 (q181 (q182 (q184 pz)))))) (by kernel_rfl) (by kernel_rfl)
    refine cond_some hF (fun h67 hF => ?_) (fun h67 hF => ?_)
    ·
     refine bind_some hF (fun r68 h69 hF => ?_)
     have q185 : PQ hn100 fun l => (.test (ine a4 a2.Source) false :: .test a7 false :: .test (beqb (ieq a3 0) false) false :: .test (beqb (ieq a3 0) false) false :: .test (beqb (ieq a3 0) false) false :: .test (ieq a3 0) true :: .call 69 [.agg (eGGraph a1), .one (.lit (.int .i64 a4))] (F69_res r68) :: .test (leadsAny (Res.mk [(.one (.own 89 (.sl (len r68) (flat eGEdge r68))))] [])) false :: l) := fun z => ⟨(ine_t h50), h51, (beqb_ft h67), (beqb_ft h67), (beqb_ft h67), h67, (F69_ok K a1 a4 _ h69), (leads_ok (by simp [leadsAny, RV.leads, RC.leads, leadsT, hasSl_lit, flat_ns eGEdge_ns])), z⟩
     refine bind_some hF (fun y71 h70 hF => ?_)
     refine sum_some hF (fun w72 hx hF => ?_) (fun w73 hx hF => ?_)
     ·
      subst hx
      obtain rfl := Option.some.inj hF
      have pz : HoldAll E H hn100 [.loop 0 c100_0 (F100_l0_1_S a5 a2.Prog a2.Source a2.Limit a2.Parts r68 [] 0) .ret (F100_l0_1_X0 a5 a2.Prog a2.Source a2.Limit a2.Parts r68 w72)] := ⟨(F100_l0_1_ok K a5 a2.Prog a2.Source a2.Limit a2.Parts r68 K [] 0 _ h70), trivial⟩
      exact fn_playC hn100 (r := F100_res (GTurned.mk 0 [] false 8)) (q170 (q171 (q172 (q181 (q185 pz))))) (by kernel_rfl) (by kernel_rfl)
     subst hx
     obtain rfl := Option.some.inj hF
     have pz : HoldAll E H hn100 [.loop 0 c100_0 (F100_l0_1_S a5 a2.Prog a2.Source a2.Limit a2.Parts r68 [] 0) (.exit 0) (F100_l0_1_X1 a5 a2.Prog a2.Source a2.Limit a2.Parts r68 w73)] := ⟨(F100_l0_1_ok K a5 a2.Prog a2.Source a2.Limit a2.Parts r68 K [] 0 _ h70), trivial⟩
     exact fn_playC hn100 (r := F100_res (GTurned.mk a5 w73 true 0)) (q170 (q171 (q172 (q181 (q185 pz))))) (by kernel_rfl) (by kernel_rfl)
    refine bind_some hF (fun r74 h75 hF => ?_)
    have q186 : PQ hn100 fun l => (.test (ine a4 a2.Source) false :: .test a7 false :: .test (beqb (ieq a3 0) false) true :: .test (beqb (ieq a3 0) false) true :: .test (beqb (ieq a3 0) false) true :: .test (ieq a3 0) false :: .call 69 [.agg (eGGraph a1), .one (.lit (.int .i64 a4))] (F69_res r74) :: .test (leadsAny (Res.mk [(.one (.own 89 (.sl (len r74) (flat eGEdge r74))))] [])) false :: l) := fun z => ⟨(ine_t h50), h51, (beqb_ff h67), (beqb_ff h67), (beqb_ff h67), h67, (F69_ok K a1 a4 _ h75), (leads_ok (by simp [leadsAny, RV.leads, RC.leads, leadsT, hasSl_lit, flat_ns eGEdge_ns])), z⟩
    refine bind_some hF (fun y77 h76 hF => ?_)
    refine sum_some hF (fun w78 hx hF => ?_) (fun w79 hx hF => ?_)
    ·
     subst hx
     obtain rfl := Option.some.inj hF
     have pz : HoldAll E H hn100 [.loop 0 c100_0 (F100_l0_3_S a5 a2.Prog a2.Source a2.Limit a2.Parts r74 [] 0) (.exit 0) (F100_l0_3_X0 a5 a2.Prog a2.Source a2.Limit a2.Parts r74 w78)] := ⟨(F100_l0_3_ok K a5 a2.Prog a2.Source a2.Limit a2.Parts r74 K [] 0 _ h76), trivial⟩
     exact fn_playC hn100 (r := F100_res (GTurned.mk a5 w78 true 0)) (q170 (q171 (q172 (q181 (q186 pz))))) (by kernel_rfl) (by kernel_rfl)
    subst hx
    obtain rfl := Option.some.inj hF
    have pz : HoldAll E H hn100 [.loop 0 c100_0 (F100_l0_3_S a5 a2.Prog a2.Source a2.Limit a2.Parts r74 [] 0) .ret (F100_l0_3_X1 a5 a2.Prog a2.Source a2.Limit a2.Parts r74 w79)] := ⟨(F100_l0_3_ok K a5 a2.Prog a2.Source a2.Limit a2.Parts r74 K [] 0 _ h76), trivial⟩
    exact fn_playC hn100 (r := F100_res (GTurned.mk 0 [] false 8)) (q170 (q171 (q172 (q181 (q186 pz))))) (by kernel_rfl) (by kernel_rfl)
   refine cond_some hF (fun h80 hF => ?_) (fun h80 hF => ?_)
   ·
    refine bind_some hF (fun r81 h82 hF => ?_)
    refine bind_some hF (fun r83 h84 hF => ?_)
    have q187 : PQ hn100 fun l => (.test (ine a4 a2.Source) true :: .test a7 true :: .call 98 [.one (.lit (.int .i64 a2.Prog)), .one (.lit (.int .i64 a5)), .one (.lit (.int .i64 a6))] (F98_res r81) :: .test (leadsAny (Res.mk [(.one (.im (.lit (.int .i64 r81.1)))), (.one (.im (.lit (.int .i64 r81.2))))] [])) false :: .test (beqb false false) true :: .test (beqb false false) true :: .test (beqb false false) true :: .test false false :: .call 69 [.agg (eGGraph a1), .one (.lit (.int .i64 a4))] (F69_res r83) :: .test (leadsAny (Res.mk [(.one (.own 89 (.sl (len r83) (flat eGEdge r83))))] [])) false :: l) := fun z => ⟨(ine_f h50), h80, (F98_ok K a2.Prog a5 a6 _ h82), (leads_ok (by simp [leadsAny, RV.leads, RC.leads, leadsT, hasSl_lit, flat_ns eGEdge_ns])), (beqb_ff rfl), (beqb_ff rfl), (beqb_ff rfl), rfl, (F69_ok K a1 a4 _ h84), (leads_ok (by simp [leadsAny, RV.leads, RC.leads, leadsT, hasSl_lit, flat_ns eGEdge_ns])), z⟩
    refine bind_some hF (fun y86 h85 hF => ?_)
    refine sum_some hF (fun w87 hx hF => ?_) (fun w88 hx hF => ?_)
    ·
     subst hx
     obtain rfl := Option.some.inj hF
     have pz : HoldAll E H hn100 [.loop 0 c100_0 (F100_l0_2_S r81.1 a2.Prog a2.Source a2.Limit a2.Parts (ine r81.1 a5) r83 [] 0) .ret (F100_l0_2_X0 r81.1 a2.Prog a2.Source a2.Limit a2.Parts (ine r81.1 a5) r83 w87)] := ⟨(F100_l0_2_ok K r81.1 a2.Prog a2.Source a2.Limit a2.Parts (ine r81.1 a5) r83 K [] 0 _ h85), trivial⟩
     exact fn_playC hn100 (r := F100_res (GTurned.mk 0 [] false 8)) (q170 (q171 (q172 (q181 (q187 pz))))) (by kernel_rfl) (by kernel_rfl)
    subst hx
    obtain rfl := Option.some.inj hF
    have pz : HoldAll E H hn100 [.loop 0 c100_0 (F100_l0_2_S r81.1 a2.Prog a2.Source a2.Limit a2.Parts (ine r81.1 a5) r83 [] 0) (.exit 0) (F100_l0_2_X1 r81.1 a2.Prog a2.Source a2.Limit a2.Parts (ine r81.1 a5) r83 w88)] := ⟨(F100_l0_2_ok K r81.1 a2.Prog a2.Source a2.Limit a2.Parts (ine r81.1 a5) r83 K [] 0 _ h85), trivial⟩
    exact fn_playC hn100 (r := F100_res (GTurned.mk r81.1 w88 true 0)) (q170 (q171 (q172 (q181 (q187 pz))))) (by kernel_rfl) (by kernel_rfl)
   refine bind_some hF (fun r89 h90 hF => ?_)
   have q188 : PQ hn100 fun l => (.test (ine a4 a2.Source) true :: .test a7 false :: .test (beqb false false) true :: .test (beqb false false) true :: .test (beqb false false) true :: .test false false :: .call 69 [.agg (eGGraph a1), .one (.lit (.int .i64 a4))] (F69_res r89) :: .test (leadsAny (Res.mk [(.one (.own 89 (.sl (len r89) (flat eGEdge r89))))] [])) false :: l) := fun z => ⟨(ine_f h50), h80, (beqb_ff rfl), (beqb_ff rfl), (beqb_ff rfl), rfl, (F69_ok K a1 a4 _ h90), (leads_ok (by simp [leadsAny, RV.leads, RC.leads, leadsT, hasSl_lit, flat_ns eGEdge_ns])), z⟩
   refine bind_some hF (fun y92 h91 hF => ?_)
   refine sum_some hF (fun w93 hx hF => ?_) (fun w94 hx hF => ?_)
   ·
    subst hx
    obtain rfl := Option.some.inj hF
    have pz : HoldAll E H hn100 [.loop 0 c100_0 (F100_l0_3_S a5 a2.Prog a2.Source a2.Limit a2.Parts r89 [] 0) (.exit 0) (F100_l0_3_X0 a5 a2.Prog a2.Source a2.Limit a2.Parts r89 w93)] := ⟨(F100_l0_3_ok K a5 a2.Prog a2.Source a2.Limit a2.Parts r89 K [] 0 _ h91), trivial⟩
    exact fn_playC hn100 (r := F100_res (GTurned.mk a5 w93 true 0)) (q170 (q171 (q172 (q181 (q188 pz))))) (by kernel_rfl) (by kernel_rfl)
   subst hx
   obtain rfl := Option.some.inj hF
   have pz : HoldAll E H hn100 [.loop 0 c100_0 (F100_l0_3_S a5 a2.Prog a2.Source a2.Limit a2.Parts r89 [] 0) .ret (F100_l0_3_X1 a5 a2.Prog a2.Source a2.Limit a2.Parts r89 w94)] := ⟨(F100_l0_3_ok K a5 a2.Prog a2.Source a2.Limit a2.Parts r89 K [] 0 _ h91), trivial⟩
   exact fn_playC hn100 (r := F100_res (GTurned.mk 0 [] false 8)) (q170 (q171 (q172 (q181 (q188 pz))))) (by kernel_rfl) (by kernel_rfl)
  have q189 : PQ hn100 fun l => (.test (igt a3 40) false :: .test (ieq a2.Prog 5) false :: .test (beqb (ieq a2.Prog 1) false) true :: .test (beqb (ieq a2.Prog 1) false) true :: .test (beqb (ieq a2.Prog 1) false) true :: .test (ieq a2.Prog 1) false :: l) := fun z => ⟨(igt_eq h14), h15, (beqb_ff h49), (beqb_ff h49), (beqb_ff h49), h49, z⟩
  refine cond_some hF (fun h95 hF => ?_) (fun h95 hF => ?_)
  ·
   have q190 : PQ hn100 fun l => (.test (beqb (ieq a2.Prog 3) true) true :: .test (beqb (ieq a2.Prog 3) true) true :: .test (beqb (ieq a2.Prog 3) true) true :: .test (beqb (ieq a2.Prog 3) true) true :: .test (ieq a2.Prog 3) true :: l) := fun z => ⟨(beqb_t h95), (beqb_t h95), (beqb_t h95), (beqb_t h95), h95, z⟩
   refine cond_some hF (fun h96 hF => ?_) (fun h96 hF => ?_)
   ·
    refine cond_some hF (fun h97 hF => ?_) (fun h97 hF => ?_)
    ·
     refine bind_some hF (fun r98 h99 hF => ?_)
     have q191 : PQ hn100 fun l => (.test (ine a4 a2.Source) false :: .test a7 true :: .call 98 [.one (.lit (.int .i64 a2.Prog)), .one (.lit (.int .i64 a5)), .one (.lit (.int .i64 a6))] (F98_res r98) :: .test (leadsAny (Res.mk [(.one (.im (.lit (.int .i64 r98.1)))), (.one (.im (.lit (.int .i64 r98.2))))] [])) false :: l) := fun z => ⟨(ine_t h96), h97, (F98_ok K a2.Prog a5 a6 _ h99), (leads_ok (by simp [leadsAny, RV.leads, RC.leads, leadsT, hasSl_lit])), z⟩
     refine cond_some hF (fun h100 hF => ?_) (fun h100 hF => ?_)
     ·
      refine bind_some hF (fun r101 h102 hF => ?_)
      have q192 : PQ hn100 fun l => (.test (beqb (ieq a3 0) false) false :: .test (beqb (ieq a3 0) false) false :: .test (beqb (ieq a3 0) false) false :: .test (ieq a3 0) true :: .call 69 [.agg (eGGraph a1), .one (.lit (.int .i64 a4))] (F69_res r101) :: .test (leadsAny (Res.mk [(.one (.own 89 (.sl (len r101) (flat eGEdge r101))))] [])) false :: l) := fun z => ⟨(beqb_ft h100), (beqb_ft h100), (beqb_ft h100), h100, (F69_ok K a1 a4 _ h102), (leads_ok (by simp [leadsAny, RV.leads, RC.leads, leadsT, hasSl_lit, flat_ns eGEdge_ns])), z⟩
      refine bind_some hF (fun y104 h103 hF => ?_)
      refine sum_some hF (fun w105 hx hF => ?_) (fun w106 hx hF => ?_)
      ·
       subst hx
       obtain rfl := Option.some.inj hF
       have pz : HoldAll E H hn100 [.loop 0 c100_0 (F100_l0_1_S r98.1 a2.Prog a2.Source a2.Limit a2.Parts r101 [] 0) .ret (F100_l0_1_X0 r98.1 a2.Prog a2.Source a2.Limit a2.Parts r101 w105)] := ⟨(F100_l0_1_ok K r98.1 a2.Prog a2.Source a2.Limit a2.Parts r101 K [] 0 _ h103), trivial⟩
       exact fn_playC hn100 (r := F100_res (GTurned.mk 0 [] false 8)) (q170 (q171 (q172 (q189 (q190 (q191 (q192 pz))))))) (by kernel_rfl) (by kernel_rfl)
      subst hx
      obtain rfl := Option.some.inj hF
      have pz : HoldAll E H hn100 [.loop 0 c100_0 (F100_l0_1_S r98.1 a2.Prog a2.Source a2.Limit a2.Parts r101 [] 0) (.exit 0) (F100_l0_1_X1 r98.1 a2.Prog a2.Source a2.Limit a2.Parts r101 w106)] := ⟨(F100_l0_1_ok K r98.1 a2.Prog a2.Source a2.Limit a2.Parts r101 K [] 0 _ h103), trivial⟩
      exact fn_playC hn100 (r := F100_res (GTurned.mk r98.1 w106 true 0)) (q170 (q171 (q172 (q189 (q190 (q191 (q192 pz))))))) (by kernel_rfl) (by kernel_rfl)
     refine bind_some hF (fun r107 h108 hF => ?_)
     have q193 : PQ hn100 fun l => (.test (beqb (ieq a3 0) false) true :: .test (beqb (ieq a3 0) false) true :: .test (beqb (ieq a3 0) false) true :: .test (ieq a3 0) false :: .call 69 [.agg (eGGraph a1), .one (.lit (.int .i64 a4))] (F69_res r107) :: .test (leadsAny (Res.mk [(.one (.own 89 (.sl (len r107) (flat eGEdge r107))))] [])) false :: l) := fun z => ⟨(beqb_ff h100), (beqb_ff h100), (beqb_ff h100), h100, (F69_ok K a1 a4 _ h108), (leads_ok (by simp [leadsAny, RV.leads, RC.leads, leadsT, hasSl_lit, flat_ns eGEdge_ns])), z⟩
     refine bind_some hF (fun y110 h109 hF => ?_)
     refine sum_some hF (fun w111 hx hF => ?_) (fun w112 hx hF => ?_)
     ·
      subst hx
      obtain rfl := Option.some.inj hF
      have pz : HoldAll E H hn100 [.loop 0 c100_0 (F100_l0_2_S r98.1 a2.Prog a2.Source a2.Limit a2.Parts (ine r98.1 a5) r107 [] 0) .ret (F100_l0_2_X0 r98.1 a2.Prog a2.Source a2.Limit a2.Parts (ine r98.1 a5) r107 w111)] := ⟨(F100_l0_2_ok K r98.1 a2.Prog a2.Source a2.Limit a2.Parts (ine r98.1 a5) r107 K [] 0 _ h109), trivial⟩
      exact fn_playC hn100 (r := F100_res (GTurned.mk 0 [] false 8)) (q170 (q171 (q172 (q189 (q190 (q191 (q193 pz))))))) (by kernel_rfl) (by kernel_rfl)
     subst hx
     obtain rfl := Option.some.inj hF
     have pz : HoldAll E H hn100 [.loop 0 c100_0 (F100_l0_2_S r98.1 a2.Prog a2.Source a2.Limit a2.Parts (ine r98.1 a5) r107 [] 0) (.exit 0) (F100_l0_2_X1 r98.1 a2.Prog a2.Source a2.Limit a2.Parts (ine r98.1 a5) r107 w112)] := ⟨(F100_l0_2_ok K r98.1 a2.Prog a2.Source a2.Limit a2.Parts (ine r98.1 a5) r107 K [] 0 _ h109), trivial⟩
     exact fn_playC hn100 (r := F100_res (GTurned.mk r98.1 w112 true 0)) (q170 (q171 (q172 (q189 (q190 (q191 (q193 pz))))))) (by kernel_rfl) (by kernel_rfl)
    refine cond_some hF (fun h113 hF => ?_) (fun h113 hF => ?_)
    ·
     refine bind_some hF (fun r114 h115 hF => ?_)
     have q194 : PQ hn100 fun l => (.test (ine a4 a2.Source) false :: .test a7 false :: .test (beqb (ieq a3 0) false) false :: .test (beqb (ieq a3 0) false) false :: .test (beqb (ieq a3 0) false) false :: .test (ieq a3 0) true :: .call 69 [.agg (eGGraph a1), .one (.lit (.int .i64 a4))] (F69_res r114) :: .test (leadsAny (Res.mk [(.one (.own 89 (.sl (len r114) (flat eGEdge r114))))] [])) false :: l) := fun z => ⟨(ine_t h96), h97, (beqb_ft h113), (beqb_ft h113), (beqb_ft h113), h113, (F69_ok K a1 a4 _ h115), (leads_ok (by simp [leadsAny, RV.leads, RC.leads, leadsT, hasSl_lit, flat_ns eGEdge_ns])), z⟩
     refine bind_some hF (fun y117 h116 hF => ?_)
     refine sum_some hF (fun w118 hx hF => ?_) (fun w119 hx hF => ?_)
     ·
      subst hx
      obtain rfl := Option.some.inj hF
      have pz : HoldAll E H hn100 [.loop 0 c100_0 (F100_l0_1_S a5 a2.Prog a2.Source a2.Limit a2.Parts r114 [] 0) .ret (F100_l0_1_X0 a5 a2.Prog a2.Source a2.Limit a2.Parts r114 w118)] := ⟨(F100_l0_1_ok K a5 a2.Prog a2.Source a2.Limit a2.Parts r114 K [] 0 _ h116), trivial⟩
      exact fn_playC hn100 (r := F100_res (GTurned.mk 0 [] false 8)) (q170 (q171 (q172 (q189 (q190 (q194 pz)))))) (by kernel_rfl) (by kernel_rfl)
     subst hx
     obtain rfl := Option.some.inj hF
     have pz : HoldAll E H hn100 [.loop 0 c100_0 (F100_l0_1_S a5 a2.Prog a2.Source a2.Limit a2.Parts r114 [] 0) (.exit 0) (F100_l0_1_X1 a5 a2.Prog a2.Source a2.Limit a2.Parts r114 w119)] := ⟨(F100_l0_1_ok K a5 a2.Prog a2.Source a2.Limit a2.Parts r114 K [] 0 _ h116), trivial⟩
     exact fn_playC hn100 (r := F100_res (GTurned.mk a5 w119 true 0)) (q170 (q171 (q172 (q189 (q190 (q194 pz)))))) (by kernel_rfl) (by kernel_rfl)
    refine bind_some hF (fun r120 h121 hF => ?_)
    have q195 : PQ hn100 fun l => (.test (ine a4 a2.Source) false :: .test a7 false :: .test (beqb (ieq a3 0) false) true :: .test (beqb (ieq a3 0) false) true :: .test (beqb (ieq a3 0) false) true :: .test (ieq a3 0) false :: .call 69 [.agg (eGGraph a1), .one (.lit (.int .i64 a4))] (F69_res r120) :: .test (leadsAny (Res.mk [(.one (.own 89 (.sl (len r120) (flat eGEdge r120))))] [])) false :: l) := fun z => ⟨(ine_t h96), h97, (beqb_ff h113), (beqb_ff h113), (beqb_ff h113), h113, (F69_ok K a1 a4 _ h121), (leads_ok (by simp [leadsAny, RV.leads, RC.leads, leadsT, hasSl_lit, flat_ns eGEdge_ns])), z⟩
    refine bind_some hF (fun y123 h122 hF => ?_)
    refine sum_some hF (fun w124 hx hF => ?_) (fun w125 hx hF => ?_)
    ·
     subst hx
     obtain rfl := Option.some.inj hF
     have pz : HoldAll E H hn100 [.loop 0 c100_0 (F100_l0_3_S a5 a2.Prog a2.Source a2.Limit a2.Parts r120 [] 0) (.exit 0) (F100_l0_3_X0 a5 a2.Prog a2.Source a2.Limit a2.Parts r120 w124)] := ⟨(F100_l0_3_ok K a5 a2.Prog a2.Source a2.Limit a2.Parts r120 K [] 0 _ h122), trivial⟩
     exact fn_playC hn100 (r := F100_res (GTurned.mk a5 w124 true 0)) (q170 (q171 (q172 (q189 (q190 (q195 pz)))))) (by kernel_rfl) (by kernel_rfl)
    subst hx
    obtain rfl := Option.some.inj hF
    have pz : HoldAll E H hn100 [.loop 0 c100_0 (F100_l0_3_S a5 a2.Prog a2.Source a2.Limit a2.Parts r120 [] 0) .ret (F100_l0_3_X1 a5 a2.Prog a2.Source a2.Limit a2.Parts r120 w125)] := ⟨(F100_l0_3_ok K a5 a2.Prog a2.Source a2.Limit a2.Parts r120 K [] 0 _ h122), trivial⟩
    exact fn_playC hn100 (r := F100_res (GTurned.mk 0 [] false 8)) (q170 (q171 (q172 (q189 (q190 (q195 pz)))))) (by kernel_rfl) (by kernel_rfl)
   refine cond_some hF (fun h126 hF => ?_) (fun h126 hF => ?_)
   ·
    refine bind_some hF (fun r127 h128 hF => ?_)
    refine bind_some hF (fun r129 h130 hF => ?_)
    have q196 : PQ hn100 fun l => (.test (ine a4 a2.Source) true :: .test a7 true :: .call 98 [.one (.lit (.int .i64 a2.Prog)), .one (.lit (.int .i64 a5)), .one (.lit (.int .i64 a6))] (F98_res r127) :: .test (leadsAny (Res.mk [(.one (.im (.lit (.int .i64 r127.1)))), (.one (.im (.lit (.int .i64 r127.2))))] [])) false :: .test (beqb false false) true :: .test (beqb false false) true :: .test (beqb false false) true :: .test false false :: .call 69 [.agg (eGGraph a1), .one (.lit (.int .i64 a4))] (F69_res r129) :: .test (leadsAny (Res.mk [(.one (.own 89 (.sl (len r129) (flat eGEdge r129))))] [])) false :: l) := fun z => ⟨(ine_f h96), h126, (F98_ok K a2.Prog a5 a6 _ h128), (leads_ok (by simp [leadsAny, RV.leads, RC.leads, leadsT, hasSl_lit, flat_ns eGEdge_ns])), (beqb_ff rfl), (beqb_ff rfl), (beqb_ff rfl), rfl, (F69_ok K a1 a4 _ h130), (leads_ok (by simp [leadsAny, RV.leads, RC.leads, leadsT, hasSl_lit, flat_ns eGEdge_ns])), z⟩
    refine bind_some hF (fun y132 h131 hF => ?_)
    refine sum_some hF (fun w133 hx hF => ?_) (fun w134 hx hF => ?_)
    ·
     subst hx
     obtain rfl := Option.some.inj hF
     have pz : HoldAll E H hn100 [.loop 0 c100_0 (F100_l0_2_S r127.1 a2.Prog a2.Source a2.Limit a2.Parts (ine r127.1 a5) r129 [] 0) .ret (F100_l0_2_X0 r127.1 a2.Prog a2.Source a2.Limit a2.Parts (ine r127.1 a5) r129 w133)] := ⟨(F100_l0_2_ok K r127.1 a2.Prog a2.Source a2.Limit a2.Parts (ine r127.1 a5) r129 K [] 0 _ h131), trivial⟩
     exact fn_playC hn100 (r := F100_res (GTurned.mk 0 [] false 8)) (q170 (q171 (q172 (q189 (q190 (q196 pz)))))) (by kernel_rfl) (by kernel_rfl)
    subst hx
    obtain rfl := Option.some.inj hF
    have pz : HoldAll E H hn100 [.loop 0 c100_0 (F100_l0_2_S r127.1 a2.Prog a2.Source a2.Limit a2.Parts (ine r127.1 a5) r129 [] 0) (.exit 0) (F100_l0_2_X1 r127.1 a2.Prog a2.Source a2.Limit a2.Parts (ine r127.1 a5) r129 w134)] := ⟨(F100_l0_2_ok K r127.1 a2.Prog a2.Source a2.Limit a2.Parts (ine r127.1 a5) r129 K [] 0 _ h131), trivial⟩
    exact fn_playC hn100 (r := F100_res (GTurned.mk r127.1 w134 true 0)) (q170 (q171 (q172 (q189 (q190 (q196 pz)))))) (by kernel_rfl) (by kernel_rfl)
   refine bind_some hF (fun r135 h136 hF => ?_)
   have q197 : PQ hn100 fun l => (.test (ine a4 a2.Source) true :: .test a7 false :: .test (beqb false false) true :: .test (beqb false false) true :: .test (beqb false false) true :: .test false false :: .call 69 [.agg (eGGraph a1), .one (.lit (.int .i64 a4))] (F69_res r135) :: .test (leadsAny (Res.mk [(.one (.own 89 (.sl (len r135) (flat eGEdge r135))))] [])) false :: l) := fun z => ⟨(ine_f h96), h126, (beqb_ff rfl), (beqb_ff rfl), (beqb_ff rfl), rfl, (F69_ok K a1 a4 _ h136), (leads_ok (by simp [leadsAny, RV.leads, RC.leads, leadsT, hasSl_lit, flat_ns eGEdge_ns])), z⟩
   refine bind_some hF (fun y138 h137 hF => ?_)
   refine sum_some hF (fun w139 hx hF => ?_) (fun w140 hx hF => ?_)
   ·
    subst hx
    obtain rfl := Option.some.inj hF
    have pz : HoldAll E H hn100 [.loop 0 c100_0 (F100_l0_3_S a5 a2.Prog a2.Source a2.Limit a2.Parts r135 [] 0) (.exit 0) (F100_l0_3_X0 a5 a2.Prog a2.Source a2.Limit a2.Parts r135 w139)] := ⟨(F100_l0_3_ok K a5 a2.Prog a2.Source a2.Limit a2.Parts r135 K [] 0 _ h137), trivial⟩
    exact fn_playC hn100 (r := F100_res (GTurned.mk a5 w139 true 0)) (q170 (q171 (q172 (q189 (q190 (q197 pz)))))) (by kernel_rfl) (by kernel_rfl)
   subst hx
   obtain rfl := Option.some.inj hF
   have pz : HoldAll E H hn100 [.loop 0 c100_0 (F100_l0_3_S a5 a2.Prog a2.Source a2.Limit a2.Parts r135 [] 0) .ret (F100_l0_3_X1 a5 a2.Prog a2.Source a2.Limit a2.Parts r135 w140)] := ⟨(F100_l0_3_ok K a5 a2.Prog a2.Source a2.Limit a2.Parts r135 K [] 0 _ h137), trivial⟩
   exact fn_playC hn100 (r := F100_res (GTurned.mk 0 [] false 8)) (q170 (q171 (q172 (q189 (q190 (q197 pz)))))) (by kernel_rfl) (by kernel_rfl)
  have q198 : PQ hn100 fun l => (.test (beqb (ieq a2.Prog 3) true) false :: .test (beqb (ieq a2.Prog 3) true) false :: .test (beqb (ieq a2.Prog 3) true) false :: .test (beqb (ieq a2.Prog 3) true) false :: .test (ieq a2.Prog 3) false :: .test false false :: l) := fun z => ⟨(beqb_t h95), (beqb_t h95), (beqb_t h95), (beqb_t h95), h95, rfl, z⟩
  refine cond_some hF (fun h141 hF => ?_) (fun h141 hF => ?_)
  ·
   refine bind_some hF (fun r142 h143 hF => ?_)
   have q199 : PQ hn100 fun l => (.test a7 true :: .call 98 [.one (.lit (.int .i64 a2.Prog)), .one (.lit (.int .i64 a5)), .one (.lit (.int .i64 a6))] (F98_res r142) :: .test (leadsAny (Res.mk [(.one (.im (.lit (.int .i64 r142.1)))), (.one (.im (.lit (.int .i64 r142.2))))] [])) false :: l) := fun z => ⟨h141, (F98_ok K a2.Prog a5 a6 _ h143), (leads_ok (by simp [leadsAny, RV.leads, RC.leads, leadsT, hasSl_lit])), z⟩
   refine cond_some hF (fun h144 hF => ?_) (fun h144 hF => ?_)
   ·
    refine bind_some hF (fun r145 h146 hF => ?_)
    have q200 : PQ hn100 fun l => (.test (beqb (ieq a3 0) false) false :: .test (beqb (ieq a3 0) false) false :: .test (beqb (ieq a3 0) false) false :: .test (ieq a3 0) true :: .call 69 [.agg (eGGraph a1), .one (.lit (.int .i64 a4))] (F69_res r145) :: .test (leadsAny (Res.mk [(.one (.own 89 (.sl (len r145) (flat eGEdge r145))))] [])) false :: l) := fun z => ⟨(beqb_ft h144), (beqb_ft h144), (beqb_ft h144), h144, (F69_ok K a1 a4 _ h146), (leads_ok (by simp [leadsAny, RV.leads, RC.leads, leadsT, hasSl_lit, flat_ns eGEdge_ns])), z⟩
    refine bind_some hF (fun y148 h147 hF => ?_)
    refine sum_some hF (fun w149 hx hF => ?_) (fun w150 hx hF => ?_)
    ·
     subst hx
     obtain rfl := Option.some.inj hF
     have pz : HoldAll E H hn100 [.loop 0 c100_0 (F100_l0_1_S r142.1 a2.Prog a2.Source a2.Limit a2.Parts r145 [] 0) .ret (F100_l0_1_X0 r142.1 a2.Prog a2.Source a2.Limit a2.Parts r145 w149)] := ⟨(F100_l0_1_ok K r142.1 a2.Prog a2.Source a2.Limit a2.Parts r145 K [] 0 _ h147), trivial⟩
     exact fn_playC hn100 (r := F100_res (GTurned.mk 0 [] false 8)) (q170 (q171 (q172 (q189 (q198 (q199 (q200 pz))))))) (by kernel_rfl) (by kernel_rfl)
    subst hx
    obtain rfl := Option.some.inj hF
    have pz : HoldAll E H hn100 [.loop 0 c100_0 (F100_l0_1_S r142.1 a2.Prog a2.Source a2.Limit a2.Parts r145 [] 0) (.exit 0) (F100_l0_1_X1 r142.1 a2.Prog a2.Source a2.Limit a2.Parts r145 w150)] := ⟨(F100_l0_1_ok K r142.1 a2.Prog a2.Source a2.Limit a2.Parts r145 K [] 0 _ h147), trivial⟩
    exact fn_playC hn100 (r := F100_res (GTurned.mk r142.1 w150 true 0)) (q170 (q171 (q172 (q189 (q198 (q199 (q200 pz))))))) (by kernel_rfl) (by kernel_rfl)
   refine bind_some hF (fun r151 h152 hF => ?_)
   have q201 : PQ hn100 fun l => (.test (beqb (ieq a3 0) false) true :: .test (beqb (ieq a3 0) false) true :: .test (beqb (ieq a3 0) false) true :: .test (ieq a3 0) false :: .call 69 [.agg (eGGraph a1), .one (.lit (.int .i64 a4))] (F69_res r151) :: .test (leadsAny (Res.mk [(.one (.own 89 (.sl (len r151) (flat eGEdge r151))))] [])) false :: l) := fun z => ⟨(beqb_ff h144), (beqb_ff h144), (beqb_ff h144), h144, (F69_ok K a1 a4 _ h152), (leads_ok (by simp [leadsAny, RV.leads, RC.leads, leadsT, hasSl_lit, flat_ns eGEdge_ns])), z⟩
   refine bind_some hF (fun y154 h153 hF => ?_)
   refine sum_some hF (fun w155 hx hF => ?_) (fun w156 hx hF => ?_)
   ·
    subst hx
    obtain rfl := Option.some.inj hF
    have pz : HoldAll E H hn100 [.loop 0 c100_0 (F100_l0_2_S r142.1 a2.Prog a2.Source a2.Limit a2.Parts (ine r142.1 a5) r151 [] 0) .ret (F100_l0_2_X0 r142.1 a2.Prog a2.Source a2.Limit a2.Parts (ine r142.1 a5) r151 w155)] := ⟨(F100_l0_2_ok K r142.1 a2.Prog a2.Source a2.Limit a2.Parts (ine r142.1 a5) r151 K [] 0 _ h153), trivial⟩
    exact fn_playC hn100 (r := F100_res (GTurned.mk 0 [] false 8)) (q170 (q171 (q172 (q189 (q198 (q199 (q201 pz))))))) (by kernel_rfl) (by kernel_rfl)
   subst hx
   obtain rfl := Option.some.inj hF
   have pz : HoldAll E H hn100 [.loop 0 c100_0 (F100_l0_2_S r142.1 a2.Prog a2.Source a2.Limit a2.Parts (ine r142.1 a5) r151 [] 0) (.exit 0) (F100_l0_2_X1 r142.1 a2.Prog a2.Source a2.Limit a2.Parts (ine r142.1 a5) r151 w156)] := ⟨(F100_l0_2_ok K r142.1 a2.Prog a2.Source a2.Limit a2.Parts (ine r142.1 a5) r151 K [] 0 _ h153), trivial⟩
   exact fn_playC hn100 (r := F100_res (GTurned.mk r142.1 w156 true 0)) (q170 (q171 (q172 (q189 (q198 (q199 (q201 pz))))))) (by kernel_rfl) (by kernel_rfl)
  refine cond_some hF (fun h157 hF => ?_) (fun h157 hF => ?_)
  ·
   refine bind_some hF (fun r158 h159 hF => ?_)
   have q202 : PQ hn100 fun l => (.test a7 false :: .test (beqb (ieq a3 0) false) false :: .test (beqb (ieq a3 0) false) false :: .test (beqb (ieq a3 0) false) false :: .test (ieq a3 0) true :: .call 69 [.agg (eGGraph a1), .one (.lit (.int .i64 a4))] (F69_res r158) :: .test (leadsAny (Res.mk [(.one (.own 89 (.sl (len r158) (flat eGEdge r158))))] [])) false :: l) := fun z => ⟨h141, (beqb_ft h157), (beqb_ft h157), (beqb_ft h157), h157, (F69_ok K a1 a4 _ h159), (leads_ok (by simp [leadsAny, RV.leads, RC.leads, leadsT, hasSl_lit, flat_ns eGEdge_ns])), z⟩
   refine bind_some hF (fun y161 h160 hF => ?_)
   refine sum_some hF (fun w162 hx hF => ?_) (fun w163 hx hF => ?_)
   ·
    subst hx
    obtain rfl := Option.some.inj hF
    have pz : HoldAll E H hn100 [.loop 0 c100_0 (F100_l0_1_S a5 a2.Prog a2.Source a2.Limit a2.Parts r158 [] 0) .ret (F100_l0_1_X0 a5 a2.Prog a2.Source a2.Limit a2.Parts r158 w162)] := ⟨(F100_l0_1_ok K a5 a2.Prog a2.Source a2.Limit a2.Parts r158 K [] 0 _ h160), trivial⟩
    exact fn_playC hn100 (r := F100_res (GTurned.mk 0 [] false 8)) (q170 (q171 (q172 (q189 (q198 (q202 pz)))))) (by kernel_rfl) (by kernel_rfl)
   subst hx
   obtain rfl := Option.some.inj hF
   have pz : HoldAll E H hn100 [.loop 0 c100_0 (F100_l0_1_S a5 a2.Prog a2.Source a2.Limit a2.Parts r158 [] 0) (.exit 0) (F100_l0_1_X1 a5 a2.Prog a2.Source a2.Limit a2.Parts r158 w163)] := ⟨(F100_l0_1_ok K a5 a2.Prog a2.Source a2.Limit a2.Parts r158 K [] 0 _ h160), trivial⟩
   exact fn_playC hn100 (r := F100_res (GTurned.mk a5 w163 true 0)) (q170 (q171 (q172 (q189 (q198 (q202 pz)))))) (by kernel_rfl) (by kernel_rfl)
  refine bind_some hF (fun r164 h165 hF => ?_)
  have q203 : PQ hn100 fun l => (.test a7 false :: .test (beqb (ieq a3 0) false) true :: .test (beqb (ieq a3 0) false) true :: .test (beqb (ieq a3 0) false) true :: .test (ieq a3 0) false :: .call 69 [.agg (eGGraph a1), .one (.lit (.int .i64 a4))] (F69_res r164) :: .test (leadsAny (Res.mk [(.one (.own 89 (.sl (len r164) (flat eGEdge r164))))] [])) false :: l) := fun z => ⟨h141, (beqb_ff h157), (beqb_ff h157), (beqb_ff h157), h157, (F69_ok K a1 a4 _ h165), (leads_ok (by simp [leadsAny, RV.leads, RC.leads, leadsT, hasSl_lit, flat_ns eGEdge_ns])), z⟩
  refine bind_some hF (fun y167 h166 hF => ?_)
  refine sum_some hF (fun w168 hx hF => ?_) (fun w169 hx hF => ?_)
  ·
   subst hx
   obtain rfl := Option.some.inj hF
   have pz : HoldAll E H hn100 [.loop 0 c100_0 (F100_l0_3_S a5 a2.Prog a2.Source a2.Limit a2.Parts r164 [] 0) (.exit 0) (F100_l0_3_X0 a5 a2.Prog a2.Source a2.Limit a2.Parts r164 w168)] := ⟨(F100_l0_3_ok K a5 a2.Prog a2.Source a2.Limit a2.Parts r164 K [] 0 _ h166), trivial⟩
   exact fn_playC hn100 (r := F100_res (GTurned.mk a5 w168 true 0)) (q170 (q171 (q172 (q189 (q198 (q203 pz)))))) (by kernel_rfl) (by kernel_rfl)
  subst hx
  obtain rfl := Option.some.inj hF
  have pz : HoldAll E H hn100 [.loop 0 c100_0 (F100_l0_3_S a5 a2.Prog a2.Source a2.Limit a2.Parts r164 [] 0) .ret (F100_l0_3_X1 a5 a2.Prog a2.Source a2.Limit a2.Parts r164 w169)] := ⟨(F100_l0_3_ok K a5 a2.Prog a2.Source a2.Limit a2.Parts r164 K [] 0 _ h166), trivial⟩
  exact fn_playC hn100 (r := F100_res (GTurned.mk 0 [] false 8)) (q170 (q171 (q172 (q189 (q198 (q203 pz)))))) (by kernel_rfl) (by kernel_rfl)
 obtain rfl := Option.some.inj hF
 have pz : HoldAll E H hn100 [.call 59 [.agg (eGGraph a1), .agg (eGJob a2)] (F59_res r8), .test (leadsAny (Res.mk [(.one (.im (.lit (.int .i64 r8))))] [])) false, .test (ine r8 0) true] := ⟨(F59_ok K a1 a2 _ h9), (leads_ok (by simp [leadsAny, RV.leads, RC.leads, leadsT, hasSl_lit, flat_ns eGJob_ns])), (ine_f h10), trivial⟩
 exact fn_playC hn100 (r := F100_res (GTurned.mk 0 [] false r8)) pz (by kernel_rfl) (by kernel_rfl)
theorem u_add {a b : Int} (h : 0 ≤ a + b) (h2 : a + b < 18446744073709551616) : wadd .u64 a b = a + b := by
 show IntKind.u64.wrap (a + b) = _
 simp [IntKind.wrap, IntKind.signed, IntKind.bits]; omega
theorem u_mul {a b : Int} (h : 0 ≤ a * b) (h2 : a * b < 18446744073709551616) : wmul .u64 a b = a * b := by
 show IntKind.u64.wrap (a * b) = _
 simp only [IntKind.wrap, IntKind.signed, IntKind.bits, Bool.false_and]
 generalize a * b = t at *
 simp; omega
theorem u_quo {a : Int} (h : 0 ≤ a) (h2 : a < 18446744073709551616) : wquo .u64 a 4294967296 = a / 4294967296 := by
 show IntKind.u64.wrap (a.tdiv 4294967296) = _
 rw [Int.tdiv_eq_ediv_of_nonneg h]
 simp [IntKind.wrap, IntKind.signed, IntKind.bits]; omega
theorem u_rem {a : Int} (h : 0 ≤ a) : wrem a 4294967296 = a % 4294967296 := by
 show a.tmod 4294967296 = _
 exact Int.tmod_eq_emod_of_nonneg h
theorem F174_spec (K : Nat) {x b : Int} (hx : 0 ≤ x) (hx2 : x ≤ 9223372036854775808) (hb : 1 ≤ b) (hb2 : b ≤ 1000) :
   ∃ hi lo, F174 K x b = some (GA199.mk hi lo) ∧ hi * 18446744073709551616 + lo = x * b ∧ 0 ≤ lo ∧ lo < 18446744073709551616 ∧ 0 ≤ hi := by
 obtain ⟨u, hu⟩ : ∃ u, x / 4294967296 = u := ⟨_, rfl⟩
 obtain ⟨v, hv⟩ : ∃ v, x % 4294967296 = v := ⟨_, rfl⟩
 have hu0 : 0 ≤ u ∧ u ≤ 2147483648 := by omega
 have hv0 : 0 ≤ v ∧ v < 4294967296 := by omega
 have hxu : x = u * 4294967296 + v := by omega
 obtain ⟨P, hP⟩ : ∃ P, u * b = P := ⟨_, rfl⟩
 obtain ⟨Q, hQ⟩ : ∃ Q, v * b = Q := ⟨_, rfl⟩
 have hP0 : 0 ≤ P := hP ▸ Int.mul_nonneg hu0.1 (by omega)
 have hQ0 : 0 ≤ Q := hQ ▸ Int.mul_nonneg hv0.1 (by omega)
 have hP1 : P ≤ 2147483648 * 1000 := hP ▸ Int.mul_le_mul hu0.2 hb2 (by omega) (by omega)
 have hQ1 : Q ≤ 4294967296 * 1000 := hQ ▸ Int.mul_le_mul (by omega) hb2 (by omega) (by omega)
 have hxb : x * b = P * 4294967296 + Q := by rw [hxu, Int.add_mul, hQ, ← hP, Int.mul_right_comm]
 have a1 : wquo .u64 x 4294967296 = u := by rw [u_quo hx (by omega), hu]
 have a2 : wquo .u64 b 4294967296 = 0 := by rw [u_quo (by omega) (by omega)]; omega
 have a3 : wrem x 4294967296 = v := by rw [u_rem hx, hv]
 have a4 : wrem b 4294967296 = b := by rw [u_rem (by omega)]; omega
 have b1 : wmul .u64 u 0 = 0 := by rw [u_mul (by omega) (by omega)]; omega
 have b2 : wmul .u64 u b = P := by rw [u_mul (by omega) (by omega), hP]
 have b3 : wmul .u64 v 0 = 0 := by rw [u_mul (by omega) (by omega)]; omega
 have b4 : wmul .u64 v b = Q := by rw [u_mul (by omega) (by omega), hQ]
 have c1 : wquo .u64 P 4294967296 = P / 4294967296 := u_quo hP0 (by omega)
 have c2 : wquo .u64 0 4294967296 = 0 := by rw [u_quo (by omega) (by omega)]; omega
 have c3 : wquo .u64 Q 4294967296 = Q / 4294967296 := u_quo hQ0 (by omega)
 have c4 : wrem P 4294967296 = P % 4294967296 := u_rem hP0
 have c5 : wrem 0 4294967296 = 0 := by rw [u_rem (by omega)]; omega
 have c6 : wrem Q 4294967296 = Q % 4294967296 := u_rem hQ0
 have d1 : wadd .u64 (Q / 4294967296) (P % 4294967296) = Q / 4294967296 + P % 4294967296 := u_add (by omega) (by omega)
 have d2 : wadd .u64 (Q / 4294967296 + P % 4294967296) 0 = Q / 4294967296 + P % 4294967296 := by rw [u_add (by omega) (by omega)]; omega
 have d3 : wquo .u64 (Q / 4294967296 + P % 4294967296) 4294967296 = (Q / 4294967296 + P % 4294967296) / 4294967296 := u_quo (by omega) (by omega)
 have d4 : wrem (Q / 4294967296 + P % 4294967296) 4294967296 = (Q / 4294967296 + P % 4294967296) % 4294967296 := u_rem (by omega)
 have d5 : wadd .u64 0 (P / 4294967296) = P / 4294967296 := by rw [u_add (by omega) (by omega)]; omega
 have d6 : wadd .u64 (P / 4294967296) 0 = P / 4294967296 := by rw [u_add (by omega) (by omega)]; omega
 have d7 : wadd .u64 (P / 4294967296) ((Q / 4294967296 + P % 4294967296) / 4294967296) = P / 4294967296 + (Q / 4294967296 + P % 4294967296) / 4294967296 := u_add (by omega) (by omega)
 have d8 : wmul .u64 ((Q / 4294967296 + P % 4294967296) % 4294967296) 4294967296 = (Q / 4294967296 + P % 4294967296) % 4294967296 * 4294967296 := u_mul (by omega) (by omega)
 have d9 : wadd .u64 ((Q / 4294967296 + P % 4294967296) % 4294967296 * 4294967296) (Q % 4294967296) = (Q / 4294967296 + P % 4294967296) % 4294967296 * 4294967296 + Q % 4294967296 := u_add (by omega) (by omega)
 refine ⟨P / 4294967296 + (Q / 4294967296 + P % 4294967296) / 4294967296, (Q / 4294967296 + P % 4294967296) % 4294967296 * 4294967296 + Q % 4294967296, ?_, ?_, by omega, by omega, by omega⟩
 · rw [F174, a1, a2, a3, a4, b1, b2, b3, b4, c1, c2, c3, c4, c5, c6, d1, d2, d3, d4, d5, d6, d7, d8, d9]
 · rw [hxb]; omega
theorem F175_spec (K : Nat) {a : Int} (ha : i64 a) : F175 K a = some (bif ilt a 0 then -a else a) := by
 unfold i64 at ha
 rw [F175]
 cases h : ilt a 0
 · have := ilt_f.1 h
   have e : wconv .u64 a = a := by
     show IntKind.u64.wrap a = _
     simp [IntKind.wrap, IntKind.signed, IntKind.bits]; omega
   rw [e]; rfl
 · have := ilt_iff.1 h
   have e1 : wadd .i64 a 1 = a + 1 := wadd_i64 (by unfold i64; omega)
   have e2 : wneg .i64 (a + 1) = -(a + 1) := by
     show IntKind.i64.wrap (0 - (a + 1)) = _
     rw [IntKind.wrap_i64]; omega
   have e3 : wconv .u64 (-(a + 1)) = -(a + 1) := by
     show IntKind.u64.wrap _ = _
     simp [IntKind.wrap, IntKind.signed, IntKind.bits]; omega
   have e4 : wadd .u64 (-(a + 1)) 1 = -a := by rw [u_add (by omega) (by omega)]; omega
   rw [e1, e2, e3, e4]; rfl
def mulS (a b : Int) : Int × Bool := bif fitsB (a * b) then (a * b, true) else (0, false)
theorem F170_spec (K : Nat) {a b : Int} (ha : i64 a) (hb : 1 ≤ b) (hb2 : b ≤ 1000) : F170 K a b = some (mulS a b) := by
 have hb0 : ilt b 0 = false := ilt_f.2 (by omega)
 have h175 : F175 K b = some b := by rw [F175_spec K (by unfold i64; omega), hb0]; rfl
 have hconv : ∀ n : Int, 0 ≤ n → n ≤ 9223372036854775807 → wconv .i64 n = n := fun n h1 h2 => by
   show IntKind.i64.wrap n = _
   rw [IntKind.wrap_i64]; omega
 rw [F170, F175_spec K ha, h175, mulS, hb0]
 unfold i64 at ha
 cases h : ilt a 0
 · have hn := ilt_f.1 h
   obtain ⟨hi, lo, e, h1, h2, h3, h4⟩ := F174_spec K hn (by omega) hb hb2
   simp only [Option.bind_some, cond_false, e]
   cases c1 : ilt 0 hi
   · have c1' := ilt_f.1 c1
     cases c2 : ilt 9223372036854775808 lo
     · have c2' := ilt_f.1 c2
       cases c3 : ieq lo 9223372036854775808
       · have c3' := ieq_f.1 c3
         have hf : fitsB (a * b) = true := fitsB_iff.2 (by unfold i64; omega)
         have : lo = a * b := by omega
         rw [hf, hconv lo h2 (by omega), this]; rfl
       · have c3' := ieq_iff.1 c3
         have hf : fitsB (a * b) = false := fitsB_f.2 (by omega)
         rw [hf]; rfl
     · have c2' := ilt_iff.1 c2
       have hf : fitsB (a * b) = false := fitsB_f.2 (by omega)
       rw [hf]; rfl
   · have c1' := ilt_iff.1 c1
     have hf : fitsB (a * b) = false := fitsB_f.2 (by omega)
     rw [hf]; rfl
 · have hn := ilt_iff.1 h
   obtain ⟨hi, lo, e, h1, h2, h3, h4⟩ := F174_spec K (x := -a) (by omega) (by omega) hb hb2
   rw [Int.neg_mul] at h1
   simp only [Option.bind_some, cond_true, e]
   cases c1 : ilt 0 hi
   · have c1' := ilt_f.1 c1
     cases c2 : ilt 9223372036854775808 lo
     · have c2' := ilt_f.1 c2
       cases c3 : ieq lo 9223372036854775808
       · have c3' := ieq_f.1 c3
         have hf : fitsB (a * b) = true := fitsB_iff.2 (by unfold i64; omega)
         have hw : wneg .i64 lo = a * b := by
           show IntKind.i64.wrap (0 - lo) = _
           rw [IntKind.wrap_i64]; omega
         rw [hf, hconv lo h2 (by omega), hw]; rfl
       · have c3' := ieq_iff.1 c3
         have hf : fitsB (a * b) = true := fitsB_iff.2 (by unfold i64; omega)
         have : a * b = -9223372036854775808 := by omega
         rw [hf, this]; rfl
     · have c2' := ilt_iff.1 c2
       have hf : fitsB (a * b) = false := fitsB_f.2 (by omega)
       rw [hf]; rfl
   · have c1' := ilt_iff.1 c1
     have hf : fitsB (a * b) = false := fitsB_f.2 (by omega)
     rw [hf]; rfl
theorem tdiv_i64 {a d : Int} (ha : i64 a) (hd : 1 ≤ d) : wquo .i64 a d = a.tdiv d ∧ i64 (a.tdiv d) := by
 unfold i64 at ha
 have h1 : (a.tdiv d).natAbs ≤ a.natAbs := Int.natAbs_tdiv_le_natAbs a d
 have h2 : -9223372036854775808 ≤ a.tdiv d ∧ a.tdiv d ≤ 9223372036854775808 := by omega
 have h3 : 0 ≤ a → 0 ≤ a.tdiv d := fun h => Int.tdiv_nonneg h (by omega)
 have h4 : a ≤ 0 → a.tdiv d ≤ 0 := fun h => by
   have := Int.tdiv_nonneg (show 0 ≤ -a by omega) (show 0 ≤ d by omega)
   rw [Int.neg_tdiv] at this; omega
 have h5 : i64 (a.tdiv d) := by
   unfold i64
   rcases Int.le_total 0 a with h | h
   · have := h3 h; omega
   · have := h4 h; omega
 refine ⟨?_, h5⟩
 unfold i64 at h5
 show IntKind.i64.wrap (a.tdiv d) = _
 rw [IntKind.wrap_i64]; omega
theorem F171_spec (K : Nat) {a b : Int} (ha : i64 a) (hb : 1 ≤ b) (hb2 : b ≤ 1000) : F171 K a b = some (mulS a b) := by
 unfold i64 at ha
 rw [F171, mulS, ieq_f.2 (by omega : b ≠ 0), ieq_f.2 (by omega : b ≠ -1)]
 cases h0 : ieq a 0
 · have h0' := ieq_f.1 h0
   cases h1 : ieq a (-1)
   · have hz : izero b = false := decide_eq_false (by omega)
     simp only [cond_false, hz]
     obtain ⟨t, ht⟩ : ∃ t, a * b = t := ⟨_, rfl⟩
     obtain ⟨p, hp⟩ : ∃ p, wmul .i64 a b = p := ⟨_, rfl⟩
     have hp' : p = if 9223372036854775808 ≤ t % 18446744073709551616 then t % 18446744073709551616 - 18446744073709551616 else t % 18446744073709551616 := by
       rw [← hp, ← ht]
       show IntKind.i64.wrap (a * b) = _
       rw [IntKind.wrap_i64, ht]
       split <;> omega
     have hpr : -9223372036854775808 ≤ p ∧ p ≤ 9223372036854775807 := by rw [hp']; split <;> omega
     obtain ⟨q, hq⟩ : ∃ q, p.tdiv b = q := ⟨_, rfl⟩
     obtain ⟨r, hr⟩ : ∃ r, p.tmod b = r := ⟨_, rfl⟩
     have hdiv : b * q + r = p := by rw [← hq, ← hr]; exact Int.mul_tdiv_add_tmod p b
     have hrb : -1000 < r ∧ r < 1000 := by
       have h1 := Int.tmod_lt_of_pos p (show 0 < b by omega)
       have h2 := Int.lt_tmod_of_pos p (show 0 < b by omega)
       omega
     have hqr : -9223372036854775808 ≤ q ∧ q ≤ 9223372036854775807 := by
       have : i64 (p.tdiv b) := (tdiv_i64 (show i64 p from hpr) hb).2
       unfold i64 at this
       rw [hq] at this; exact this
     have hw : wquo .i64 p b = q := by rw [(tdiv_i64 (show i64 p from hpr) hb).1, hq]
     rw [hp, hw, ht]
     cases hf : fitsB t
     · have hf' := fitsB_f.1 hf
       have hne : ieq q a = false := ieq_f.2 fun hc => by
         have hba : b * q = t := by rw [hc, Int.mul_comm]; exact ht
         rw [hba] at hdiv
         have := hp'
         split at this <;> omega
       rw [hne]; rfl
     · have hf' := fitsB_iff.1 hf
       unfold i64 at hf'
       have hpt : p = t := by rw [hp']; split <;> omega
       have hqa : q = a := by
         rw [← hq, hpt, ← ht]
         exact Int.mul_tdiv_cancel a (by omega)
       rw [hqa, ieq_refl, hpt]; rfl
   · have h1' := ieq_iff.1 h1
     subst h1'
     have e1 : ieq (-1) (-9223372036854775808) = false := rfl
     have e2 : ieq b (-9223372036854775808) = false := ieq_f.2 (by omega)
     have e3 : fitsB (-1 * b) = true := fitsB_iff.2 (by unfold i64; omega)
     have e4 : wmul .i64 (-1) b = -1 * b := wmul_ok (by unfold i64; omega)
     rw [e1, e2, e3, e4]; rfl
 · have h0' := ieq_iff.1 h0
   subst h0'
   have e3 : fitsB (0 * b) = true := fitsB_iff.2 (by unfold i64; omega)
   rw [e3, Int.zero_mul]; rfl
def ratioS (v n d : Int) : Int × Bool := bif ilt d 1 then (0, false) else bif (mulS v n).2 then ((mulS v n).1.tdiv d, true) else (0, false)
theorem mulS_i64 {a b : Int} : i64 (mulS a b).1 := by
 rw [mulS]
 cases h : fitsB (a * b)
 · unfold i64; simp
 · exact fitsB_iff.1 h
theorem ratioS_i64 {v n d : Int} : i64 (ratioS v n d).1 := by
 have h0 : i64 0 := by unfold i64; omega
 rw [ratioS]
 cases hd : ilt d 1
 · cases (mulS v n).2
   · exact h0
   · exact (tdiv_i64 mulS_i64 (ilt_f.1 hd)).2
 · exact h0
theorem F167_spec (K : Nat) {v n : Int} (d : Int) (hv : i64 v) (hn : 1 ≤ n) (hn2 : n ≤ 1000) : F167 K v n d = some (ratioS v n d) := by
 rw [F167, F170_spec K hv hn hn2, Option.bind_some, ratioS]
 cases hd : ilt d 1
 · have hd' := ilt_f.1 hd
   have hz : izero d = false := decide_eq_false (by omega)
   rw [(tdiv_i64 (mulS_i64 (a := v) (b := n)) hd').1, hz]
   cases (mulS v n).2 <;> rfl
 · cases (mulS v n).2 <;> rfl
theorem F168_spec (K : Nat) {v n : Int} (d : Int) (hv : i64 v) (hn : 1 ≤ n) (hn2 : n ≤ 1000) : F168 K v n d = some (ratioS v n d) := by
 rw [F168, F171_spec K hv hn hn2, ratioS]
 cases hd : ilt d 1
 · have hd' := ilt_f.1 hd
   have hz : izero d = false := decide_eq_false (by omega)
   rw [cond_false, cond_false, Option.bind_some, (tdiv_i64 (mulS_i64 (a := v) (b := n)) hd').1, hz]
   cases (mulS v n).2 <;> rfl
 · rfl
def sumS (got : Int) : Int × Bool := bif (ratioS got 85 100).2 then addS 150000 (ratioS got 85 100).1 else (0, false)
theorem F147_spec (K : Nat) {got : Int} (hg : i64 got) : F147 K got = some (sumS got) := by
 rw [F147, F168_spec K 100 hg (by omega) (by omega), Option.bind_some, sumS]
 cases (ratioS got 85 100).2
 · rfl
 · rw [cond_true, cond_true, F145_spec K (by unfold i64; omega) ratioS_i64]; rfl
theorem addS_i64 {a b : Int} : i64 (addS a b).1 := by
 rw [addS]
 cases h : fitsB (a + b)
 · unfold i64; simp
 · exact fitsB_iff.1 h
theorem sumS_i64 {got : Int} : i64 (sumS got).1 := by
 rw [sumS]
 cases (ratioS got 85 100).2
 · unfold i64; simp
 · exact addS_i64
def outs (g : GGraph) (v : Int) : List GEdge := bif ieq (gcheck g) 0 then g.Edges.filter (fun e => ieq e.From v) else []
theorem out_go (l : List GEdge) (v : Int) : ∀ (s : List GEdge), s.length + l.length ≤ 80 →
   goL (fun x (s : List GEdge) c => bif (ieq x.From v) then (bif (apok (len s) 1 24) then c (appL s [x]) else none) else c s) (fun s => some s) l s = some (s ++ l.filter (fun e => ieq e.From v)) := by
 induction l with
 | nil => intro s _; simp [goL]
 | cons x l ih =>
   intro s hs
   simp only [List.length_cons] at hs
   rw [goL]
   cases hx : ieq x.From v
   · rw [cond_false, ih s (by omega), List.filter_cons, hx]; rfl
   · have ha : apok (len s) 1 24 = true := decide_eq_true ⟨by show s.length + 1 ≤ _; omega, by show (s.length + 1) * 24 ≤ _; omega⟩
     rw [cond_true, ha, cond_true, ih _ (by simp [appL]; omega), List.filter_cons, hx]
     simp [appL]
theorem F68_spec {K : Nat} (hK : 100 ≤ K) (g : GGraph) (v : Int) : F68 K g v = some (outs g v) := by
 rw [F68, F64_spec hK, Option.bind_some, outs]
 cases hc : ieq (gcheck g) 0
 · rfl
 · obtain ⟨h1, h2, h3, h4⟩ := gcheck_ok hc
   have e : F68_l0_0 K g v K [] 0 = _ := scanL (l := g.Edges) (L := fun k s i => F68_l0_0 K g v k s i) (fun x (s : List GEdge) c => bif (ieq x.From v) then (bif (apok (len s) 1 24) then c (appL s [x]) else none) else c s) (fun s => some s) (fun k s i _ => rfl) (by omega) (by omega) []
   rw [cond_true, cond_true, e, out_go _ _ _ (by simpa using h3)]; rfl
theorem F69_spec {K : Nat} (hK : 100 ≤ K) (g : GGraph) (v : Int) : F69 K g v = some (outs g v) := by
 rw [F69, F65_spec hK, Option.bind_some, outs]
 cases hc : ieq (gcheck g) 0
 · rfl
 · obtain ⟨h1, h2, h3, h4⟩ := gcheck_ok hc
   have e : F69_l0_0 K g v K [] 0 = _ := scanL (l := g.Edges) (L := fun k s i => F69_l0_0 K g v k s i) (fun x (s : List GEdge) c => bif (ieq x.From v) then (bif (apok (len s) 1 24) then c (appL s [x]) else none) else c s) (fun s => some s) (fun k s i _ => rfl) (by omega) (by omega) []
   rw [cond_true, cond_true, e, out_go _ _ _ (by simpa using h3)]; rfl
theorem outs_len {g : GGraph} {v : Int} : (outs g v).length ≤ 80 := by
 rw [outs]
 cases hc : ieq (gcheck g) 0
 · simp
 · obtain ⟨h1, h2, h3, h4⟩ := gcheck_ok hc
   exact Nat.le_trans (List.length_filter_le _ _) h3
def sendS (p val : Int) (e : GEdge) (many : Int) : Int × Bool := bif ieq p 1 then addS val e.W else bif ieq p 3 then addS val 1 else bif ieq p 5 then ratioS val 1 many else (val, true)
def sendA (p val many : Int) : List GEdge → List GMsg → Option (List GMsg)
 | [], s => some s
 | e :: l, s => bif (sendS p val e many).2 then sendA p val many l (s ++ [GMsg.mk e.To (sendS p val e many).1]) else none
def sumO {α : Type} : Option α → Unit ⊕ α
 | none => .inl ()
 | some s => .inr s
def sendO (rest : Bool) (val : Int) : Option (List GMsg) → Int × List GMsg × Bool × Int
 | none => (0, [], false, 8)
 | some s => (val, s, rest, 0)
theorem sum_elim (rest : Bool) (val : Int) (o : Option (List GMsg)) : (some (sumO o)).bind (fun y => Sum.elim (fun w => some ((0, ([], (false, 8))) : Int × List GMsg × Bool × Int)) (fun w => some (val, (w, (rest, 0)))) y) = some (sendO rest val o) := by
 cases o <;> rfl
theorem sum_elim' (rest : Bool) (val : Int) (o : Option (List GMsg)) : Sum.elim (fun w => some ((0, ([], (false, 8))) : Int × List GMsg × Bool × Int)) (fun w => some (val, (w, (rest, 0)))) (sumO o) = some (sendO rest val o) := by
 cases o <;> rfl
theorem send_go (p val many : Int) (f : GEdge → Option (Int × Bool)) (l : List GEdge) (hf : ∀ e ∈ l, f e = some (sendS p val e many)) : ∀ (s : List GMsg), s.length + l.length ≤ 80 →
   goL (fun e (s : List GMsg) c => (f e).bind fun r => bif r.2 then (bif (apok (len s) 1 16) then c (appL s [(GMsg.mk e.To r.1)]) else none) else some (.inl ())) (fun s => some (.inr s)) l s = some (sumO (sendA p val many l s)) := by
 induction l with
 | nil => intro s _; rfl
 | cons x l ih =>
   intro s hs
   simp only [List.length_cons] at hs
   rw [goL, hf x List.mem_cons_self, Option.bind_some, sendA]
   cases (sendS p val x many).2
   · rfl
   · have ha : apok (len s) 1 16 = true := decide_eq_true ⟨by show s.length + 1 ≤ _; omega, by show (s.length + 1) * 16 ≤ _; omega⟩
     rw [cond_true, ha, cond_true, ih (fun e he => hf e (List.mem_cons_of_mem _ he)) _ (by simp [appL]; omega), cond_true]; rfl
theorem outs_W {g : GGraph} {v : Int} {e : GEdge} (h : e ∈ outs g v) : 0 ≤ e.W ∧ e.W ≤ 4611686018427387904 := by
 rw [outs] at h
 cases hc : ieq (gcheck g) 0
 · rw [hc] at h; cases h
 · obtain ⟨h1, h2, h3, h4⟩ := gcheck_ok hc
   rw [hc] at h
   have := badE_ok (gchk_mem h4 e (List.mem_filter.1 h).1)
   omega
theorem F160_spec (K : Nat) {val : Int} {e : GEdge} (many : Int) (hv : i64 val) (he : i64 e.W) : F160 K val e = some (sendS 1 val e many) := by
 rw [F160, F144_spec K hv he]; rfl
theorem F161_spec (K : Nat) {val : Int} (e : GEdge) (many : Int) (hv : i64 val) : F161 K val e = some (sendS 3 val e many) := by
 rw [F161, F144_spec K hv (by unfold i64; omega)]; rfl
theorem F148_spec (K : Nat) (p : Int) {val many : Int} {e : GEdge} (hv : i64 val) (he : i64 e.W) : F148 K p val e many = some (sendS p val e many) := by
 rw [F148, sendS, F145_spec K hv he, F145_spec K hv (show i64 1 by unfold i64; omega), F168_spec K many hv (show (1 : Int) ≤ 1 by omega) (show (1 : Int) ≤ 1000 by omega)]
 cases ieq p 1 <;> cases ieq p 3 <;> cases ieq p 5 <;> rfl
def manyO (g : GGraph) (v : Int) : Int := nlen (len (outs g v))
section loops
variable {K : Nat} (hK : 100 ≤ K) (g : GGraph) (v : Int) {val : Int} (hv : i64 val)
include hK hv
theorem loop99_0 (b : Bool) : F99_l0_0 K val b (outs g v) K [] 0 = some (sumO (sendA 1 val (manyO g v) (outs g v) [])) := by
 have hl := outs_len (g := g) (v := v)
 have e := scanL (l := outs g v) (L := fun k s i => F99_l0_0 K val b (outs g v) k s i) (fun e (s : List GMsg) c => (F160 K val e).bind fun r => bif r.2 then (bif (apok (len s) 1 16) then c (appL s [(GMsg.mk e.To r.1)]) else none) else some (.inl ())) (fun s => some (.inr s)) (fun k s i _ => rfl) (K := K) (by omega) (by omega) []
 exact e.trans (send_go 1 val (manyO g v) (F160 K val) _ (fun e he => F160_spec K _ hv (by have := outs_W he; unfold i64; omega)) [] (by simpa using hl))
theorem loop99_1 (b : Bool) : F99_l0_1 K val b (outs g v) K [] 0 = some (sumO (sendA 3 val (manyO g v) (outs g v) [])) := by
 have hl := outs_len (g := g) (v := v)
 have e := scanL (l := outs g v) (L := fun k s i => F99_l0_1 K val b (outs g v) k s i) (fun e (s : List GMsg) c => (F161 K val e).bind fun r => bif r.2 then (bif (apok (len s) 1 16) then c (appL s [(GMsg.mk e.To r.1)]) else none) else some (.inl ())) (fun s => some (.inr s)) (fun k s i _ => rfl) (K := K) (by omega) (by omega) []
 exact e.trans (send_go 3 val (manyO g v) (F161 K val) _ (fun e he => F161_spec K e _ hv) [] (by simpa using hl))
omit hv in
theorem loop99_2 (val : Int) (b : Bool) : F99_l0_2 K val b (outs g v) K [] 0 = some (sumO (sendA 2 val (manyO g v) (outs g v) [])) := by
 have hl := outs_len (g := g) (v := v)
 have e := scanL (l := outs g v) (L := fun k s i => F99_l0_2 K val b (outs g v) k s i) (fun e (s : List GMsg) c => (F163 K val e).bind fun r => bif r.2 then (bif (apok (len s) 1 16) then c (appL s [(GMsg.mk e.To r.1)]) else none) else some (.inl ())) (fun s => some (.inr s)) (fun k s i _ => rfl) (K := K) (by omega) (by omega) []
 exact e.trans (send_go 2 val (manyO g v) (F163 K val) _ (fun e he => rfl) [] (by simpa using hl))
omit hv in
theorem loop99_3 (val : Int) (b : Bool) : F99_l0_3 K val b (outs g v) K [] 0 = some (sumO (sendA 4 val (manyO g v) (outs g v) [])) := by
 have hl := outs_len (g := g) (v := v)
 have e := scanL (l := outs g v) (L := fun k s i => F99_l0_3 K val b (outs g v) k s i) (fun e (s : List GMsg) c => (F163 K val e).bind fun r => bif r.2 then (bif (apok (len s) 1 16) then c (appL s [(GMsg.mk e.To r.1)]) else none) else some (.inl ())) (fun s => some (.inr s)) (fun k s i _ => rfl) (K := K) (by omega) (by omega) []
 exact e.trans (send_go 4 val (manyO g v) (F163 K val) _ (fun e he => rfl) [] (by simpa using hl))
theorem loop146 : F146_l0_0 K (outs g v) val K [] 0 = some (sumO (sendA 5 val (manyO g v) (outs g v) [])) := by
 have hl := outs_len (g := g) (v := v)
 have e := scanL (l := outs g v) (L := fun k s i => F146_l0_0 K (outs g v) val k s i) (fun e (s : List GMsg) c => (F167 K val 1 (nlen (len (outs g v)))).bind fun r => bif r.2 then (bif (apok (len s) 1 16) then c (appL s [(GMsg.mk e.To r.1)]) else none) else some (.inl ())) (fun s => some (.inr s)) (fun k s i _ => rfl) (K := K) (by omega) (by omega) []
 exact e.trans (send_go 5 val (manyO g v) (fun _ => F167 K val 1 (nlen (len (outs g v)))) _ (fun e he => F167_spec K _ hv (by omega) (by omega)) [] (by simpa using hl))
theorem loop100_1 (p a b c : Int) : F100_l0_1 K val p a b c (outs g v) K [] 0 = some (sumO (sendA p val (manyO g v) (outs g v) [])) := by
 have hl := outs_len (g := g) (v := v)
 have e := scanL (l := outs g v) (L := fun k s i => F100_l0_1 K val p a b c (outs g v) k s i) (fun e (s : List GMsg) c => (F148 K p val e (nlen (len (outs g v)))).bind fun r => bif r.2 then (bif (apok (len s) 1 16) then c (appL s [(GMsg.mk e.To r.1)]) else none) else some (.inl ())) (fun s => some (.inr s)) (fun k s i _ => rfl) (K := K) (by omega) (by omega) []
 exact e.trans (send_go p val (manyO g v) (fun e => F148 K p val e (nlen (len (outs g v)))) _ (fun e he => F148_spec K p hv (by have := outs_W he; unfold i64; omega)) [] (by simpa using hl))
theorem loop100_0 (p a b c : Int) (m : Bool) : F100_l0_0 K val p a b c m (outs g v) K [] 0 = some (bif m then sumO (sendA p val (manyO g v) (outs g v) []) else .inr []) := by
 have hl := outs_len (g := g) (v := v)
 cases m
 · obtain ⟨k, rfl⟩ : ∃ k, K = k + 1 := ⟨K - 1, by omega⟩
   rw [F100_l0_0]
   cases ilt 0 (nlen (len (outs g v))) <;> rfl
 · have e := scanL (l := outs g v) (L := fun k s i => F100_l0_0 K val p a b c true (outs g v) k s i) (fun e (s : List GMsg) c => (F148 K p val e (nlen (len (outs g v)))).bind fun r => bif r.2 then (bif (apok (len s) 1 16) then c (appL s [(GMsg.mk e.To r.1)]) else none) else some (.inl ())) (fun s => some (.inr s)) (fun k s i _ => rfl) (K := K) (by omega) (by omega) []
   exact e.trans (send_go p val (manyO g v) (fun e => F148 K p val e (nlen (len (outs g v)))) _ (fun e he => F148_spec K p hv (by have := outs_W he; unfold i64; omega)) [] (by simpa using hl))
theorem loop100_2 (p a b c : Int) (m : Bool) : F100_l0_2 K val p a b c m (outs g v) K [] 0 = some (bif m then sumO (sendA p val (manyO g v) (outs g v) []) else .inr []) := by
 have hl := outs_len (g := g) (v := v)
 cases m
 · obtain ⟨k, rfl⟩ : ∃ k, K = k + 1 := ⟨K - 1, by omega⟩
   rw [F100_l0_2]
   cases ilt 0 (nlen (len (outs g v))) <;> rfl
 · have e := scanL (l := outs g v) (L := fun k s i => F100_l0_2 K val p a b c true (outs g v) k s i) (fun e (s : List GMsg) c => (F148 K p val e (nlen (len (outs g v)))).bind fun r => bif r.2 then (bif (apok (len s) 1 16) then c (appL s [(GMsg.mk e.To r.1)]) else none) else some (.inl ())) (fun s => some (.inr s)) (fun k s i _ => rfl) (K := K) (by omega) (by omega) []
   exact e.trans (send_go p val (manyO g v) (fun e => F148 K p val e (nlen (len (outs g v)))) _ (fun e he => F148_spec K p hv (by have := outs_W he; unfold i64; omega)) [] (by simpa using hl))
omit hv in
theorem loop100_3 (val p a b c : Int) : F100_l0_3 K val p a b c (outs g v) K [] 0 = some (.inl []) := by
 obtain ⟨k, rfl⟩ : ∃ k, K = k + 1 := ⟨K - 1, by omega⟩
 rw [F100_l0_3, ieq_refl]
 cases ilt 0 (nlen (len (outs g v))) <;> rfl
end loops
def rankW (step val got : Int) (sm : Bool) : Int × Bool := bif ilt 0 step then sumS (bif sm then got else 0) else (val, true)
def rankS (step : Int) (w : Int × Bool) (many : Int) (l : List GEdge) : Int × List GMsg × Bool × Int :=
 bif w.2 then (bif ile 10 step then (w.1, [], true, 0) else sendO false w.1 (sendA 5 w.1 many l [])) else (0, [], false, 8)
def turnV (p val got : Int) (sm : Bool) : Int := bif sm then (foldS p val got).1 else val
def turnM (p src step v val w : Int) : Bool := bif ieq step 0 && (bif ieq p 1 || ieq p 3 then ieq v src else true) then true else ine w val
def moveS (p : Int) (m : Bool) (w many : Int) (l : List GEdge) : Int × List GMsg × Bool × Int :=
 bif m then sendO true w (sendA p w many l []) else (w, [], true, 0)
def turnS (g : GGraph) (j : GJob) (step v val got : Int) (sm : Bool) : Int × List GMsg × Bool × Int :=
 bif ieq (jcheck g j) 0 then
   (bif ilt v 0 then (0, [], false, 4) else bif ile g.N v then (0, [], false, 4)
    else bif ilt step 0 then (0, [], false, 1) else bif ilt 40 step then (0, [], false, 1)
    else bif ieq j.Prog 5 then rankS step (rankW step val got sm) (manyO g v) (outs g v)
    else moveS j.Prog (turnM j.Prog j.Source step v val (turnV j.Prog val got sm)) (turnV j.Prog val got sm) (manyO g v) (outs g v))
 else (0, [], false, jcheck g j)
theorem F146_spec {K : Nat} (hK : 100 ≤ K) (g : GGraph) (v step : Int) {val got : Int} (hv : i64 val) (hg : i64 got) : F146 K (outs g v) step val got = some (rankS step (rankW step val got true) (manyO g v) (outs g v)) := by
 rw [F146, F167_spec K 100 hg (by omega) (by omega), Option.bind_some, F144_spec K (by unfold i64; omega) ratioS_i64, rankW, rankS]
 cases hs : ilt 0 step
 · rw [loop146 hK g v hv, sum_elim]
   cases ile 10 step <;> rfl
 · rw [cond_true, cond_true, Option.bind_some, cond_true, sumS]
   cases (ratioS got 85 100).2
   · rfl
   · cases h2 : (addS 150000 (ratioS got 85 100).1).2
     · rw [cond_true, cond_true, h2]; rfl
     · rw [cond_true, cond_true, cond_true, h2, cond_true, loop146 hK g v addS_i64, sum_elim]
       cases ile 10 step <;> rfl
theorem F99_spec {K : Nat} (hK : 100 ≤ K) (g : GGraph) (j : GJob) (step v : Int) {val got : Int} (sm : Bool) (hv : i64 val) (hg : i64 got) : F99 K g j step v val got sm = some (turnS g j step v val got sm) := by
 rw [F99, F94_spec hK, Option.bind_some, turnS]
 cases hc : ieq (jcheck g j) 0
 · rfl
 · obtain ⟨hgc, p1, p2, p3, p4, p5, p6, p7, p8⟩ := jcheck_ok hc
   rw [cond_true, cond_true]
   cases h1 : ilt v 0
   · cases h2 : ile g.N v
     · cases h3 : ilt step 0
       · cases h4 : ilt 40 step
         · simp only [cond_false]
           rcases prog_cases j.Prog with q | q | q | q | q | q
           · have e5 : ieq 1 5 = false := rfl
             have e4 : ieq 1 4 = false := rfl
             have e1 : ieq 1 1 = true := rfl
             have e3 : ieq 1 3 = false := rfl
             have eb : pbad 1 = false := rfl
             rw [F68_spec hK, q, F143_1, turnM, turnV, foldS, e5, e4, e1, e3, eb, moveS]
             simp only [Option.bind_some, cond_true, cond_false, af_1_1, af_1_3, af_1_2, af_1_4, af_1_5, af_1_0, af_3_1, af_3_3, af_3_2, af_3_4, af_3_5, af_3_0, af_2_1, af_2_3, af_2_2, af_2_4, af_2_5, af_2_0, af_4_1, af_4_3, af_4_2, af_4_4, af_4_5, af_4_0, af_5_1, af_5_3, af_5_2, af_5_4, af_5_5, af_5_0, af_0_1, af_0_3, af_0_2, af_0_4, af_0_5, af_0_0, loop99_0 hK g v hv, loop99_0 hK g v hg, F159, sum_elim', Bool.or_true, Bool.true_or, Bool.or_false, Bool.and_true]
             cases sm
             · have : ine val val = false := ine_t (ieq_refl val)
               simp only [cond_false, this]
               cases ieq step 0 <;> cases ieq v j.Source <;> rfl
             · cases hb : ilt got val
               · have : ine val val = false := ine_t (ieq_refl val)
                 simp only [cond_true, cond_false, this]
                 cases ieq step 0 <;> cases ieq v j.Source <;> rfl
               · have : ine got val = true := ine_f (ieq_f.2 (by have := ilt_iff.1 hb; omega))
                 simp only [cond_true, cond_false, this]
                 cases ieq step 0 <;> cases ieq v j.Source <;> rfl
           · have e5 : ieq 2 5 = false := rfl
             have e4 : ieq 2 4 = false := rfl
             have e1 : ieq 2 1 = false := rfl
             have e3 : ieq 2 3 = false := rfl
             have eb : pbad 2 = false := rfl
             rw [F68_spec hK, q, F143_2, turnM, turnV, foldS, e5, e4, e1, e3, eb, moveS]
             simp only [Option.bind_some, cond_true, cond_false, af_1_1, af_1_3, af_1_2, af_1_4, af_1_5, af_1_0, af_3_1, af_3_3, af_3_2, af_3_4, af_3_5, af_3_0, af_2_1, af_2_3, af_2_2, af_2_4, af_2_5, af_2_0, af_4_1, af_4_3, af_4_2, af_4_4, af_4_5, af_4_0, af_5_1, af_5_3, af_5_2, af_5_4, af_5_5, af_5_0, af_0_1, af_0_3, af_0_2, af_0_4, af_0_5, af_0_0, loop99_2 hK g v val, loop99_2 hK g v got, F159, sum_elim', Bool.or_true, Bool.true_or, Bool.or_false, Bool.and_true]
             cases sm
             · have : ine val val = false := ine_t (ieq_refl val)
               simp only [cond_false, this]
               cases ieq step 0 <;> rfl
             · cases hb : ilt got val
               · have : ine val val = false := ine_t (ieq_refl val)
                 simp only [cond_true, cond_false, this]
                 cases ieq step 0 <;> rfl
               · have : ine got val = true := ine_f (ieq_f.2 (by have := ilt_iff.1 hb; omega))
                 simp only [cond_true, cond_false, this]
                 cases ieq step 0 <;> rfl
           · have e5 : ieq 3 5 = false := rfl
             have e4 : ieq 3 4 = false := rfl
             have e1 : ieq 3 1 = false := rfl
             have e3 : ieq 3 3 = true := rfl
             have eb : pbad 3 = false := rfl
             rw [F68_spec hK, q, F143_3, turnM, turnV, foldS, e5, e4, e1, e3, eb, moveS]
             simp only [Option.bind_some, cond_true, cond_false, af_1_1, af_1_3, af_1_2, af_1_4, af_1_5, af_1_0, af_3_1, af_3_3, af_3_2, af_3_4, af_3_5, af_3_0, af_2_1, af_2_3, af_2_2, af_2_4, af_2_5, af_2_0, af_4_1, af_4_3, af_4_2, af_4_4, af_4_5, af_4_0, af_5_1, af_5_3, af_5_2, af_5_4, af_5_5, af_5_0, af_0_1, af_0_3, af_0_2, af_0_4, af_0_5, af_0_0, loop99_1 hK g v hv, loop99_1 hK g v hg, F159, sum_elim', Bool.or_true, Bool.true_or, Bool.or_false, Bool.and_true]
             cases sm
             · have : ine val val = false := ine_t (ieq_refl val)
               simp only [cond_false, this]
               cases ieq step 0 <;> cases ieq v j.Source <;> rfl
             · cases hb : ilt got val
               · have : ine val val = false := ine_t (ieq_refl val)
                 simp only [cond_true, cond_false, this]
                 cases ieq step 0 <;> cases ieq v j.Source <;> rfl
               · have : ine got val = true := ine_f (ieq_f.2 (by have := ilt_iff.1 hb; omega))
                 simp only [cond_true, cond_false, this]
                 cases ieq step 0 <;> cases ieq v j.Source <;> rfl
           · have e5 : ieq 4 5 = false := rfl
             have e4 : ieq 4 4 = true := rfl
             have e1 : ieq 4 1 = false := rfl
             have e3 : ieq 4 3 = false := rfl
             have eb : pbad 4 = false := rfl
             rw [F68_spec hK, q, F143_4, turnM, turnV, foldS, e5, e4, e1, e3, eb, moveS]
             simp only [Option.bind_some, cond_true, cond_false, af_1_1, af_1_3, af_1_2, af_1_4, af_1_5, af_1_0, af_3_1, af_3_3, af_3_2, af_3_4, af_3_5, af_3_0, af_2_1, af_2_3, af_2_2, af_2_4, af_2_5, af_2_0, af_4_1, af_4_3, af_4_2, af_4_4, af_4_5, af_4_0, af_5_1, af_5_3, af_5_2, af_5_4, af_5_5, af_5_0, af_0_1, af_0_3, af_0_2, af_0_4, af_0_5, af_0_0, loop99_3 hK g v val, loop99_3 hK g v got, F165, igt, sum_elim', Bool.or_true, Bool.true_or, Bool.or_false, Bool.and_true]
             have hd : decide (got > val) = ilt val got := rfl
             rw [hd]
             cases sm
             · have : ine val val = false := ine_t (ieq_refl val)
               simp only [cond_false, this]
               cases ieq step 0 <;> rfl
             · cases hb : ilt val got
               · have : ine val val = false := ine_t (ieq_refl val)
                 simp only [cond_true, cond_false, this]
                 cases ieq step 0 <;> rfl
               · have : ine got val = true := ine_f (ieq_f.2 (by have := ilt_iff.1 hb; omega))
                 simp only [cond_true, cond_false, this]
                 cases ieq step 0 <;> rfl
           · have e5 : ieq 5 5 = true := rfl
             rw [F68_spec hK, q, F143_5, e5]
             simp only [Option.bind_some, cond_true, cond_false, af_1_1, af_1_3, af_1_2, af_1_4, af_1_5, af_1_0, af_3_1, af_3_3, af_3_2, af_3_4, af_3_5, af_3_0, af_2_1, af_2_3, af_2_2, af_2_4, af_2_5, af_2_0, af_4_1, af_4_3, af_4_2, af_4_4, af_4_5, af_4_0, af_5_1, af_5_3, af_5_2, af_5_4, af_5_5, af_5_0, af_0_1, af_0_3, af_0_2, af_0_4, af_0_5, af_0_0, F146_spec hK g v step hv hg, F146_spec hK g v step hv (show i64 0 by unfold i64; omega)]
             cases sm <;> rfl
           · omega
         · rfl
       · rfl
     · rfl
   · rfl
def turned (t : Int × List GMsg × Bool × Int) : GTurned := GTurned.mk t.1 t.2.1 t.2.2.1 t.2.2.2
theorem tsum (rest : Bool) (val : Int) (o : Option (List GMsg)) : Sum.elim (fun w => some (GTurned.mk 0 [] false 8)) (fun w => some (GTurned.mk val w rest 0)) (sumO o) = some (turned (sendO rest val o)) := by
 cases o <;> rfl
theorem tcond (rest : Bool) (val : Int) (m : Bool) (x y : Unit ⊕ List GMsg) : Sum.elim (fun w => some (GTurned.mk 0 [] false 8)) (fun w => some (GTurned.mk val w rest 0)) (bif m then x else y) = bif m then Sum.elim (fun w => some (GTurned.mk 0 [] false 8)) (fun w => some (GTurned.mk val w rest 0)) x else Sum.elim (fun w => some (GTurned.mk 0 [] false 8)) (fun w => some (GTurned.mk val w rest 0)) y := by
 cases m <;> rfl
theorem F100_spec {K : Nat} (hK : 100 ≤ K) (g : GGraph) (j : GJob) (step v : Int) {val got : Int} (sm : Bool) (hv : i64 val) (hg : i64 got) : F100 K g j step v val got sm = some (turned (turnS g j step v val got sm)) := by
 rw [F100, F59_spec hK, Option.bind_some, turnS]
 cases hc : ieq (jcheck g j) 0
 · rfl
 · obtain ⟨hgc, p1, p2, p3, p4, p5, p6, p7, p8⟩ := jcheck_ok hc
   rw [cond_true, cond_true]
   cases h1 : ilt v 0
   · cases h2 : ile g.N v
     · cases h3 : ilt step 0
       · cases h4 : ilt 40 step
         · have i0 : i64 0 := by unfold i64; omega
           have hf : i64 (foldS j.Prog val got).1 := foldS_i64 hv hg
           have fl : ine val val = false := ine_t (ieq_refl val)
           simp only [cond_false, F69_spec hK, Option.bind_some, F147_spec K hg, F147_spec K i0, F98_spec K j.Prog hv hg]
           cases q5 : ieq j.Prog 5
           · simp only [cond_false, loop100_1 hK g v hv, loop100_1 hK g v hf, loop100_2 hK g v hv, loop100_2 hK g v hf, loop100_3 hK g v, Option.bind_some, tsum, Sum.elim_inl, tcond, Sum.elim_inr, moveS, turnM, turnV]
             cases sm
             · simp only [cond_false, fl]
               cases ieq j.Prog 1 <;> cases ieq j.Prog 3 <;> cases ieq v j.Source <;> cases ieq step 0 <;> rfl
             · simp only [cond_true]
               cases ieq j.Prog 1 <;> cases ieq j.Prog 3 <;> cases ieq v j.Source <;> cases ieq step 0 <;> simp only [cond_true, cond_false, Bool.and_true, Bool.and_false, Bool.true_and, Bool.false_and, Bool.or_true, Bool.or_false] <;> first | rfl | (cases ine (foldS j.Prog val got).1 val <;> rfl)
           · have q := ieq_iff.1 q5
             rw [q]
             simp only [cond_true, loop100_0 hK g v hv, loop100_0 hK g v sumS_i64, Option.bind_some, tsum, Sum.elim_inl, tcond, Sum.elim_inr, rankS, rankW]
             have hm : ilt step 10 = !(ile 10 step) := by
               cases h : ile 10 step
               · have := ile_f.1 h; exact ilt_iff.2 (by omega)
               · have := ile_iff.1 h; exact ilt_f.2 (by omega)
             simp only [hm]
             cases sm <;> cases ilt 0 step <;> cases ile 10 step <;> simp only [cond_true, cond_false, Bool.not_true, Bool.not_false] <;> first | rfl | (cases (sumS got).2 <;> rfl) | (cases (sumS 0).2 <;> rfl)
         · rfl
       · rfl
     · rfl
   · rfl
theorem sendA_To {p val many : Int} : ∀ {l : List GEdge} {s r : List GMsg}, sendA p val many l s = some r → r.map (·.To) = s.map (·.To) ++ l.map (·.To)
 | [], s, r, h => by injection h with h; subst h; simp
 | e :: l, s, r, h => by
   rw [sendA] at h
   cases hq : (sendS p val e many).2
   · rw [hq] at h; cases h
   · rw [hq, cond_true] at h
     rw [sendA_To h]; simp
theorem turn_out {g : GGraph} {j : GJob} {step v val got : Int} {sm : Bool} (h : ieq (turnS g j step v val got sm).2.2.2 0 = true) :
   (turnS g j step v val got sm).2.1 = [] ∨ ((turnS g j step v val got sm).2.1.map (·.To) = (outs g v).map (·.To)) := by
 have hs : ∀ (b : Bool) (w : Int) (p : Int), (sendO b w (sendA p w (manyO g v) (outs g v) [])).2.1 = [] ∨ (sendO b w (sendA p w (manyO g v) (outs g v) [])).2.1.map (·.To) = (outs g v).map (·.To) := fun b w p => by
   cases hq : sendA p w (manyO g v) (outs g v) []
   · left; rfl
   · right; have := sendA_To hq; simpa [sendO] using this
 rw [turnS]
 cases ieq (jcheck g j) 0
 · left; rfl
 · cases ilt v 0
   · cases ile g.N v
     · cases ilt step 0
       · cases ilt 40 step
         · simp only [cond_true, cond_false]
           cases ieq j.Prog 5
           · rw [cond_false, moveS]
             cases turnM j.Prog j.Source step v val (turnV j.Prog val got sm)
             · left; rfl
             · exact hs _ _ _
           · rw [cond_true, rankS]
             cases (rankW step val got sm).2
             · left; rfl
             · cases ile 10 step
               · exact hs _ _ _
               · left; rfl
         · left; rfl
       · left; rfl
     · left; rfl
   · left; rfl
theorem turn_bad {g : GGraph} {j : GJob} {step v val got : Int} {sm : Bool} (h : ieq (turnS g j step v val got sm).2.2.2 0 = false) : (turnS g j step v val got sm).1 = 0 ∧ (turnS g j step v val got sm).2.1 = [] := by
 have hs : ∀ (b : Bool) (w : Int) (o : Option (List GMsg)), ieq (sendO b w o).2.2.2 0 = false → (sendO b w o).1 = 0 ∧ (sendO b w o).2.1 = [] := fun b w o => by
   cases o
   · intro _; exact ⟨rfl, rfl⟩
   · intro h; cases h
 rw [turnS] at h ⊢
 cases hc : ieq (jcheck g j) 0
 · exact ⟨rfl, rfl⟩
 · rw [hc] at h
   cases h1 : ilt v 0
   · cases h2 : ile g.N v
     · cases h3 : ilt step 0
       · cases h4 : ilt 40 step
         · rw [h1, h2, h3, h4] at h
           simp only [cond_true, cond_false] at h ⊢
           cases h5 : ieq j.Prog 5
           · rw [h5, cond_false, moveS] at h
             rw [cond_false, moveS]
             cases hm : turnM j.Prog j.Source step v val (turnV j.Prog val got sm)
             · rw [hm] at h; cases h
             · rw [hm] at h; exact hs _ _ _ h
           · rw [h5, cond_true, rankS] at h
             rw [cond_true, rankS]
             cases hw : (rankW step val got sm).2
             · exact ⟨rfl, rfl⟩
             · rw [hw] at h
               cases h10 : ile 10 step
               · rw [h10] at h; exact hs _ _ _ h
               · rw [h10] at h; cases h
         · exact ⟨rfl, rfl⟩
       · exact ⟨rfl, rfl⟩
     · exact ⟨rfl, rfl⟩
   · exact ⟨rfl, rfl⟩
theorem turn_len {g : GGraph} {j : GJob} {step v val got : Int} {sm : Bool} : (turnS g j step v val got sm).2.1.length ≤ 80 := by
 have ho := outs_len (g := g) (v := v)
 cases h : ieq (turnS g j step v val got sm).2.2.2 0
 · rw [(turn_bad h).2]; simp
 · rcases turn_out h with hz | hz
   · rw [hz]; simp
   · have := congrArg List.length hz
     simp only [List.length_map] at this
     omega
abbrev Tri := List Int × List Bool × List GMsg
theorem sendS_i64 {p val many : Int} {e : GEdge} (hv : i64 val) : i64 (sendS p val e many).1 := by
 rw [sendS]
 cases ieq p 1
 · cases ieq p 3
   · cases ieq p 5
     · exact hv
     · exact ratioS_i64
   · exact addS_i64
 · exact addS_i64
theorem sendA_i64 {p val many : Int} (hv : i64 val) : ∀ {l : List GEdge} {s r : List GMsg}, (∀ m ∈ s, i64 m.V) → sendA p val many l s = some r → ∀ m ∈ r, i64 m.V
 | [], s, r, hs, h => by injection h with h; subst h; exact hs
 | e :: l, s, r, hs, h => by
   rw [sendA] at h
   cases hq : (sendS p val e many).2
   · rw [hq] at h; cases h
   · rw [hq, cond_true] at h
     refine sendA_i64 hv (fun m hm => ?_) h
     rcases List.mem_append.1 hm with hm | hm
     · exact hs m hm
     · rw [List.mem_singleton.1 hm]; exact sendS_i64 hv
theorem sendO_i64 {p w many : Int} {b : Bool} {l : List GEdge} (hw : i64 w) : i64 (sendO b w (sendA p w many l [])).1 ∧ ∀ m ∈ (sendO b w (sendA p w many l [])).2.1, i64 m.V := by
 have h0 : i64 0 := by unfold i64; omega
 cases hq : sendA p w many l []
 · exact ⟨h0, fun m hm => absurd hm (List.not_mem_nil)⟩
 · exact ⟨hw, sendA_i64 hw (fun m hm => absurd hm (List.not_mem_nil)) hq⟩
theorem turn_i64 {g : GGraph} {j : GJob} {step v val got : Int} {sm : Bool} (hv : i64 val) (hg : i64 got) : i64 (turnS g j step v val got sm).1 ∧ ∀ m ∈ (turnS g j step v val got sm).2.1, i64 m.V := by
 have h0 : i64 0 := by unfold i64; omega
 have hn : ∀ m ∈ ([] : List GMsg), i64 m.V := fun m hm => absurd hm (List.not_mem_nil)
 rw [turnS]
 cases ieq (jcheck g j) 0
 · exact ⟨h0, hn⟩
 · cases ilt v 0
   · cases ile g.N v
     · cases ilt step 0
       · cases ilt 40 step
         · simp only [cond_true, cond_false]
           cases ieq j.Prog 5
           · have hw : i64 (turnV j.Prog val got sm) := by
               rw [turnV]
               cases sm
               · exact hv
               · exact foldS_i64 hv hg
             rw [cond_false, moveS]
             cases turnM j.Prog j.Source step v val (turnV j.Prog val got sm)
             · exact ⟨hw, hn⟩
             · exact sendO_i64 hw
           · have hw : i64 (rankW step val got sm).1 := by
               rw [rankW]
               cases ilt 0 step
               · exact hv
               · exact sumS_i64
             rw [cond_true, rankS]
             cases (rankW step val got sm).2
             · exact ⟨h0, hn⟩
             · cases ile 10 step
               · exact sendO_i64 hw
               · exact ⟨hw, hn⟩
         · exact ⟨h0, hn⟩
       · exact ⟨h0, hn⟩
     · exact ⟨h0, hn⟩
   · exact ⟨h0, hn⟩
theorem elAt_get {α : Type} {l : List α} {i : Nat} (h : i < l.length) (d : α) : inr (i : Int) (len l) = true ∧ elAt l (i : Int) = some (l.getD i d) := by
 refine ⟨decide_eq_true ⟨by omega, by show (i : Int) < (l.length : Int); omega⟩, ?_⟩
 rw [elAt_nat, List.getElem?_eq_getElem h, List.getD_eq_getElem?_getD, List.getElem?_eq_getElem h]; rfl
theorem outs_To {g : GGraph} {v : Int} {e : GEdge} (h : e ∈ outs g v) : 0 ≤ e.To ∧ e.To < g.N := by
 rw [outs] at h
 cases hc : ieq (gcheck g) 0
 · rw [hc] at h; cases h
 · obtain ⟨h1, h2, h3, h4⟩ := gcheck_ok hc
   rw [hc] at h
   have := badE_ok (gchk_mem h4 e (List.mem_filter.1 h).1)
   omega
theorem turn_To {g : GGraph} {j : GJob} {step v val got : Int} {sm : Bool} : ∀ m ∈ (turnS g j step v val got sm).2.1, 0 ≤ m.To ∧ m.To < g.N := by
 intro m hm
 cases h : ieq (turnS g j step v val got sm).2.2.2 0
 · rw [(turn_bad h).2] at hm; exact absurd hm List.not_mem_nil
 · rcases turn_out h with hz | hz
   · rw [hz] at hm; exact absurd hm List.not_mem_nil
   · have : m.To ∈ (turnS g j step v val got sm).2.1.map (·.To) := List.mem_map.2 ⟨m, hm, rfl⟩
     rw [hz] at this
     obtain ⟨e, he, q⟩ := List.mem_map.1 this
     rw [← q]; exact outs_To he
theorem foldC_ok (p : Int) : ∀ (r : List GMsg) (c : GMsg) (d w : List GMsg), foldC p r c d = .inr w → i64 c.V → (∀ x ∈ r, i64 x.V) → (∀ x ∈ d, i64 x.V) → w.length ≤ d.length + r.length + 1 ∧ ∀ x ∈ w, i64 x.V
 | [], c, d, w, h, hc, _, hd => by
   injection h with h
   subst h
   refine ⟨by simp, fun x hx => ?_⟩
   rcases List.mem_append.1 hx with hx | hx
   · exact hd x hx
   · rw [List.mem_singleton.1 hx]; exact hc
 | x :: r, c, d, w, h, hc, hr, hd => by
   rw [foldC] at h
   have hx := hr x List.mem_cons_self
   have hr' := fun y hy => hr y (List.mem_cons_of_mem _ hy)
   cases h1 : ieq c.To x.To
   · rw [h1, cond_false] at h
     have := foldC_ok p r x (d ++ [c]) w h hx hr' (fun y hy => by
       rcases List.mem_append.1 hy with hy | hy
       · exact hd y hy
       · rw [List.mem_singleton.1 hy]; exact hc)
     rw [List.length_append] at this
     simp only [List.length_singleton] at this
     exact ⟨by simp only [List.length_cons]; omega, this.2⟩
   · rw [h1, cond_true] at h
     cases h2 : ieq (foldS p c.V x.V).2 0
     · rw [h2] at h; cases h
     · rw [h2, cond_true] at h
       have := foldC_ok p r _ d w h (foldS_i64 hc hx) hr' hd
       exact ⟨by simp only [List.length_cons]; omega, this.2⟩
theorem boxS_ok {p : Int} {l : List GMsg} (hl : ∀ x ∈ l, i64 x.V) : (boxS p l).1.length ≤ l.length ∧ ∀ x ∈ (boxS p l).1, i64 x.V := by
 have hn : ∀ x ∈ ([] : List GMsg), i64 x.V := fun x hx => absurd hx List.not_mem_nil
 have hs : ∀ x ∈ sortM l, i64 x.V := fun x hx => hl x ((sortM_perm l).mem_iff.1 hx)
 have hsl := sortM_len l
 rw [boxS]
 cases pbad p
 · rw [cond_false]
   generalize sortM l = m at *
   cases m with
   | nil => exact ⟨Nat.zero_le _, hn⟩
   | cons x r =>
     rw [foldO]
     cases hq : foldC p r x [] with
     | inl e => exact ⟨Nat.zero_le _, hn⟩
     | inr w =>
       have := foldC_ok p r x [] w hq (hs x List.mem_cons_self) (fun y hy => hs y (List.mem_cons_of_mem _ hy)) hn
       simp only [List.length_cons, List.length_nil] at hsl this
       exact ⟨by show w.length ≤ _; omega, this.2⟩
 · exact ⟨Nat.zero_le _, hn⟩
noncomputable def hn113 : Hint := { H 113 with nt := 7, prot := 0 }
def F113_res (r1 : Bool) : Res := ⟨[(.one (.im (.lit (.bool r1))))], []⟩
def F113 (K : Nat) (a1 : GGraph) : Option (Bool) :=
 some (igt (nlen (len a1.Edges)) 200)
theorem F113_ok (K : Nat) (a1 : GGraph) (r : Bool) (hF : F113 K a1 = some r) : Evt E H 113 [.agg (eGGraph a1)] (F113_res r) := by
 rw [F113] at hF
 obtain rfl := Option.some.inj hF
 have pz : HoldAll E H hn113 [.int (nlen (len a1.Edges)) (nlen (len a1.Edges))] := ⟨rfl, trivial⟩
 exact fn_playC hn113 (r := F113_res (igt (nlen (len a1.Edges)) 200)) pz (by kernel_rfl) (by kernel_rfl)
noncomputable def hn114 : Hint := { H 114 with nt := 19, prot := 0 }
def F114_res (r1 : Bool) : Res := ⟨[(.one (.im (.lit (.bool r1))))], []⟩
def F114 (K : Nat) (a1 : GPart) : Option (Bool) :=
 bif (ilt 100 (nlen (len a1.Vals))) then
  (some true)
 else
 bif (ilt 100 (nlen (len a1.Rest))) then
  (some true)
 else
 some (igt (nlen (len a1.In)) 300)
theorem F114_ok (K : Nat) (a1 : GPart) (r : Bool) (hF : F114 K a1 = some r) : Evt E H 114 [.agg (eGPart a1)] (F114_res r) := by
 rw [F114] at hF
 refine cond_some hF (fun h2 hF => ?_) (fun h2 hF => ?_)
 ·
  obtain rfl := Option.some.inj hF
  have pz : HoldAll E H hn114 [.int (nlen (len a1.Vals)) (nlen (len a1.Vals)), .test (beqb (igt (nlen (len a1.Vals)) 100) false) false, .test (beqb (igt (nlen (len a1.Vals)) 100) false) false, .test (beqb (igt (nlen (len a1.Vals)) 100) false) false, .test (beqb (igt (nlen (len a1.Vals)) 100) false) false, .test (igt (nlen (len a1.Vals)) 100) true, .test (beqb true false) false, .test (beqb true false) false, .test (beqb true false) false, .test (beqb true false) false, .test true true] := ⟨rfl, (beqb_ft (igt_eq h2)), (beqb_ft (igt_eq h2)), (beqb_ft (igt_eq h2)), (beqb_ft (igt_eq h2)), (igt_eq h2), (beqb_ft rfl), (beqb_ft rfl), (beqb_ft rfl), (beqb_ft rfl), rfl, trivial⟩
  exact fn_playC hn114 (r := F114_res true) pz (by kernel_rfl) (by kernel_rfl)
 have q4 : PQ hn114 fun l => (.int (nlen (len a1.Vals)) (nlen (len a1.Vals)) :: .test (beqb (igt (nlen (len a1.Vals)) 100) false) true :: .test (beqb (igt (nlen (len a1.Vals)) 100) false) true :: .test (beqb (igt (nlen (len a1.Vals)) 100) false) true :: .int (nlen (len a1.Rest)) (nlen (len a1.Rest)) :: .test (beqb (igt (nlen (len a1.Vals)) 100) false) true :: .test (igt (nlen (len a1.Vals)) 100) false :: l) := fun z => ⟨rfl, (beqb_ff (igt_eq h2)), (beqb_ff (igt_eq h2)), (beqb_ff (igt_eq h2)), rfl, (beqb_ff (igt_eq h2)), (igt_eq h2), z⟩
 refine cond_some hF (fun h3 hF => ?_) (fun h3 hF => ?_)
 ·
  obtain rfl := Option.some.inj hF
  have pz : HoldAll E H hn114 [.test (beqb (igt (nlen (len a1.Rest)) 100) false) false, .test (beqb (igt (nlen (len a1.Rest)) 100) false) false, .test (beqb (igt (nlen (len a1.Rest)) 100) false) false, .test (beqb (igt (nlen (len a1.Rest)) 100) false) false, .test (igt (nlen (len a1.Rest)) 100) true] := ⟨(beqb_ft (igt_eq h3)), (beqb_ft (igt_eq h3)), (beqb_ft (igt_eq h3)), (beqb_ft (igt_eq h3)), (igt_eq h3), trivial⟩
  exact fn_playC hn114 (r := F114_res true) (q4 pz) (by kernel_rfl) (by kernel_rfl)
 obtain rfl := Option.some.inj hF
 have pz : HoldAll E H hn114 [.test (beqb (igt (nlen (len a1.Rest)) 100) false) true, .test (beqb (igt (nlen (len a1.Rest)) 100) false) true, .test (beqb (igt (nlen (len a1.Rest)) 100) false) true, .int (nlen (len a1.In)) (nlen (len a1.In)), .test (beqb (igt (nlen (len a1.Rest)) 100) false) true, .test (igt (nlen (len a1.Rest)) 100) false] := ⟨(beqb_ff (igt_eq h3)), (beqb_ff (igt_eq h3)), (beqb_ff (igt_eq h3)), rfl, (beqb_ff (igt_eq h3)), (igt_eq h3), trivial⟩
 exact fn_playC hn114 (r := F114_res (igt (nlen (len a1.In)) 300)) (q4 pz) (by kernel_rfl) (by kernel_rfl)
def broadP8 (x : GPart) : Bool := ilt 100 (nlen (len x.Vals)) || (ilt 100 (nlen (len x.Rest)) || ilt 300 (nlen (len x.In)))
theorem F114_spec (K : Nat) (x : GPart) : F114 K x = some (broadP8 x) := by
 have : igt (nlen (len x.In)) 300 = ilt 300 (nlen (len x.In)) := rfl
 rw [F114, this, broadP8]
 cases ilt 100 (nlen (len x.Vals)) <;> cases ilt 100 (nlen (len x.Rest)) <;> rfl
theorem broadP8_f {x : GPart} (h : broadP8 x = false) : x.Vals.length ≤ 100 ∧ x.Rest.length ≤ 100 ∧ x.In.length ≤ 300 := by
 simp only [broadP8, Bool.or_eq_false_iff, ilt_f, nlen, len] at h
 omega
noncomputable def hn153 : Hint := { H 153 with nt := 32, prot := 0 }
noncomputable def c153_0 : Code := loopOf E 153 0
def F153_res (r1 : List GMsg) : Res := ⟨[(.one (.own 130 (.sl (len r1) (flat eGMsg r1))))], []⟩
def F153_l0_0 (K : Nat) (a1 : GJob) (a2 : List GMsg) (a3 : Int) : Nat → List GMsg → Int → Option (List GMsg)
 | 0, _, _ => none
 | k + 1, v4, v5 =>
  bif (ilt v5 (nlen (len a2))) then
   (bif (inr v5 (len a2)) then
   (elAt a2 v5).bind fun x6 =>
   (F76 K a1 x6.To).bind fun r7 =>
   bif (ieq r7 a3) then
    (bif (apok (len v4) 1 16) then
    F153_l0_0 K a1 a2 a3 k (appL v4 [x6]) (wadd .i64 v5 1)
    else none)
   else
   F153_l0_0 K a1 a2 a3 k v4 (wadd .i64 v5 1)
   else none)
  else
  some v4
def F153_l0_0_S (a1 : GJob) (a2 : List GMsg) (a3 : Int) (v4 : List GMsg) (v5 : Int) : TS := .on [64, 65, 128, 129, 192, 193, 194, 195, 196, 448, 449, 512, 513] [(64, ⟨.one, 0, nob⟩), (65, ⟨.im, 0, (.sl (len a2) (flat eGMsg a2))⟩), (128, ⟨.one, 0, nob⟩), (129, ⟨.im, 0, (.lit (.int .i64 a3))⟩), (192, ⟨(.box 64 4), 0, nob⟩), (193, ⟨.im, 0, (.lit (.int .i64 a1.Prog))⟩), (194, ⟨.im, 0, (.lit (.int .i64 a1.Source))⟩), (195, ⟨.im, 0, (.lit (.int .i64 a1.Limit))⟩), (196, ⟨.im, 0, (.lit (.int .i64 a1.Parts))⟩), (448, ⟨.one, 0, nob⟩), (449, ⟨(.own 130), 0, (.sl (len v4) (flat eGMsg v4))⟩), (512, ⟨.one, 0, nob⟩), (513, ⟨.im, 0, (.lit (.int .i64 v5))⟩)]
def F153_l0_0_X0 (a1 : GJob) (a2 : List GMsg) (a3 : Int) (w4 : List GMsg) : TS := .on [448, 449] [(448, ⟨.one, 0, nob⟩), (449, ⟨(.own 130), 0, (.sl (len w4) (flat eGMsg w4))⟩)]
theorem F153_l0_0_ok (K : Nat) (a1 : GJob) (a2 : List GMsg) (a3 : Int) : ∀ (k : Nat) (v4 : List GMsg) (v5 : Int) (r : List GMsg), F153_l0_0 K a1 a2 a3 k v4 v5 = some r → LoopEv E H hn153 0 c153_0 (F153_l0_0_S a1 a2 a3 v4 v5) (.exit 0) (F153_l0_0_X0 a1 a2 a3 r) := by
 intro k
 induction k with
 | zero => intro v4 v5 r hF; cases hF
 | succ k ih =>
  intro v4 v5 r hF
  rw [F153_l0_0] at hF
  refine cond_some hF (fun h6 hF => ?_) (fun h6 hF => ?_)
  ·
   refine cond_some hF (fun h7 hF => ?_) (fun _ hF => nomatch hF)
   refine bind_some hF (fun x8 h9 hF => ?_)
   refine bind_some hF (fun r10 h11 hF => ?_)
   have q14 : PQ hn153 fun l => (.int (nlen (len a2)) (nlen (len a2)) :: .test (ilt v5 (nlen (len a2))) true :: .test (inr v5 (len a2)) true :: .sub (flat eGMsg a2) (nadd (nidx v5 2) 0) 1 [(.lit (.int .i64 x8.To))] :: .call 76 [.agg (eGJob a1), .one (.lit (.int .i64 x8.To))] (F76_res r10) :: .test (leadsAny (Res.mk [(.one (.im (.lit (.int .i64 r10))))] [])) false :: l) := fun z => ⟨rfl, h6, h7, ⟨rfl, sub_flat eGMsg_len h9 0 1 (by decide)⟩, (F76_ok K a1 x8.To _ h11), (leads_ok (by simp [leadsAny, RV.leads, RC.leads, leadsT, hasSl_lit, flat_ns eGJob_ns, flat_ns eGMsg_ns])), z⟩
   refine cond_some hF (fun h12 hF => ?_) (fun h12 hF => ?_)
   ·
    refine cond_some hF (fun h13 hF => ?_) (fun _ hF => nomatch hF)
    have pz : HoldAll E H hn153 [.test (ieq r10 a3) true, .test (inr v5 (len a2)) true, .sub (flat eGMsg a2) (nidx v5 2) 2 [(.lit (.int .i64 x8.To)), (.lit (.int .i64 x8.V))], .test (leqm [(.lit (.int .i64 x8.To)), (.lit (.int .i64 x8.V))] 1 2) true, .test (apok (len v4) 1 16) true, .sl (nadd (len v4) 1) (lapp (flat eGMsg v4) [(.lit (.int .i64 x8.To)), (.lit (.int .i64 x8.V))]) (len (α := GMsg) (appL v4 [x8])) (flat eGMsg (appL v4 [x8])), .int (wadd .i64 v5 1) (wadd .i64 v5 1)] := ⟨h12, h7, ⟨rfl, sub_flat0 eGMsg_len h9 2 (by decide)⟩, rfl, h13, (app_ok (enc := eGMsg) (v4 : List GMsg) [x8]), rfl, trivial⟩
    have h0 := ih _ _ _ hF
    have hn := fun ex ts' => loop_nextC (h := hn153) (l := 0) (c := c153_0) (ts := F153_l0_0_S a1 a2 a3 v4 v5) (ts1 := (F153_l0_0_S a1 a2 a3 (appL v4 [x8]) (wadd .i64 v5 1))) (ex := ex) (ts' := ts') (q14 pz) (by kernel_rfl)
    exact hn _ _ h0
   have pz : HoldAll E H hn153 [.test (ieq r10 a3) false, .int (wadd .i64 v5 1) (wadd .i64 v5 1)] := ⟨h12, rfl, trivial⟩
   have h0 := ih _ _ _ hF
   have hn := fun ex ts' => loop_nextC (h := hn153) (l := 0) (c := c153_0) (ts := F153_l0_0_S a1 a2 a3 v4 v5) (ts1 := (F153_l0_0_S a1 a2 a3 v4 (wadd .i64 v5 1))) (ex := ex) (ts' := ts') (q14 pz) (by kernel_rfl)
   exact hn _ _ h0
  obtain rfl := Option.some.inj hF
  have pz : HoldAll E H hn153 [.int (nlen (len a2)) (nlen (len a2)), .test (ilt v5 (nlen (len a2))) false] := ⟨rfl, h6, trivial⟩
  exact loop_endC (h := hn153) (l := 0) (c := c153_0) (ts := F153_l0_0_S a1 a2 a3 v4 v5) (ts' := F153_l0_0_X0 a1 a2 a3 v4) (ex := (.exit 0)) pz (by kernel_rfl) trivial
def F153 (K : Nat) (a1 : GJob) (a2 : List GMsg) (a3 : Int) : Option (List GMsg) :=
 (F153_l0_0 K a1 a2 a3 K [] 0).bind fun w4 =>
 some w4
theorem F153_ok (K : Nat) (a1 : GJob) (a2 : List GMsg) (a3 : Int) (r : List GMsg) (hF : F153 K a1 a2 a3 = some r) : Evt E H 153 [.agg (eGJob a1), .one (.sl (len a2) (flat eGMsg a2)), .one (.lit (.int .i64 a3))] (F153_res r) := by
 rw [F153] at hF
 refine bind_some hF (fun w5 h4 hF => ?_)
 obtain rfl := Option.some.inj hF
 have pz : HoldAll E H hn153 [.loop 0 c153_0 (F153_l0_0_S a1 a2 a3 [] 0) (.exit 0) (F153_l0_0_X0 a1 a2 a3 w5)] := ⟨(F153_l0_0_ok K a1 a2 a3 K [] 0 _ h4), trivial⟩
 exact fn_playC hn153 (r := F153_res w5) pz (by kernel_rfl) (by kernel_rfl)
noncomputable def hn117 : Hint := { H 117 with nt := 149, prot := 0 }
noncomputable def c117_0 : Code := loopOf E 117 0
noncomputable def c117_1 : Code := loopOf E 117 1
def F117_res (r1 : GDone) : Res := ⟨[(.agg [(.im (.lit (.int .i64 r1.X.P))), (.im (.lit (.int .i64 r1.X.Step))), (.own 2 (.sl (len r1.X.Vals) (flat (eInt .i64) r1.X.Vals))), (.own 4 (.sl (len r1.X.Rest) (flat eBool r1.X.Rest))), (.own 130 (.sl (len r1.X.In) (flat eGMsg r1.X.In))), (.own 40 (.sl (len r1.Out) (flat (eSl eGMsg) r1.Out))), (.im (.lit (.int .i64 r1.E)))])], []⟩
def F117_l0_0 (K : Nat) (a1 : GGraph) (a2 : GJob) (a3 : GPart) (r4 : List Int) : Nat → List Int → List Bool → List GMsg → Int → Option ((Int) ⊕ (List Int × List Bool × List GMsg))
 | 0, _, _, _, _ => none
 | k + 1, v5, v6, v7, v8 =>
  bif (ilt v8 (nlen (len r4))) then
   (bif (inr v8 (len r4)) then
   (elAt r4 v8).bind fun x9 =>
   (F151 K a3.In x9).bind fun r10 =>
   bif (inr v8 (len a3.Vals)) then
   (elAt a3.Vals v8).bind fun x11 =>
   bif r10.2 then
    ((F100 K a1 a2 a3.Step x9 x11 r10.1 r10.2).bind fun r12 =>
    bif (ieq r12.E 0) then
     (bif (apok (len v5) 1 8) then
     bif (apok (len v6) 1 1) then
     bif (apok (len v7) (len r12.Out) 16) then
     F117_l0_0 K a1 a2 a3 r4 k (appL v5 [r12.Val]) (appL v6 [r12.Rest]) (appL v7 r12.Out) (wadd .i64 v8 1)
     else none
     else none
     else none)
    else
    some (.inl r12.E))
   else
   bif (inr v8 (len a3.Rest)) then
   (elAt a3.Rest v8).bind fun x13 =>
   bif x13 then
    (bif (apok (len v5) 1 8) then
    bif (apok (len v6) 1 1) then
    bif (apok (len v7) 0 16) then
    F117_l0_0 K a1 a2 a3 r4 k (appL v5 [x11]) (appL v6 [true]) (appL v7 []) (wadd .i64 v8 1)
    else none
    else none
    else none)
   else
   (F100 K a1 a2 a3.Step x9 x11 r10.1 r10.2).bind fun r14 =>
   bif (ieq r14.E 0) then
    (bif (apok (len v5) 1 8) then
    bif (apok (len v6) 1 1) then
    bif (apok (len v7) (len r14.Out) 16) then
    F117_l0_0 K a1 a2 a3 r4 k (appL v5 [r14.Val]) (appL v6 [r14.Rest]) (appL v7 r14.Out) (wadd .i64 v8 1)
    else none
    else none
    else none)
   else
   some (.inl r14.E)
   else none
   else none
   else none)
  else
  some (.inr (v5, (v6, v7)))
def F117_l0_0_S (a1 : GGraph) (a2 : GJob) (a3 : GPart) (r4 : List Int) (v5 : List Int) (v6 : List Bool) (v7 : List GMsg) (v8 : Int) : TS := .on [192, 193, 194, 256, 257, 258, 259, 260, 320, 321, 322, 323, 324, 325, 384, 385, 386, 387, 388, 389, 390, 391, 512, 513, 514, 515, 516, 517, 518, 519, 576, 577, 640, 641, 704, 705] [(192, ⟨(.box 62 2), 0, nob⟩), (193, ⟨.im, 0, (.lit (.int .i64 a1.N))⟩), (194, ⟨.im, 0, (.sl (len a1.Edges) (flat eGEdge a1.Edges))⟩), (256, ⟨(.box 64 4), 0, nob⟩), (257, ⟨.im, 0, (.lit (.int .i64 a2.Prog))⟩), (258, ⟨.im, 0, (.lit (.int .i64 a2.Source))⟩), (259, ⟨.im, 0, (.lit (.int .i64 a2.Limit))⟩), (260, ⟨.im, 0, (.lit (.int .i64 a2.Parts))⟩), (320, ⟨(.box 42 5), 0, nob⟩), (321, ⟨.im, 0, (.lit (.int .i64 a3.P))⟩), (322, ⟨.im, 0, (.lit (.int .i64 a3.Step))⟩), (323, ⟨.im, 0, (.sl (len a3.Vals) (flat (eInt .i64) a3.Vals))⟩), (324, ⟨.im, 0, (.sl (len a3.Rest) (flat eBool a3.Rest))⟩), (325, ⟨.im, 0, (.sl (len a3.In) (flat eGMsg a3.In))⟩), (384, ⟨(.box 141 7), 0, nob⟩), (385, ⟨.im, 0, (.lit (.int .i64 0))⟩), (386, ⟨.im, 0, (.lit (.int .i64 0))⟩), (387, ⟨(.own 2), 0, (.sl 0 [])⟩), (388, ⟨(.own 4), 0, (.sl 0 [])⟩), (389, ⟨(.own 130), 0, (.sl 0 [])⟩), (390, ⟨(.own 40), 0, (.sl 0 [])⟩), (391, ⟨.im, 0, (.lit (.int .i64 0))⟩), (512, ⟨(.box 141 7), 0, nob⟩), (513, ⟨.im, 0, (.lit (.int .i64 a3.P))⟩), (514, ⟨.im, 0, (.lit (.int .i64 (wadd .i64 a3.Step 1)))⟩), (515, ⟨(.own 2), 0, (.sl (len v5) (flat (eInt .i64) v5))⟩), (516, ⟨(.own 4), 0, (.sl (len v6) (flat eBool v6))⟩), (517, ⟨(.own 130), 0, (.sl 0 [])⟩), (518, ⟨(.own 40), 0, (.sl 0 [])⟩), (519, ⟨.im, 0, (.lit (.int .i64 0))⟩), (576, ⟨.one, 0, nob⟩), (577, ⟨(.own 3), 0, (.sl (len r4) (flat (eInt .i64) r4))⟩), (640, ⟨.one, 0, nob⟩), (641, ⟨(.own 130), 0, (.sl (len v7) (flat eGMsg v7))⟩), (704, ⟨.one, 0, nob⟩), (705, ⟨.im, 0, (.lit (.int .i64 v8))⟩)]
def F117_l0_0_X0 (a1 : GGraph) (a2 : GJob) (a3 : GPart) (r4 : List Int) (w5 : Int) : TS := .on [384, 385, 386, 387, 388, 389, 390, 391] [(384, ⟨(.box 141 7), 0, nob⟩), (385, ⟨.im, 0, (.lit (.int .i64 0))⟩), (386, ⟨.im, 0, (.lit (.int .i64 0))⟩), (387, ⟨(.own 2), 0, (.sl 0 [])⟩), (388, ⟨(.own 4), 0, (.sl 0 [])⟩), (389, ⟨(.own 130), 0, (.sl 0 [])⟩), (390, ⟨(.own 40), 0, (.sl 0 [])⟩), (391, ⟨.im, 0, (.lit (.int .i64 w5))⟩)]
def F117_l0_0_X1 (a1 : GGraph) (a2 : GJob) (a3 : GPart) (r4 : List Int) (w5 : List Int × List Bool × List GMsg) : TS := .on [256, 257, 258, 259, 260, 384, 385, 386, 387, 388, 389, 390, 391, 512, 513, 514, 515, 516, 517, 518, 519, 640, 641] [(256, ⟨(.box 64 4), 0, nob⟩), (257, ⟨.im, 0, (.lit (.int .i64 a2.Prog))⟩), (258, ⟨.im, 0, (.lit (.int .i64 a2.Source))⟩), (259, ⟨.im, 0, (.lit (.int .i64 a2.Limit))⟩), (260, ⟨.im, 0, (.lit (.int .i64 a2.Parts))⟩), (384, ⟨(.box 141 7), 0, nob⟩), (385, ⟨.im, 0, (.lit (.int .i64 0))⟩), (386, ⟨.im, 0, (.lit (.int .i64 0))⟩), (387, ⟨(.own 2), 0, (.sl 0 [])⟩), (388, ⟨(.own 4), 0, (.sl 0 [])⟩), (389, ⟨(.own 130), 0, (.sl 0 [])⟩), (390, ⟨(.own 40), 0, (.sl 0 [])⟩), (391, ⟨.im, 0, (.lit (.int .i64 0))⟩), (512, ⟨(.box 141 7), 0, nob⟩), (513, ⟨.im, 0, (.lit (.int .i64 a3.P))⟩), (514, ⟨.im, 0, (.lit (.int .i64 (wadd .i64 a3.Step 1)))⟩), (515, ⟨(.own 2), 0, (.sl (len w5.1) (flat (eInt .i64) w5.1))⟩), (516, ⟨(.own 4), 0, (.sl (len w5.2.1) (flat eBool w5.2.1))⟩), (517, ⟨(.own 130), 0, (.sl 0 [])⟩), (518, ⟨(.own 40), 0, (.sl 0 [])⟩), (519, ⟨.im, 0, (.lit (.int .i64 0))⟩), (640, ⟨.one, 0, nob⟩), (641, ⟨(.own 130), 0, (.sl (len w5.2.2) (flat eGMsg w5.2.2))⟩)]
theorem F117_l0_0_ok (K : Nat) (a1 : GGraph) (a2 : GJob) (a3 : GPart) (r4 : List Int) : ∀ (k : Nat) (v5 : List Int) (v6 : List Bool) (v7 : List GMsg) (v8 : Int) (r : (Int) ⊕ (List Int × List Bool × List GMsg)), F117_l0_0 K a1 a2 a3 r4 k v5 v6 v7 v8 = some r → (Sum.elim (fun w => LoopEv E H hn117 0 c117_0 (F117_l0_0_S a1 a2 a3 r4 v5 v6 v7 v8) .ret (F117_l0_0_X0 a1 a2 a3 r4 w)) (fun w => LoopEv E H hn117 0 c117_0 (F117_l0_0_S a1 a2 a3 r4 v5 v6 v7 v8) (.exit 0) (F117_l0_0_X1 a1 a2 a3 r4 w))) r := by
 intro k
 induction k with
 | zero => intro v5 v6 v7 v8 r hF; cases hF
 | succ k ih =>
  intro v5 v6 v7 v8 r hF
  rw [F117_l0_0] at hF
  refine cond_some hF (fun h9 hF => ?_) (fun h9 hF => ?_)
  ·
   refine cond_some hF (fun h10 hF => ?_) (fun _ hF => nomatch hF)
   refine bind_some hF (fun x11 h12 hF => ?_)
   refine bind_some hF (fun r13 h14 hF => ?_)
   refine cond_some hF (fun h15 hF => ?_) (fun _ hF => nomatch hF)
   refine bind_some hF (fun x16 h17 hF => ?_)
   have q38 : PQ hn117 fun l => (.int (nlen (len r4)) (nlen (len r4)) :: .test (ilt v8 (nlen (len r4))) true :: .test (inr v8 (len r4)) true :: .sub (flat (eInt .i64) r4) (nidx v8 1) 1 [(.lit (.int .i64 x11))] :: .call 151 [.one (.sl (len a3.In) (flat eGMsg a3.In)), .one (.lit (.int .i64 x11))] (F151_res r13) :: .test (leadsAny (Res.mk [(.one (.im (.lit (.int .i64 r13.1)))), (.one (.im (.lit (.bool r13.2))))] [])) false :: .test (inr v8 (len a3.Vals)) true :: .sub (flat (eInt .i64) a3.Vals) (nidx v8 1) 1 [(.lit (.int .i64 x16))] :: l) := fun z => ⟨rfl, h9, h10, ⟨rfl, sub_flat0 (eInt_len _) h12 1 (by decide)⟩, (F151_ok K a3.In x11 _ h14), (leads_ok (by simp [leadsAny, RV.leads, RC.leads, leadsT, hasSl_lit, flat_ns (eInt_ns _), flat_ns eGMsg_ns])), h15, ⟨rfl, sub_flat0 (eInt_len _) h17 1 (by decide)⟩, z⟩
   refine cond_some hF (fun h18 hF => ?_) (fun h18 hF => ?_)
   ·
    refine bind_some hF (fun r19 h20 hF => ?_)
    have q39 : PQ hn117 fun l => (.test (beqb r13.2 false) false :: .test (beqb r13.2 false) false :: .test (beqb r13.2 false) false :: .test (beqb r13.2 false) false :: .test (beqb r13.2 false) false :: .test (beqb r13.2 false) false :: .test r13.2 true :: .test true true :: .test (inr v8 (len r4)) true :: .sub (flat (eInt .i64) r4) (nidx v8 1) 1 [(.lit (.int .i64 x11))] :: .test (inr v8 (len a3.Vals)) true :: .sub (flat (eInt .i64) a3.Vals) (nidx v8 1) 1 [(.lit (.int .i64 x16))] :: .call 100 [.agg (eGGraph a1), .agg (eGJob a2), .one (.lit (.int .i64 a3.Step)), .one (.lit (.int .i64 x11)), .one (.lit (.int .i64 x16)), .one (.lit (.int .i64 r13.1)), .one (.lit (.bool r13.2))] (F100_res r19) :: .test (leadsAny (Res.mk [(.agg [(.im (.lit (.int .i64 r19.Val))), (.own 130 (.sl (len r19.Out) (flat eGMsg r19.Out))), (.im (.lit (.bool r19.Rest))), (.im (.lit (.int .i64 r19.E)))])] [])) false :: l) := fun z => ⟨(beqb_ft h18), (beqb_ft h18), (beqb_ft h18), (beqb_ft h18), (beqb_ft h18), (beqb_ft h18), h18, rfl, h10, ⟨rfl, sub_flat0 (eInt_len _) h12 1 (by decide)⟩, h15, ⟨rfl, sub_flat0 (eInt_len _) h17 1 (by decide)⟩, (F100_ok K a1 a2 a3.Step x11 x16 r13.1 r13.2 _ h20), (leads_ok (by simp [leadsAny, RV.leads, RC.leads, leadsT, hasSl_lit, flat_ns (eInt_ns _), flat_ns eGJob_ns, flat_ns eGMsg_ns])), z⟩
    refine cond_some hF (fun h21 hF => ?_) (fun h21 hF => ?_)
    ·
     refine cond_some hF (fun h22 hF => ?_) (fun _ hF => nomatch hF)
     refine cond_some hF (fun h23 hF => ?_) (fun _ hF => nomatch hF)
     refine cond_some hF (fun h24 hF => ?_) (fun _ hF => nomatch hF)
     have pz : HoldAll E H hn117 [.test (ine r19.E 0) false, .test (leqm [(.lit (.int .i64 r19.Val))] 1 1) true, .test (apok (len v5) 1 8) true, .sl (nadd (len v5) 1) (lapp (flat (eInt .i64) v5) [(.lit (.int .i64 r19.Val))]) (len (α := Int) (appL v5 [r19.Val])) (flat (eInt .i64) (appL v5 [r19.Val])), .test (leqm [(.lit (.bool r19.Rest))] 1 1) true, .test (apok (len v6) 1 1) true, .sl (nadd (len v6) 1) (lapp (flat eBool v6) [(.lit (.bool r19.Rest))]) (len (α := Bool) (appL v6 [r19.Rest])) (flat eBool (appL v6 [r19.Rest])), .test (leqm (flat eGMsg r19.Out) (len r19.Out) 2) true, .test (apok (len v7) (len r19.Out) 16) true, .sl (nadd (len v7) (len r19.Out)) (lapp (flat eGMsg v7) (flat eGMsg r19.Out)) (len (α := GMsg) (appL v7 r19.Out)) (flat eGMsg (appL v7 r19.Out)), .int (wadd .i64 v8 1) (wadd .i64 v8 1)] := ⟨(ine_t h21), rfl, h22, (app_ok (enc := (eInt .i64)) (v5 : List Int) [r19.Val]), rfl, h23, (app_ok (enc := eBool) (v6 : List Bool) [r19.Rest]), (leqm_flat eGMsg_len _), h24, (app_ok (enc := eGMsg) (v7 : List GMsg) r19.Out), rfl, trivial⟩
     have h0 := ih _ _ _ _ _ hF
     have hn := fun ex ts' => loop_nextC (h := hn117) (l := 0) (c := c117_0) (ts := F117_l0_0_S a1 a2 a3 r4 v5 v6 v7 v8) (ts1 := (F117_l0_0_S a1 a2 a3 r4 (appL v5 [r19.Val]) (appL v6 [r19.Rest]) (appL v7 r19.Out) (wadd .i64 v8 1))) (ex := ex) (ts' := ts') (q38 (q39 pz)) (by kernel_rfl)
     cases r with
     | inl w => exact hn _ _ h0
     | inr w => exact hn _ _ h0
    obtain rfl := Option.some.inj hF
    have pz : HoldAll E H hn117 [.test (ine r19.E 0) true] := ⟨(ine_f h21), trivial⟩
    exact loop_endC (h := hn117) (l := 0) (c := c117_0) (ts := F117_l0_0_S a1 a2 a3 r4 v5 v6 v7 v8) (ts' := F117_l0_0_X0 a1 a2 a3 r4 r19.E) (ex := .ret) (q38 (q39 pz)) (by kernel_rfl) trivial
   refine cond_some hF (fun h25 hF => ?_) (fun _ hF => nomatch hF)
   refine bind_some hF (fun x26 h27 hF => ?_)
   have q40 : PQ hn117 fun l => (.test (beqb r13.2 false) true :: .test (beqb r13.2 false) true :: .test (beqb r13.2 false) true :: .test (beqb r13.2 false) true :: .test (inr v8 (len a3.Rest)) true :: .test (beqb r13.2 false) true :: .sub (flat eBool a3.Rest) (nidx v8 1) 1 [(.lit (.bool x26))] :: .test (beqb r13.2 false) true :: .test r13.2 false :: l) := fun z => ⟨(beqb_ff h18), (beqb_ff h18), (beqb_ff h18), (beqb_ff h18), h25, (beqb_ff h18), ⟨rfl, sub_flat0 eBool_len h27 1 (by decide)⟩, (beqb_ff h18), h18, z⟩
   refine cond_some hF (fun h28 hF => ?_) (fun h28 hF => ?_)
   ·
    refine cond_some hF (fun h29 hF => ?_) (fun _ hF => nomatch hF)
    refine cond_some hF (fun h30 hF => ?_) (fun _ hF => nomatch hF)
    refine cond_some hF (fun h31 hF => ?_) (fun _ hF => nomatch hF)
    have pz : HoldAll E H hn117 [.test (bnot x26) false, .test (ine 0 0) false, .test (leqm [(.lit (.int .i64 x16))] 1 1) true, .test (apok (len v5) 1 8) true, .sl (nadd (len v5) 1) (lapp (flat (eInt .i64) v5) [(.lit (.int .i64 x16))]) (len (α := Int) (appL v5 [x16])) (flat (eInt .i64) (appL v5 [x16])), .test (leqm [(.lit (.bool true))] 1 1) true, .test (apok (len v6) 1 1) true, .sl (nadd (len v6) 1) (lapp (flat eBool v6) [(.lit (.bool true))]) (len (α := Bool) (appL v6 [true])) (flat eBool (appL v6 [true])), .test (leqm [] 0 2) true, .test (apok (len v7) 0 16) true, .sl (nadd (len v7) 0) (lapp (flat eGMsg v7) []) (len (α := GMsg) (appL v7 [])) (flat eGMsg (appL v7 [])), .int (wadd .i64 v8 1) (wadd .i64 v8 1)] := ⟨(bnot_t h28), (by first | exact rfl | (unfold Cond.Holds; decide)), rfl, h29, (app_ok (enc := (eInt .i64)) (v5 : List Int) [x16]), rfl, h30, (app_ok (enc := eBool) (v6 : List Bool) [true]), rfl, h31, (app_ok (enc := eGMsg) (v7 : List GMsg) []), rfl, trivial⟩
    have h0 := ih _ _ _ _ _ hF
    have hn := fun ex ts' => loop_nextC (h := hn117) (l := 0) (c := c117_0) (ts := F117_l0_0_S a1 a2 a3 r4 v5 v6 v7 v8) (ts1 := (F117_l0_0_S a1 a2 a3 r4 (appL v5 [x16]) (appL v6 [true]) (appL v7 []) (wadd .i64 v8 1))) (ex := ex) (ts' := ts') (q38 (q40 pz)) (by kernel_rfl)
    cases r with
    | inl w => exact hn _ _ h0
    | inr w => exact hn _ _ h0
   refine bind_some hF (fun r32 h33 hF => ?_)
   have q41 : PQ hn117 fun l => (.test (bnot x26) true :: .test (inr v8 (len r4)) true :: .sub (flat (eInt .i64) r4) (nidx v8 1) 1 [(.lit (.int .i64 x11))] :: .test (inr v8 (len a3.Vals)) true :: .sub (flat (eInt .i64) a3.Vals) (nidx v8 1) 1 [(.lit (.int .i64 x16))] :: .call 100 [.agg (eGGraph a1), .agg (eGJob a2), .one (.lit (.int .i64 a3.Step)), .one (.lit (.int .i64 x11)), .one (.lit (.int .i64 x16)), .one (.lit (.int .i64 r13.1)), .one (.lit (.bool r13.2))] (F100_res r32) :: .test (leadsAny (Res.mk [(.agg [(.im (.lit (.int .i64 r32.Val))), (.own 130 (.sl (len r32.Out) (flat eGMsg r32.Out))), (.im (.lit (.bool r32.Rest))), (.im (.lit (.int .i64 r32.E)))])] [])) false :: l) := fun z => ⟨(bnot_f h28), h10, ⟨rfl, sub_flat0 (eInt_len _) h12 1 (by decide)⟩, h15, ⟨rfl, sub_flat0 (eInt_len _) h17 1 (by decide)⟩, (F100_ok K a1 a2 a3.Step x11 x16 r13.1 r13.2 _ h33), (leads_ok (by simp [leadsAny, RV.leads, RC.leads, leadsT, hasSl_lit, flat_ns (eInt_ns _), flat_ns eGJob_ns, flat_ns eGMsg_ns])), z⟩
   refine cond_some hF (fun h34 hF => ?_) (fun h34 hF => ?_)
   ·
    refine cond_some hF (fun h35 hF => ?_) (fun _ hF => nomatch hF)
    refine cond_some hF (fun h36 hF => ?_) (fun _ hF => nomatch hF)
    refine cond_some hF (fun h37 hF => ?_) (fun _ hF => nomatch hF)
    have pz : HoldAll E H hn117 [.test (ine r32.E 0) false, .test (leqm [(.lit (.int .i64 r32.Val))] 1 1) true, .test (apok (len v5) 1 8) true, .sl (nadd (len v5) 1) (lapp (flat (eInt .i64) v5) [(.lit (.int .i64 r32.Val))]) (len (α := Int) (appL v5 [r32.Val])) (flat (eInt .i64) (appL v5 [r32.Val])), .test (leqm [(.lit (.bool r32.Rest))] 1 1) true, .test (apok (len v6) 1 1) true, .sl (nadd (len v6) 1) (lapp (flat eBool v6) [(.lit (.bool r32.Rest))]) (len (α := Bool) (appL v6 [r32.Rest])) (flat eBool (appL v6 [r32.Rest])), .test (leqm (flat eGMsg r32.Out) (len r32.Out) 2) true, .test (apok (len v7) (len r32.Out) 16) true, .sl (nadd (len v7) (len r32.Out)) (lapp (flat eGMsg v7) (flat eGMsg r32.Out)) (len (α := GMsg) (appL v7 r32.Out)) (flat eGMsg (appL v7 r32.Out)), .int (wadd .i64 v8 1) (wadd .i64 v8 1)] := ⟨(ine_t h34), rfl, h35, (app_ok (enc := (eInt .i64)) (v5 : List Int) [r32.Val]), rfl, h36, (app_ok (enc := eBool) (v6 : List Bool) [r32.Rest]), (leqm_flat eGMsg_len _), h37, (app_ok (enc := eGMsg) (v7 : List GMsg) r32.Out), rfl, trivial⟩
    have h0 := ih _ _ _ _ _ hF
    have hn := fun ex ts' => loop_nextC (h := hn117) (l := 0) (c := c117_0) (ts := F117_l0_0_S a1 a2 a3 r4 v5 v6 v7 v8) (ts1 := (F117_l0_0_S a1 a2 a3 r4 (appL v5 [r32.Val]) (appL v6 [r32.Rest]) (appL v7 r32.Out) (wadd .i64 v8 1))) (ex := ex) (ts' := ts') (q38 (q40 (q41 pz))) (by kernel_rfl)
    cases r with
    | inl w => exact hn _ _ h0
    | inr w => exact hn _ _ h0
   obtain rfl := Option.some.inj hF
   have pz : HoldAll E H hn117 [.test (ine r32.E 0) true] := ⟨(ine_f h34), trivial⟩
   exact loop_endC (h := hn117) (l := 0) (c := c117_0) (ts := F117_l0_0_S a1 a2 a3 r4 v5 v6 v7 v8) (ts' := F117_l0_0_X0 a1 a2 a3 r4 r32.E) (ex := .ret) (q38 (q40 (q41 pz))) (by kernel_rfl) trivial
  obtain rfl := Option.some.inj hF
  have pz : HoldAll E H hn117 [.int (nlen (len r4)) (nlen (len r4)), .test (ilt v8 (nlen (len r4))) false] := ⟨rfl, h9, trivial⟩
  exact loop_endC (h := hn117) (l := 0) (c := c117_0) (ts := F117_l0_0_S a1 a2 a3 r4 v5 v6 v7 v8) (ts' := F117_l0_0_X1 a1 a2 a3 r4 (v5, (v6, v7))) (ex := (.exit 0)) pz (by kernel_rfl) trivial
def F117_l1_1 (K : Nat) (a1 : GJob) (a2 : GPart) (w3 : List Int × List Bool × List GMsg) : Nat → List (List GMsg) → Int → Option ((Int) ⊕ (List (List GMsg)))
 | 0, _, _ => none
 | k + 1, v4, v5 =>
  bif (ilt v5 a1.Parts) then
   ((F153 K a1 w3.2.2 v5).bind fun r6 =>
   (F152 K a1.Prog r6).bind fun r7 =>
   bif (ieq r7.2 0) then
    (bif (apok (len v4) 1 24) then
    F117_l1_1 K a1 a2 w3 k (appL v4 [r7.1]) (wadd .i64 v5 1)
    else none)
   else
   some (.inl r7.2))
  else
  some (.inr v4)
def F117_l1_1_S (a1 : GJob) (a2 : GPart) (w3 : List Int × List Bool × List GMsg) (v4 : List (List GMsg)) (v5 : Int) : TS := .on [256, 257, 258, 259, 260, 384, 385, 386, 387, 388, 389, 390, 391, 512, 513, 514, 515, 516, 517, 518, 519, 640, 641, 960, 961] [(256, ⟨(.box 64 4), 0, nob⟩), (257, ⟨.im, 0, (.lit (.int .i64 a1.Prog))⟩), (258, ⟨.im, 0, (.lit (.int .i64 a1.Source))⟩), (259, ⟨.im, 0, (.lit (.int .i64 a1.Limit))⟩), (260, ⟨.im, 0, (.lit (.int .i64 a1.Parts))⟩), (384, ⟨(.box 141 7), 0, nob⟩), (385, ⟨.im, 0, (.lit (.int .i64 0))⟩), (386, ⟨.im, 0, (.lit (.int .i64 0))⟩), (387, ⟨(.own 2), 0, (.sl 0 [])⟩), (388, ⟨(.own 4), 0, (.sl 0 [])⟩), (389, ⟨(.own 130), 0, (.sl 0 [])⟩), (390, ⟨(.own 40), 0, (.sl 0 [])⟩), (391, ⟨.im, 0, (.lit (.int .i64 0))⟩), (512, ⟨(.box 141 7), 0, nob⟩), (513, ⟨.im, 0, (.lit (.int .i64 a2.P))⟩), (514, ⟨.im, 0, (.lit (.int .i64 (wadd .i64 a2.Step 1)))⟩), (515, ⟨(.own 2), 0, (.sl (len w3.1) (flat (eInt .i64) w3.1))⟩), (516, ⟨(.own 4), 0, (.sl (len w3.2.1) (flat eBool w3.2.1))⟩), (517, ⟨(.own 130), 0, (.sl 0 [])⟩), (518, ⟨(.own 40), 0, (.sl (len v4) (flat (eSl eGMsg) v4))⟩), (519, ⟨.im, 0, (.lit (.int .i64 0))⟩), (640, ⟨.one, 0, nob⟩), (641, ⟨(.own 130), 0, (.sl (len w3.2.2) (flat eGMsg w3.2.2))⟩), (960, ⟨.one, 0, nob⟩), (961, ⟨.im, 0, (.lit (.int .i64 v5))⟩)]
def F117_l1_1_X0 (a1 : GJob) (a2 : GPart) (w3 : List Int × List Bool × List GMsg) (w4 : Int) : TS := .on [384, 385, 386, 387, 388, 389, 390, 391] [(384, ⟨(.box 141 7), 0, nob⟩), (385, ⟨.im, 0, (.lit (.int .i64 0))⟩), (386, ⟨.im, 0, (.lit (.int .i64 0))⟩), (387, ⟨(.own 2), 0, (.sl 0 [])⟩), (388, ⟨(.own 4), 0, (.sl 0 [])⟩), (389, ⟨(.own 130), 0, (.sl 0 [])⟩), (390, ⟨(.own 40), 0, (.sl 0 [])⟩), (391, ⟨.im, 0, (.lit (.int .i64 w4))⟩)]
def F117_l1_1_X1 (a1 : GJob) (a2 : GPart) (w3 : List Int × List Bool × List GMsg) (w4 : List (List GMsg)) : TS := .on [384, 385, 386, 387, 388, 389, 390, 391, 512, 513, 514, 515, 516, 517, 518, 519] [(384, ⟨(.box 141 7), 0, nob⟩), (385, ⟨.im, 0, (.lit (.int .i64 0))⟩), (386, ⟨.im, 0, (.lit (.int .i64 0))⟩), (387, ⟨(.own 2), 0, (.sl 0 [])⟩), (388, ⟨(.own 4), 0, (.sl 0 [])⟩), (389, ⟨(.own 130), 0, (.sl 0 [])⟩), (390, ⟨(.own 40), 0, (.sl 0 [])⟩), (391, ⟨.im, 0, (.lit (.int .i64 0))⟩), (512, ⟨(.box 141 7), 0, nob⟩), (513, ⟨.im, 0, (.lit (.int .i64 a2.P))⟩), (514, ⟨.im, 0, (.lit (.int .i64 (wadd .i64 a2.Step 1)))⟩), (515, ⟨(.own 2), 0, (.sl (len w3.1) (flat (eInt .i64) w3.1))⟩), (516, ⟨(.own 4), 0, (.sl (len w3.2.1) (flat eBool w3.2.1))⟩), (517, ⟨(.own 130), 0, (.sl 0 [])⟩), (518, ⟨(.own 40), 0, (.sl (len w4) (flat (eSl eGMsg) w4))⟩), (519, ⟨.im, 0, (.lit (.int .i64 0))⟩)]
theorem F117_l1_1_ok (K : Nat) (a1 : GJob) (a2 : GPart) (w3 : List Int × List Bool × List GMsg) : ∀ (k : Nat) (v4 : List (List GMsg)) (v5 : Int) (r : (Int) ⊕ (List (List GMsg))), F117_l1_1 K a1 a2 w3 k v4 v5 = some r → (Sum.elim (fun w => LoopEv E H hn117 2 c117_1 (F117_l1_1_S a1 a2 w3 v4 v5) .ret (F117_l1_1_X0 a1 a2 w3 w)) (fun w => LoopEv E H hn117 2 c117_1 (F117_l1_1_S a1 a2 w3 v4 v5) (.exit 2) (F117_l1_1_X1 a1 a2 w3 w))) r := by
 intro k
 induction k with
 | zero => intro v4 v5 r hF; cases hF
 | succ k ih =>
  intro v4 v5 r hF
  rw [F117_l1_1] at hF
  refine cond_some hF (fun h6 hF => ?_) (fun h6 hF => ?_)
  ·
   refine bind_some hF (fun r7 h8 hF => ?_)
   refine bind_some hF (fun r9 h10 hF => ?_)
   have q13 : PQ hn117 fun l => (.test (ilt v5 a1.Parts) true :: .call 153 [.agg (eGJob a1), .one (.sl (len w3.2.2) (flat eGMsg w3.2.2)), .one (.lit (.int .i64 v5))] (F153_res r7) :: .test (leadsAny (Res.mk [(.one (.own 130 (.sl (len r7) (flat eGMsg r7))))] [])) false :: .call 152 [.one (.lit (.int .i64 a1.Prog)), .one (.sl (len r7) (flat eGMsg r7))] (F152_res r9) :: .test (leadsAny (Res.mk [(.one (.own 130 (.sl (len r9.1) (flat eGMsg r9.1)))), (.one (.im (.lit (.int .i64 r9.2))))] [])) false :: l) := fun z => ⟨h6, (F153_ok K a1 w3.2.2 v5 _ h8), (leads_ok (by simp [leadsAny, RV.leads, RC.leads, leadsT, hasSl_lit, flat_ns eGJob_ns, flat_ns eGMsg_ns])), (F152_ok K a1.Prog r7 _ h10), (leads_ok (by simp [leadsAny, RV.leads, RC.leads, leadsT, hasSl_lit, flat_ns eGJob_ns, flat_ns eGMsg_ns])), z⟩
   refine cond_some hF (fun h11 hF => ?_) (fun h11 hF => ?_)
   ·
    refine cond_some hF (fun h12 hF => ?_) (fun _ hF => nomatch hF)
    have pz : HoldAll E H hn117 [.test (ine r9.2 0) false, .test (leqm [(.sl (len r9.1) (flat eGMsg r9.1))] 1 1) true, .test (apok (len v4) 1 24) true, .sl (nadd (len v4) 1) (lapp (flat (eSl eGMsg) v4) [(.sl (len r9.1) (flat eGMsg r9.1))]) (len (α := List GMsg) (appL v4 [r9.1])) (flat (eSl eGMsg) (appL v4 [r9.1])), .int (wadd .i64 v5 1) (wadd .i64 v5 1)] := ⟨(ine_t h11), rfl, h12, (app_ok (enc := (eSl eGMsg)) (v4 : List (List GMsg)) [r9.1]), rfl, trivial⟩
    have h0 := ih _ _ _ hF
    have hn := fun ex ts' => loop_nextC (h := hn117) (l := 2) (c := c117_1) (ts := F117_l1_1_S a1 a2 w3 v4 v5) (ts1 := (F117_l1_1_S a1 a2 w3 (appL v4 [r9.1]) (wadd .i64 v5 1))) (ex := ex) (ts' := ts') (q13 pz) (by kernel_rfl)
    cases r with
    | inl w => exact hn _ _ h0
    | inr w => exact hn _ _ h0
   obtain rfl := Option.some.inj hF
   have pz : HoldAll E H hn117 [.test (ine r9.2 0) true] := ⟨(ine_f h11), trivial⟩
   exact loop_endC (h := hn117) (l := 2) (c := c117_1) (ts := F117_l1_1_S a1 a2 w3 v4 v5) (ts' := F117_l1_1_X0 a1 a2 w3 r9.2) (ex := .ret) (q13 pz) (by kernel_rfl) trivial
  obtain rfl := Option.some.inj hF
  have pz : HoldAll E H hn117 [.test (ilt v5 a1.Parts) false] := ⟨h6, trivial⟩
  exact loop_endC (h := hn117) (l := 2) (c := c117_1) (ts := F117_l1_1_S a1 a2 w3 v4 v5) (ts' := F117_l1_1_X1 a1 a2 w3 v4) (ex := (.exit 2)) pz (by kernel_rfl) trivial
def F117 (K : Nat) (a1 : GGraph) (a2 : GJob) (a3 : GPart) : Option (GDone) :=
 (F59 K a1 a2).bind fun r4 =>
 bif (ieq r4 0) then
  ((F81 K a1 a2 a3).bind fun r5 =>
  bif r5 then
   (bif (ieq a3.Step 40) then
    (some (GDone.mk (GPart.mk 0 0 [] [] []) [] 6))
   else
   (F139 K a1 a2 a3.P).bind fun r6 =>
   (F117_l0_0 K a1 a2 a3 r6 K [] [] [] 0).bind fun y7 =>
   Sum.elim (fun w8 =>
    some (GDone.mk (GPart.mk 0 0 [] [] []) [] w8))
    (fun w9 =>
    (F117_l1_1 K a2 a3 w9 K [] 0).bind fun y10 =>
    Sum.elim (fun w11 =>
     some (GDone.mk (GPart.mk 0 0 [] [] []) [] w11))
     (fun w12 =>
     some (GDone.mk (GPart.mk a3.P (wadd .i64 a3.Step 1) w9.1 w9.2.1 []) w12 0)) y10) y7)
  else
  some (GDone.mk (GPart.mk 0 0 [] [] []) [] 1))
 else
 some (GDone.mk (GPart.mk 0 0 [] [] []) [] r4)
theorem F117_ok (K : Nat) (a1 : GGraph) (a2 : GJob) (a3 : GPart) (r : GDone) (hF : F117 K a1 a2 a3 = some r) : Evt E H 117 [.agg (eGGraph a1), .agg (eGJob a2), .agg (eGPart a3)] (F117_res r) := by
 rw [F117] at hF
 refine bind_some hF (fun r4 h5 hF => ?_)
 refine cond_some hF (fun h6 hF => ?_) (fun h6 hF => ?_)
 ·
  refine bind_some hF (fun r7 h8 hF => ?_)
  have q21 : PQ hn117 fun l => (.call 59 [.agg (eGGraph a1), .agg (eGJob a2)] (F59_res r4) :: .test (leadsAny (Res.mk [(.one (.im (.lit (.int .i64 r4))))] [])) false :: .test (ine r4 0) false :: .call 81 [.agg (eGGraph a1), .agg (eGJob a2), .agg (eGPart a3)] (F81_res r7) :: .test (leadsAny (Res.mk [(.one (.im (.lit (.bool r7))))] [])) false :: l) := fun z => ⟨(F59_ok K a1 a2 _ h5), (leads_ok (by simp [leadsAny, RV.leads, RC.leads, leadsT, hasSl_lit, flat_ns eGJob_ns])), (ine_t h6), (F81_ok K a1 a2 a3 _ h8), (leads_ok (by simp [leadsAny, RV.leads, RC.leads, leadsT, hasSl_lit, flat_ns eGJob_ns])), z⟩
  refine cond_some hF (fun h9 hF => ?_) (fun h9 hF => ?_)
  ·
   refine cond_some hF (fun h10 hF => ?_) (fun h10 hF => ?_)
   ·
    obtain rfl := Option.some.inj hF
    have pz : HoldAll E H hn117 [.test (bnot r7) false, .test (ieq a3.Step 40) true] := ⟨(bnot_t h9), h10, trivial⟩
    exact fn_playC hn117 (r := F117_res (GDone.mk (GPart.mk 0 0 [] [] []) [] 6)) (q21 pz) (by kernel_rfl) (by kernel_rfl)
   refine bind_some hF (fun r11 h12 hF => ?_)
   have q22 : PQ hn117 fun l => (.test (bnot r7) false :: .test (ieq a3.Step 40) false :: .int (wadd .i64 a3.Step 1) (wadd .i64 a3.Step 1) :: .call 139 [.agg (eGGraph a1), .agg (eGJob a2), .one (.lit (.int .i64 a3.P))] (F139_res r11) :: .test (leadsAny (Res.mk [(.one (.own 3 (.sl (len r11) (flat (eInt .i64) r11))))] [])) false :: l) := fun z => ⟨(bnot_t h9), h10, rfl, (F139_ok K a1 a2 a3.P _ h12), (leads_ok (by simp [leadsAny, RV.leads, RC.leads, leadsT, hasSl_lit, flat_ns (eInt_ns _), flat_ns eGJob_ns])), z⟩
   refine bind_some hF (fun y14 h13 hF => ?_)
   refine sum_some hF (fun w15 hx hF => ?_) (fun w16 hx hF => ?_)
   ·
    subst hx
    obtain rfl := Option.some.inj hF
    have pz : HoldAll E H hn117 [.loop 0 c117_0 (F117_l0_0_S a1 a2 a3 r11 [] [] [] 0) .ret (F117_l0_0_X0 a1 a2 a3 r11 w15)] := ⟨(F117_l0_0_ok K a1 a2 a3 r11 K [] [] [] 0 _ h13), trivial⟩
    exact fn_playC hn117 (r := F117_res (GDone.mk (GPart.mk 0 0 [] [] []) [] w15)) (q21 (q22 pz)) (by kernel_rfl) (by kernel_rfl)
   subst hx
   refine bind_some hF (fun y18 h17 hF => ?_)
   refine sum_some hF (fun w19 hx hF => ?_) (fun w20 hx hF => ?_)
   ·
    subst hx
    obtain rfl := Option.some.inj hF
    have pz : HoldAll E H hn117 [.loop 0 c117_0 (F117_l0_0_S a1 a2 a3 r11 [] [] [] 0) (.exit 0) (F117_l0_0_X1 a1 a2 a3 r11 w16), .loop 2 c117_1 (F117_l1_1_S a2 a3 w16 [] 0) .ret (F117_l1_1_X0 a2 a3 w16 w19)] := ⟨(F117_l0_0_ok K a1 a2 a3 r11 K [] [] [] 0 _ h13), (F117_l1_1_ok K a2 a3 w16 K [] 0 _ h17), trivial⟩
    exact fn_playC hn117 (r := F117_res (GDone.mk (GPart.mk 0 0 [] [] []) [] w19)) (q21 (q22 pz)) (by kernel_rfl) (by kernel_rfl)
   subst hx
   obtain rfl := Option.some.inj hF
   have pz : HoldAll E H hn117 [.loop 0 c117_0 (F117_l0_0_S a1 a2 a3 r11 [] [] [] 0) (.exit 0) (F117_l0_0_X1 a1 a2 a3 r11 w16), .loop 2 c117_1 (F117_l1_1_S a2 a3 w16 [] 0) (.exit 2) (F117_l1_1_X1 a2 a3 w16 w20)] := ⟨(F117_l0_0_ok K a1 a2 a3 r11 K [] [] [] 0 _ h13), (F117_l1_1_ok K a2 a3 w16 K [] 0 _ h17), trivial⟩
   exact fn_playC hn117 (r := F117_res (GDone.mk (GPart.mk a3.P (wadd .i64 a3.Step 1) w16.1 w16.2.1 []) w20 0)) (q21 (q22 pz)) (by kernel_rfl) (by kernel_rfl)
  obtain rfl := Option.some.inj hF
  have pz : HoldAll E H hn117 [.test (bnot r7) true] := ⟨(bnot_f h9), trivial⟩
  exact fn_playC hn117 (r := F117_res (GDone.mk (GPart.mk 0 0 [] [] []) [] 1)) (q21 pz) (by kernel_rfl) (by kernel_rfl)
 obtain rfl := Option.some.inj hF
 have pz : HoldAll E H hn117 [.call 59 [.agg (eGGraph a1), .agg (eGJob a2)] (F59_res r4), .test (leadsAny (Res.mk [(.one (.im (.lit (.int .i64 r4))))] [])) false, .test (ine r4 0) true] := ⟨(F59_ok K a1 a2 _ h5), (leads_ok (by simp [leadsAny, RV.leads, RC.leads, leadsT, hasSl_lit, flat_ns eGJob_ns])), (ine_f h6), trivial⟩
 exact fn_playC hn117 (r := F117_res (GDone.mk (GPart.mk 0 0 [] [] []) [] r4)) pz (by kernel_rfl) (by kernel_rfl)
noncomputable def hn119 : Hint := { H 119 with nt := 27, prot := 0 }
noncomputable def c119_0 : Code := loopOf E 119 0
def F119_res (r1 : Bool) : Res := ⟨[(.one (.im (.lit (.bool r1))))], []⟩
def F119_l0_0 (K : Nat) (a1 : List (List GMsg)) (a2 : List (List GMsg)) : Nat → Int → Option ((Unit) ⊕ (Unit))
 | 0, _ => none
 | k + 1, v3 =>
  bif (ilt v3 (nlen (len a1))) then
   (bif (inr v3 (len a1)) then
   (elAt a1 v3).bind fun x4 =>
   bif (inr v3 (len a2)) then
   (elAt a2 v3).bind fun x5 =>
   (F89 K x4 x5).bind fun r6 =>
   bif r6 then
    (F119_l0_0 K a1 a2 k (wadd .i64 v3 1))
   else
   some (.inl ())
   else none
   else none)
  else
  some (.inr ())
def F119_l0_0_S (a1 : List (List GMsg)) (a2 : List (List GMsg)) (v3 : Int) : TS := .on [0, 1, 64, 65, 320, 321] [(0, ⟨.one, 0, nob⟩), (1, ⟨.im, 0, (.sl (len a1) (flat (eSl eGMsg) a1))⟩), (64, ⟨.one, 0, nob⟩), (65, ⟨.im, 0, (.sl (len a2) (flat (eSl eGMsg) a2))⟩), (320, ⟨.one, 0, nob⟩), (321, ⟨.im, 0, (.lit (.int .i64 v3))⟩)]
def F119_l0_0_X0 (a1 : List (List GMsg)) (a2 : List (List GMsg)) (w3 : Unit) : TS := .on [256, 257] [(256, ⟨.one, 0, nob⟩), (257, ⟨.im, 0, (.lit (.bool false))⟩)]
def F119_l0_0_X1 (a1 : List (List GMsg)) (a2 : List (List GMsg)) (w3 : Unit) : TS := .on [] []
theorem F119_l0_0_ok (K : Nat) (a1 : List (List GMsg)) (a2 : List (List GMsg)) : ∀ (k : Nat) (v3 : Int) (r : (Unit) ⊕ (Unit)), F119_l0_0 K a1 a2 k v3 = some r → (Sum.elim (fun w => LoopEv E H hn119 0 c119_0 (F119_l0_0_S a1 a2 v3) .ret (F119_l0_0_X0 a1 a2 w)) (fun w => LoopEv E H hn119 0 c119_0 (F119_l0_0_S a1 a2 v3) (.exit 0) (F119_l0_0_X1 a1 a2 w))) r := by
 intro k
 induction k with
 | zero => intro v3 r hF; cases hF
 | succ k ih =>
  intro v3 r hF
  rw [F119_l0_0] at hF
  refine cond_some hF (fun h4 hF => ?_) (fun h4 hF => ?_)
  ·
   refine cond_some hF (fun h5 hF => ?_) (fun _ hF => nomatch hF)
   refine bind_some hF (fun x6 h7 hF => ?_)
   refine cond_some hF (fun h8 hF => ?_) (fun _ hF => nomatch hF)
   refine bind_some hF (fun x9 h10 hF => ?_)
   refine bind_some hF (fun r11 h12 hF => ?_)
   have q14 : PQ hn119 fun l => (.int (nlen (len a1)) (nlen (len a1)) :: .test (ilt v3 (nlen (len a1))) true :: .test (inr v3 (len a1)) true :: .sub (flat (eSl eGMsg) a1) (nidx v3 1) 1 [(.sl (len x6) (flat eGMsg x6))] :: .test (inr v3 (len a2)) true :: .sub (flat (eSl eGMsg) a2) (nidx v3 1) 1 [(.sl (len x9) (flat eGMsg x9))] :: .call 89 [.one (.sl (len x6) (flat eGMsg x6)), .one (.sl (len x9) (flat eGMsg x9))] (F89_res r11) :: .test (leadsAny (Res.mk [(.one (.im (.lit (.bool r11))))] [])) false :: l) := fun z => ⟨rfl, h4, h5, ⟨rfl, sub_flat0 (eSl_len _) h7 1 (by decide)⟩, h8, ⟨rfl, sub_flat0 (eSl_len _) h10 1 (by decide)⟩, (F89_ok K x6 x9 _ h12), (leads_ok (by simp [leadsAny, RV.leads, RC.leads, leadsT, hasSl_lit, flat_ns eGMsg_ns])), z⟩
   refine cond_some hF (fun h13 hF => ?_) (fun h13 hF => ?_)
   ·
    have pz : HoldAll E H hn119 [.test (bnot r11) false, .int (wadd .i64 v3 1) (wadd .i64 v3 1)] := ⟨(bnot_t h13), rfl, trivial⟩
    have h0 := ih _ _ hF
    have hn := fun ex ts' => loop_nextC (h := hn119) (l := 0) (c := c119_0) (ts := F119_l0_0_S a1 a2 v3) (ts1 := (F119_l0_0_S a1 a2 (wadd .i64 v3 1))) (ex := ex) (ts' := ts') (q14 pz) (by kernel_rfl)
    cases r with
    | inl w => exact hn _ _ h0
    | inr w => exact hn _ _ h0
   obtain rfl := Option.some.inj hF
   have pz : HoldAll E H hn119 [.test (bnot r11) true] := ⟨(bnot_f h13), trivial⟩
   exact loop_endC (h := hn119) (l := 0) (c := c119_0) (ts := F119_l0_0_S a1 a2 v3) (ts' := F119_l0_0_X0 a1 a2 ()) (ex := .ret) (q14 pz) (by kernel_rfl) trivial
  obtain rfl := Option.some.inj hF
  have pz : HoldAll E H hn119 [.int (nlen (len a1)) (nlen (len a1)), .test (ilt v3 (nlen (len a1))) false] := ⟨rfl, h4, trivial⟩
  exact loop_endC (h := hn119) (l := 0) (c := c119_0) (ts := F119_l0_0_S a1 a2 v3) (ts' := F119_l0_0_X1 a1 a2 ()) (ex := (.exit 0)) pz (by kernel_rfl) trivial
def F119 (K : Nat) (a1 : List (List GMsg)) (a2 : List (List GMsg)) : Option (Bool) :=
 bif (ieq (nlen (len a1)) (nlen (len a2))) then
  ((F119_l0_0 K a1 a2 K 0).bind fun y3 =>
  Sum.elim (fun w4 =>
   some false)
   (fun w5 =>
   some true) y3)
 else
 some false
theorem F119_ok (K : Nat) (a1 : List (List GMsg)) (a2 : List (List GMsg)) (r : Bool) (hF : F119 K a1 a2 = some r) : Evt E H 119 [.one (.sl (len a1) (flat (eSl eGMsg) a1)), .one (.sl (len a2) (flat (eSl eGMsg) a2))] (F119_res r) := by
 rw [F119] at hF
 refine cond_some hF (fun h3 hF => ?_) (fun h3 hF => ?_)
 ·
  have q8 : PQ hn119 fun l => (.int (nlen (len a1)) (nlen (len a1)) :: .int (nlen (len a2)) (nlen (len a2)) :: .test (ine (nlen (len a1)) (nlen (len a2))) false :: l) := fun z => ⟨rfl, rfl, (ine_t h3), z⟩
  refine bind_some hF (fun y5 h4 hF => ?_)
  refine sum_some hF (fun w6 hx hF => ?_) (fun w7 hx hF => ?_)
  ·
   subst hx
   obtain rfl := Option.some.inj hF
   have pz : HoldAll E H hn119 [.loop 0 c119_0 (F119_l0_0_S a1 a2 0) .ret (F119_l0_0_X0 a1 a2 w6)] := ⟨(F119_l0_0_ok K a1 a2 K 0 _ h4), trivial⟩
   exact fn_playC hn119 (r := F119_res false) (q8 pz) (by kernel_rfl) (by kernel_rfl)
  subst hx
  obtain rfl := Option.some.inj hF
  have pz : HoldAll E H hn119 [.loop 0 c119_0 (F119_l0_0_S a1 a2 0) (.exit 0) (F119_l0_0_X1 a1 a2 w7)] := ⟨(F119_l0_0_ok K a1 a2 K 0 _ h4), trivial⟩
  exact fn_playC hn119 (r := F119_res true) (q8 pz) (by kernel_rfl) (by kernel_rfl)
 obtain rfl := Option.some.inj hF
 have pz : HoldAll E H hn119 [.int (nlen (len a1)) (nlen (len a1)), .int (nlen (len a2)) (nlen (len a2)), .test (ine (nlen (len a1)) (nlen (len a2))) true] := ⟨rfl, rfl, (ine_f h3), trivial⟩
 exact fn_playC hn119 (r := F119_res false) pz (by kernel_rfl) (by kernel_rfl)
def oneP (g : GGraph) (j : GJob) (x : GPart) (i v : Nat) : Int × List GMsg × Bool × Int :=
 bif x.Rest.getD i false && !(atS x.In (v : Int)).2 then (x.Vals.getD i 0, [], true, 0)
 else turnS g j x.Step (v : Int) (x.Vals.getD i 0) (atS x.In (v : Int)).1 (atS x.In (v : Int)).2
def doA (g : GGraph) (j : GJob) (x : GPart) : List Nat → Nat → List Int → List Bool → List GMsg → Int ⊕ Tri
 | [], _, a, b, c => .inr (a, b, c)
 | v :: l, i, a, b, c => bif ieq (oneP g j x i v).2.2.2 0 then doA g j x l (i + 1) (a ++ [(oneP g j x i v).1]) (b ++ [(oneP g j x i v).2.2.1]) (c ++ (oneP g j x i v).2.1) else .inl (oneP g j x i v).2.2.2
def toS (j : GJob) (c : List GMsg) (q : Int) : List GMsg := c.filter fun m => ieq (homeS j m.To) q
def tellS (j : GJob) (c : List GMsg) : List Nat → List (List GMsg) → Int ⊕ List (List GMsg)
 | [], d => .inr d
 | q :: l, d => bif ieq (boxS j.Prog (toS j c (q : Int))).2 0 then tellS j c l (d ++ [(boxS j.Prog (toS j c (q : Int))).1]) else .inl (boxS j.Prog (toS j c (q : Int))).2
abbrev Did := GPart × List (List GMsg) × Int
def doC (x : GPart) (w : Tri) : Int ⊕ List (List GMsg) → Did
 | .inl e => (zeroP, [], e)
 | .inr t => (GPart.mk x.P (x.Step + 1) w.1 w.2.1 [], t, 0)
def doB (j : GJob) (x : GPart) : Int ⊕ Tri → Did
 | .inl e => (zeroP, [], e)
 | .inr w => doC x w (tellS j w.2.2 (List.range j.Parts.toNat) [])
def doS (g : GGraph) (j : GJob) (x : GPart) : Did :=
 bif ieq (jcheck g j) 0 then (bif partRight g j x then (bif ieq x.Step 40 then (zeroP, [], 6) else doB j x (doA g j x (vertsS g j x.P) 0 [] [] [])) else (zeroP, [], 1)) else (zeroP, [], jcheck g j)
def niceP (x : GPart) : Prop := (∀ v ∈ x.Vals, i64 v) ∧ (∀ m ∈ x.In, i64 m.V)
theorem wf_niceP {x : GPart} (h : WGPart x) : niceP x := ⟨fun v hv => i64_wf (h.2.2.1.2 v hv), fun m hm => i64_wf ((h.2.2.2.2.1).2 m hm).2.1⟩
theorem onep_i64 {g : GGraph} {j : GJob} {x : GPart} (hn : niceP x) {i v : Nat} : i64 (oneP g j x i v).1 ∧ ∀ m ∈ (oneP g j x i v).2.1, i64 m.V := by
 have h0 : i64 0 := by unfold i64; omega
 have hx : i64 (x.Vals.getD i 0) := by
   rw [List.getD_eq_getElem?_getD]
   cases hq : x.Vals[i]? with
   | none => exact h0
   | some y => exact hn.1 y (List.mem_of_getElem? hq)
 rw [oneP]
 cases x.Rest.getD i false && !(atS x.In (v : Int)).2
 · exact turn_i64 hx (atS_i64 hn.2)
 · exact ⟨hx, fun m hm => absurd hm (List.not_mem_nil)⟩
theorem onep_outs {g : GGraph} {j : GJob} {x : GPart} {i v : Nat} : (oneP g j x i v).2.1.length ≤ 80 ∧ ∀ m ∈ (oneP g j x i v).2.1, 0 ≤ m.To ∧ m.To < g.N := by
 rw [oneP]
 cases x.Rest.getD i false && !(atS x.In (v : Int)).2
 · exact ⟨turn_len, turn_To⟩
 · exact ⟨Nat.zero_le _, fun m hm => absurd hm (List.not_mem_nil)⟩
structure keepP (g : GGraph) (i : Nat) (a : List Int) (b : List Bool) (c : List GMsg) : Prop where
 la : a.length = i
 lb : b.length = i
 lc : c.length ≤ 80 * i
 va : ∀ v ∈ a, i64 v
 vc : ∀ m ∈ c, i64 m.V
 vt : ∀ m ∈ c, 0 ≤ m.To ∧ m.To < g.N
theorem keepP0 (g : GGraph) : keepP g 0 [] [] [] := ⟨rfl, rfl, Nat.zero_le _, fun v hv => absurd hv (List.not_mem_nil), fun m hm => absurd hm (List.not_mem_nil), fun m hm => absurd hm (List.not_mem_nil)⟩
theorem keepP_next {g : GGraph} {j : GJob} {x : GPart} (hn : niceP x) {i : Nat} (v : Nat) {a : List Int} {b : List Bool} {c : List GMsg} (h : keepP g i a b c) :
   keepP g (i + 1) (a ++ [(oneP g j x i v).1]) (b ++ [(oneP g j x i v).2.2.1]) (c ++ (oneP g j x i v).2.1) := by
 obtain ⟨o1, o2⟩ := onep_i64 (g := g) (j := j) hn (i := i) (v := v)
 obtain ⟨o3, o4⟩ := onep_outs (g := g) (j := j) (x := x) (i := i) (v := v)
 refine ⟨by simp [h.la], by simp [h.lb], ?_, fun v hv => ?_, fun m hm => ?_, fun m hm => ?_⟩
 · have h3 := h.lc
   rw [List.length_append]; omega
 · rcases List.mem_append.1 hv with hv | hv
   · exact h.va v hv
   · rw [List.mem_singleton.1 hv]; exact o1
 · rcases List.mem_append.1 hm with hm | hm
   · exact h.vc m hm
   · exact o2 m hm
 · rcases List.mem_append.1 hm with hm | hm
   · exact h.vt m hm
   · exact o4 m hm
theorem doA_keep {g : GGraph} {j : GJob} {x : GPart} (hn : niceP x) : ∀ (l : List Nat) (i : Nat) (a : List Int) (b : List Bool) (c : List GMsg), keepP g i a b c → ∀ w, doA g j x l i a b c = .inr w → keepP g (i + l.length) w.1 w.2.1 w.2.2 := by
 intro l
 induction l with
 | nil => intro i a b c h w hw; injection hw with hw; subst hw; exact h
 | cons v l ih =>
   intro i a b c h w hw
   rw [doA] at hw
   cases hq : ieq (oneP g j x i v).2.2.2 0
   · rw [hq] at hw; cases hw
   · rw [hq] at hw
     have := ih (i + 1) _ _ _ (keepP_next hn v h) w hw
     rwa [show i + 1 + l.length = i + (l.length + 1) by omega] at this
theorem toS_app (j : GJob) (c d : List GMsg) (q : Int) : toS j (c ++ d) q = toS j c q ++ toS j d q := List.filter_append _ _
theorem toS_len (j : GJob) (c : List GMsg) (q : Int) : (toS j c q).length ≤ c.length := List.length_filter_le _ _
theorem toS_mem {j : GJob} {c : List GMsg} {q : Int} {m : GMsg} (h : m ∈ toS j c q) : m ∈ c ∧ homeS j m.To = q := by
 obtain ⟨a, b⟩ := List.mem_filter.1 h
 exact ⟨a, ieq_iff.1 b⟩
theorem F153_spec {K : Nat} (j : GJob) (l : List GMsg) (q : Int) (hl : l.length < 100000) (hK : l.length < K) (ht : ∀ m ∈ l, i64 m.To) : F153 K j l q = some (toS j l q) := by
 let step : GMsg → List GMsg → (List GMsg → Option (List GMsg)) → Option (List GMsg) := fun m s c =>
   (F76 K j m.To).bind fun r => bif (ieq r q) then (bif (apok (len s) 1 16) then c (appL s [m]) else none) else c s
 have h := scanL (l := l) (L := fun k s i => F153_l0_0 K j l q k s i) step (fun s => some s) (fun k s i _ => rfl) (by omega) (K := K) hK []
 have hw : ∀ (r : List GMsg) (s : List GMsg), s.length + r.length < 1000000 → (∀ m ∈ r, i64 m.To) → goL step (fun s => some s) r s = some (s ++ toS j r q) := by
   intro r
   induction r with
   | nil => intro s _ _; simp [goL, toS]
   | cons m r ih =>
     intro s hs hm
     simp only [List.length_cons] at hs
     have hm' := fun y hy => hm y (List.mem_cons_of_mem _ hy)
     rw [goL]
     show ((F76 K j m.To).bind fun r' => bif (ieq r' q) then (bif (apok (len s) 1 16) then goL step (fun s => some s) r (appL s [m]) else none) else goL step (fun s => some s) r s) = _
     have ap : apok (len s) 1 16 = true := decide_eq_true ⟨by show s.length + 1 ≤ _; omega, by show (s.length + 1) * 16 ≤ _; omega⟩
     rw [F76_spec K j (hm m List.mem_cons_self), Option.bind_some, ap, cond_true, ih s (by omega) hm', ih (appL s [m]) (by simp only [appL, List.length_append, List.length_singleton]; omega) hm', toS, toS, List.filter_cons]
     cases ieq (homeS j m.To) q
     · rfl
     · simp [appL]
 rw [hw l [] (by simp only [List.length_nil]; omega) ht, List.nil_append] at h
 have h' : F153_l0_0 K j l q K [] 0 = some (toS j l q) := h
 rw [F153, h']; rfl
def st117 (K : Nat) (g : GGraph) (j : GJob) (x : GPart) (i : Nat) (y : Int) (w : Tri) (c : Tri → Option (Int ⊕ Tri)) : Option (Int ⊕ Tri) :=
 (F151 K x.In y).bind fun r6353 =>
 bif (inr (i : Int) (len x.Vals)) then
 (elAt x.Vals (i : Int)).bind fun x6356 =>
 bif r6353.2 then
   ((F100 K g j x.Step y x6356 r6353.1 r6353.2).bind fun r6359 =>
   bif (ieq r6359.E 0) then
     (bif (apok (len w.1) 1 8) then
     bif (apok (len w.2.1) 1 1) then
     bif (apok (len w.2.2) (len r6359.Out) 16) then
     c (appL w.1 [r6359.Val], appL w.2.1 [r6359.Rest], appL w.2.2 r6359.Out)
     else none
     else none
     else none)
   else
   some (.inl r6359.E))
 else
 bif (inr (i : Int) (len x.Rest)) then
 (elAt x.Rest (i : Int)).bind fun x6366 =>
 bif x6366 then
   (bif (apok (len w.1) 1 8) then
   bif (apok (len w.2.1) 1 1) then
   bif (apok (len w.2.2) 0 16) then
   c (appL w.1 [x6356], appL w.2.1 [true], appL w.2.2 [])
   else none
   else none
   else none)
 else
 (F100 K g j x.Step y x6356 r6353.1 r6353.2).bind fun r6372 =>
 bif (ieq r6372.E 0) then
   (bif (apok (len w.1) 1 8) then
   bif (apok (len w.2.1) 1 1) then
   bif (apok (len w.2.2) (len r6372.Out) 16) then
   c (appL w.1 [r6372.Val], appL w.2.1 [r6372.Rest], appL w.2.2 r6372.Out)
   else none
   else none
   else none)
 else
 some (.inl r6372.E)
 else none
 else none
theorem go117 {K : Nat} (hK : 3000 ≤ K) (g : GGraph) (j : GJob) (x : GPart) (hn : niceP x) (hin : x.In.length ≤ 300) (hrv : x.Rest.length = x.Vals.length) (hv24 : x.Vals.length ≤ 24) : ∀ (l : List Nat) (i : Nat) (a : List Int) (b : List Bool) (c : List GMsg), i + l.length = x.Vals.length → keepP g i a b c →
   goI (st117 K g j x) (fun w => some (.inr w)) i (l.map Int.ofNat) (a, b, c) = some (doA g j x l i a b c) := by
 intro l
 induction l with
 | nil => intro i a b c _ _; rfl
 | cons v l ih =>
   intro i a b c hi h
   simp only [List.length_cons] at hi
   have hlc := h.lc
   have hnx := keepP_next (j := j) hn v h
   obtain ⟨la, lb, _, _, _, _⟩ := h
   obtain ⟨o3, _⟩ := onep_outs (g := g) (j := j) (x := x) (i := i) (v := v)
   obtain ⟨v1, v2⟩ := elAt_get (l := x.Vals) (i := i) (by omega) 0
   obtain ⟨r1, r2⟩ := elAt_get (l := x.Rest) (i := i) (by omega) false
   have a1 : apok (len a) 1 8 = true := decide_eq_true ⟨by show a.length + 1 ≤ _; omega, by show (a.length + 1) * 8 ≤ _; omega⟩
   have a2 : apok (len b) 1 1 = true := decide_eq_true ⟨by show b.length + 1 ≤ _; omega, by show (b.length + 1) * 1 ≤ _; omega⟩
   have a3 : apok (len c) 0 16 = true := decide_eq_true ⟨by show c.length + 0 ≤ _; omega, by show (c.length + 0) * 16 ≤ _; omega⟩
   have a4 : apok (len c) (len (oneP g j x i v).2.1) 16 = true := decide_eq_true ⟨by show c.length + (oneP g j x i v).2.1.length ≤ _; omega, by show (c.length + (oneP g j x i v).2.1.length) * 16 ≤ _; omega⟩
   have hx : i64 (x.Vals.getD i 0) := by
     rw [List.getD_eq_getElem?_getD]
     cases hq : x.Vals[i]? with
     | none => show i64 0; unfold i64; omega
     | some y => exact hn.1 y (List.mem_of_getElem? hq)
   have hat := atS_i64 (l := x.In) (v := (v : Int)) hn.2
   have nx := ih (i + 1) _ _ _ (by omega) hnx
   rw [List.map_cons, goI, st117, doA, show Int.ofNat v = (v : Int) from rfl, F151_spec x.In (v : Int) (by omega) (by omega), v1, v2, r1, r2]
   have f100 := F100_spec (K := K) (by omega) g j x.Step (v : Int) (atS x.In (v : Int)).2 hx hat
   simp only [cond_true, Option.bind_some, f100, turned, a1, a2, a3]
   cases hs : (atS x.In (v : Int)).2
   · cases hy : x.Rest.getD i false
     · have hT : oneP g j x i v = turnS g j x.Step (v : Int) (x.Vals.getD i 0) (atS x.In (v : Int)).1 false := by rw [oneP, hy, hs]; rfl
       rw [hT] at a4 nx ⊢
       simp only [cond_false, a4, cond_true]
       cases ieq (turnS g j x.Step (v : Int) (x.Vals.getD i 0) (atS x.In (v : Int)).1 false).2.2.2 0
       · rfl
       · exact nx
     · have hT : oneP g j x i v = (x.Vals.getD i 0, [], true, 0) := by rw [oneP, hy, hs]; rfl
       rw [hT] at nx ⊢
       exact nx
   · have hT : oneP g j x i v = turnS g j x.Step (v : Int) (x.Vals.getD i 0) (atS x.In (v : Int)).1 true := by rw [oneP, hs, Bool.not_true, Bool.and_false]; rfl
     rw [hT] at a4 nx ⊢
     simp only [cond_false, a4, cond_true]
     cases ieq (turnS g j x.Step (v : Int) (x.Vals.getD i 0) (atS x.In (v : Int)).1 true).2.2.2 0
     · rfl
     · exact nx
theorem go117b {K : Nat} (hK : 3000 ≤ K) (j : GJob) (c : List GMsg) (hl : c.length ≤ 2000) (hv : ∀ m ∈ c, i64 m.V) (ht : ∀ m ∈ c, i64 m.To) : ∀ (l : List Nat) (d : List (List GMsg)), d.length + l.length ≤ 6 →
   goL (fun (q : Nat) (d : List (List GMsg)) (cc : List (List GMsg) → Option (Int ⊕ List (List GMsg))) => (F153 K j c (q : Int)).bind fun r => (F152 K j.Prog r).bind fun r' => bif (ieq r'.2 0) then (bif (apok (len d) 1 24) then cc (appL d [r'.1]) else none) else some (.inl r'.2)) (fun d => some (.inr d)) l d = some (tellS j c l d) := by
 intro l
 induction l with
 | nil => intro d _; rfl
 | cons q l ih =>
   intro d hd
   simp only [List.length_cons] at hd
   have ap : apok (len d) 1 24 = true := decide_eq_true ⟨by show d.length + 1 ≤ _; omega, by show (d.length + 1) * 24 ≤ _; omega⟩
   have hlen := toS_len j c (q : Int)
   rw [goL, F153_spec j c (q : Int) (by omega) (by omega) ht, Option.bind_some, F152_spec j.Prog _ (fun m hm => hv m (toS_mem hm).1) (by omega) (by omega), Option.bind_some, ap, cond_true, tellS, ih _ (by simp only [appL, List.length_append, List.length_singleton]; omega)]
   cases ieq (boxS j.Prog (toS j c (q : Int))).2 0 <;> rfl
def doneS (r : Did) : GDone := GDone.mk r.1 r.2.1 r.2.2
theorem F117_spec {K : Nat} (hK : 3000 ≤ K) (g : GGraph) (j : GJob) (x : GPart) (hn : niceP x) (hin : x.In.length ≤ 300) : F117 K g j x = some (doneS (doS g j x)) := by
 rw [F117, F59_spec (by omega), F81_spec (by omega) g j x (by omega) (by omega), Option.bind_some, Option.bind_some, doS]
 cases hc : ieq (jcheck g j) 0
 · rfl
 · cases hR : partRight g j x
   · rfl
   · cases h40 : ieq x.Step 40
     · obtain ⟨_, p1, p2, p3, p4, p5, p6, _⟩ := partRight_ok hR
       obtain ⟨hg, _, _, _, _, _, _, p7, p8⟩ := jcheck_ok hc
       obtain ⟨g1, g2, g3, _⟩ := gcheck_ok hg
       have hvl := verts_len g j g2 x.P
       rw [countS] at p5 p6
       have h := scanI (l := (vertsS g j x.P).map Int.ofNat) (L := fun k (w : Tri) i => F117_l0_0 K g j x ((vertsS g j x.P).map Int.ofNat) k w.1 w.2.1 w.2.2 i) (st117 K g j x) (fun w => some (.inr w)) (fun k w i _ => rfl) (by rw [List.length_map]; omega) K ([], [], []) 0 (by rw [List.length_map]; omega) (by omega)
       have h' : F117_l0_0 K g j x ((vertsS g j x.P).map Int.ofNat) K [] [] [] 0 = some (doA g j x (vertsS g j x.P) 0 [] [] []) := by
         rw [show F117_l0_0 K g j x ((vertsS g j x.P).map Int.ofNat) K [] [] [] 0 = _ from h, List.drop_zero]
         exact go117 hK g j x hn hin (by omega) (by omega) _ 0 [] [] [] (by omega) (keepP0 g)
       simp only [cond_true, cond_false, F139_spec (K := K) (by omega) p7 p8 g2, h', Option.bind_some]
       cases hA : doA g j x (vertsS g j x.P) 0 [] [] [] with
       | inl e => rfl
       | inr w =>
         have kw := doA_keep hn _ 0 [] [] [] (keepP0 g) w hA
         have hwl := kw.lc
         have hw : wadd .i64 x.Step 1 = x.Step + 1 := wadd_i64 (by unfold i64; omega)
         have t := scanN (N := j.Parts) (L := fun k d i => F117_l1_1 K j x w k d i) (fun (q : Nat) (d : List (List GMsg)) (cc : List (List GMsg) → Option (Int ⊕ List (List GMsg))) => (F153 K j w.2.2 (q : Int)).bind fun r => (F152 K j.Prog r).bind fun r' => bif (ieq r'.2 0) then (bif (apok (len d) 1 24) then cc (appL d [r'.1]) else none) else some (.inl r'.2)) (fun d => some (.inr d)) (fun k d i _ => rfl) (by omega) (K := K) (by omega) []
         have t' : F117_l1_1 K j x w K [] 0 = some (tellS j w.2.2 (List.range j.Parts.toNat) []) := by
           rw [show F117_l1_1 K j x w K [] 0 = _ from t]
           exact go117b hK j w.2.2 (by omega) kw.vc (fun m hm => by have := kw.vt m hm; unfold i64; omega) _ [] (by rw [List.length_range]; simp only [List.length_nil]; omega)
         simp only [Sum.elim_inr, t', Option.bind_some, doB, hw]
         cases tellS j w.2.2 (List.range j.Parts.toNat) [] <;> rfl
     · rfl
noncomputable def hn116 : Hint := { H 116 with nt := 160, prot := 0 }
noncomputable def c116_0 : Code := loopOf E 116 0
noncomputable def c116_1 : Code := loopOf E 116 1
noncomputable def c116_2 : Code := loopOf E 116 2
def F116_res (r1 : GPart × List (List GMsg) × Int) : Res := ⟨[(.agg [(.im (.lit (.int .i64 r1.1.P))), (.im (.lit (.int .i64 r1.1.Step))), (.own 2 (.sl (len r1.1.Vals) (flat (eInt .i64) r1.1.Vals))), (.own 4 (.sl (len r1.1.Rest) (flat eBool r1.1.Rest))), (.own 130 (.sl (len r1.1.In) (flat eGMsg r1.1.In)))]), (.one (.own 40 (.sl (len r1.2.1) (flat (eSl eGMsg) r1.2.1)))), (.one (.im (.lit (.int .i64 r1.2.2))))], []⟩
def F116_l1_1 (K : Nat) (v1 : Int) (v2 : List GEdge) (v3 : Int) (v4 : Int) (v5 : Int) (v6 : Int) (v7 : Int) (v8 : Int) (v9 : List Int) (v10 : List Bool) (v11 : List GMsg) (v12 : List Int) (v13 : List Bool) (v14 : Int) (v15 : Bool) (v16 : List GMsg) (v17 : Int) : Nat → List GMsg → List GMsg → List GMsg → List GMsg → List GMsg → List GMsg → Int → Option (List GMsg × List GMsg × List GMsg × List GMsg × List GMsg × List GMsg)
 | 0, _, _, _, _, _, _, _ => none
 | k + 1, v18, v19, v20, v21, v22, v23, v24 =>
  bif (ilt v24 (nlen (len v16))) then
   (bif (inr v24 (len v16)) then
   (elAt v16 v24).bind fun x25 =>
   (F75 K (GJob.mk v3 v4 v5 v6) x25.To).bind fun r26 =>
   bif (ieq r26 0) then
    (bif (apok (len v18) 1 16) then
    F116_l1_1 K v1 v2 v3 v4 v5 v6 v7 v8 v9 v10 v11 v12 v13 v14 v15 v16 v17 k (appL v18 [x25]) v19 v20 v21 v22 v23 (wadd .i64 v24 1)
    else none)
   else
   bif (ieq r26 1) then
    (bif (apok (len v19) 1 16) then
    F116_l1_1 K v1 v2 v3 v4 v5 v6 v7 v8 v9 v10 v11 v12 v13 v14 v15 v16 v17 k v18 (appL v19 [x25]) v20 v21 v22 v23 (wadd .i64 v24 1)
    else none)
   else
   bif (ieq r26 2) then
    (bif (apok (len v20) 1 16) then
    F116_l1_1 K v1 v2 v3 v4 v5 v6 v7 v8 v9 v10 v11 v12 v13 v14 v15 v16 v17 k v18 v19 (appL v20 [x25]) v21 v22 v23 (wadd .i64 v24 1)
    else none)
   else
   bif (ieq r26 3) then
    (bif (apok (len v21) 1 16) then
    F116_l1_1 K v1 v2 v3 v4 v5 v6 v7 v8 v9 v10 v11 v12 v13 v14 v15 v16 v17 k v18 v19 v20 (appL v21 [x25]) v22 v23 (wadd .i64 v24 1)
    else none)
   else
   bif (ieq r26 4) then
    (bif (apok (len v22) 1 16) then
    F116_l1_1 K v1 v2 v3 v4 v5 v6 v7 v8 v9 v10 v11 v12 v13 v14 v15 v16 v17 k v18 v19 v20 v21 (appL v22 [x25]) v23 (wadd .i64 v24 1)
    else none)
   else
   bif (ieq r26 5) then
   bif (apok (len v23) 1 16) then
   F116_l1_1 K v1 v2 v3 v4 v5 v6 v7 v8 v9 v10 v11 v12 v13 v14 v15 v16 v17 k v18 v19 v20 v21 v22 (appL v23 [x25]) (wadd .i64 v24 1)
   else none
   else none
   else none)
  else
  some (v18, (v19, (v20, (v21, (v22, v23)))))
def F116_l1_1_S (v1 : Int) (v2 : List GEdge) (v3 : Int) (v4 : Int) (v5 : Int) (v6 : Int) (v7 : Int) (v8 : Int) (v9 : List Int) (v10 : List Bool) (v11 : List GMsg) (v12 : List Int) (v13 : List Bool) (v14 : Int) (v15 : Bool) (v16 : List GMsg) (v17 : Int) (v18 : List GMsg) (v19 : List GMsg) (v20 : List GMsg) (v21 : List GMsg) (v22 : List GMsg) (v23 : List GMsg) (v24 : Int) : TS := .on [192, 193, 194, 256, 257, 258, 259, 260, 320, 321, 322, 323, 324, 325, 384, 385, 386, 387, 388, 389, 640, 641, 642, 643, 644, 645, 704, 705, 706, 707, 708, 709, 710, 832, 833, 1088, 1089, 1216, 1217, 3328, 3392, 3393, 3456, 3457, 3520, 3521, 6592, 6593, 6656, 6657, 6720, 6721] [(192, ⟨(.box 62 2), 0, nob⟩), (193, ⟨.im, 0, (.lit (.int .i64 v1))⟩), (194, ⟨.im, 0, (.sl (len v2) (flat eGEdge v2))⟩), (256, ⟨(.box 64 4), 0, nob⟩), (257, ⟨.im, 0, (.lit (.int .i64 v3))⟩), (258, ⟨.im, 0, (.lit (.int .i64 v4))⟩), (259, ⟨.im, 0, (.lit (.int .i64 v5))⟩), (260, ⟨.im, 0, (.lit (.int .i64 v6))⟩), (320, ⟨(.box 42 5), 0, nob⟩), (321, ⟨.im, 0, (.lit (.int .i64 v7))⟩), (322, ⟨.im, 0, (.lit (.int .i64 v8))⟩), (323, ⟨.im, 0, (.sl (len v9) (flat (eInt .i64) v9))⟩), (324, ⟨.im, 0, (.sl (len v10) (flat eBool v10))⟩), (325, ⟨.im, 0, (.sl (len v11) (flat eGMsg v11))⟩), (384, ⟨(.box 42 5), 0, nob⟩), (385, ⟨.im, 0, (.lit (.int .i64 0))⟩), (386, ⟨.im, 0, (.lit (.int .i64 0))⟩), (387, ⟨(.own 2), 0, (.sl 0 [])⟩), (388, ⟨(.own 4), 0, (.sl 0 [])⟩), (389, ⟨(.own 130), 0, (.sl 0 [])⟩), (640, ⟨(.box 42 5), 0, nob⟩), (641, ⟨.im, 0, (.lit (.int .i64 v7))⟩), (642, ⟨.im, 0, (.lit (.int .i64 (wadd .i64 v8 1)))⟩), (643, ⟨(.own 2), 0, (.sl (len v12) (flat (eInt .i64) v12))⟩), (644, ⟨(.own 4), 0, (.sl (len v13) (flat eBool v13))⟩), (645, ⟨(.own 130), 0, (.sl 0 [])⟩), (704, ⟨(.box 188 6), 0, nob⟩), (705, ⟨(.own 130), 0, (.sl (len v18) (flat eGMsg v18))⟩), (706, ⟨(.own 130), 0, (.sl (len v19) (flat eGMsg v19))⟩), (707, ⟨(.own 130), 0, (.sl (len v20) (flat eGMsg v20))⟩), (708, ⟨(.own 130), 0, (.sl (len v21) (flat eGMsg v21))⟩), (709, ⟨(.own 130), 0, (.sl (len v22) (flat eGMsg v22))⟩), (710, ⟨(.own 130), 0, (.sl (len v23) (flat eGMsg v23))⟩), (832, ⟨.one, 0, nob⟩), (833, ⟨.im, 0, (.lit (.int .i64 v14))⟩), (1088, ⟨.one, 0, nob⟩), (1089, ⟨.im, 0, (.lit (.bool v15))⟩), (1216, ⟨.one, 0, nob⟩), (1217, ⟨(.own 130), 0, (.sl (len v16) (flat eGMsg v16))⟩), (3328, ⟨(.ad 5 0 2), 0, nob⟩), (3392, ⟨.one, 0, nob⟩), (3393, ⟨.im, 0, (.sl (len v9) (flat (eInt .i64) v9))⟩), (3456, ⟨.one, 0, nob⟩), (3457, ⟨.im, 0, (.lit (.int .i64 (nlen (len v9))))⟩), (3520, ⟨.one, 0, nob⟩), (3521, ⟨.im, 0, (.lit (.int .i64 v17))⟩), (6592, ⟨.one, 0, nob⟩), (6593, ⟨(.vw 1217 0), 0, nob⟩), (6656, ⟨.one, 0, nob⟩), (6657, ⟨.im, 0, (.lit (.int .i64 (nlen (len v16))))⟩), (6720, ⟨.one, 0, nob⟩), (6721, ⟨.im, 0, (.lit (.int .i64 v24))⟩)]
def F116_l1_1_X0 (v1 : Int) (v2 : List GEdge) (v3 : Int) (v4 : Int) (v5 : Int) (v6 : Int) (v7 : Int) (v8 : Int) (v9 : List Int) (v10 : List Bool) (v11 : List GMsg) (v12 : List Int) (v13 : List Bool) (v14 : Int) (v15 : Bool) (v16 : List GMsg) (v17 : Int) (w18 : List GMsg × List GMsg × List GMsg × List GMsg × List GMsg × List GMsg) : TS := .on [192, 193, 194, 256, 257, 258, 259, 260, 320, 321, 322, 323, 324, 325, 384, 385, 386, 387, 388, 389, 640, 641, 642, 643, 644, 645, 704, 705, 706, 707, 708, 709, 710, 832, 833, 1088, 1089, 3328, 3392, 3393, 3456, 3457, 3520, 3521] [(192, ⟨(.box 62 2), 0, nob⟩), (193, ⟨.im, 0, (.lit (.int .i64 v1))⟩), (194, ⟨.im, 0, (.sl (len v2) (flat eGEdge v2))⟩), (256, ⟨(.box 64 4), 0, nob⟩), (257, ⟨.im, 0, (.lit (.int .i64 v3))⟩), (258, ⟨.im, 0, (.lit (.int .i64 v4))⟩), (259, ⟨.im, 0, (.lit (.int .i64 v5))⟩), (260, ⟨.im, 0, (.lit (.int .i64 v6))⟩), (320, ⟨(.box 42 5), 0, nob⟩), (321, ⟨.im, 0, (.lit (.int .i64 v7))⟩), (322, ⟨.im, 0, (.lit (.int .i64 v8))⟩), (323, ⟨.im, 0, (.sl (len v9) (flat (eInt .i64) v9))⟩), (324, ⟨.im, 0, (.sl (len v10) (flat eBool v10))⟩), (325, ⟨.im, 0, (.sl (len v11) (flat eGMsg v11))⟩), (384, ⟨(.box 42 5), 0, nob⟩), (385, ⟨.im, 0, (.lit (.int .i64 0))⟩), (386, ⟨.im, 0, (.lit (.int .i64 0))⟩), (387, ⟨(.own 2), 0, (.sl 0 [])⟩), (388, ⟨(.own 4), 0, (.sl 0 [])⟩), (389, ⟨(.own 130), 0, (.sl 0 [])⟩), (640, ⟨(.box 42 5), 0, nob⟩), (641, ⟨.im, 0, (.lit (.int .i64 v7))⟩), (642, ⟨.im, 0, (.lit (.int .i64 (wadd .i64 v8 1)))⟩), (643, ⟨(.own 2), 0, (.sl (len v12) (flat (eInt .i64) v12))⟩), (644, ⟨(.own 4), 0, (.sl (len v13) (flat eBool v13))⟩), (645, ⟨(.own 130), 0, (.sl 0 [])⟩), (704, ⟨(.box 188 6), 0, nob⟩), (705, ⟨(.own 130), 0, (.sl (len w18.1) (flat eGMsg w18.1))⟩), (706, ⟨(.own 130), 0, (.sl (len w18.2.1) (flat eGMsg w18.2.1))⟩), (707, ⟨(.own 130), 0, (.sl (len w18.2.2.1) (flat eGMsg w18.2.2.1))⟩), (708, ⟨(.own 130), 0, (.sl (len w18.2.2.2.1) (flat eGMsg w18.2.2.2.1))⟩), (709, ⟨(.own 130), 0, (.sl (len w18.2.2.2.2.1) (flat eGMsg w18.2.2.2.2.1))⟩), (710, ⟨(.own 130), 0, (.sl (len w18.2.2.2.2.2) (flat eGMsg w18.2.2.2.2.2))⟩), (832, ⟨.one, 0, nob⟩), (833, ⟨.im, 0, (.lit (.int .i64 v14))⟩), (1088, ⟨.one, 0, nob⟩), (1089, ⟨.im, 0, (.lit (.bool v15))⟩), (3328, ⟨(.ad 5 0 2), 0, nob⟩), (3392, ⟨.one, 0, nob⟩), (3393, ⟨.im, 0, (.sl (len v9) (flat (eInt .i64) v9))⟩), (3456, ⟨.one, 0, nob⟩), (3457, ⟨.im, 0, (.lit (.int .i64 (nlen (len v9))))⟩), (3520, ⟨.one, 0, nob⟩), (3521, ⟨.im, 0, (.lit (.int .i64 v17))⟩)]
theorem F116_l1_1_ok (K : Nat) (v1 : Int) (v2 : List GEdge) (v3 : Int) (v4 : Int) (v5 : Int) (v6 : Int) (v7 : Int) (v8 : Int) (v9 : List Int) (v10 : List Bool) (v11 : List GMsg) (v12 : List Int) (v13 : List Bool) (v14 : Int) (v15 : Bool) (v16 : List GMsg) (v17 : Int) : ∀ (k : Nat) (v18 : List GMsg) (v19 : List GMsg) (v20 : List GMsg) (v21 : List GMsg) (v22 : List GMsg) (v23 : List GMsg) (v24 : Int) (r : List GMsg × List GMsg × List GMsg × List GMsg × List GMsg × List GMsg), F116_l1_1 K v1 v2 v3 v4 v5 v6 v7 v8 v9 v10 v11 v12 v13 v14 v15 v16 v17 k v18 v19 v20 v21 v22 v23 v24 = some r → LoopEv E H hn116 2 c116_1 (F116_l1_1_S v1 v2 v3 v4 v5 v6 v7 v8 v9 v10 v11 v12 v13 v14 v15 v16 v17 v18 v19 v20 v21 v22 v23 v24) (.exit 2) (F116_l1_1_X0 v1 v2 v3 v4 v5 v6 v7 v8 v9 v10 v11 v12 v13 v14 v15 v16 v17 r) := by
 intro k
 induction k with
 | zero => intro v18 v19 v20 v21 v22 v23 v24 r hF; cases hF
 | succ k ih =>
  intro v18 v19 v20 v21 v22 v23 v24 r hF
  rw [F116_l1_1] at hF
  refine cond_some hF (fun h25 hF => ?_) (fun h25 hF => ?_)
  ·
   refine cond_some hF (fun h26 hF => ?_) (fun _ hF => nomatch hF)
   refine bind_some hF (fun x27 h28 hF => ?_)
   refine bind_some hF (fun r29 h30 hF => ?_)
   have q43 : PQ hn116 fun l => (.test (ilt v24 (nlen (len v16))) true :: .test (inr v24 (len v16)) true :: .sub (flat eGMsg v16) (nidx v24 2) 2 [(.lit (.int .i64 x27.To)), (.lit (.int .i64 x27.V))] :: .call 75 [.agg (eGJob (GJob.mk v3 v4 v5 v6)), .one (.lit (.int .i64 x27.To))] (F75_res r29) :: .test (leadsAny (Res.mk [(.one (.im (.lit (.int .i64 r29))))] [])) false :: l) := fun z => ⟨h25, h26, ⟨rfl, sub_flat0 eGMsg_len h28 2 (by decide)⟩, (F75_ok K (GJob.mk v3 v4 v5 v6) x27.To _ h30), (leads_ok (by simp [leadsAny, RV.leads, RC.leads, leadsT, hasSl_lit, flat_ns eGJob_ns, flat_ns eGMsg_ns])), z⟩
   refine cond_some hF (fun h31 hF => ?_) (fun h31 hF => ?_)
   ·
    refine cond_some hF (fun h32 hF => ?_) (fun _ hF => nomatch hF)
    have pz : HoldAll E H hn116 [.test (ieq r29 0) true, .test (leqm [(.lit (.int .i64 x27.To)), (.lit (.int .i64 x27.V))] 1 2) true, .test (apok (len v18) 1 16) true, .sl (nadd (len v18) 1) (lapp (flat eGMsg v18) [(.lit (.int .i64 x27.To)), (.lit (.int .i64 x27.V))]) (len (α := GMsg) (appL v18 [x27])) (flat eGMsg (appL v18 [x27])), .test (ieq r29 0) true, .int (wadd .i64 v24 1) (wadd .i64 v24 1)] := ⟨h31, rfl, h32, (app_ok (enc := eGMsg) (v18 : List GMsg) [x27]), h31, rfl, trivial⟩
    have h0 := ih _ _ _ _ _ _ _ _ hF
    have hn := fun ex ts' => loop_nextC (h := hn116) (l := 2) (c := c116_1) (ts := F116_l1_1_S v1 v2 v3 v4 v5 v6 v7 v8 v9 v10 v11 v12 v13 v14 v15 v16 v17 v18 v19 v20 v21 v22 v23 v24) (ts1 := (F116_l1_1_S v1 v2 v3 v4 v5 v6 v7 v8 v9 v10 v11 v12 v13 v14 v15 v16 v17 (appL v18 [x27]) v19 v20 v21 v22 v23 (wadd .i64 v24 1))) (ex := ex) (ts' := ts') (q43 pz) (by kernel_rfl)
    exact hn _ _ h0
   refine cond_some hF (fun h33 hF => ?_) (fun h33 hF => ?_)
   ·
    refine cond_some hF (fun h34 hF => ?_) (fun _ hF => nomatch hF)
    have pz : HoldAll E H hn116 [.test (ieq r29 0) false, .test (ieq r29 1) true, .test (leqm [(.lit (.int .i64 x27.To)), (.lit (.int .i64 x27.V))] 1 2) true, .test (apok (len v19) 1 16) true, .sl (nadd (len v19) 1) (lapp (flat eGMsg v19) [(.lit (.int .i64 x27.To)), (.lit (.int .i64 x27.V))]) (len (α := GMsg) (appL v19 [x27])) (flat eGMsg (appL v19 [x27])), .test (ieq r29 0) false, .test (ieq r29 1) true, .int (wadd .i64 v24 1) (wadd .i64 v24 1)] := ⟨h31, h33, rfl, h34, (app_ok (enc := eGMsg) (v19 : List GMsg) [x27]), h31, h33, rfl, trivial⟩
    have h0 := ih _ _ _ _ _ _ _ _ hF
    have hn := fun ex ts' => loop_nextC (h := hn116) (l := 2) (c := c116_1) (ts := F116_l1_1_S v1 v2 v3 v4 v5 v6 v7 v8 v9 v10 v11 v12 v13 v14 v15 v16 v17 v18 v19 v20 v21 v22 v23 v24) (ts1 := (F116_l1_1_S v1 v2 v3 v4 v5 v6 v7 v8 v9 v10 v11 v12 v13 v14 v15 v16 v17 v18 (appL v19 [x27]) v20 v21 v22 v23 (wadd .i64 v24 1))) (ex := ex) (ts' := ts') (q43 pz) (by kernel_rfl)
    exact hn _ _ h0
   refine cond_some hF (fun h35 hF => ?_) (fun h35 hF => ?_)
   ·
    refine cond_some hF (fun h36 hF => ?_) (fun _ hF => nomatch hF)
    have pz : HoldAll E H hn116 [.test (ieq r29 0) false, .test (ieq r29 1) false, .test (ieq r29 2) true, .test (leqm [(.lit (.int .i64 x27.To)), (.lit (.int .i64 x27.V))] 1 2) true, .test (apok (len v20) 1 16) true, .sl (nadd (len v20) 1) (lapp (flat eGMsg v20) [(.lit (.int .i64 x27.To)), (.lit (.int .i64 x27.V))]) (len (α := GMsg) (appL v20 [x27])) (flat eGMsg (appL v20 [x27])), .test (ieq r29 0) false, .test (ieq r29 1) false, .test (ieq r29 2) true, .int (wadd .i64 v24 1) (wadd .i64 v24 1)] := ⟨h31, h33, h35, rfl, h36, (app_ok (enc := eGMsg) (v20 : List GMsg) [x27]), h31, h33, h35, rfl, trivial⟩
    have h0 := ih _ _ _ _ _ _ _ _ hF
    have hn := fun ex ts' => loop_nextC (h := hn116) (l := 2) (c := c116_1) (ts := F116_l1_1_S v1 v2 v3 v4 v5 v6 v7 v8 v9 v10 v11 v12 v13 v14 v15 v16 v17 v18 v19 v20 v21 v22 v23 v24) (ts1 := (F116_l1_1_S v1 v2 v3 v4 v5 v6 v7 v8 v9 v10 v11 v12 v13 v14 v15 v16 v17 v18 v19 (appL v20 [x27]) v21 v22 v23 (wadd .i64 v24 1))) (ex := ex) (ts' := ts') (q43 pz) (by kernel_rfl)
    exact hn _ _ h0
   have q44 : PQ hn116 fun l => (.test (ieq r29 0) false :: .test (ieq r29 1) false :: .test (ieq r29 2) false :: l) := fun z => ⟨h31, h33, h35, z⟩
   refine cond_some hF (fun h37 hF => ?_) (fun h37 hF => ?_)
   ·
    refine cond_some hF (fun h38 hF => ?_) (fun _ hF => nomatch hF)
    have pz : HoldAll E H hn116 [.test (ieq r29 3) true, .test (leqm [(.lit (.int .i64 x27.To)), (.lit (.int .i64 x27.V))] 1 2) true, .test (apok (len v21) 1 16) true, .sl (nadd (len v21) 1) (lapp (flat eGMsg v21) [(.lit (.int .i64 x27.To)), (.lit (.int .i64 x27.V))]) (len (α := GMsg) (appL v21 [x27])) (flat eGMsg (appL v21 [x27])), .test (ieq r29 0) false, .test (ieq r29 1) false, .test (ieq r29 2) false, .test (ieq r29 3) true, .int (wadd .i64 v24 1) (wadd .i64 v24 1)] := ⟨h37, rfl, h38, (app_ok (enc := eGMsg) (v21 : List GMsg) [x27]), h31, h33, h35, h37, rfl, trivial⟩
    have h0 := ih _ _ _ _ _ _ _ _ hF
    have hn := fun ex ts' => loop_nextC (h := hn116) (l := 2) (c := c116_1) (ts := F116_l1_1_S v1 v2 v3 v4 v5 v6 v7 v8 v9 v10 v11 v12 v13 v14 v15 v16 v17 v18 v19 v20 v21 v22 v23 v24) (ts1 := (F116_l1_1_S v1 v2 v3 v4 v5 v6 v7 v8 v9 v10 v11 v12 v13 v14 v15 v16 v17 v18 v19 v20 (appL v21 [x27]) v22 v23 (wadd .i64 v24 1))) (ex := ex) (ts' := ts') (q43 (q44 pz)) (by kernel_rfl)
    exact hn _ _ h0
   refine cond_some hF (fun h39 hF => ?_) (fun h39 hF => ?_)
   ·
    refine cond_some hF (fun h40 hF => ?_) (fun _ hF => nomatch hF)
    have pz : HoldAll E H hn116 [.test (ieq r29 3) false, .test (ieq r29 4) true, .test (leqm [(.lit (.int .i64 x27.To)), (.lit (.int .i64 x27.V))] 1 2) true, .test (apok (len v22) 1 16) true, .sl (nadd (len v22) 1) (lapp (flat eGMsg v22) [(.lit (.int .i64 x27.To)), (.lit (.int .i64 x27.V))]) (len (α := GMsg) (appL v22 [x27])) (flat eGMsg (appL v22 [x27])), .test (ieq r29 0) false, .test (ieq r29 1) false, .test (ieq r29 2) false, .test (ieq r29 3) false, .test (ieq r29 4) true, .int (wadd .i64 v24 1) (wadd .i64 v24 1)] := ⟨h37, h39, rfl, h40, (app_ok (enc := eGMsg) (v22 : List GMsg) [x27]), h31, h33, h35, h37, h39, rfl, trivial⟩
    have h0 := ih _ _ _ _ _ _ _ _ hF
    have hn := fun ex ts' => loop_nextC (h := hn116) (l := 2) (c := c116_1) (ts := F116_l1_1_S v1 v2 v3 v4 v5 v6 v7 v8 v9 v10 v11 v12 v13 v14 v15 v16 v17 v18 v19 v20 v21 v22 v23 v24) (ts1 := (F116_l1_1_S v1 v2 v3 v4 v5 v6 v7 v8 v9 v10 v11 v12 v13 v14 v15 v16 v17 v18 v19 v20 v21 (appL v22 [x27]) v23 (wadd .i64 v24 1))) (ex := ex) (ts' := ts') (q43 (q44 pz)) (by kernel_rfl)
    exact hn _ _ h0
   refine cond_some hF (fun h41 hF => ?_) (fun _ hF => nomatch hF)
   refine cond_some hF (fun h42 hF => ?_) (fun _ hF => nomatch hF)
   have pz : HoldAll E H hn116 [.test (ieq r29 3) false, .test (ieq r29 4) false, .test (ieq r29 5) true, .test (leqm [(.lit (.int .i64 x27.To)), (.lit (.int .i64 x27.V))] 1 2) true, .test (apok (len v23) 1 16) true, .sl (nadd (len v23) 1) (lapp (flat eGMsg v23) [(.lit (.int .i64 x27.To)), (.lit (.int .i64 x27.V))]) (len (α := GMsg) (appL v23 [x27])) (flat eGMsg (appL v23 [x27])), .test (ieq r29 0) false, .test (ieq r29 1) false, .test (ieq r29 2) false, .test (ieq r29 3) false, .test (ieq r29 4) false, .test (ieq r29 5) true, .int (wadd .i64 v24 1) (wadd .i64 v24 1)] := ⟨h37, h39, h41, rfl, h42, (app_ok (enc := eGMsg) (v23 : List GMsg) [x27]), h31, h33, h35, h37, h39, h41, rfl, trivial⟩
   have h0 := ih _ _ _ _ _ _ _ _ hF
   have hn := fun ex ts' => loop_nextC (h := hn116) (l := 2) (c := c116_1) (ts := F116_l1_1_S v1 v2 v3 v4 v5 v6 v7 v8 v9 v10 v11 v12 v13 v14 v15 v16 v17 v18 v19 v20 v21 v22 v23 v24) (ts1 := (F116_l1_1_S v1 v2 v3 v4 v5 v6 v7 v8 v9 v10 v11 v12 v13 v14 v15 v16 v17 v18 v19 v20 v21 v22 (appL v23 [x27]) (wadd .i64 v24 1))) (ex := ex) (ts' := ts') (q43 (q44 pz)) (by kernel_rfl)
   exact hn _ _ h0
  obtain rfl := Option.some.inj hF
  have pz : HoldAll E H hn116 [.test (ilt v24 (nlen (len v16))) false] := ⟨h25, trivial⟩
  exact loop_endC (h := hn116) (l := 2) (c := c116_1) (ts := F116_l1_1_S v1 v2 v3 v4 v5 v6 v7 v8 v9 v10 v11 v12 v13 v14 v15 v16 v17 v18 v19 v20 v21 v22 v23 v24) (ts' := F116_l1_1_X0 v1 v2 v3 v4 v5 v6 v7 v8 v9 v10 v11 v12 v13 v14 v15 v16 v17 (v18, (v19, (v20, (v21, (v22, v23)))))) (ex := (.exit 2)) pz (by kernel_rfl) trivial
def F116_l0_0 (K : Nat) (v1 : Int) (v2 : List GEdge) (v3 : Int) (v4 : Int) (v5 : Int) (v6 : Int) (v7 : Int) (v8 : Int) (v9 : List Int) (v10 : List Bool) (v11 : List GMsg) : Nat → List Int → List Bool → List GMsg → List GMsg → List GMsg → List GMsg → List GMsg → List GMsg → Int → Option ((Int) ⊕ (List Int × List Bool × List GMsg × List GMsg × List GMsg × List GMsg × List GMsg × List GMsg))
 | 0, _, _, _, _, _, _, _, _, _ => none
 | k + 1, v12, v13, v14, v15, v16, v17, v18, v19, v20 =>
  bif (ilt v20 (nlen (len v9))) then
   (bif (inr v20 (len v9)) then
   (elAt v9 v20).bind fun x21 =>
   (F149 K v11 (wadd .i64 v7 (wmul .i64 v20 v6))).bind fun r22 =>
   bif (inr v20 (len v10)) then
   (elAt v10 v20).bind fun x23 =>
   bif x23 then
    (bif r22.2 then
     ((F99 K (GGraph.mk v1 v2) (GJob.mk v3 v4 v5 v6) v8 (wadd .i64 v7 (wmul .i64 v20 v6)) x21 r22.1 r22.2).bind fun r24 =>
     bif (ieq r24.2.2.2 0) then
      ((F116_l1_1 K v1 v2 v3 v4 v5 v6 v7 v8 v9 v10 v11 v12 v13 r24.1 r24.2.2.1 r24.2.1 v20 K v14 v15 v16 v17 v18 v19 0).bind fun w25 =>
      bif (apok (len v12) 1 8) then
      bif (apok (len v13) 1 1) then
      F116_l0_0 K v1 v2 v3 v4 v5 v6 v7 v8 v9 v10 v11 k (appL v12 [r24.1]) (appL v13 [r24.2.2.1]) w25.1 w25.2.1 w25.2.2.1 w25.2.2.2.1 w25.2.2.2.2.1 w25.2.2.2.2.2 (wadd .i64 v20 1)
      else none
      else none)
     else
     some (.inl r24.2.2.2))
    else
    bif (apok (len v12) 1 8) then
    bif (apok (len v13) 1 1) then
    F116_l0_0 K v1 v2 v3 v4 v5 v6 v7 v8 v9 v10 v11 k (appL v12 [x21]) (appL v13 [true]) v14 v15 v16 v17 v18 v19 (wadd .i64 v20 1)
    else none
    else none)
   else
   (F99 K (GGraph.mk v1 v2) (GJob.mk v3 v4 v5 v6) v8 (wadd .i64 v7 (wmul .i64 v20 v6)) x21 r22.1 r22.2).bind fun r26 =>
   bif (ieq r26.2.2.2 0) then
    ((F116_l1_1 K v1 v2 v3 v4 v5 v6 v7 v8 v9 v10 v11 v12 v13 r26.1 r26.2.2.1 r26.2.1 v20 K v14 v15 v16 v17 v18 v19 0).bind fun w27 =>
    bif (apok (len v12) 1 8) then
    bif (apok (len v13) 1 1) then
    F116_l0_0 K v1 v2 v3 v4 v5 v6 v7 v8 v9 v10 v11 k (appL v12 [r26.1]) (appL v13 [r26.2.2.1]) w27.1 w27.2.1 w27.2.2.1 w27.2.2.2.1 w27.2.2.2.2.1 w27.2.2.2.2.2 (wadd .i64 v20 1)
    else none
    else none)
   else
   some (.inl r26.2.2.2)
   else none
   else none)
  else
  some (.inr (v12, (v13, (v14, (v15, (v16, (v17, (v18, v19))))))))
def F116_l0_0_S (v1 : Int) (v2 : List GEdge) (v3 : Int) (v4 : Int) (v5 : Int) (v6 : Int) (v7 : Int) (v8 : Int) (v9 : List Int) (v10 : List Bool) (v11 : List GMsg) (v12 : List Int) (v13 : List Bool) (v14 : List GMsg) (v15 : List GMsg) (v16 : List GMsg) (v17 : List GMsg) (v18 : List GMsg) (v19 : List GMsg) (v20 : Int) : TS := .on [192, 193, 194, 256, 257, 258, 259, 260, 320, 321, 322, 323, 324, 325, 384, 385, 386, 387, 388, 389, 640, 641, 642, 643, 644, 645, 704, 705, 706, 707, 708, 709, 710, 3328, 3392, 3393, 3456, 3457, 3520, 3521] [(192, ⟨(.box 62 2), 0, nob⟩), (193, ⟨.im, 0, (.lit (.int .i64 v1))⟩), (194, ⟨.im, 0, (.sl (len v2) (flat eGEdge v2))⟩), (256, ⟨(.box 64 4), 0, nob⟩), (257, ⟨.im, 0, (.lit (.int .i64 v3))⟩), (258, ⟨.im, 0, (.lit (.int .i64 v4))⟩), (259, ⟨.im, 0, (.lit (.int .i64 v5))⟩), (260, ⟨.im, 0, (.lit (.int .i64 v6))⟩), (320, ⟨(.box 42 5), 0, nob⟩), (321, ⟨.im, 0, (.lit (.int .i64 v7))⟩), (322, ⟨.im, 0, (.lit (.int .i64 v8))⟩), (323, ⟨.im, 0, (.sl (len v9) (flat (eInt .i64) v9))⟩), (324, ⟨.im, 0, (.sl (len v10) (flat eBool v10))⟩), (325, ⟨.im, 0, (.sl (len v11) (flat eGMsg v11))⟩), (384, ⟨(.box 42 5), 0, nob⟩), (385, ⟨.im, 0, (.lit (.int .i64 0))⟩), (386, ⟨.im, 0, (.lit (.int .i64 0))⟩), (387, ⟨(.own 2), 0, (.sl 0 [])⟩), (388, ⟨(.own 4), 0, (.sl 0 [])⟩), (389, ⟨(.own 130), 0, (.sl 0 [])⟩), (640, ⟨(.box 42 5), 0, nob⟩), (641, ⟨.im, 0, (.lit (.int .i64 v7))⟩), (642, ⟨.im, 0, (.lit (.int .i64 (wadd .i64 v8 1)))⟩), (643, ⟨(.own 2), 0, (.sl (len v12) (flat (eInt .i64) v12))⟩), (644, ⟨(.own 4), 0, (.sl (len v13) (flat eBool v13))⟩), (645, ⟨(.own 130), 0, (.sl 0 [])⟩), (704, ⟨(.box 188 6), 0, nob⟩), (705, ⟨(.own 130), 0, (.sl (len v14) (flat eGMsg v14))⟩), (706, ⟨(.own 130), 0, (.sl (len v15) (flat eGMsg v15))⟩), (707, ⟨(.own 130), 0, (.sl (len v16) (flat eGMsg v16))⟩), (708, ⟨(.own 130), 0, (.sl (len v17) (flat eGMsg v17))⟩), (709, ⟨(.own 130), 0, (.sl (len v18) (flat eGMsg v18))⟩), (710, ⟨(.own 130), 0, (.sl (len v19) (flat eGMsg v19))⟩), (3328, ⟨(.ad 5 0 2), 0, nob⟩), (3392, ⟨.one, 0, nob⟩), (3393, ⟨.im, 0, (.sl (len v9) (flat (eInt .i64) v9))⟩), (3456, ⟨.one, 0, nob⟩), (3457, ⟨.im, 0, (.lit (.int .i64 (nlen (len v9))))⟩), (3520, ⟨.one, 0, nob⟩), (3521, ⟨.im, 0, (.lit (.int .i64 v20))⟩)]
def F116_l0_0_X0 (v1 : Int) (v2 : List GEdge) (v3 : Int) (v4 : Int) (v5 : Int) (v6 : Int) (v7 : Int) (v8 : Int) (v9 : List Int) (v10 : List Bool) (v11 : List GMsg) (w12 : Int) : TS := .on [384, 385, 386, 387, 388, 389, 448, 449, 512, 513] [(384, ⟨(.box 42 5), 0, nob⟩), (385, ⟨.im, 0, (.lit (.int .i64 0))⟩), (386, ⟨.im, 0, (.lit (.int .i64 0))⟩), (387, ⟨(.own 2), 0, (.sl 0 [])⟩), (388, ⟨(.own 4), 0, (.sl 0 [])⟩), (389, ⟨(.own 130), 0, (.sl 0 [])⟩), (448, ⟨.one, 0, nob⟩), (449, ⟨(.own 40), 0, (.sl 0 [])⟩), (512, ⟨.one, 0, nob⟩), (513, ⟨.im, 0, (.lit (.int .i64 w12))⟩)]
def F116_l0_0_X1 (v1 : Int) (v2 : List GEdge) (v3 : Int) (v4 : Int) (v5 : Int) (v6 : Int) (v7 : Int) (v8 : Int) (v9 : List Int) (v10 : List Bool) (v11 : List GMsg) (w12 : List Int × List Bool × List GMsg × List GMsg × List GMsg × List GMsg × List GMsg × List GMsg) : TS := .on [256, 257, 258, 259, 260, 384, 385, 386, 387, 388, 389, 640, 641, 642, 643, 644, 645, 704, 705, 706, 707, 708, 709, 710] [(256, ⟨(.box 64 4), 0, nob⟩), (257, ⟨.im, 0, (.lit (.int .i64 v3))⟩), (258, ⟨.im, 0, (.lit (.int .i64 v4))⟩), (259, ⟨.im, 0, (.lit (.int .i64 v5))⟩), (260, ⟨.im, 0, (.lit (.int .i64 v6))⟩), (384, ⟨(.box 42 5), 0, nob⟩), (385, ⟨.im, 0, (.lit (.int .i64 0))⟩), (386, ⟨.im, 0, (.lit (.int .i64 0))⟩), (387, ⟨(.own 2), 0, (.sl 0 [])⟩), (388, ⟨(.own 4), 0, (.sl 0 [])⟩), (389, ⟨(.own 130), 0, (.sl 0 [])⟩), (640, ⟨(.box 42 5), 0, nob⟩), (641, ⟨.im, 0, (.lit (.int .i64 v7))⟩), (642, ⟨.im, 0, (.lit (.int .i64 (wadd .i64 v8 1)))⟩), (643, ⟨(.own 2), 0, (.sl (len w12.1) (flat (eInt .i64) w12.1))⟩), (644, ⟨(.own 4), 0, (.sl (len w12.2.1) (flat eBool w12.2.1))⟩), (645, ⟨(.own 130), 0, (.sl 0 [])⟩), (704, ⟨(.box 188 6), 0, nob⟩), (705, ⟨(.own 130), 0, (.sl (len w12.2.2.1) (flat eGMsg w12.2.2.1))⟩), (706, ⟨(.own 130), 0, (.sl (len w12.2.2.2.1) (flat eGMsg w12.2.2.2.1))⟩), (707, ⟨(.own 130), 0, (.sl (len w12.2.2.2.2.1) (flat eGMsg w12.2.2.2.2.1))⟩), (708, ⟨(.own 130), 0, (.sl (len w12.2.2.2.2.2.1) (flat eGMsg w12.2.2.2.2.2.1))⟩), (709, ⟨(.own 130), 0, (.sl (len w12.2.2.2.2.2.2.1) (flat eGMsg w12.2.2.2.2.2.2.1))⟩), (710, ⟨(.own 130), 0, (.sl (len w12.2.2.2.2.2.2.2) (flat eGMsg w12.2.2.2.2.2.2.2))⟩)]
theorem F116_l0_0_ok (K : Nat) (v1 : Int) (v2 : List GEdge) (v3 : Int) (v4 : Int) (v5 : Int) (v6 : Int) (v7 : Int) (v8 : Int) (v9 : List Int) (v10 : List Bool) (v11 : List GMsg) : ∀ (k : Nat) (v12 : List Int) (v13 : List Bool) (v14 : List GMsg) (v15 : List GMsg) (v16 : List GMsg) (v17 : List GMsg) (v18 : List GMsg) (v19 : List GMsg) (v20 : Int) (r : (Int) ⊕ (List Int × List Bool × List GMsg × List GMsg × List GMsg × List GMsg × List GMsg × List GMsg)), F116_l0_0 K v1 v2 v3 v4 v5 v6 v7 v8 v9 v10 v11 k v12 v13 v14 v15 v16 v17 v18 v19 v20 = some r → (Sum.elim (fun w => LoopEv E H hn116 0 c116_0 (F116_l0_0_S v1 v2 v3 v4 v5 v6 v7 v8 v9 v10 v11 v12 v13 v14 v15 v16 v17 v18 v19 v20) .ret (F116_l0_0_X0 v1 v2 v3 v4 v5 v6 v7 v8 v9 v10 v11 w)) (fun w => LoopEv E H hn116 0 c116_0 (F116_l0_0_S v1 v2 v3 v4 v5 v6 v7 v8 v9 v10 v11 v12 v13 v14 v15 v16 v17 v18 v19 v20) (.exit 0) (F116_l0_0_X1 v1 v2 v3 v4 v5 v6 v7 v8 v9 v10 v11 w))) r := by
 intro k
 induction k with
 | zero => intro v12 v13 v14 v15 v16 v17 v18 v19 v20 r hF; cases hF
 | succ k ih =>
  intro v12 v13 v14 v15 v16 v17 v18 v19 v20 r hF
  rw [F116_l0_0] at hF
  refine cond_some hF (fun h21 hF => ?_) (fun h21 hF => ?_)
  ·
   refine cond_some hF (fun h22 hF => ?_) (fun _ hF => nomatch hF)
   refine bind_some hF (fun x23 h24 hF => ?_)
   refine bind_some hF (fun r25 h26 hF => ?_)
   refine cond_some hF (fun h27 hF => ?_) (fun _ hF => nomatch hF)
   refine bind_some hF (fun x28 h29 hF => ?_)
   have q48 : PQ hn116 fun l => (.test (ilt v20 (nlen (len v9))) true :: .test (inr v20 (len v9)) true :: .sub (flat (eInt .i64) v9) (nidx v20 1) 1 [(.lit (.int .i64 x23))] :: .int (wmul .i64 v20 v6) (wmul .i64 v20 v6) :: .int (wadd .i64 v7 (wmul .i64 v20 v6)) (wadd .i64 v7 (wmul .i64 v20 v6)) :: .call 149 [.one (.sl (len v11) (flat eGMsg v11)), .one (.lit (.int .i64 (wadd .i64 v7 (wmul .i64 v20 v6))))] (F149_res r25) :: .test (leadsAny (Res.mk [(.one (.im (.lit (.int .i64 r25.1)))), (.one (.im (.lit (.bool r25.2))))] [])) false :: .test (inr v20 (len v10)) true :: .sub (flat eBool v10) (nidx v20 1) 1 [(.lit (.bool x28))] :: l) := fun z => ⟨h21, h22, ⟨rfl, sub_flat0 (eInt_len _) h24 1 (by decide)⟩, rfl, rfl, (F149_ok K v11 (wadd .i64 v7 (wmul .i64 v20 v6)) _ h26), (leads_ok (by simp [leadsAny, RV.leads, RC.leads, leadsT, hasSl_lit, flat_ns (eInt_ns _), flat_ns eBool_ns, flat_ns eGMsg_ns])), h27, ⟨rfl, sub_flat0 eBool_len h29 1 (by decide)⟩, z⟩
   refine cond_some hF (fun h30 hF => ?_) (fun h30 hF => ?_)
   ·
    refine cond_some hF (fun h31 hF => ?_) (fun h31 hF => ?_)
    ·
     refine bind_some hF (fun r32 h33 hF => ?_)
     have q49 : PQ hn116 fun l => (.test (beqb (bnot x28) false) true :: .test (bnot x28) false :: .test r25.2 true :: .call 99 [.agg (eGGraph (GGraph.mk v1 v2)), .agg (eGJob (GJob.mk v3 v4 v5 v6)), .one (.lit (.int .i64 v8)), .one (.lit (.int .i64 (wadd .i64 v7 (wmul .i64 v20 v6)))), .one (.lit (.int .i64 x23)), .one (.lit (.int .i64 r25.1)), .one (.lit (.bool r25.2))] (F99_res r32) :: .test (leadsAny (Res.mk [(.one (.im (.lit (.int .i64 r32.1)))), (.one (.own 130 (.sl (len r32.2.1) (flat eGMsg r32.2.1)))), (.one (.im (.lit (.bool r32.2.2.1)))), (.one (.im (.lit (.int .i64 r32.2.2.2))))] [])) false :: l) := fun z => ⟨(beqb_ff (bnot_t h30)), (bnot_t h30), h31, (F99_ok K (GGraph.mk v1 v2) (GJob.mk v3 v4 v5 v6) v8 (wadd .i64 v7 (wmul .i64 v20 v6)) x23 r25.1 r25.2 _ h33), (leads_ok (by simp [leadsAny, RV.leads, RC.leads, leadsT, hasSl_lit, flat_ns eGJob_ns, flat_ns eGMsg_ns])), z⟩
     refine cond_some hF (fun h34 hF => ?_) (fun h34 hF => ?_)
     ·
      refine bind_some hF (fun w36 h35 hF => ?_)
      refine cond_some hF (fun h37 hF => ?_) (fun _ hF => nomatch hF)
      refine cond_some hF (fun h38 hF => ?_) (fun _ hF => nomatch hF)
      have pz : HoldAll E H hn116 [.test (ine r32.2.2.2 0) false, .int (nlen (len r32.2.1)) (nlen (len r32.2.1)), .loop 2 c116_1 (F116_l1_1_S v1 v2 v3 v4 v5 v6 v7 v8 v9 v10 v11 v12 v13 r32.1 r32.2.2.1 r32.2.1 v20 v14 v15 v16 v17 v18 v19 0) (.exit 2) (F116_l1_1_X0 v1 v2 v3 v4 v5 v6 v7 v8 v9 v10 v11 v12 v13 r32.1 r32.2.2.1 r32.2.1 v20 w36), .test (leqm [(.lit (.int .i64 r32.1))] 1 1) true, .test (apok (len v12) 1 8) true, .sl (nadd (len v12) 1) (lapp (flat (eInt .i64) v12) [(.lit (.int .i64 r32.1))]) (len (α := Int) (appL v12 [r32.1])) (flat (eInt .i64) (appL v12 [r32.1])), .test (leqm [(.lit (.bool r32.2.2.1))] 1 1) true, .test (apok (len v13) 1 1) true, .sl (nadd (len v13) 1) (lapp (flat eBool v13) [(.lit (.bool r32.2.2.1))]) (len (α := Bool) (appL v13 [r32.2.2.1])) (flat eBool (appL v13 [r32.2.2.1])), .int (wadd .i64 v20 1) (wadd .i64 v20 1)] := ⟨(ine_t h34), rfl, (F116_l1_1_ok K v1 v2 v3 v4 v5 v6 v7 v8 v9 v10 v11 v12 v13 r32.1 r32.2.2.1 r32.2.1 v20 K v14 v15 v16 v17 v18 v19 0 _ h35), rfl, h37, (app_ok (enc := (eInt .i64)) (v12 : List Int) [r32.1]), rfl, h38, (app_ok (enc := eBool) (v13 : List Bool) [r32.2.2.1]), rfl, trivial⟩
      have h0 := ih _ _ _ _ _ _ _ _ _ _ hF
      have hn := fun ex ts' => loop_nextC (h := hn116) (l := 0) (c := c116_0) (ts := F116_l0_0_S v1 v2 v3 v4 v5 v6 v7 v8 v9 v10 v11 v12 v13 v14 v15 v16 v17 v18 v19 v20) (ts1 := (F116_l0_0_S v1 v2 v3 v4 v5 v6 v7 v8 v9 v10 v11 (appL v12 [r32.1]) (appL v13 [r32.2.2.1]) w36.1 w36.2.1 w36.2.2.1 w36.2.2.2.1 w36.2.2.2.2.1 w36.2.2.2.2.2 (wadd .i64 v20 1))) (ex := ex) (ts' := ts') (q48 (q49 pz)) (by kernel_rfl)
      cases r with
      | inl w => exact hn _ _ h0
      | inr w => exact hn _ _ h0
     obtain rfl := Option.some.inj hF
     have pz : HoldAll E H hn116 [.test (ine r32.2.2.2 0) true] := ⟨(ine_f h34), trivial⟩
     exact loop_endC (h := hn116) (l := 0) (c := c116_0) (ts := F116_l0_0_S v1 v2 v3 v4 v5 v6 v7 v8 v9 v10 v11 v12 v13 v14 v15 v16 v17 v18 v19 v20) (ts' := F116_l0_0_X0 v1 v2 v3 v4 v5 v6 v7 v8 v9 v10 v11 r32.2.2.2) (ex := .ret) (q48 (q49 pz)) (by kernel_rfl) trivial
    refine cond_some hF (fun h39 hF => ?_) (fun _ hF => nomatch hF)
    refine cond_some hF (fun h40 hF => ?_) (fun _ hF => nomatch hF)
    have pz : HoldAll E H hn116 [.test (beqb (bnot x28) false) true, .test (bnot x28) false, .test r25.2 false, .test (leqm [(.lit (.int .i64 x23))] 1 1) true, .test (apok (len v12) 1 8) true, .sl (nadd (len v12) 1) (lapp (flat (eInt .i64) v12) [(.lit (.int .i64 x23))]) (len (α := Int) (appL v12 [x23])) (flat (eInt .i64) (appL v12 [x23])), .test (leqm [(.lit (.bool true))] 1 1) true, .test (apok (len v13) 1 1) true, .sl (nadd (len v13) 1) (lapp (flat eBool v13) [(.lit (.bool true))]) (len (α := Bool) (appL v13 [true])) (flat eBool (appL v13 [true])), .int (wadd .i64 v20 1) (wadd .i64 v20 1)] := ⟨(beqb_ff (bnot_t h30)), (bnot_t h30), h31, rfl, h39, (app_ok (enc := (eInt .i64)) (v12 : List Int) [x23]), rfl, h40, (app_ok (enc := eBool) (v13 : List Bool) [true]), rfl, trivial⟩
    have h0 := ih _ _ _ _ _ _ _ _ _ _ hF
    have hn := fun ex ts' => loop_nextC (h := hn116) (l := 0) (c := c116_0) (ts := F116_l0_0_S v1 v2 v3 v4 v5 v6 v7 v8 v9 v10 v11 v12 v13 v14 v15 v16 v17 v18 v19 v20) (ts1 := (F116_l0_0_S v1 v2 v3 v4 v5 v6 v7 v8 v9 v10 v11 (appL v12 [x23]) (appL v13 [true]) v14 v15 v16 v17 v18 v19 (wadd .i64 v20 1))) (ex := ex) (ts' := ts') (q48 pz) (by kernel_rfl)
    cases r with
    | inl w => exact hn _ _ h0
    | inr w => exact hn _ _ h0
   refine bind_some hF (fun r41 h42 hF => ?_)
   have q50 : PQ hn116 fun l => (.test (beqb (bnot x28) false) false :: .test (bnot x28) true :: .test true true :: .call 99 [.agg (eGGraph (GGraph.mk v1 v2)), .agg (eGJob (GJob.mk v3 v4 v5 v6)), .one (.lit (.int .i64 v8)), .one (.lit (.int .i64 (wadd .i64 v7 (wmul .i64 v20 v6)))), .one (.lit (.int .i64 x23)), .one (.lit (.int .i64 r25.1)), .one (.lit (.bool r25.2))] (F99_res r41) :: .test (leadsAny (Res.mk [(.one (.im (.lit (.int .i64 r41.1)))), (.one (.own 130 (.sl (len r41.2.1) (flat eGMsg r41.2.1)))), (.one (.im (.lit (.bool r41.2.2.1)))), (.one (.im (.lit (.int .i64 r41.2.2.2))))] [])) false :: l) := fun z => ⟨(beqb_ft (bnot_f h30)), (bnot_f h30), rfl, (F99_ok K (GGraph.mk v1 v2) (GJob.mk v3 v4 v5 v6) v8 (wadd .i64 v7 (wmul .i64 v20 v6)) x23 r25.1 r25.2 _ h42), (leads_ok (by simp [leadsAny, RV.leads, RC.leads, leadsT, hasSl_lit, flat_ns eGJob_ns, flat_ns eGMsg_ns])), z⟩
   refine cond_some hF (fun h43 hF => ?_) (fun h43 hF => ?_)
   ·
    refine bind_some hF (fun w45 h44 hF => ?_)
    refine cond_some hF (fun h46 hF => ?_) (fun _ hF => nomatch hF)
    refine cond_some hF (fun h47 hF => ?_) (fun _ hF => nomatch hF)
    have pz : HoldAll E H hn116 [.test (ine r41.2.2.2 0) false, .int (nlen (len r41.2.1)) (nlen (len r41.2.1)), .loop 2 c116_1 (F116_l1_1_S v1 v2 v3 v4 v5 v6 v7 v8 v9 v10 v11 v12 v13 r41.1 r41.2.2.1 r41.2.1 v20 v14 v15 v16 v17 v18 v19 0) (.exit 2) (F116_l1_1_X0 v1 v2 v3 v4 v5 v6 v7 v8 v9 v10 v11 v12 v13 r41.1 r41.2.2.1 r41.2.1 v20 w45), .test (leqm [(.lit (.int .i64 r41.1))] 1 1) true, .test (apok (len v12) 1 8) true, .sl (nadd (len v12) 1) (lapp (flat (eInt .i64) v12) [(.lit (.int .i64 r41.1))]) (len (α := Int) (appL v12 [r41.1])) (flat (eInt .i64) (appL v12 [r41.1])), .test (leqm [(.lit (.bool r41.2.2.1))] 1 1) true, .test (apok (len v13) 1 1) true, .sl (nadd (len v13) 1) (lapp (flat eBool v13) [(.lit (.bool r41.2.2.1))]) (len (α := Bool) (appL v13 [r41.2.2.1])) (flat eBool (appL v13 [r41.2.2.1])), .int (wadd .i64 v20 1) (wadd .i64 v20 1)] := ⟨(ine_t h43), rfl, (F116_l1_1_ok K v1 v2 v3 v4 v5 v6 v7 v8 v9 v10 v11 v12 v13 r41.1 r41.2.2.1 r41.2.1 v20 K v14 v15 v16 v17 v18 v19 0 _ h44), rfl, h46, (app_ok (enc := (eInt .i64)) (v12 : List Int) [r41.1]), rfl, h47, (app_ok (enc := eBool) (v13 : List Bool) [r41.2.2.1]), rfl, trivial⟩
    have h0 := ih _ _ _ _ _ _ _ _ _ _ hF
    have hn := fun ex ts' => loop_nextC (h := hn116) (l := 0) (c := c116_0) (ts := F116_l0_0_S v1 v2 v3 v4 v5 v6 v7 v8 v9 v10 v11 v12 v13 v14 v15 v16 v17 v18 v19 v20) (ts1 := (F116_l0_0_S v1 v2 v3 v4 v5 v6 v7 v8 v9 v10 v11 (appL v12 [r41.1]) (appL v13 [r41.2.2.1]) w45.1 w45.2.1 w45.2.2.1 w45.2.2.2.1 w45.2.2.2.2.1 w45.2.2.2.2.2 (wadd .i64 v20 1))) (ex := ex) (ts' := ts') (q48 (q50 pz)) (by kernel_rfl)
    cases r with
    | inl w => exact hn _ _ h0
    | inr w => exact hn _ _ h0
   obtain rfl := Option.some.inj hF
   have pz : HoldAll E H hn116 [.test (ine r41.2.2.2 0) true] := ⟨(ine_f h43), trivial⟩
   exact loop_endC (h := hn116) (l := 0) (c := c116_0) (ts := F116_l0_0_S v1 v2 v3 v4 v5 v6 v7 v8 v9 v10 v11 v12 v13 v14 v15 v16 v17 v18 v19 v20) (ts' := F116_l0_0_X0 v1 v2 v3 v4 v5 v6 v7 v8 v9 v10 v11 r41.2.2.2) (ex := .ret) (q48 (q50 pz)) (by kernel_rfl) trivial
  obtain rfl := Option.some.inj hF
  have pz : HoldAll E H hn116 [.test (ilt v20 (nlen (len v9))) false] := ⟨h21, trivial⟩
  exact loop_endC (h := hn116) (l := 0) (c := c116_0) (ts := F116_l0_0_S v1 v2 v3 v4 v5 v6 v7 v8 v9 v10 v11 v12 v13 v14 v15 v16 v17 v18 v19 v20) (ts' := F116_l0_0_X1 v1 v2 v3 v4 v5 v6 v7 v8 v9 v10 v11 (v12, (v13, (v14, (v15, (v16, (v17, (v18, v19)))))))) (ex := (.exit 0)) pz (by kernel_rfl) trivial
def F116_l2_2 (K : Nat) (v1 : Int) (v2 : Int) (v3 : Int) (v4 : Int) (v5 : Int) (v6 : Int) (v7 : List Int) (v8 : List Bool) (v9 : List GMsg) (v10 : List GMsg) (v11 : List GMsg) (v12 : List GMsg) (v13 : List GMsg) (v14 : List GMsg) : Nat → List (List GMsg) → Int → Option ((Int) ⊕ (List (List GMsg)))
 | 0, _, _ => none
 | k + 1, v15, v16 =>
  bif (ilt v16 v4) then
   (bif (ieq v16 0) then
    ((F150 K v1 v9).bind fun r17 =>
    bif (ieq r17.2 0) then
     (bif (apok (len v15) 1 24) then
     F116_l2_2 K v1 v2 v3 v4 v5 v6 v7 v8 v9 v10 v11 v12 v13 v14 k (appL v15 [r17.1]) (wadd .i64 v16 1)
     else none)
    else
    some (.inl r17.2))
   else
   bif (ieq v16 1) then
    ((F150 K v1 v10).bind fun r18 =>
    bif (ieq r18.2 0) then
     (bif (apok (len v15) 1 24) then
     F116_l2_2 K v1 v2 v3 v4 v5 v6 v7 v8 v9 v10 v11 v12 v13 v14 k (appL v15 [r18.1]) (wadd .i64 v16 1)
     else none)
    else
    some (.inl r18.2))
   else
   bif (ieq v16 2) then
    ((F150 K v1 v11).bind fun r19 =>
    bif (ieq r19.2 0) then
     (bif (apok (len v15) 1 24) then
     F116_l2_2 K v1 v2 v3 v4 v5 v6 v7 v8 v9 v10 v11 v12 v13 v14 k (appL v15 [r19.1]) (wadd .i64 v16 1)
     else none)
    else
    some (.inl r19.2))
   else
   bif (ieq v16 3) then
    ((F150 K v1 v12).bind fun r20 =>
    bif (ieq r20.2 0) then
     (bif (apok (len v15) 1 24) then
     F116_l2_2 K v1 v2 v3 v4 v5 v6 v7 v8 v9 v10 v11 v12 v13 v14 k (appL v15 [r20.1]) (wadd .i64 v16 1)
     else none)
    else
    some (.inl r20.2))
   else
   bif (ieq v16 4) then
    ((F150 K v1 v13).bind fun r21 =>
    bif (ieq r21.2 0) then
     (bif (apok (len v15) 1 24) then
     F116_l2_2 K v1 v2 v3 v4 v5 v6 v7 v8 v9 v10 v11 v12 v13 v14 k (appL v15 [r21.1]) (wadd .i64 v16 1)
     else none)
    else
    some (.inl r21.2))
   else
   bif (ieq v16 5) then
   (F150 K v1 v14).bind fun r22 =>
   bif (ieq r22.2 0) then
    (bif (apok (len v15) 1 24) then
    F116_l2_2 K v1 v2 v3 v4 v5 v6 v7 v8 v9 v10 v11 v12 v13 v14 k (appL v15 [r22.1]) (wadd .i64 v16 1)
    else none)
   else
   some (.inl r22.2)
   else none)
  else
  some (.inr v15)
def F116_l2_2_S (v1 : Int) (v2 : Int) (v3 : Int) (v4 : Int) (v5 : Int) (v6 : Int) (v7 : List Int) (v8 : List Bool) (v9 : List GMsg) (v10 : List GMsg) (v11 : List GMsg) (v12 : List GMsg) (v13 : List GMsg) (v14 : List GMsg) (v15 : List (List GMsg)) (v16 : Int) : TS := .on [256, 257, 258, 259, 260, 384, 385, 386, 387, 388, 389, 640, 641, 642, 643, 644, 645, 704, 705, 706, 707, 708, 709, 710, 1600, 1601, 8704, 8705, 8768, 8769] [(256, ⟨(.box 64 4), 0, nob⟩), (257, ⟨.im, 0, (.lit (.int .i64 v1))⟩), (258, ⟨.im, 0, (.lit (.int .i64 v2))⟩), (259, ⟨.im, 0, (.lit (.int .i64 v3))⟩), (260, ⟨.im, 0, (.lit (.int .i64 v4))⟩), (384, ⟨(.box 42 5), 0, nob⟩), (385, ⟨.im, 0, (.lit (.int .i64 0))⟩), (386, ⟨.im, 0, (.lit (.int .i64 0))⟩), (387, ⟨(.own 2), 0, (.sl 0 [])⟩), (388, ⟨(.own 4), 0, (.sl 0 [])⟩), (389, ⟨(.own 130), 0, (.sl 0 [])⟩), (640, ⟨(.box 42 5), 0, nob⟩), (641, ⟨.im, 0, (.lit (.int .i64 v5))⟩), (642, ⟨.im, 0, (.lit (.int .i64 v6))⟩), (643, ⟨(.own 2), 0, (.sl (len v7) (flat (eInt .i64) v7))⟩), (644, ⟨(.own 4), 0, (.sl (len v8) (flat eBool v8))⟩), (645, ⟨(.own 130), 0, (.sl 0 [])⟩), (704, ⟨(.box 188 6), 0, nob⟩), (705, ⟨(.own 130), 0, (.sl (len v9) (flat eGMsg v9))⟩), (706, ⟨(.own 130), 0, (.sl (len v10) (flat eGMsg v10))⟩), (707, ⟨(.own 130), 0, (.sl (len v11) (flat eGMsg v11))⟩), (708, ⟨(.own 130), 0, (.sl (len v12) (flat eGMsg v12))⟩), (709, ⟨(.own 130), 0, (.sl (len v13) (flat eGMsg v13))⟩), (710, ⟨(.own 130), 0, (.sl (len v14) (flat eGMsg v14))⟩), (1600, ⟨.one, 0, nob⟩), (1601, ⟨(.own 40), 0, (.sl (len v15) (flat (eSl eGMsg) v15))⟩), (8704, ⟨.one, 0, nob⟩), (8705, ⟨.im, 0, (.lit (.int .i64 v4))⟩), (8768, ⟨.one, 0, nob⟩), (8769, ⟨.im, 0, (.lit (.int .i64 v16))⟩)]
def F116_l2_2_X0 (v1 : Int) (v2 : Int) (v3 : Int) (v4 : Int) (v5 : Int) (v6 : Int) (v7 : List Int) (v8 : List Bool) (v9 : List GMsg) (v10 : List GMsg) (v11 : List GMsg) (v12 : List GMsg) (v13 : List GMsg) (v14 : List GMsg) (w15 : Int) : TS := .on [384, 385, 386, 387, 388, 389, 448, 449, 512, 513] [(384, ⟨(.box 42 5), 0, nob⟩), (385, ⟨.im, 0, (.lit (.int .i64 0))⟩), (386, ⟨.im, 0, (.lit (.int .i64 0))⟩), (387, ⟨(.own 2), 0, (.sl 0 [])⟩), (388, ⟨(.own 4), 0, (.sl 0 [])⟩), (389, ⟨(.own 130), 0, (.sl 0 [])⟩), (448, ⟨.one, 0, nob⟩), (449, ⟨(.own 40), 0, (.sl 0 [])⟩), (512, ⟨.one, 0, nob⟩), (513, ⟨.im, 0, (.lit (.int .i64 w15))⟩)]
def F116_l2_2_X1 (v1 : Int) (v2 : Int) (v3 : Int) (v4 : Int) (v5 : Int) (v6 : Int) (v7 : List Int) (v8 : List Bool) (v9 : List GMsg) (v10 : List GMsg) (v11 : List GMsg) (v12 : List GMsg) (v13 : List GMsg) (v14 : List GMsg) (w15 : List (List GMsg)) : TS := .on [384, 385, 386, 387, 388, 389, 640, 641, 642, 643, 644, 645, 1600, 1601] [(384, ⟨(.box 42 5), 0, nob⟩), (385, ⟨.im, 0, (.lit (.int .i64 0))⟩), (386, ⟨.im, 0, (.lit (.int .i64 0))⟩), (387, ⟨(.own 2), 0, (.sl 0 [])⟩), (388, ⟨(.own 4), 0, (.sl 0 [])⟩), (389, ⟨(.own 130), 0, (.sl 0 [])⟩), (640, ⟨(.box 42 5), 0, nob⟩), (641, ⟨.im, 0, (.lit (.int .i64 v5))⟩), (642, ⟨.im, 0, (.lit (.int .i64 v6))⟩), (643, ⟨(.own 2), 0, (.sl (len v7) (flat (eInt .i64) v7))⟩), (644, ⟨(.own 4), 0, (.sl (len v8) (flat eBool v8))⟩), (645, ⟨(.own 130), 0, (.sl 0 [])⟩), (1600, ⟨.one, 0, nob⟩), (1601, ⟨(.own 40), 0, (.sl (len w15) (flat (eSl eGMsg) w15))⟩)]
theorem F116_l2_2_ok (K : Nat) (v1 : Int) (v2 : Int) (v3 : Int) (v4 : Int) (v5 : Int) (v6 : Int) (v7 : List Int) (v8 : List Bool) (v9 : List GMsg) (v10 : List GMsg) (v11 : List GMsg) (v12 : List GMsg) (v13 : List GMsg) (v14 : List GMsg) : ∀ (k : Nat) (v15 : List (List GMsg)) (v16 : Int) (r : (Int) ⊕ (List (List GMsg))), F116_l2_2 K v1 v2 v3 v4 v5 v6 v7 v8 v9 v10 v11 v12 v13 v14 k v15 v16 = some r → (Sum.elim (fun w => LoopEv E H hn116 4 c116_2 (F116_l2_2_S v1 v2 v3 v4 v5 v6 v7 v8 v9 v10 v11 v12 v13 v14 v15 v16) .ret (F116_l2_2_X0 v1 v2 v3 v4 v5 v6 v7 v8 v9 v10 v11 v12 v13 v14 w)) (fun w => LoopEv E H hn116 4 c116_2 (F116_l2_2_S v1 v2 v3 v4 v5 v6 v7 v8 v9 v10 v11 v12 v13 v14 v15 v16) (.exit 4) (F116_l2_2_X1 v1 v2 v3 v4 v5 v6 v7 v8 v9 v10 v11 v12 v13 v14 w))) r := by
 intro k
 induction k with
 | zero => intro v15 v16 r hF; cases hF
 | succ k ih =>
  intro v15 v16 r hF
  rw [F116_l2_2] at hF
  refine cond_some hF (fun h17 hF => ?_) (fun h17 hF => ?_)
  ·
   refine cond_some hF (fun h18 hF => ?_) (fun h18 hF => ?_)
   ·
    refine bind_some hF (fun r19 h20 hF => ?_)
    have q48 : PQ hn116 fun l => (.test (ilt v16 v4) true :: .test (ieq v16 0) true :: .call 150 [.one (.lit (.int .i64 v1)), .one (.sl (len v9) (flat eGMsg v9))] (F150_res r19) :: .test (leadsAny (Res.mk [(.one (.own 130 (.sl (len r19.1) (flat eGMsg r19.1)))), (.one (.im (.lit (.int .i64 r19.2))))] [])) false :: l) := fun z => ⟨h17, h18, (F150_ok K v1 v9 _ h20), (leads_ok (by simp [leadsAny, RV.leads, RC.leads, leadsT, hasSl_lit, flat_ns eGMsg_ns])), z⟩
    refine cond_some hF (fun h21 hF => ?_) (fun h21 hF => ?_)
    ·
     refine cond_some hF (fun h22 hF => ?_) (fun _ hF => nomatch hF)
     have pz : HoldAll E H hn116 [.test (ine r19.2 0) false, .test (leqm [(.sl (len r19.1) (flat eGMsg r19.1))] 1 1) true, .test (apok (len v15) 1 24) true, .sl (nadd (len v15) 1) (lapp (flat (eSl eGMsg) v15) [(.sl (len r19.1) (flat eGMsg r19.1))]) (len (α := List GMsg) (appL v15 [r19.1])) (flat (eSl eGMsg) (appL v15 [r19.1])), .int (wadd .i64 v16 1) (wadd .i64 v16 1)] := ⟨(ine_t h21), rfl, h22, (app_ok (enc := (eSl eGMsg)) (v15 : List (List GMsg)) [r19.1]), rfl, trivial⟩
     have h0 := ih _ _ _ hF
     have hn := fun ex ts' => loop_nextC (h := hn116) (l := 4) (c := c116_2) (ts := F116_l2_2_S v1 v2 v3 v4 v5 v6 v7 v8 v9 v10 v11 v12 v13 v14 v15 v16) (ts1 := (F116_l2_2_S v1 v2 v3 v4 v5 v6 v7 v8 v9 v10 v11 v12 v13 v14 (appL v15 [r19.1]) (wadd .i64 v16 1))) (ex := ex) (ts' := ts') (q48 pz) (by kernel_rfl)
     cases r with
     | inl w => exact hn _ _ h0
     | inr w => exact hn _ _ h0
    obtain rfl := Option.some.inj hF
    have pz : HoldAll E H hn116 [.test (ine r19.2 0) true] := ⟨(ine_f h21), trivial⟩
    exact loop_endC (h := hn116) (l := 4) (c := c116_2) (ts := F116_l2_2_S v1 v2 v3 v4 v5 v6 v7 v8 v9 v10 v11 v12 v13 v14 v15 v16) (ts' := F116_l2_2_X0 v1 v2 v3 v4 v5 v6 v7 v8 v9 v10 v11 v12 v13 v14 r19.2) (ex := .ret) (q48 pz) (by kernel_rfl) trivial
   refine cond_some hF (fun h23 hF => ?_) (fun h23 hF => ?_)
   ·
    refine bind_some hF (fun r24 h25 hF => ?_)
    have q49 : PQ hn116 fun l => (.test (ilt v16 v4) true :: .test (ieq v16 0) false :: .test (ieq v16 1) true :: .call 150 [.one (.lit (.int .i64 v1)), .one (.sl (len v10) (flat eGMsg v10))] (F150_res r24) :: .test (leadsAny (Res.mk [(.one (.own 130 (.sl (len r24.1) (flat eGMsg r24.1)))), (.one (.im (.lit (.int .i64 r24.2))))] [])) false :: l) := fun z => ⟨h17, h18, h23, (F150_ok K v1 v10 _ h25), (leads_ok (by simp [leadsAny, RV.leads, RC.leads, leadsT, hasSl_lit, flat_ns eGMsg_ns])), z⟩
    refine cond_some hF (fun h26 hF => ?_) (fun h26 hF => ?_)
    ·
     refine cond_some hF (fun h27 hF => ?_) (fun _ hF => nomatch hF)
     have pz : HoldAll E H hn116 [.test (ine r24.2 0) false, .test (leqm [(.sl (len r24.1) (flat eGMsg r24.1))] 1 1) true, .test (apok (len v15) 1 24) true, .sl (nadd (len v15) 1) (lapp (flat (eSl eGMsg) v15) [(.sl (len r24.1) (flat eGMsg r24.1))]) (len (α := List GMsg) (appL v15 [r24.1])) (flat (eSl eGMsg) (appL v15 [r24.1])), .int (wadd .i64 v16 1) (wadd .i64 v16 1)] := ⟨(ine_t h26), rfl, h27, (app_ok (enc := (eSl eGMsg)) (v15 : List (List GMsg)) [r24.1]), rfl, trivial⟩
     have h0 := ih _ _ _ hF
     have hn := fun ex ts' => loop_nextC (h := hn116) (l := 4) (c := c116_2) (ts := F116_l2_2_S v1 v2 v3 v4 v5 v6 v7 v8 v9 v10 v11 v12 v13 v14 v15 v16) (ts1 := (F116_l2_2_S v1 v2 v3 v4 v5 v6 v7 v8 v9 v10 v11 v12 v13 v14 (appL v15 [r24.1]) (wadd .i64 v16 1))) (ex := ex) (ts' := ts') (q49 pz) (by kernel_rfl)
     cases r with
     | inl w => exact hn _ _ h0
     | inr w => exact hn _ _ h0
    obtain rfl := Option.some.inj hF
    have pz : HoldAll E H hn116 [.test (ine r24.2 0) true] := ⟨(ine_f h26), trivial⟩
    exact loop_endC (h := hn116) (l := 4) (c := c116_2) (ts := F116_l2_2_S v1 v2 v3 v4 v5 v6 v7 v8 v9 v10 v11 v12 v13 v14 v15 v16) (ts' := F116_l2_2_X0 v1 v2 v3 v4 v5 v6 v7 v8 v9 v10 v11 v12 v13 v14 r24.2) (ex := .ret) (q49 pz) (by kernel_rfl) trivial
   have q50 : PQ hn116 fun l => (.test (ilt v16 v4) true :: .test (ieq v16 0) false :: .test (ieq v16 1) false :: l) := fun z => ⟨h17, h18, h23, z⟩
   refine cond_some hF (fun h28 hF => ?_) (fun h28 hF => ?_)
   ·
    refine bind_some hF (fun r29 h30 hF => ?_)
    have q51 : PQ hn116 fun l => (.test (ieq v16 2) true :: .call 150 [.one (.lit (.int .i64 v1)), .one (.sl (len v11) (flat eGMsg v11))] (F150_res r29) :: .test (leadsAny (Res.mk [(.one (.own 130 (.sl (len r29.1) (flat eGMsg r29.1)))), (.one (.im (.lit (.int .i64 r29.2))))] [])) false :: l) := fun z => ⟨h28, (F150_ok K v1 v11 _ h30), (leads_ok (by simp [leadsAny, RV.leads, RC.leads, leadsT, hasSl_lit, flat_ns eGMsg_ns])), z⟩
    refine cond_some hF (fun h31 hF => ?_) (fun h31 hF => ?_)
    ·
     refine cond_some hF (fun h32 hF => ?_) (fun _ hF => nomatch hF)
     have pz : HoldAll E H hn116 [.test (ine r29.2 0) false, .test (leqm [(.sl (len r29.1) (flat eGMsg r29.1))] 1 1) true, .test (apok (len v15) 1 24) true, .sl (nadd (len v15) 1) (lapp (flat (eSl eGMsg) v15) [(.sl (len r29.1) (flat eGMsg r29.1))]) (len (α := List GMsg) (appL v15 [r29.1])) (flat (eSl eGMsg) (appL v15 [r29.1])), .int (wadd .i64 v16 1) (wadd .i64 v16 1)] := ⟨(ine_t h31), rfl, h32, (app_ok (enc := (eSl eGMsg)) (v15 : List (List GMsg)) [r29.1]), rfl, trivial⟩
     have h0 := ih _ _ _ hF
     have hn := fun ex ts' => loop_nextC (h := hn116) (l := 4) (c := c116_2) (ts := F116_l2_2_S v1 v2 v3 v4 v5 v6 v7 v8 v9 v10 v11 v12 v13 v14 v15 v16) (ts1 := (F116_l2_2_S v1 v2 v3 v4 v5 v6 v7 v8 v9 v10 v11 v12 v13 v14 (appL v15 [r29.1]) (wadd .i64 v16 1))) (ex := ex) (ts' := ts') (q50 (q51 pz)) (by kernel_rfl)
     cases r with
     | inl w => exact hn _ _ h0
     | inr w => exact hn _ _ h0
    obtain rfl := Option.some.inj hF
    have pz : HoldAll E H hn116 [.test (ine r29.2 0) true] := ⟨(ine_f h31), trivial⟩
    exact loop_endC (h := hn116) (l := 4) (c := c116_2) (ts := F116_l2_2_S v1 v2 v3 v4 v5 v6 v7 v8 v9 v10 v11 v12 v13 v14 v15 v16) (ts' := F116_l2_2_X0 v1 v2 v3 v4 v5 v6 v7 v8 v9 v10 v11 v12 v13 v14 r29.2) (ex := .ret) (q50 (q51 pz)) (by kernel_rfl) trivial
   refine cond_some hF (fun h33 hF => ?_) (fun h33 hF => ?_)
   ·
    refine bind_some hF (fun r34 h35 hF => ?_)
    have q52 : PQ hn116 fun l => (.test (ieq v16 2) false :: .test (ieq v16 3) true :: .call 150 [.one (.lit (.int .i64 v1)), .one (.sl (len v12) (flat eGMsg v12))] (F150_res r34) :: .test (leadsAny (Res.mk [(.one (.own 130 (.sl (len r34.1) (flat eGMsg r34.1)))), (.one (.im (.lit (.int .i64 r34.2))))] [])) false :: l) := fun z => ⟨h28, h33, (F150_ok K v1 v12 _ h35), (leads_ok (by simp [leadsAny, RV.leads, RC.leads, leadsT, hasSl_lit, flat_ns eGMsg_ns])), z⟩
    refine cond_some hF (fun h36 hF => ?_) (fun h36 hF => ?_)
    ·
     refine cond_some hF (fun h37 hF => ?_) (fun _ hF => nomatch hF)
     have pz : HoldAll E H hn116 [.test (ine r34.2 0) false, .test (leqm [(.sl (len r34.1) (flat eGMsg r34.1))] 1 1) true, .test (apok (len v15) 1 24) true, .sl (nadd (len v15) 1) (lapp (flat (eSl eGMsg) v15) [(.sl (len r34.1) (flat eGMsg r34.1))]) (len (α := List GMsg) (appL v15 [r34.1])) (flat (eSl eGMsg) (appL v15 [r34.1])), .int (wadd .i64 v16 1) (wadd .i64 v16 1)] := ⟨(ine_t h36), rfl, h37, (app_ok (enc := (eSl eGMsg)) (v15 : List (List GMsg)) [r34.1]), rfl, trivial⟩
     have h0 := ih _ _ _ hF
     have hn := fun ex ts' => loop_nextC (h := hn116) (l := 4) (c := c116_2) (ts := F116_l2_2_S v1 v2 v3 v4 v5 v6 v7 v8 v9 v10 v11 v12 v13 v14 v15 v16) (ts1 := (F116_l2_2_S v1 v2 v3 v4 v5 v6 v7 v8 v9 v10 v11 v12 v13 v14 (appL v15 [r34.1]) (wadd .i64 v16 1))) (ex := ex) (ts' := ts') (q50 (q52 pz)) (by kernel_rfl)
     cases r with
     | inl w => exact hn _ _ h0
     | inr w => exact hn _ _ h0
    obtain rfl := Option.some.inj hF
    have pz : HoldAll E H hn116 [.test (ine r34.2 0) true] := ⟨(ine_f h36), trivial⟩
    exact loop_endC (h := hn116) (l := 4) (c := c116_2) (ts := F116_l2_2_S v1 v2 v3 v4 v5 v6 v7 v8 v9 v10 v11 v12 v13 v14 v15 v16) (ts' := F116_l2_2_X0 v1 v2 v3 v4 v5 v6 v7 v8 v9 v10 v11 v12 v13 v14 r34.2) (ex := .ret) (q50 (q52 pz)) (by kernel_rfl) trivial
   refine cond_some hF (fun h38 hF => ?_) (fun h38 hF => ?_)
   ·
    refine bind_some hF (fun r39 h40 hF => ?_)
    have q53 : PQ hn116 fun l => (.test (ieq v16 2) false :: .test (ieq v16 3) false :: .test (ieq v16 4) true :: .call 150 [.one (.lit (.int .i64 v1)), .one (.sl (len v13) (flat eGMsg v13))] (F150_res r39) :: .test (leadsAny (Res.mk [(.one (.own 130 (.sl (len r39.1) (flat eGMsg r39.1)))), (.one (.im (.lit (.int .i64 r39.2))))] [])) false :: l) := fun z => ⟨h28, h33, h38, (F150_ok K v1 v13 _ h40), (leads_ok (by simp [leadsAny, RV.leads, RC.leads, leadsT, hasSl_lit, flat_ns eGMsg_ns])), z⟩
    refine cond_some hF (fun h41 hF => ?_) (fun h41 hF => ?_)
    ·
     refine cond_some hF (fun h42 hF => ?_) (fun _ hF => nomatch hF)
     have pz : HoldAll E H hn116 [.test (ine r39.2 0) false, .test (leqm [(.sl (len r39.1) (flat eGMsg r39.1))] 1 1) true, .test (apok (len v15) 1 24) true, .sl (nadd (len v15) 1) (lapp (flat (eSl eGMsg) v15) [(.sl (len r39.1) (flat eGMsg r39.1))]) (len (α := List GMsg) (appL v15 [r39.1])) (flat (eSl eGMsg) (appL v15 [r39.1])), .int (wadd .i64 v16 1) (wadd .i64 v16 1)] := ⟨(ine_t h41), rfl, h42, (app_ok (enc := (eSl eGMsg)) (v15 : List (List GMsg)) [r39.1]), rfl, trivial⟩
     have h0 := ih _ _ _ hF
     have hn := fun ex ts' => loop_nextC (h := hn116) (l := 4) (c := c116_2) (ts := F116_l2_2_S v1 v2 v3 v4 v5 v6 v7 v8 v9 v10 v11 v12 v13 v14 v15 v16) (ts1 := (F116_l2_2_S v1 v2 v3 v4 v5 v6 v7 v8 v9 v10 v11 v12 v13 v14 (appL v15 [r39.1]) (wadd .i64 v16 1))) (ex := ex) (ts' := ts') (q50 (q53 pz)) (by kernel_rfl)
     cases r with
     | inl w => exact hn _ _ h0
     | inr w => exact hn _ _ h0
    obtain rfl := Option.some.inj hF
    have pz : HoldAll E H hn116 [.test (ine r39.2 0) true] := ⟨(ine_f h41), trivial⟩
    exact loop_endC (h := hn116) (l := 4) (c := c116_2) (ts := F116_l2_2_S v1 v2 v3 v4 v5 v6 v7 v8 v9 v10 v11 v12 v13 v14 v15 v16) (ts' := F116_l2_2_X0 v1 v2 v3 v4 v5 v6 v7 v8 v9 v10 v11 v12 v13 v14 r39.2) (ex := .ret) (q50 (q53 pz)) (by kernel_rfl) trivial
   refine cond_some hF (fun h43 hF => ?_) (fun _ hF => nomatch hF)
   refine bind_some hF (fun r44 h45 hF => ?_)
   have q54 : PQ hn116 fun l => (.test (ieq v16 2) false :: .test (ieq v16 3) false :: .test (ieq v16 4) false :: .test (ieq v16 5) true :: .call 150 [.one (.lit (.int .i64 v1)), .one (.sl (len v14) (flat eGMsg v14))] (F150_res r44) :: .test (leadsAny (Res.mk [(.one (.own 130 (.sl (len r44.1) (flat eGMsg r44.1)))), (.one (.im (.lit (.int .i64 r44.2))))] [])) false :: l) := fun z => ⟨h28, h33, h38, h43, (F150_ok K v1 v14 _ h45), (leads_ok (by simp [leadsAny, RV.leads, RC.leads, leadsT, hasSl_lit, flat_ns eGMsg_ns])), z⟩
   refine cond_some hF (fun h46 hF => ?_) (fun h46 hF => ?_)
   ·
    refine cond_some hF (fun h47 hF => ?_) (fun _ hF => nomatch hF)
    have pz : HoldAll E H hn116 [.test (ine r44.2 0) false, .test (leqm [(.sl (len r44.1) (flat eGMsg r44.1))] 1 1) true, .test (apok (len v15) 1 24) true, .sl (nadd (len v15) 1) (lapp (flat (eSl eGMsg) v15) [(.sl (len r44.1) (flat eGMsg r44.1))]) (len (α := List GMsg) (appL v15 [r44.1])) (flat (eSl eGMsg) (appL v15 [r44.1])), .int (wadd .i64 v16 1) (wadd .i64 v16 1)] := ⟨(ine_t h46), rfl, h47, (app_ok (enc := (eSl eGMsg)) (v15 : List (List GMsg)) [r44.1]), rfl, trivial⟩
    have h0 := ih _ _ _ hF
    have hn := fun ex ts' => loop_nextC (h := hn116) (l := 4) (c := c116_2) (ts := F116_l2_2_S v1 v2 v3 v4 v5 v6 v7 v8 v9 v10 v11 v12 v13 v14 v15 v16) (ts1 := (F116_l2_2_S v1 v2 v3 v4 v5 v6 v7 v8 v9 v10 v11 v12 v13 v14 (appL v15 [r44.1]) (wadd .i64 v16 1))) (ex := ex) (ts' := ts') (q50 (q54 pz)) (by kernel_rfl)
    cases r with
    | inl w => exact hn _ _ h0
    | inr w => exact hn _ _ h0
   obtain rfl := Option.some.inj hF
   have pz : HoldAll E H hn116 [.test (ine r44.2 0) true] := ⟨(ine_f h46), trivial⟩
   exact loop_endC (h := hn116) (l := 4) (c := c116_2) (ts := F116_l2_2_S v1 v2 v3 v4 v5 v6 v7 v8 v9 v10 v11 v12 v13 v14 v15 v16) (ts' := F116_l2_2_X0 v1 v2 v3 v4 v5 v6 v7 v8 v9 v10 v11 v12 v13 v14 r44.2) (ex := .ret) (q50 (q54 pz)) (by kernel_rfl) trivial
  obtain rfl := Option.some.inj hF
  have pz : HoldAll E H hn116 [.test (ilt v16 v4) false] := ⟨h17, trivial⟩
  exact loop_endC (h := hn116) (l := 4) (c := c116_2) (ts := F116_l2_2_S v1 v2 v3 v4 v5 v6 v7 v8 v9 v10 v11 v12 v13 v14 v15 v16) (ts' := F116_l2_2_X1 v1 v2 v3 v4 v5 v6 v7 v8 v9 v10 v11 v12 v13 v14 v15) (ex := (.exit 4)) pz (by kernel_rfl) trivial
def F116 (K : Nat) (a1 : GGraph) (a2 : GJob) (a3 : GPart) : Option (GPart × List (List GMsg) × Int) :=
 (F94 K a1 a2).bind fun r4 =>
 bif (ieq r4 0) then
  ((F80 K a1 a2 a3).bind fun r5 =>
  bif r5 then
   (bif (ieq a3.Step 40) then
    (some ((GPart.mk 0 0 [] [] []), ([], 6)))
   else
   (F116_l0_0 K a1.N a1.Edges a2.Prog a2.Source a2.Limit a2.Parts a3.P a3.Step a3.Vals a3.Rest a3.In K [] [] [] [] [] [] [] [] 0).bind fun y6 =>
   Sum.elim (fun w7 =>
    some ((GPart.mk 0 0 [] [] []), ([], w7)))
    (fun w8 =>
    (F116_l2_2 K a2.Prog a2.Source a2.Limit a2.Parts a3.P (wadd .i64 a3.Step 1) w8.1 w8.2.1 w8.2.2.1 w8.2.2.2.1 w8.2.2.2.2.1 w8.2.2.2.2.2.1 w8.2.2.2.2.2.2.1 w8.2.2.2.2.2.2.2 K [] 0).bind fun y9 =>
    Sum.elim (fun w10 =>
     some ((GPart.mk 0 0 [] [] []), ([], w10)))
     (fun w11 =>
     some ((GPart.mk a3.P (wadd .i64 a3.Step 1) w8.1 w8.2.1 []), (w11, 0))) y9) y6)
  else
  some ((GPart.mk 0 0 [] [] []), ([], 1)))
 else
 some ((GPart.mk 0 0 [] [] []), ([], r4))
theorem F116_ok (K : Nat) (a1 : GGraph) (a2 : GJob) (a3 : GPart) (r : GPart × List (List GMsg) × Int) (hF : F116 K a1 a2 a3 = some r) : Evt E H 116 [.agg (eGGraph a1), .agg (eGJob a2), .agg (eGPart a3)] (F116_res r) := by
 rw [F116] at hF
 refine bind_some hF (fun r4 h5 hF => ?_)
 refine cond_some hF (fun h6 hF => ?_) (fun h6 hF => ?_)
 ·
  refine bind_some hF (fun r7 h8 hF => ?_)
  have q19 : PQ hn116 fun l => (.call 94 [.agg (eGGraph a1), .agg (eGJob a2)] (F94_res r4) :: .test (leadsAny (Res.mk [(.one (.im (.lit (.int .i64 r4))))] [])) false :: .test (ine r4 0) false :: .call 80 [.agg (eGGraph a1), .agg (eGJob a2), .agg (eGPart a3)] (F80_res r7) :: .test (leadsAny (Res.mk [(.one (.im (.lit (.bool r7))))] [])) false :: l) := fun z => ⟨(F94_ok K a1 a2 _ h5), (leads_ok (by simp [leadsAny, RV.leads, RC.leads, leadsT, hasSl_lit, flat_ns eGJob_ns])), (ine_t h6), (F80_ok K a1 a2 a3 _ h8), (leads_ok (by simp [leadsAny, RV.leads, RC.leads, leadsT, hasSl_lit, flat_ns eGJob_ns])), z⟩
  refine cond_some hF (fun h9 hF => ?_) (fun h9 hF => ?_)
  ·
   refine cond_some hF (fun h10 hF => ?_) (fun h10 hF => ?_)
   ·
    obtain rfl := Option.some.inj hF
    have pz : HoldAll E H hn116 [.test (bnot r7) false, .test (ieq a3.Step 40) true] := ⟨(bnot_t h9), h10, trivial⟩
    exact fn_playC hn116 (r := F116_res ((GPart.mk 0 0 [] [] []), ([], 6))) (q19 pz) (by kernel_rfl) (by kernel_rfl)
   have q20 : PQ hn116 fun l => (.test (bnot r7) false :: .test (ieq a3.Step 40) false :: .int (wadd .i64 a3.Step 1) (wadd .i64 a3.Step 1) :: .int (nlen (len a3.Vals)) (nlen (len a3.Vals)) :: l) := fun z => ⟨(bnot_t h9), h10, rfl, rfl, z⟩
   refine bind_some hF (fun y12 h11 hF => ?_)
   refine sum_some hF (fun w13 hx hF => ?_) (fun w14 hx hF => ?_)
   ·
    subst hx
    obtain rfl := Option.some.inj hF
    have pz : HoldAll E H hn116 [.loop 0 c116_0 (F116_l0_0_S a1.N a1.Edges a2.Prog a2.Source a2.Limit a2.Parts a3.P a3.Step a3.Vals a3.Rest a3.In [] [] [] [] [] [] [] [] 0) .ret (F116_l0_0_X0 a1.N a1.Edges a2.Prog a2.Source a2.Limit a2.Parts a3.P a3.Step a3.Vals a3.Rest a3.In w13)] := ⟨(F116_l0_0_ok K a1.N a1.Edges a2.Prog a2.Source a2.Limit a2.Parts a3.P a3.Step a3.Vals a3.Rest a3.In K [] [] [] [] [] [] [] [] 0 _ h11), trivial⟩
    exact fn_playC hn116 (r := F116_res ((GPart.mk 0 0 [] [] []), ([], w13))) (q19 (q20 pz)) (by kernel_rfl) (by kernel_rfl)
   subst hx
   refine bind_some hF (fun y16 h15 hF => ?_)
   refine sum_some hF (fun w17 hx hF => ?_) (fun w18 hx hF => ?_)
   ·
    subst hx
    obtain rfl := Option.some.inj hF
    have pz : HoldAll E H hn116 [.loop 0 c116_0 (F116_l0_0_S a1.N a1.Edges a2.Prog a2.Source a2.Limit a2.Parts a3.P a3.Step a3.Vals a3.Rest a3.In [] [] [] [] [] [] [] [] 0) (.exit 0) (F116_l0_0_X1 a1.N a1.Edges a2.Prog a2.Source a2.Limit a2.Parts a3.P a3.Step a3.Vals a3.Rest a3.In w14), .loop 4 c116_2 (F116_l2_2_S a2.Prog a2.Source a2.Limit a2.Parts a3.P (wadd .i64 a3.Step 1) w14.1 w14.2.1 w14.2.2.1 w14.2.2.2.1 w14.2.2.2.2.1 w14.2.2.2.2.2.1 w14.2.2.2.2.2.2.1 w14.2.2.2.2.2.2.2 [] 0) .ret (F116_l2_2_X0 a2.Prog a2.Source a2.Limit a2.Parts a3.P (wadd .i64 a3.Step 1) w14.1 w14.2.1 w14.2.2.1 w14.2.2.2.1 w14.2.2.2.2.1 w14.2.2.2.2.2.1 w14.2.2.2.2.2.2.1 w14.2.2.2.2.2.2.2 w17)] := ⟨(F116_l0_0_ok K a1.N a1.Edges a2.Prog a2.Source a2.Limit a2.Parts a3.P a3.Step a3.Vals a3.Rest a3.In K [] [] [] [] [] [] [] [] 0 _ h11), (F116_l2_2_ok K a2.Prog a2.Source a2.Limit a2.Parts a3.P (wadd .i64 a3.Step 1) w14.1 w14.2.1 w14.2.2.1 w14.2.2.2.1 w14.2.2.2.2.1 w14.2.2.2.2.2.1 w14.2.2.2.2.2.2.1 w14.2.2.2.2.2.2.2 K [] 0 _ h15), trivial⟩
    exact fn_playC hn116 (r := F116_res ((GPart.mk 0 0 [] [] []), ([], w17))) (q19 (q20 pz)) (by kernel_rfl) (by kernel_rfl)
   subst hx
   obtain rfl := Option.some.inj hF
   have pz : HoldAll E H hn116 [.loop 0 c116_0 (F116_l0_0_S a1.N a1.Edges a2.Prog a2.Source a2.Limit a2.Parts a3.P a3.Step a3.Vals a3.Rest a3.In [] [] [] [] [] [] [] [] 0) (.exit 0) (F116_l0_0_X1 a1.N a1.Edges a2.Prog a2.Source a2.Limit a2.Parts a3.P a3.Step a3.Vals a3.Rest a3.In w14), .loop 4 c116_2 (F116_l2_2_S a2.Prog a2.Source a2.Limit a2.Parts a3.P (wadd .i64 a3.Step 1) w14.1 w14.2.1 w14.2.2.1 w14.2.2.2.1 w14.2.2.2.2.1 w14.2.2.2.2.2.1 w14.2.2.2.2.2.2.1 w14.2.2.2.2.2.2.2 [] 0) (.exit 4) (F116_l2_2_X1 a2.Prog a2.Source a2.Limit a2.Parts a3.P (wadd .i64 a3.Step 1) w14.1 w14.2.1 w14.2.2.1 w14.2.2.2.1 w14.2.2.2.2.1 w14.2.2.2.2.2.1 w14.2.2.2.2.2.2.1 w14.2.2.2.2.2.2.2 w18)] := ⟨(F116_l0_0_ok K a1.N a1.Edges a2.Prog a2.Source a2.Limit a2.Parts a3.P a3.Step a3.Vals a3.Rest a3.In K [] [] [] [] [] [] [] [] 0 _ h11), (F116_l2_2_ok K a2.Prog a2.Source a2.Limit a2.Parts a3.P (wadd .i64 a3.Step 1) w14.1 w14.2.1 w14.2.2.1 w14.2.2.2.1 w14.2.2.2.2.1 w14.2.2.2.2.2.1 w14.2.2.2.2.2.2.1 w14.2.2.2.2.2.2.2 K [] 0 _ h15), trivial⟩
   exact fn_playC hn116 (r := F116_res ((GPart.mk a3.P (wadd .i64 a3.Step 1) w14.1 w14.2.1 []), (w18, 0))) (q19 (q20 pz)) (by kernel_rfl) (by kernel_rfl)
  obtain rfl := Option.some.inj hF
  have pz : HoldAll E H hn116 [.test (bnot r7) true] := ⟨(bnot_f h9), trivial⟩
  exact fn_playC hn116 (r := F116_res ((GPart.mk 0 0 [] [] []), ([], 1))) (q19 pz) (by kernel_rfl) (by kernel_rfl)
 obtain rfl := Option.some.inj hF
 have pz : HoldAll E H hn116 [.call 94 [.agg (eGGraph a1), .agg (eGJob a2)] (F94_res r4), .test (leadsAny (Res.mk [(.one (.im (.lit (.int .i64 r4))))] [])) false, .test (ine r4 0) true] := ⟨(F94_ok K a1 a2 _ h5), (leads_ok (by simp [leadsAny, RV.leads, RC.leads, leadsT, hasSl_lit, flat_ns eGJob_ns])), (ine_f h6), trivial⟩
 exact fn_playC hn116 (r := F116_res ((GPart.mk 0 0 [] [] []), ([], r4))) pz (by kernel_rfl) (by kernel_rfl)
abbrev B6 := List GMsg × List GMsg × List GMsg × List GMsg × List GMsg × List GMsg
abbrev S8 := List Int × List Bool × B6
def boxes (j : GJob) (c : List GMsg) : B6 := (toS j c 0, toS j c 1, toS j c 2, toS j c 3, toS j c 4, toS j c 5)
theorem toS_one (j : GJob) (m : GMsg) (q : Int) : toS j [m] q = bif ieq (homeS j m.To) q then [m] else [] := by
 rw [toS, List.filter_cons]
 cases ieq (homeS j m.To) q <;> rfl
def stA (K : Nat) (j : GJob) (m : GMsg) (s : B6) (c : B6 → Option B6) : Option B6 :=
 (F75 K j m.To).bind fun r =>
 bif (ieq r 0) then (bif (apok (len s.1) 1 16) then c (appL s.1 [m], s.2.1, s.2.2.1, s.2.2.2.1, s.2.2.2.2.1, s.2.2.2.2.2) else none) else
 bif (ieq r 1) then (bif (apok (len s.2.1) 1 16) then c (s.1, appL s.2.1 [m], s.2.2.1, s.2.2.2.1, s.2.2.2.2.1, s.2.2.2.2.2) else none) else
 bif (ieq r 2) then (bif (apok (len s.2.2.1) 1 16) then c (s.1, s.2.1, appL s.2.2.1 [m], s.2.2.2.1, s.2.2.2.2.1, s.2.2.2.2.2) else none) else
 bif (ieq r 3) then (bif (apok (len s.2.2.2.1) 1 16) then c (s.1, s.2.1, s.2.2.1, appL s.2.2.2.1 [m], s.2.2.2.2.1, s.2.2.2.2.2) else none) else
 bif (ieq r 4) then (bif (apok (len s.2.2.2.2.1) 1 16) then c (s.1, s.2.1, s.2.2.1, s.2.2.2.1, appL s.2.2.2.2.1 [m], s.2.2.2.2.2) else none) else
 bif (ieq r 5) then bif (apok (len s.2.2.2.2.2) 1 16) then c (s.1, s.2.1, s.2.2.1, s.2.2.2.1, s.2.2.2.2.1, appL s.2.2.2.2.2 [m]) else none else none
theorem route_step {K : Nat} (j : GJob) (m : GMsg) (c : List GMsg) (hl : c.length ≤ 3000) (h0 : 0 ≤ homeS j m.To) (h5 : homeS j m.To ≤ 5) (k : B6 → Option B6) : stA K j m (boxes j c) k = k (boxes j (c ++ [m])) := by
 have ap : ∀ q : Int, apok (len (toS j c q)) 1 16 = true := fun q => by
   have := toS_len j c q
   exact decide_eq_true ⟨by show (toS j c q).length + 1 ≤ _; omega, by show ((toS j c q).length + 1) * 16 ≤ _; omega⟩
 rw [stA, F75_spec, Option.bind_some, boxes, boxes]
 simp only [toS_app, toS_one, ap, cond_true]
 generalize homeS j m.To = q at *
 rcases (by omega : q = 0 ∨ q = 1 ∨ q = 2 ∨ q = 3 ∨ q = 4 ∨ q = 5) with rfl | rfl | rfl | rfl | rfl | rfl <;> simp [ieq, appL]
theorem route_go {K : Nat} (j : GJob) : ∀ (l : List GMsg) (c : List GMsg), c.length + l.length ≤ 3000 → (∀ m ∈ l, 0 ≤ homeS j m.To ∧ homeS j m.To ≤ 5) → goL (stA K j) (fun s => some s) l (boxes j c) = some (boxes j (c ++ l)) := by
 intro l
 induction l with
 | nil => intro c _ _; rw [goL, List.append_nil]
 | cons m l ih =>
   intro c hl hh
   simp only [List.length_cons] at hl
   obtain ⟨h0, h5⟩ := hh m List.mem_cons_self
   rw [goL, route_step j m c (by omega) h0 h5, ih (c ++ [m]) (by simp only [List.length_append, List.length_singleton]; omega) (fun y hy => hh y (List.mem_cons_of_mem _ hy)), List.append_assoc]; rfl
theorem route {K : Nat} (g : GGraph) (j : GJob) (x : GPart) (a : List Int) (b : List Bool) (v : Int) (r : Bool) (l : List GMsg) (i : Int) (c : List GMsg) (hl : c.length + l.length ≤ 3000) (hK : l.length < K) (hh : ∀ m ∈ l, 0 ≤ homeS j m.To ∧ homeS j m.To ≤ 5) :
   F116_l1_1 K g.N g.Edges j.Prog j.Source j.Limit j.Parts x.P x.Step x.Vals x.Rest x.In a b v r l i K (toS j c 0) (toS j c 1) (toS j c 2) (toS j c 3) (toS j c 4) (toS j c 5) 0 = some (boxes j (c ++ l)) := by
 have h := scanL (l := l) (L := fun k (s : B6) p => F116_l1_1 K g.N g.Edges j.Prog j.Source j.Limit j.Parts x.P x.Step x.Vals x.Rest x.In a b v r l i k s.1 s.2.1 s.2.2.1 s.2.2.2.1 s.2.2.2.2.1 s.2.2.2.2.2 p) (stA K j) (fun s => some s) (fun k s p _ => rfl) (by omega) (K := K) hK (boxes j c)
 rw [route_go j l c hl hh] at h
 exact h
def st116 (K : Nat) (g : GGraph) (j : GJob) (x : GPart) (i : Nat) (y : Int) (s : S8) (c : S8 → Option (Int ⊕ S8)) : Option (Int ⊕ S8) :=
 (F149 K x.In (wadd .i64 x.P (wmul .i64 (i : Int) j.Parts))).bind fun r6057 =>
 bif (inr (i : Int) (len x.Rest)) then
 (elAt x.Rest (i : Int)).bind fun x6060 =>
 bif x6060 then
   (bif r6057.2 then
     ((F99 K g j x.Step (wadd .i64 x.P (wmul .i64 (i : Int) j.Parts)) y r6057.1 r6057.2).bind fun r6064 =>
     bif (ieq r6064.2.2.2 0) then
       ((F116_l1_1 K g.N g.Edges j.Prog j.Source j.Limit j.Parts x.P x.Step x.Vals x.Rest x.In s.1 s.2.1 r6064.1 r6064.2.2.1 r6064.2.1 (i : Int) K s.2.2.1 s.2.2.2.1 s.2.2.2.2.1 s.2.2.2.2.2.1 s.2.2.2.2.2.2.1 s.2.2.2.2.2.2.2 0).bind fun w6149 =>
       bif (apok (len s.1) 1 8) then
       bif (apok (len s.2.1) 1 1) then
       c (appL s.1 [r6064.1], appL s.2.1 [r6064.2.2.1], w6149)
       else none
       else none)
     else
     some (.inl r6064.2.2.2))
   else
   bif (apok (len s.1) 1 8) then
   bif (apok (len s.2.1) 1 1) then
   c (appL s.1 [y], appL s.2.1 [true], s.2.2)
   else none
   else none)
 else
 (F99 K g j x.Step (wadd .i64 x.P (wmul .i64 (i : Int) j.Parts)) y r6057.1 r6057.2).bind fun r6160 =>
 bif (ieq r6160.2.2.2 0) then
   ((F116_l1_1 K g.N g.Edges j.Prog j.Source j.Limit j.Parts x.P x.Step x.Vals x.Rest x.In s.1 s.2.1 r6160.1 r6160.2.2.1 r6160.2.1 (i : Int) K s.2.2.1 s.2.2.2.1 s.2.2.2.2.1 s.2.2.2.2.2.1 s.2.2.2.2.2.2.1 s.2.2.2.2.2.2.2 0).bind fun w6193 =>
   bif (apok (len s.1) 1 8) then
   bif (apok (len s.2.1) 1 1) then
   c (appL s.1 [r6160.1], appL s.2.1 [r6160.2.2.1], w6193)
   else none
   else none)
 else
 some (.inl r6160.2.2.2)
 else none
theorem progL_get (n m : Nat) : ∀ (k v i : Nat) (h : i < (progL k n m v).length), (progL k n m v)[i] = v + i * m := by
 intro k
 induction k with
 | zero => intro v i h; exact absurd h (Nat.not_lt_zero _)
 | succ k ih =>
   intro v i h
   by_cases hv : v < n
   · have e : progL (k + 1) n m v = v :: progL k n m (v + m) := by rw [progL, if_pos hv]
     simp only [e] at h ⊢
     cases i with
     | zero => simp
     | succ i =>
       have h' : i < (progL k n m (v + m)).length := by simpa using h
       rw [List.getElem_cons_succ, ih (v + m) i h', Nat.succ_mul]; omega
   · have e : progL (k + 1) n m v = [] := by rw [progL, if_neg hv]
     simp only [e, List.length_nil] at h
     exact absurd h (Nat.not_lt_zero _)
theorem verts_at {g : GGraph} {j : GJob} (h1 : 1 ≤ j.Parts) (h6 : j.Parts ≤ 6) (hn : g.N ≤ 24) {p : Int} (hp : 0 ≤ p ∧ p < j.Parts) (i : Nat) (h : i < (vertsS g j p).length) : (((vertsS g j p)[i] : Nat) : Int) = p + (i : Int) * j.Parts := by
 obtain ⟨q, rfl⟩ := Int.eq_ofNat_of_zero_le hp.1
 have e : vertsS g j (q : Int) = progL 30 g.N.toNat j.Parts.toNat q := (prog_verts (by omega) (by omega) (by omega) (by omega)).symm
 simp only [e] at h ⊢
 rw [progL_get]
 have : ((j.Parts.toNat : Nat) : Int) = j.Parts := by omega
 rw [Int.natCast_add, Int.natCast_mul, this]
def boxT (j : GJob) : Int ⊕ Tri → Int ⊕ S8
 | .inl e => .inl e
 | .inr w => .inr (w.1, w.2.1, boxes j w.2.2)
theorem home_in {j : GJob} (h1 : 1 ≤ j.Parts) (h6 : j.Parts ≤ 6) {v : Int} (h0 : 0 ≤ v) : homeS j v = v % j.Parts ∧ 0 ≤ homeS j v ∧ homeS j v ≤ 5 := by
 have hm0 : 0 ≤ v % j.Parts := Int.emod_nonneg _ (by omega)
 have hm1 : v % j.Parts < j.Parts := Int.emod_lt_of_pos _ (by omega)
 have e : homeS j v = v % j.Parts := by rw [homeS, ilt_f.2 h0, ilt_f.2 h1, ilt_f.2 h6]; rfl
 rw [e]; exact ⟨rfl, hm0, by omega⟩
theorem go116 {K : Nat} (hK : 3000 ≤ K) (g : GGraph) (j : GJob) (x : GPart) (hR : partRight g j x = true) (hn : niceP x) (hin : x.In.length ≤ 300) : ∀ (n i : Nat) (a : List Int) (b : List Bool) (c : List GMsg), i + n = x.Vals.length → keepP g i a b c →
   goI (st116 K g j x) (fun s => some (.inr s)) i (x.Vals.drop i) (a, b, boxes j c) = some (boxT j (doA g j x ((vertsS g j x.P).drop i) i a b c)) := by
 obtain ⟨hc, p1, p2, p3, p4, p5, p6, _⟩ := partRight_ok hR
 obtain ⟨hg, _, _, _, _, _, _, p7, p8⟩ := jcheck_ok hc
 obtain ⟨g1, g2, g3, _⟩ := gcheck_ok hg
 have hvl := verts_len g j g2 x.P
 rw [countS] at p5 p6
 intro n
 induction n with
 | zero =>
   intro i a b c hi _
   have e1 : x.Vals.drop i = [] := List.drop_eq_nil_of_le (by omega)
   have e2 : (vertsS g j x.P).drop i = [] := List.drop_eq_nil_of_le (by omega)
   rw [e1, e2]; rfl
 | succ n ih =>
   intro i a b c hi h
   have hlc := h.lc
   obtain ⟨v, hv⟩ : ∃ v, (vertsS g j x.P)[i]'(by omega) = v := ⟨_, rfl⟩
   have hat0 := verts_at p7 p8 g2 ⟨p1, p2⟩ i (by omega)
   rw [hv] at hat0
   have hd2 : (vertsS g j x.P).drop i = v :: (vertsS g j x.P).drop (i + 1) := by rw [List.drop_eq_getElem_cons (by omega : i < (vertsS g j x.P).length), hv]
   have hvm : v ∈ vertsS g j x.P := hv ▸ List.getElem_mem _
   have hvn := ((mem_verts p7).1 hvm).1
   have hd1 : x.Vals.drop i = x.Vals.getD i 0 :: x.Vals.drop (i + 1) := by
     rw [List.drop_eq_getElem_cons (by omega : i < x.Vals.length), List.getD_eq_getElem?_getD, List.getElem?_eq_getElem (by omega : i < x.Vals.length)]; rfl
   have hv0 : 0 ≤ (i : Int) * j.Parts := Int.mul_nonneg (by omega) (by omega)
   have e1 : wmul .i64 (i : Int) j.Parts = (i : Int) * j.Parts := wmul_ok (by unfold i64; omega)
   have e2 : wadd .i64 x.P ((i : Int) * j.Parts) = (v : Int) := by rw [wadd_i64 (by unfold i64; omega)]; omega
   have hnx := keepP_next (j := j) hn v h
   obtain ⟨la, lb, _, _, _, _⟩ := h
   obtain ⟨o3, o4⟩ := onep_outs (g := g) (j := j) (x := x) (i := i) (v := v)
   obtain ⟨r1, r2⟩ := elAt_get (l := x.Rest) (i := i) (by omega) false
   have a1 : apok (len a) 1 8 = true := decide_eq_true ⟨by show a.length + 1 ≤ _; omega, by show (a.length + 1) * 8 ≤ _; omega⟩
   have a2 : apok (len b) 1 1 = true := decide_eq_true ⟨by show b.length + 1 ≤ _; omega, by show (b.length + 1) * 1 ≤ _; omega⟩
   have hx : i64 (x.Vals.getD i 0) := by
     rw [List.getD_eq_getElem?_getD]
     cases hq : x.Vals[i]? with
     | none => show i64 0; unfold i64; omega
     | some y => exact hn.1 y (List.mem_of_getElem? hq)
   have hat := atS_i64 (l := x.In) (v := (v : Int)) hn.2
   have nx := ih (i + 1) _ _ _ (by omega) hnx
   have f99 := F99_spec (K := K) (by omega) g j x.Step (v : Int) (atS x.In (v : Int)).2 hx hat
   have hro := fun (aa : List Int) (bb : List Bool) (vv : Int) (rr : Bool) => route (K := K) g j x aa bb vv rr (oneP g j x i v).2.1 (i : Int) c (by omega) (by omega) (fun m hm => (home_in p7 p8 (o4 m hm).1).2)
   rw [hd1, hd2, goI, st116, doA, e1, e2, F149_spec x.In (v : Int) (by omega) (by omega), r1, r2]
   simp only [cond_true, Option.bind_some, f99, a1, a2]
   have eb : ∀ c, (boxes j c).1 = toS j c 0 ∧ (boxes j c).2.1 = toS j c 1 ∧ (boxes j c).2.2.1 = toS j c 2 ∧ (boxes j c).2.2.2.1 = toS j c 3 ∧ (boxes j c).2.2.2.2.1 = toS j c 4 ∧ (boxes j c).2.2.2.2.2 = toS j c 5 := fun c => ⟨rfl, rfl, rfl, rfl, rfl, rfl⟩
   obtain ⟨q0, q1, q2, q3, q4, q5⟩ := eb c
   rw [q0, q1, q2, q3, q4, q5]
   cases hs : (atS x.In (v : Int)).2
   · cases hy : x.Rest.getD i false
     · have hT : oneP g j x i v = turnS g j x.Step (v : Int) (x.Vals.getD i 0) (atS x.In (v : Int)).1 false := by rw [oneP, hy, hs]; rfl
       rw [hT] at nx hro ⊢
       simp only [cond_false, cond_true, hro, Option.bind_some]
       cases ieq (turnS g j x.Step (v : Int) (x.Vals.getD i 0) (atS x.In (v : Int)).1 false).2.2.2 0
       · rfl
       · exact nx
     · have hT : oneP g j x i v = (x.Vals.getD i 0, [], true, 0) := by rw [oneP, hy, hs]; rfl
       rw [hT] at nx ⊢
       simp only [List.append_nil] at nx ⊢
       exact nx
   · have hT : oneP g j x i v = turnS g j x.Step (v : Int) (x.Vals.getD i 0) (atS x.In (v : Int)).1 true := by rw [oneP, hs, Bool.not_true, Bool.and_false]; rfl
     rw [hT] at nx hro ⊢
     simp only [cond_false, cond_true, hro, Option.bind_some]
     cases x.Rest.getD i false <;> cases ieq (turnS g j x.Step (v : Int) (x.Vals.getD i 0) (atS x.In (v : Int)).1 true).2.2.2 0 <;> first | rfl | exact nx
def st116b (K : Nat) (j : GJob) (s : B6) (q : Nat) (d : List (List GMsg)) (c : List (List GMsg) → Option (Int ⊕ List (List GMsg))) : Option (Int ⊕ List (List GMsg)) :=
 bif (ieq (q : Int) 0) then ((F150 K j.Prog s.1).bind fun r => bif (ieq r.2 0) then (bif (apok (len d) 1 24) then c (appL d [r.1]) else none) else some (.inl r.2)) else
 bif (ieq (q : Int) 1) then ((F150 K j.Prog s.2.1).bind fun r => bif (ieq r.2 0) then (bif (apok (len d) 1 24) then c (appL d [r.1]) else none) else some (.inl r.2)) else
 bif (ieq (q : Int) 2) then ((F150 K j.Prog s.2.2.1).bind fun r => bif (ieq r.2 0) then (bif (apok (len d) 1 24) then c (appL d [r.1]) else none) else some (.inl r.2)) else
 bif (ieq (q : Int) 3) then ((F150 K j.Prog s.2.2.2.1).bind fun r => bif (ieq r.2 0) then (bif (apok (len d) 1 24) then c (appL d [r.1]) else none) else some (.inl r.2)) else
 bif (ieq (q : Int) 4) then ((F150 K j.Prog s.2.2.2.2.1).bind fun r => bif (ieq r.2 0) then (bif (apok (len d) 1 24) then c (appL d [r.1]) else none) else some (.inl r.2)) else
 bif (ieq (q : Int) 5) then (F150 K j.Prog s.2.2.2.2.2).bind fun r => bif (ieq r.2 0) then (bif (apok (len d) 1 24) then c (appL d [r.1]) else none) else some (.inl r.2) else none
theorem tell_step {K : Nat} (hK : 3000 ≤ K) (j : GJob) (c : List GMsg) (hl : c.length ≤ 2000) (hv : ∀ m ∈ c, i64 m.V) (q : Nat) (hq : q < 6) (d : List (List GMsg)) (hd : d.length ≤ 6) (k : List (List GMsg) → Option (Int ⊕ List (List GMsg))) :
   st116b K j (boxes j c) q d k = bif ieq (boxS j.Prog (toS j c (q : Int))).2 0 then k (d ++ [(boxS j.Prog (toS j c (q : Int))).1]) else some (.inl (boxS j.Prog (toS j c (q : Int))).2) := by
 have ap : apok (len d) 1 24 = true := decide_eq_true ⟨by show d.length + 1 ≤ _; omega, by show (d.length + 1) * 24 ≤ _; omega⟩
 have hlen := fun q => toS_len j c q
 have f := fun (q : Int) => F150_spec (K := K) j.Prog (toS j c q) (fun m hm => hv m (toS_mem hm).1) (by have := hlen q; omega) (by have := hlen q; omega)
 rw [st116b, boxes]
 simp only [f, Option.bind_some, ap, cond_true]
 rcases (by omega : q = 0 ∨ q = 1 ∨ q = 2 ∨ q = 3 ∨ q = 4 ∨ q = 5) with rfl | rfl | rfl | rfl | rfl | rfl <;> rfl
theorem go116b {K : Nat} (hK : 3000 ≤ K) (j : GJob) (c : List GMsg) (hl : c.length ≤ 2000) (hv : ∀ m ∈ c, i64 m.V) : ∀ (l : List Nat) (d : List (List GMsg)), (∀ q ∈ l, q < 6) → d.length + l.length ≤ 6 →
   goL (st116b K j (boxes j c)) (fun d => some (.inr d)) l d = some (tellS j c l d) := by
 intro l
 induction l with
 | nil => intro d _ _; rfl
 | cons q l ih =>
   intro d hq hd
   simp only [List.length_cons] at hd
   rw [goL, tell_step hK j c hl hv q (hq q List.mem_cons_self) d (by omega), tellS, ih _ (fun y hy => hq y (List.mem_cons_of_mem _ hy)) (by simp only [List.length_append, List.length_singleton]; omega)]
   cases ieq (boxS j.Prog (toS j c (q : Int))).2 0 <;> rfl
theorem F116_spec {K : Nat} (hK : 3000 ≤ K) (g : GGraph) (j : GJob) (x : GPart) (hn : niceP x) (hin : x.In.length ≤ 300) (hp : i64 x.P) : F116 K g j x = some (doS g j x) := by
 rw [F116, F94_spec (by omega), F80_spec (by omega) g j x (by omega) (by omega) hp, Option.bind_some, Option.bind_some, doS]
 cases hc : ieq (jcheck g j) 0
 · rfl
 · cases hR : partRight g j x
   · rfl
   · cases h40 : ieq x.Step 40
     · obtain ⟨_, p1, p2, p3, p4, p5, p6, _⟩ := partRight_ok hR
       obtain ⟨hg, _, _, _, _, _, _, p7, p8⟩ := jcheck_ok hc
       obtain ⟨g1, g2, g3, _⟩ := gcheck_ok hg
       have hvl := verts_len g j g2 x.P
       rw [countS] at p5 p6
       have h := scanI (l := x.Vals) (L := fun k (s : S8) i => F116_l0_0 K g.N g.Edges j.Prog j.Source j.Limit j.Parts x.P x.Step x.Vals x.Rest x.In k s.1 s.2.1 s.2.2.1 s.2.2.2.1 s.2.2.2.2.1 s.2.2.2.2.2.1 s.2.2.2.2.2.2.1 s.2.2.2.2.2.2.2 i) (st116 K g j x) (fun s => some (.inr s)) (fun k s i _ => rfl) (by omega) K ([], [], boxes j []) 0 (by omega) (by omega)
       have h' : F116_l0_0 K g.N g.Edges j.Prog j.Source j.Limit j.Parts x.P x.Step x.Vals x.Rest x.In K [] [] [] [] [] [] [] [] 0 = some (boxT j (doA g j x (vertsS g j x.P) 0 [] [] [])) := by
         rw [show F116_l0_0 K g.N g.Edges j.Prog j.Source j.Limit j.Parts x.P x.Step x.Vals x.Rest x.In K [] [] [] [] [] [] [] [] 0 = _ from h]
         have := go116 hK g j x hR hn hin x.Vals.length 0 [] [] [] (by omega) (keepP0 g)
         rwa [List.drop_zero] at this
       simp only [cond_true, cond_false, h', Option.bind_some]
       cases hA : doA g j x (vertsS g j x.P) 0 [] [] [] with
       | inl e => rfl
       | inr w =>
         have kw := doA_keep hn _ 0 [] [] [] (keepP0 g) w hA
         have hwl := kw.lc
         have hw : wadd .i64 x.Step 1 = x.Step + 1 := wadd_i64 (by unfold i64; omega)
         have t := scanN (N := j.Parts) (L := fun k d i => F116_l2_2 K j.Prog j.Source j.Limit j.Parts x.P (x.Step + 1) w.1 w.2.1 (toS j w.2.2 0) (toS j w.2.2 1) (toS j w.2.2 2) (toS j w.2.2 3) (toS j w.2.2 4) (toS j w.2.2 5) k d i) (fun q d c => st116b K j (boxes j w.2.2) q d c) (fun d => some (.inr d)) (fun k d i _ => rfl) (by omega) (K := K) (by omega) []
         have t' : F116_l2_2 K j.Prog j.Source j.Limit j.Parts x.P (x.Step + 1) w.1 w.2.1 (toS j w.2.2 0) (toS j w.2.2 1) (toS j w.2.2 2) (toS j w.2.2 3) (toS j w.2.2 4) (toS j w.2.2 5) K [] 0 = some (tellS j w.2.2 (List.range j.Parts.toNat) []) := by
           rw [show F116_l2_2 K j.Prog j.Source j.Limit j.Parts x.P (x.Step + 1) w.1 w.2.1 (toS j w.2.2 0) (toS j w.2.2 1) (toS j w.2.2 2) (toS j w.2.2 3) (toS j w.2.2 4) (toS j w.2.2 5) K [] 0 = _ from t]
           exact go116b hK j w.2.2 (by omega) kw.vc _ [] (fun q hq => by have := List.mem_range.1 hq; omega) (by rw [List.length_range]; simp only [List.length_nil]; omega)
         simp only [boxT, Sum.elim_inr, boxes, hw, t', Option.bind_some, doB]
         cases tellS j w.2.2 (List.range j.Parts.toNat) [] <;> rfl
     · rfl
noncomputable def hn35 : Hint := { H 35 with nt := 49, prot := 0 }
def F35_res (r1 : Bool) : Res := ⟨[(.one (.im (.lit (.bool r1))))], []⟩
def F35 (K : Nat) (a1 : GGraph) (a2 : GJob) (a3 : GPart) : Option (Bool) :=
 (F113 K a1).bind fun r4 =>
 bif r4 then
  (some true)
 else
 (F114 K a3).bind fun r5 =>
 bif r5 then
  (some true)
 else
 (F116 K a1 a2 a3).bind fun r6 =>
 (F117 K a1 a2 a3).bind fun r7 =>
 (F118 K r6.1 r7.X).bind fun r8 =>
 bif r8 then
  ((F119 K r6.2.1 r7.Out).bind fun r9 =>
  bif r9 then
   (bif (ieq r6.2.2 r7.E) then
    (some true)
   else
   some false)
  else
  some false)
 else
 some false
theorem F35_ok (K : Nat) (a1 : GGraph) (a2 : GJob) (a3 : GPart) (r : Bool) (hF : F35 K a1 a2 a3 = some r) : Evt E H 35 [.agg (eGGraph a1), .agg (eGJob a2), .agg (eGPart a3)] (F35_res r) := by
 rw [F35] at hF
 refine bind_some hF (fun r4 h5 hF => ?_)
 refine cond_some hF (fun h6 hF => ?_) (fun h6 hF => ?_)
 ·
  obtain rfl := Option.some.inj hF
  have pz : HoldAll E H hn35 [.call 113 [.agg (eGGraph a1)] (F113_res r4), .test (leadsAny (Res.mk [(.one (.im (.lit (.bool r4))))] [])) false, .test (beqb r4 false) false, .test (beqb r4 false) false, .test r4 true, .test true true, .call 115 [] (Res.mk [(.one (.im (.lit (.bool true))))] []), .test (leadsAny (Res.mk [(.one (.im (.lit (.bool true))))] [])) false] := ⟨(F113_ok K a1 _ h5), (leads_ok (by simp [leadsAny, RV.leads, RC.leads, leadsT, hasSl_lit])), (beqb_ft h6), (beqb_ft h6), h6, rfl, knows115, (leads_ok (by simp [leadsAny, RV.leads, RC.leads, leadsT, hasSl_lit])), trivial⟩
  exact fn_playC hn35 (r := F35_res true) pz (by kernel_rfl) (by kernel_rfl)
 refine bind_some hF (fun r7 h8 hF => ?_)
 have q21 : PQ hn35 fun l => (.call 113 [.agg (eGGraph a1)] (F113_res r4) :: .test (leadsAny (Res.mk [(.one (.im (.lit (.bool r4))))] [])) false :: .test (beqb r4 false) true :: .test (beqb r4 false) true :: .call 114 [.agg (eGPart a3)] (F114_res r7) :: .test (leadsAny (Res.mk [(.one (.im (.lit (.bool r7))))] [])) false :: .test r4 false :: l) := fun z => ⟨(F113_ok K a1 _ h5), (leads_ok (by simp [leadsAny, RV.leads, RC.leads, leadsT, hasSl_lit])), (beqb_ff h6), (beqb_ff h6), (F114_ok K a3 _ h8), (leads_ok (by simp [leadsAny, RV.leads, RC.leads, leadsT, hasSl_lit])), h6, z⟩
 refine cond_some hF (fun h9 hF => ?_) (fun h9 hF => ?_)
 ·
  obtain rfl := Option.some.inj hF
  have pz : HoldAll E H hn35 [.test r7 true, .call 115 [] (Res.mk [(.one (.im (.lit (.bool true))))] []), .test (leadsAny (Res.mk [(.one (.im (.lit (.bool true))))] [])) false] := ⟨h9, knows115, (leads_ok (by simp [leadsAny, RV.leads, RC.leads, leadsT, hasSl_lit])), trivial⟩
  exact fn_playC hn35 (r := F35_res true) (q21 pz) (by kernel_rfl) (by kernel_rfl)
 refine bind_some hF (fun r10 h11 hF => ?_)
 refine bind_some hF (fun r12 h13 hF => ?_)
 refine bind_some hF (fun r14 h15 hF => ?_)
 have q22 : PQ hn35 fun l => (.test r7 false :: .call 116 [.agg (eGGraph a1), .agg (eGJob a2), .agg (eGPart a3)] (F116_res r10) :: .call 117 [.agg (eGGraph a1), .agg (eGJob a2), .agg (eGPart a3)] (F117_res r12) :: .call 118 [.agg (eGPart r10.1), .agg (eGPart r12.X)] (F118_res r14) :: .test (leadsAny (Res.mk [(.one (.im (.lit (.bool r14))))] [])) false :: l) := fun z => ⟨h9, (F116_ok K a1 a2 a3 _ h11), (F117_ok K a1 a2 a3 _ h13), (F118_ok K r10.1 r12.X _ h15), (leads_ok (by simp [leadsAny, RV.leads, RC.leads, leadsT, hasSl_lit, flat_ns eGJob_ns])), z⟩
 refine cond_some hF (fun h16 hF => ?_) (fun h16 hF => ?_)
 ·
  refine bind_some hF (fun r17 h18 hF => ?_)
  have q23 : PQ hn35 fun l => (.test (beqb r14 true) true :: .test (beqb r14 true) true :: .test (beqb r14 true) true :: .test (beqb r14 true) true :: .call 119 [.one (.sl (len r10.2.1) (flat (eSl eGMsg) r10.2.1)), .one (.sl (len r12.Out) (flat (eSl eGMsg) r12.Out))] (F119_res r17) :: .test (leadsAny (Res.mk [(.one (.im (.lit (.bool r17))))] [])) false :: .test r14 true :: l) := fun z => ⟨(beqb_t h16), (beqb_t h16), (beqb_t h16), (beqb_t h16), (F119_ok K r10.2.1 r12.Out _ h18), (leads_ok (by simp [leadsAny, RV.leads, RC.leads, leadsT, hasSl_lit, flat_ns eGMsg_ns])), h16, z⟩
  refine cond_some hF (fun h19 hF => ?_) (fun h19 hF => ?_)
  ·
   have q24 : PQ hn35 fun l => (.test (beqb r17 true) true :: .test (beqb r17 true) true :: .test (beqb r17 true) true :: .test (beqb r17 true) true :: .test r17 true :: l) := fun z => ⟨(beqb_t h19), (beqb_t h19), (beqb_t h19), (beqb_t h19), h19, z⟩
   refine cond_some hF (fun h20 hF => ?_) (fun h20 hF => ?_)
   ·
    obtain rfl := Option.some.inj hF
    have pz : HoldAll E H hn35 [.test (beqb (ieq r10.2.2 r12.E) true) true, .call 115 [] (Res.mk [(.one (.im (.lit (.bool true))))] []), .test (leadsAny (Res.mk [(.one (.im (.lit (.bool true))))] [])) false, .test (ieq r10.2.2 r12.E) true] := ⟨(beqb_t h20), knows115, (leads_ok (by simp [leadsAny, RV.leads, RC.leads, leadsT, hasSl_lit])), h20, trivial⟩
    exact fn_playC hn35 (r := F35_res true) (q21 (q22 (q23 (q24 pz)))) (by kernel_rfl) (by kernel_rfl)
   obtain rfl := Option.some.inj hF
   have pz : HoldAll E H hn35 [.test (beqb (ieq r10.2.2 r12.E) true) false, .test (ieq r10.2.2 r12.E) false] := ⟨(beqb_t h20), h20, trivial⟩
   exact fn_playC hn35 (r := F35_res false) (q21 (q22 (q23 (q24 pz)))) (by kernel_rfl) (by kernel_rfl)
  obtain rfl := Option.some.inj hF
  have pz : HoldAll E H hn35 [.test (beqb r17 true) false, .test (beqb r17 true) false, .test (beqb r17 true) false, .test (beqb r17 true) false, .test r17 false, .test (beqb false true) false, .test false false] := ⟨(beqb_t h19), (beqb_t h19), (beqb_t h19), (beqb_t h19), h19, (beqb_t rfl), rfl, trivial⟩
  exact fn_playC hn35 (r := F35_res false) (q21 (q22 (q23 pz))) (by kernel_rfl) (by kernel_rfl)
 obtain rfl := Option.some.inj hF
 have pz : HoldAll E H hn35 [.test (beqb r14 true) false, .test (beqb r14 true) false, .test (beqb r14 true) false, .test (beqb r14 true) false, .test r14 false, .test (beqb false true) false, .test (beqb false true) false, .test (beqb false true) false, .test (beqb false true) false, .test false false, .test (beqb false true) false, .test false false] := ⟨(beqb_t h16), (beqb_t h16), (beqb_t h16), (beqb_t h16), h16, (beqb_t rfl), (beqb_t rfl), (beqb_t rfl), (beqb_t rfl), rfl, (beqb_t rfl), rfl, trivial⟩
 exact fn_playC hn35 (r := F35_res false) (q21 (q22 pz)) (by kernel_rfl) (by kernel_rfl)
theorem doA_bad {g : GGraph} {j : GJob} {x : GPart} : ∀ (l : List Nat) (i : Nat) (a : List Int) (b : List Bool) (c : List GMsg) (e : Int), doA g j x l i a b c = .inl e → ieq e 0 = false := by
 intro l
 induction l with
 | nil => intro i a b c e h; cases h
 | cons v l ih =>
   intro i a b c e h
   rw [doA] at h
   cases hq : ieq (oneP g j x i v).2.2.2 0
   · rw [hq] at h
     injection h with h
     rw [← h]; exact hq
   · rw [hq] at h; exact ih _ _ _ _ _ h
theorem tell_cases {j : GJob} {c : List GMsg} : ∀ (l : List Nat) (d : List (List GMsg)), (∃ e, ieq e 0 = false ∧ tellS j c l d = .inl e) ∨ (tellS j c l d = .inr (d ++ l.map fun (q : Nat) => (boxS j.Prog (toS j c (q : Int))).1) ∧ ∀ q ∈ l, ieq (boxS j.Prog (toS j c (q : Int))).2 0 = true) := by
 intro l
 induction l with
 | nil => intro d; exact .inr ⟨by rw [tellS, List.map_nil, List.append_nil], fun q hq => absurd hq List.not_mem_nil⟩
 | cons q l ih =>
   intro d
   rw [tellS]
   cases hq : ieq (boxS j.Prog (toS j c (q : Int))).2 0
   · exact .inl ⟨_, hq, rfl⟩
   · rcases ih (d ++ [(boxS j.Prog (toS j c (q : Int))).1]) with h | ⟨h, h'⟩
     · exact .inl h
     · refine .inr ⟨by rw [cond_true, h]; simp, fun y hy => ?_⟩
       rcases List.mem_cons.1 hy with rfl | hy
       · exact hq
       · exact h' y hy
theorem do_cases (g : GGraph) (j : GJob) {x : GPart} (hn : niceP x) : (∃ e, ieq e 0 = false ∧ doS g j x = (zeroP, [], e)) ∨
   (ieq (jcheck g j) 0 = true ∧ partRight g j x = true ∧ ieq x.Step 40 = false ∧ ∃ w, doA g j x (vertsS g j x.P) 0 [] [] [] = .inr w ∧ keepP g (vertsS g j x.P).length w.1 w.2.1 w.2.2 ∧
     (∀ q < j.Parts.toNat, ieq (boxS j.Prog (toS j w.2.2 (q : Int))).2 0 = true) ∧
     doS g j x = (GPart.mk x.P (x.Step + 1) w.1 w.2.1 [], (List.range j.Parts.toNat).map (fun (q : Nat) => (boxS j.Prog (toS j w.2.2 (q : Int))).1), 0)) := by
 rw [doS]
 cases hc : ieq (jcheck g j) 0
 · exact .inl ⟨_, hc, rfl⟩
 · cases hR : partRight g j x
   · exact .inl ⟨_, rfl, rfl⟩
   · cases h40 : ieq x.Step 40
     · cases hA : doA g j x (vertsS g j x.P) 0 [] [] [] with
       | inl e => exact .inl ⟨e, doA_bad _ _ _ _ _ _ hA, rfl⟩
       | inr w =>
         have kw := doA_keep hn _ 0 [] [] [] (keepP0 g) w hA
         rw [Nat.zero_add] at kw
         rcases tell_cases (j := j) (c := w.2.2) (List.range j.Parts.toNat) [] with ⟨e, h1, h2⟩ | ⟨h, h'⟩
         · refine .inl ⟨e, h1, ?_⟩
           simp only [cond_true, cond_false, doB, h2, doC]
         · refine .inr ⟨rfl, rfl, rfl, w, rfl, kw, fun q hq => h' q (List.mem_range.2 hq), ?_⟩
           simp only [cond_true, cond_false, doB, h, doC, List.nil_append]
     · exact .inl ⟨_, rfl, rfl⟩
theorem same119 {K : Nat} (l : List (List GMsg)) (hl : l.length < 1000000) (hK : l.length < K) (hs : ∀ x ∈ l, x.length < 1000000 ∧ x.length < K) : F119 K l l = some true := by
 have h := scanI (l := l) (L := fun k (_ : Unit) i => F119_l0_0 K l l k i) (fun i x (_ : Unit) c => bif inr (i : Int) (len l) then (elAt l (i : Int)).bind fun y => (F89 K x y).bind fun r => bif r then c () else some (.inl ()) else none) (fun _ => some (.inr ())) (fun k st i hi => rfl) (by omega) K () 0 (by omega) (by omega)
 have g := self_go (l := l) (fun x y c => (F89 K x y).bind fun r => bif r then c else some (.inl ())) (fun x hx c => by rw [same89 x (hs x hx).1 (hs x hx).2]; rfl) l 0 rfl
 have h' : F119_l0_0 K l l K 0 = some (.inr ()) := h.trans g
 rw [F119, ieq_refl, h']; rfl
theorem do_fit {K : Nat} (hK : 3000 ≤ K) (g : GGraph) (j : GJob) {x : GPart} (hn : niceP x) : fitP K (doS g j x).1 ∧ (doS g j x).2.1.length ≤ 6 ∧ ∀ l ∈ (doS g j x).2.1, l.length ≤ 2000 := by
 have hz : fitP K zeroP := by refine ⟨⟨?_, ?_⟩, ⟨?_, ?_⟩, ?_, ?_⟩ <;> simp [zeroP] <;> omega
 rcases do_cases g j hn with ⟨e, _, h⟩ | ⟨hc, hR, _, w, _, kw, _, h⟩
 · rw [h]; exact ⟨hz, Nat.zero_le _, fun l hl => absurd hl List.not_mem_nil⟩
 · obtain ⟨hg, _, _, _, _, _, _, p7, p8⟩ := jcheck_ok hc
   obtain ⟨g1, g2, g3, _⟩ := gcheck_ok hg
   have hvl := verts_len g j g2 x.P
   have h1 := kw.la
   have h2 := kw.lb
   have h3 := kw.lc
   rw [h]
   refine ⟨⟨⟨by show w.1.length < _; omega, by show w.1.length < _; omega⟩, ⟨by show w.2.1.length < _; omega, by show w.2.1.length < _; omega⟩, by show 0 < 1000000; omega, by show 0 < K; omega⟩, ?_, fun l hl => ?_⟩
   · show ((List.range j.Parts.toNat).map _).length ≤ 6
     rw [List.length_map, List.length_range]; omega
   · obtain ⟨q, hq, rfl⟩ := List.mem_map.1 hl
     have := (boxS_ok (p := j.Prog) (l := toS j w.2.2 (q : Int)) fun m hm => kw.vc m (toS_mem hm).1).1
     have := toS_len j w.2.2 (q : Int)
     omega
theorem law35 (g : GGraph) (j : GJob) (x : GPart) (_ : WGGraph g) (_ : WGJob j) (hx : WGPart x) : F35 3000 g j x = some true := by
 generalize hq : 3000 = K
 have hK : 3000 ≤ K := by omega
 rw [F35, F113, F114_spec, Option.bind_some, Option.bind_some]
 cases igt (nlen (len g.Edges)) 200
 · cases hb : broadP8 x
   · obtain ⟨b1, b2, b3⟩ := broadP8_f hb
     have hn := wf_niceP hx
     obtain ⟨f1, f2, f3⟩ := do_fit hK g j hn
     rw [cond_false, cond_false, F116_spec hK g j x hn b3 (i64_wf hx.1), F117_spec hK g j x hn b3, Option.bind_some, Option.bind_some]
     have s1 : F118 K (doS g j x).1 (doneS (doS g j x)).X = some true := same118 _ f1
     have s2 : F119 K (doS g j x).2.1 (doneS (doS g j x)).Out = some true := same119 _ (by omega) (by omega) (fun l hl => by have := f3 l hl; omega)
     have s3 : ieq (doS g j x).2.2 (doneS (doS g j x)).E = true := ieq_refl _
     rw [s1, Option.bind_some, cond_true, s2, Option.bind_some, cond_true, s3, cond_true]
   · rfl
 · rfl
end Go.Proofs.Ytnjanliihnadjaa.Tm

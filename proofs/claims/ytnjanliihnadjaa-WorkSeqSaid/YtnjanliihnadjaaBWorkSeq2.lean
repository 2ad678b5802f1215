/- What the row of WorkSeq leans on: printed functions and plain laws. Conditions: none. -/
import Derived.Test.YtnjanliihnadjaaTy
import Derived.Test.YtnjanliihnadjaaTab
import Derived.Test.YtnjanliihnadjaaKn
import Derived.Test.YtnjanliihnadjaaWf
import Derived.IntWalk
import Derived.KernelRfl
import Derived.OpenShut
import Derived.Test.YtnjanliihnadjaaBWorkSeq1
set_option linter.unusedVariables false
set_option linter.unusedSimpArgs false
namespace Go.Proofs.Ytnjanliihnadjaa.Tm
open Go
theorem F99_ok (K : Nat) (a1 : GGraph) (a2 : GJob) (a3 : Int) (a4 : Int) (a5 : Int) (a6 : Int) (a7 : Bool) (r : Int × List GMsg × Bool × Int) (hF : F99 K a1 a2 a3 a4 a5 a6 a7 = some r) : Evt E H 99 [.agg (eGGraph a1), .agg (eGJob a2), .one (.lit (.int .i64 a3)), .one (.lit (.int .i64 a4)), .one (.lit (.int .i64 a5)), .one (.lit (.int .i64 a6)), .one (.lit (.bool a7))] (F99_res r) := by
 rw [F99] at hF
 refine bind_some hF (fun r8 h9 hF => ?_)
 refine cond_some hF (fun h10 hF => ?_) (fun h10 hF => ?_)
 ·
  have q236 : PQ hn99 fun l => (.call 94 [.agg (eGGraph a1), .agg (eGJob a2)] (F94_res r8) :: (ff (leadsAny (Res.mk [(.one (.im (i6 r8)))] []))) :: (ff (ine r8 0)) :: l) := fun z => ⟨(F94_ok K a1 a2 _ h9), lk, (ine_t h10), z⟩
  refine cond_some hF (fun h11 hF => ?_) (fun h11 hF => ?_)
  ·
   obtain rfl := sj hF
   have pz : HA hn99 [(bf (ilt a4 0)), (bf (ilt a4 0)), (bf (ilt a4 0)), (bf (ilt a4 0)), (tt (ilt a4 0)), (tt true)] := ⟨(bA h11), (bA h11), (bA h11), (bA h11), h11, rfl, trivial⟩
   exact fpC hn99 (r := F99_res (0, ([], (false, 4)))) (q236 pz)
  have q237 : PQ hn99 fun l => ((bg (ilt a4 0)) :: (bg (ilt a4 0)) :: (bg (ilt a4 0)) :: (bg (ilt a4 0)) :: (ff (ilt a4 0)) :: l) := fun z => ⟨(bB h11), (bB h11), (bB h11), (bB h11), h11, z⟩
  refine cond_some hF (fun h12 hF => ?_) (fun h12 hF => ?_)
  ·
   obtain rfl := sj hF
   have pz : HA hn99 [(tt (ige a4 a1.N))] := ⟨(ige_eq h12), trivial⟩
   exact fpC hn99 (r := F99_res (0, ([], (false, 4)))) (q236 (q237 pz))
  refine cond_some hF (fun h13 hF => ?_) (fun h13 hF => ?_)
  ·
   obtain rfl := sj hF
   have pz : HA hn99 [(ff (ige a4 a1.N)), (bf (ilt a3 0)), (bf (ilt a3 0)), (tt (ilt a3 0)), (tt true)] := ⟨(ige_eq h12), (bA h13), (bA h13), h13, rfl, trivial⟩
   exact fpC hn99 (r := F99_res (0, ([], (false, 1)))) (q236 (q237 pz))
  have q238 : PQ hn99 fun l => ((ff (ige a4 a1.N)) :: (bg (ilt a3 0)) :: (bg (ilt a3 0)) :: (ff (ilt a3 0)) :: l) := fun z => ⟨(ige_eq h12), (bB h13), (bB h13), h13, z⟩
  refine cond_some hF (fun h14 hF => ?_) (fun h14 hF => ?_)
  ·
   obtain rfl := sj hF
   have pz : HA hn99 [(tt (igt a3 40))] := ⟨(igt_eq h14), trivial⟩
   exact fpC hn99 (r := F99_res (0, ([], (false, 1)))) (q236 (q237 (q238 pz)))
  refine cond_some hF (fun h15 hF => ?_) (fun h15 hF => ?_)
  ·
   refine bind_some hF (fun r16 h17 hF => ?_)
   refine cond_some hF (fun h18 hF => ?_) (fun h18 hF => ?_)
   ·
    refine bind_some hF (fun r19 h20 hF => ?_)
    have q239 : PQ hn99 fun l => ((ff (igt a3 40)) :: (ff (bnot a7)) :: .call 143 [.one (i6 a2.Prog)] (F143_res0 r16) :: (ff (leadsAny (Res.mk [(.agg [(.im (.lit (fnV 158))), (.im (.lit (fnV 159))), (.im (.lit (.bool r16.1.only_))), (.im (.lit (fnV 160)))]), (.one (.im (.lit (.bool r16.2))))] []))) :: .call 68 [.agg (eGGraph a1), .one (i6 a4)] (F68_res r19) :: (ff (leadsAny (Res.mk [(.one (.own 89 (.sl (len r19) (flat eGEdge r19))))] []))) :: (ff false) :: l) := fun z => ⟨(igt_eq h14), (bnot_t h15), (F143_ok0 _ h18 (F143_ok K a2.Prog _ h17)), lk, (F68_ok K a1 a4 _ h20), lk, rfl, z⟩
    refine cond_some hF (fun h21 hF => ?_) (fun h21 hF => ?_)
    ·
     have q240 : PQ hn99 fun l => ((bh (ieq a3 0)) :: (bh (ieq a3 0)) :: (bh (ieq a3 0)) :: (bh (ieq a3 0)) :: l) := fun z => ⟨(bC h21), (bC h21), (bC h21), (bC h21), z⟩
     refine cond_some hF (fun h22 hF => ?_) (fun h22 hF => ?_)
     ·
      refine bind_some hF (fun r23 h24 hF => ?_)
      have q241 : PQ hn99 fun l => ((bg (bnot r16.1.only_)) :: (bg (bnot r16.1.only_)) :: (bg (bnot r16.1.only_)) :: (bg (bnot r16.1.only_)) :: (bh (ieq a3 0)) :: (ff (bnot r16.1.only_)) :: (tt (ieq a3 0)) :: (bh a7) :: (bh a7) :: (bh a7) :: (bh a7) :: (bh a7) :: .call 159 [.one (i6 a6), .one (i6 a5)] (F159_res r23) :: (ff (leadsAny (Res.mk [(.one (.im (.lit (.bool r23))))] []))) :: (tt a7) :: l) := fun z => ⟨(bB (bnot_t h22)), (bB (bnot_t h22)), (bB (bnot_t h22)), (bB (bnot_t h22)), (bC h21), (bnot_t h22), h21, (bC h15), (bC h15), (bC h15), (bC h15), (bC h15), (F159_ok K a6 a5 _ h24), lk, h15, z⟩
      refine cond_some hF (fun h25 hF => ?_) (fun h25 hF => ?_)
      ·
       have q242 : PQ hn99 fun l => ((tt r23) :: (ff (bnot true)) :: .int (nl r19) (nl r19) :: l) := fun z => ⟨h25, (bnot_t rfl), rfl, z⟩
       refine bind_some hF (fun y27 h26 hF => ?_)
       refine sum_some hF (fun w28 hx hF => ?_) (fun w29 hx hF => ?_)
       ·
        subst hx
        obtain rfl := sj hF
        have pz : HA hn99 [.loop 0 c99_0 (F99_l0_0_S a6 r16.1.only_ r19 [] 0) .ret (F99_l0_0_X0 a6 r16.1.only_ r19 w28)] := ⟨(F99_l0_0_ok K a6 r16.1.only_ r19 K [] 0 _ h26), trivial⟩
        exact fpC hn99 (r := F99_res (0, ([], (false, 8)))) (q236 (q237 (q238 (q239 (q240 (q241 (q242 pz)))))))
       subst hx
       obtain rfl := sj hF
       have pz : HA hn99 [.loop 0 c99_0 (F99_l0_0_S a6 r16.1.only_ r19 [] 0) (.exit 0) (F99_l0_0_X1 a6 r16.1.only_ r19 w29)] := ⟨(F99_l0_0_ok K a6 r16.1.only_ r19 K [] 0 _ h26), trivial⟩
       exact fpC hn99 (r := F99_res (a6, (w29, (true, 0)))) (q236 (q237 (q238 (q239 (q240 (q241 (q242 pz)))))))
      refine cond_some hF (fun h30 hF => ?_) (fun h30 hF => ?_)
      ·
       have q243 : PQ hn99 fun l => ((ff r23) :: (ff (bnot (ieq a4 a2.Source))) :: .int (nl r19) (nl r19) :: l) := fun z => ⟨h25, (bnot_t h30), rfl, z⟩
       refine bind_some hF (fun y32 h31 hF => ?_)
       refine sum_some hF (fun w33 hx hF => ?_) (fun w34 hx hF => ?_)
       ·
        subst hx
        obtain rfl := sj hF
        have pz : HA hn99 [.loop 0 c99_0 (F99_l0_0_S a5 r16.1.only_ r19 [] 0) .ret (F99_l0_0_X0 a5 r16.1.only_ r19 w33)] := ⟨(F99_l0_0_ok K a5 r16.1.only_ r19 K [] 0 _ h31), trivial⟩
        exact fpC hn99 (r := F99_res (0, ([], (false, 8)))) (q236 (q237 (q238 (q239 (q240 (q241 (q243 pz)))))))
       subst hx
       obtain rfl := sj hF
       have pz : HA hn99 [.loop 0 c99_0 (F99_l0_0_S a5 r16.1.only_ r19 [] 0) (.exit 0) (F99_l0_0_X1 a5 r16.1.only_ r19 w34)] := ⟨(F99_l0_0_ok K a5 r16.1.only_ r19 K [] 0 _ h31), trivial⟩
       exact fpC hn99 (r := F99_res (a5, (w34, (true, 0)))) (q236 (q237 (q238 (q239 (q240 (q241 (q243 pz)))))))
      obtain rfl := sj hF
      have pz : HA hn99 [(ff r23), (tt (bnot (ieq a4 a2.Source)))] := ⟨h25, (bnot_f h30), trivial⟩
      exact fpC hn99 (r := F99_res (a5, ([], (true, 0)))) (q236 (q237 (q238 (q239 (q240 (q241 pz))))))
     refine bind_some hF (fun r35 h36 hF => ?_)
     have q244 : PQ hn99 fun l => ((bf (bnot r16.1.only_)) :: (bf (bnot r16.1.only_)) :: (bf (bnot r16.1.only_)) :: (bf (bnot r16.1.only_)) :: (bh (ieq a3 0)) :: (tt (bnot r16.1.only_)) :: (tt (ieq a3 0)) :: (bh a7) :: (bh a7) :: (bh a7) :: (bh a7) :: (bh a7) :: .call 159 [.one (i6 a6), .one (i6 a5)] (F159_res r35) :: (ff (leadsAny (Res.mk [(.one (.im (.lit (.bool r35))))] []))) :: (tt a7) :: l) := fun z => ⟨(bA (bnot_f h22)), (bA (bnot_f h22)), (bA (bnot_f h22)), (bA (bnot_f h22)), (bC h21), (bnot_f h22), h21, (bC h15), (bC h15), (bC h15), (bC h15), (bC h15), (F159_ok K a6 a5 _ h36), lk, h15, z⟩
     refine cond_some hF (fun h37 hF => ?_) (fun h37 hF => ?_)
     ·
      have q245 : PQ hn99 fun l => ((tt r35) :: (ff (bnot true)) :: .int (nl r19) (nl r19) :: l) := fun z => ⟨h37, (bnot_t rfl), rfl, z⟩
      refine bind_some hF (fun y39 h38 hF => ?_)
      refine sum_some hF (fun w40 hx hF => ?_) (fun w41 hx hF => ?_)
      ·
       subst hx
       obtain rfl := sj hF
       have pz : HA hn99 [.loop 0 c99_0 (F99_l0_0_S a6 r16.1.only_ r19 [] 0) .ret (F99_l0_0_X0 a6 r16.1.only_ r19 w40)] := ⟨(F99_l0_0_ok K a6 r16.1.only_ r19 K [] 0 _ h38), trivial⟩
       exact fpC hn99 (r := F99_res (0, ([], (false, 8)))) (q236 (q237 (q238 (q239 (q240 (q244 (q245 pz)))))))
      subst hx
      obtain rfl := sj hF
      have pz : HA hn99 [.loop 0 c99_0 (F99_l0_0_S a6 r16.1.only_ r19 [] 0) (.exit 0) (F99_l0_0_X1 a6 r16.1.only_ r19 w41)] := ⟨(F99_l0_0_ok K a6 r16.1.only_ r19 K [] 0 _ h38), trivial⟩
      exact fpC hn99 (r := F99_res (a6, (w41, (true, 0)))) (q236 (q237 (q238 (q239 (q240 (q244 (q245 pz)))))))
     have q246 : PQ hn99 fun l => ((ff r35) :: (ff (bnot true)) :: .int (nl r19) (nl r19) :: l) := fun z => ⟨h37, (bnot_t rfl), rfl, z⟩
     refine bind_some hF (fun y43 h42 hF => ?_)
     refine sum_some hF (fun w44 hx hF => ?_) (fun w45 hx hF => ?_)
     ·
      subst hx
      obtain rfl := sj hF
      have pz : HA hn99 [.loop 0 c99_0 (F99_l0_0_S a5 r16.1.only_ r19 [] 0) .ret (F99_l0_0_X0 a5 r16.1.only_ r19 w44)] := ⟨(F99_l0_0_ok K a5 r16.1.only_ r19 K [] 0 _ h42), trivial⟩
      exact fpC hn99 (r := F99_res (0, ([], (false, 8)))) (q236 (q237 (q238 (q239 (q240 (q244 (q246 pz)))))))
     subst hx
     obtain rfl := sj hF
     have pz : HA hn99 [.loop 0 c99_0 (F99_l0_0_S a5 r16.1.only_ r19 [] 0) (.exit 0) (F99_l0_0_X1 a5 r16.1.only_ r19 w45)] := ⟨(F99_l0_0_ok K a5 r16.1.only_ r19 K [] 0 _ h42), trivial⟩
     exact fpC hn99 (r := F99_res (a5, (w45, (true, 0)))) (q236 (q237 (q238 (q239 (q240 (q244 (q246 pz)))))))
    refine bind_some hF (fun r46 h47 hF => ?_)
    have q247 : PQ hn99 fun l => ((bk (ieq a3 0)) :: (bk (ieq a3 0)) :: (bk (ieq a3 0)) :: (bk (ieq a3 0)) :: (bk (ieq a3 0)) :: (ff (ieq a3 0)) :: (bh a7) :: (bh a7) :: (bh a7) :: (bh a7) :: (bh a7) :: .call 159 [.one (i6 a6), .one (i6 a5)] (F159_res r46) :: (ff (leadsAny (Res.mk [(.one (.im (.lit (.bool r46))))] []))) :: (tt a7) :: l) := fun z => ⟨(bC h21), (bC h21), (bC h21), (bC h21), (bC h21), h21, (bC h15), (bC h15), (bC h15), (bC h15), (bC h15), (F159_ok K a6 a5 _ h47), lk, h15, z⟩
    refine cond_some hF (fun h48 hF => ?_) (fun h48 hF => ?_)
    ·
     have q248 : PQ hn99 fun l => ((tt r46) :: (ff (bnot true)) :: .int (nl r19) (nl r19) :: l) := fun z => ⟨h48, (bnot_t rfl), rfl, z⟩
     refine bind_some hF (fun y50 h49 hF => ?_)
     refine sum_some hF (fun w51 hx hF => ?_) (fun w52 hx hF => ?_)
     ·
      subst hx
      obtain rfl := sj hF
      have pz : HA hn99 [.loop 0 c99_0 (F99_l0_0_S a6 r16.1.only_ r19 [] 0) .ret (F99_l0_0_X0 a6 r16.1.only_ r19 w51)] := ⟨(F99_l0_0_ok K a6 r16.1.only_ r19 K [] 0 _ h49), trivial⟩
      exact fpC hn99 (r := F99_res (0, ([], (false, 8)))) (q236 (q237 (q238 (q239 (q247 (q248 pz))))))
     subst hx
     obtain rfl := sj hF
     have pz : HA hn99 [.loop 0 c99_0 (F99_l0_0_S a6 r16.1.only_ r19 [] 0) (.exit 0) (F99_l0_0_X1 a6 r16.1.only_ r19 w52)] := ⟨(F99_l0_0_ok K a6 r16.1.only_ r19 K [] 0 _ h49), trivial⟩
     exact fpC hn99 (r := F99_res (a6, (w52, (true, 0)))) (q236 (q237 (q238 (q239 (q247 (q248 pz))))))
    obtain rfl := sj hF
    have pz : HA hn99 [(ff r46), (tt (bnot false))] := ⟨h48, (bnot_f rfl), trivial⟩
    exact fpC hn99 (r := F99_res (a5, ([], (true, 0)))) (q236 (q237 (q238 (q239 (q247 pz)))))
   refine cond_some hF (fun h53 hF => ?_) (fun h53 hF => ?_)
   ·
    refine bind_some hF (fun r54 h55 hF => ?_)
    have q249 : PQ hn99 fun l => ((ff (igt a3 40)) :: (ff (bnot a7)) :: .call 143 [.one (i6 a2.Prog)] (F143_res1 r16) :: (ff (leadsAny (Res.mk [(.agg [(.im (.lit (fnV 158))), (.im (.lit (fnV 159))), (.im (.lit (.bool r16.1.only_))), (.im (.lit (fnV 161)))]), (.one (.im (.lit (.bool r16.2))))] []))) :: .call 68 [.agg (eGGraph a1), .one (i6 a4)] (F68_res r54) :: (ff (leadsAny (Res.mk [(.one (.own 89 (.sl (len r54) (flat eGEdge r54))))] []))) :: (ff false) :: l) := fun z => ⟨(igt_eq h14), (bnot_t h15), (F143_ok1 _ h53 (F143_ok K a2.Prog _ h17)), lk, (F68_ok K a1 a4 _ h55), lk, rfl, z⟩
    refine cond_some hF (fun h56 hF => ?_) (fun h56 hF => ?_)
    ·
     have q250 : PQ hn99 fun l => ((bh (ieq a3 0)) :: (bh (ieq a3 0)) :: (bh (ieq a3 0)) :: (bh (ieq a3 0)) :: l) := fun z => ⟨(bC h56), (bC h56), (bC h56), (bC h56), z⟩
     refine cond_some hF (fun h57 hF => ?_) (fun h57 hF => ?_)
     ·
      refine bind_some hF (fun r58 h59 hF => ?_)
      have q251 : PQ hn99 fun l => ((bg (bnot r16.1.only_)) :: (bg (bnot r16.1.only_)) :: (bg (bnot r16.1.only_)) :: (bg (bnot r16.1.only_)) :: (bh (ieq a3 0)) :: (ff (bnot r16.1.only_)) :: (tt (ieq a3 0)) :: (bh a7) :: (bh a7) :: (bh a7) :: (bh a7) :: (bh a7) :: .call 159 [.one (i6 a6), .one (i6 a5)] (F159_res r58) :: (ff (leadsAny (Res.mk [(.one (.im (.lit (.bool r58))))] []))) :: (tt a7) :: l) := fun z => ⟨(bB (bnot_t h57)), (bB (bnot_t h57)), (bB (bnot_t h57)), (bB (bnot_t h57)), (bC h56), (bnot_t h57), h56, (bC h15), (bC h15), (bC h15), (bC h15), (bC h15), (F159_ok K a6 a5 _ h59), lk, h15, z⟩
      refine cond_some hF (fun h60 hF => ?_) (fun h60 hF => ?_)
      ·
       have q252 : PQ hn99 fun l => ((tt r58) :: (ff (bnot true)) :: .int (nl r54) (nl r54) :: l) := fun z => ⟨h60, (bnot_t rfl), rfl, z⟩
       refine bind_some hF (fun y62 h61 hF => ?_)
       refine sum_some hF (fun w63 hx hF => ?_) (fun w64 hx hF => ?_)
       ·
        subst hx
        obtain rfl := sj hF
        have pz : HA hn99 [.loop 0 c99_0 (F99_l0_1_S a6 r16.1.only_ r54 [] 0) .ret (F99_l0_1_X0 a6 r16.1.only_ r54 w63)] := ⟨(F99_l0_1_ok K a6 r16.1.only_ r54 K [] 0 _ h61), trivial⟩
        exact fpC hn99 (r := F99_res (0, ([], (false, 8)))) (q236 (q237 (q238 (q249 (q250 (q251 (q252 pz)))))))
       subst hx
       obtain rfl := sj hF
       have pz : HA hn99 [.loop 0 c99_0 (F99_l0_1_S a6 r16.1.only_ r54 [] 0) (.exit 0) (F99_l0_1_X1 a6 r16.1.only_ r54 w64)] := ⟨(F99_l0_1_ok K a6 r16.1.only_ r54 K [] 0 _ h61), trivial⟩
       exact fpC hn99 (r := F99_res (a6, (w64, (true, 0)))) (q236 (q237 (q238 (q249 (q250 (q251 (q252 pz)))))))
      refine cond_some hF (fun h65 hF => ?_) (fun h65 hF => ?_)
      ·
       have q253 : PQ hn99 fun l => ((ff r58) :: (ff (bnot (ieq a4 a2.Source))) :: .int (nl r54) (nl r54) :: l) := fun z => ⟨h60, (bnot_t h65), rfl, z⟩
       refine bind_some hF (fun y67 h66 hF => ?_)
       refine sum_some hF (fun w68 hx hF => ?_) (fun w69 hx hF => ?_)
       ·
        subst hx
        obtain rfl := sj hF
        have pz : HA hn99 [.loop 0 c99_0 (F99_l0_1_S a5 r16.1.only_ r54 [] 0) .ret (F99_l0_1_X0 a5 r16.1.only_ r54 w68)] := ⟨(F99_l0_1_ok K a5 r16.1.only_ r54 K [] 0 _ h66), trivial⟩
        exact fpC hn99 (r := F99_res (0, ([], (false, 8)))) (q236 (q237 (q238 (q249 (q250 (q251 (q253 pz)))))))
       subst hx
       obtain rfl := sj hF
       have pz : HA hn99 [.loop 0 c99_0 (F99_l0_1_S a5 r16.1.only_ r54 [] 0) (.exit 0) (F99_l0_1_X1 a5 r16.1.only_ r54 w69)] := ⟨(F99_l0_1_ok K a5 r16.1.only_ r54 K [] 0 _ h66), trivial⟩
       exact fpC hn99 (r := F99_res (a5, (w69, (true, 0)))) (q236 (q237 (q238 (q249 (q250 (q251 (q253 pz)))))))
      obtain rfl := sj hF
      have pz : HA hn99 [(ff r58), (tt (bnot (ieq a4 a2.Source)))] := ⟨h60, (bnot_f h65), trivial⟩
      exact fpC hn99 (r := F99_res (a5, ([], (true, 0)))) (q236 (q237 (q238 (q249 (q250 (q251 pz))))))
     refine bind_some hF (fun r70 h71 hF => ?_)
     have q254 : PQ hn99 fun l => ((bf (bnot r16.1.only_)) :: (bf (bnot r16.1.only_)) :: (bf (bnot r16.1.only_)) :: (bf (bnot r16.1.only_)) :: (bh (ieq a3 0)) :: (tt (bnot r16.1.only_)) :: (tt (ieq a3 0)) :: (bh a7) :: (bh a7) :: (bh a7) :: (bh a7) :: (bh a7) :: .call 159 [.one (i6 a6), .one (i6 a5)] (F159_res r70) :: (ff (leadsAny (Res.mk [(.one (.im (.lit (.bool r70))))] []))) :: (tt a7) :: l) := fun z => ⟨(bA (bnot_f h57)), (bA (bnot_f h57)), (bA (bnot_f h57)), (bA (bnot_f h57)), (bC h56), (bnot_f h57), h56, (bC h15), (bC h15), (bC h15), (bC h15), (bC h15), (F159_ok K a6 a5 _ h71), lk, h15, z⟩
     refine cond_some hF (fun h72 hF => ?_) (fun h72 hF => ?_)
     ·
      have q255 : PQ hn99 fun l => ((tt r70) :: (ff (bnot true)) :: .int (nl r54) (nl r54) :: l) := fun z => ⟨h72, (bnot_t rfl), rfl, z⟩
      refine bind_some hF (fun y74 h73 hF => ?_)
      refine sum_some hF (fun w75 hx hF => ?_) (fun w76 hx hF => ?_)
      ·
       subst hx
       obtain rfl := sj hF
       have pz : HA hn99 [.loop 0 c99_0 (F99_l0_1_S a6 r16.1.only_ r54 [] 0) .ret (F99_l0_1_X0 a6 r16.1.only_ r54 w75)] := ⟨(F99_l0_1_ok K a6 r16.1.only_ r54 K [] 0 _ h73), trivial⟩
       exact fpC hn99 (r := F99_res (0, ([], (false, 8)))) (q236 (q237 (q238 (q249 (q250 (q254 (q255 pz)))))))
      subst hx
      obtain rfl := sj hF
      have pz : HA hn99 [.loop 0 c99_0 (F99_l0_1_S a6 r16.1.only_ r54 [] 0) (.exit 0) (F99_l0_1_X1 a6 r16.1.only_ r54 w76)] := ⟨(F99_l0_1_ok K a6 r16.1.only_ r54 K [] 0 _ h73), trivial⟩
      exact fpC hn99 (r := F99_res (a6, (w76, (true, 0)))) (q236 (q237 (q238 (q249 (q250 (q254 (q255 pz)))))))
     have q256 : PQ hn99 fun l => ((ff r70) :: (ff (bnot true)) :: .int (nl r54) (nl r54) :: l) := fun z => ⟨h72, (bnot_t rfl), rfl, z⟩
     refine bind_some hF (fun y78 h77 hF => ?_)
     refine sum_some hF (fun w79 hx hF => ?_) (fun w80 hx hF => ?_)
     ·
      subst hx
      obtain rfl := sj hF
      have pz : HA hn99 [.loop 0 c99_0 (F99_l0_1_S a5 r16.1.only_ r54 [] 0) .ret (F99_l0_1_X0 a5 r16.1.only_ r54 w79)] := ⟨(F99_l0_1_ok K a5 r16.1.only_ r54 K [] 0 _ h77), trivial⟩
      exact fpC hn99 (r := F99_res (0, ([], (false, 8)))) (q236 (q237 (q238 (q249 (q250 (q254 (q256 pz)))))))
     subst hx
     obtain rfl := sj hF
     have pz : HA hn99 [.loop 0 c99_0 (F99_l0_1_S a5 r16.1.only_ r54 [] 0) (.exit 0) (F99_l0_1_X1 a5 r16.1.only_ r54 w80)] := ⟨(F99_l0_1_ok K a5 r16.1.only_ r54 K [] 0 _ h77), trivial⟩
     exact fpC hn99 (r := F99_res (a5, (w80, (true, 0)))) (q236 (q237 (q238 (q249 (q250 (q254 (q256 pz)))))))
    refine bind_some hF (fun r81 h82 hF => ?_)
    have q257 : PQ hn99 fun l => ((bk (ieq a3 0)) :: (bk (ieq a3 0)) :: (bk (ieq a3 0)) :: (bk (ieq a3 0)) :: (bk (ieq a3 0)) :: (ff (ieq a3 0)) :: (bh a7) :: (bh a7) :: (bh a7) :: (bh a7) :: (bh a7) :: .call 159 [.one (i6 a6), .one (i6 a5)] (F159_res r81) :: (ff (leadsAny (Res.mk [(.one (.im (.lit (.bool r81))))] []))) :: (tt a7) :: l) := fun z => ⟨(bC h56), (bC h56), (bC h56), (bC h56), (bC h56), h56, (bC h15), (bC h15), (bC h15), (bC h15), (bC h15), (F159_ok K a6 a5 _ h82), lk, h15, z⟩
    refine cond_some hF (fun h83 hF => ?_) (fun h83 hF => ?_)
    ·
     have q258 : PQ hn99 fun l => ((tt r81) :: (ff (bnot true)) :: .int (nl r54) (nl r54) :: l) := fun z => ⟨h83, (bnot_t rfl), rfl, z⟩
     refine bind_some hF (fun y85 h84 hF => ?_)
     refine sum_some hF (fun w86 hx hF => ?_) (fun w87 hx hF => ?_)
     ·
      subst hx
      obtain rfl := sj hF
      have pz : HA hn99 [.loop 0 c99_0 (F99_l0_1_S a6 r16.1.only_ r54 [] 0) .ret (F99_l0_1_X0 a6 r16.1.only_ r54 w86)] := ⟨(F99_l0_1_ok K a6 r16.1.only_ r54 K [] 0 _ h84), trivial⟩
      exact fpC hn99 (r := F99_res (0, ([], (false, 8)))) (q236 (q237 (q238 (q249 (q257 (q258 pz))))))
     subst hx
     obtain rfl := sj hF
     have pz : HA hn99 [.loop 0 c99_0 (F99_l0_1_S a6 r16.1.only_ r54 [] 0) (.exit 0) (F99_l0_1_X1 a6 r16.1.only_ r54 w87)] := ⟨(F99_l0_1_ok K a6 r16.1.only_ r54 K [] 0 _ h84), trivial⟩
     exact fpC hn99 (r := F99_res (a6, (w87, (true, 0)))) (q236 (q237 (q238 (q249 (q257 (q258 pz))))))
    obtain rfl := sj hF
    have pz : HA hn99 [(ff r81), (tt (bnot false))] := ⟨h83, (bnot_f rfl), trivial⟩
    exact fpC hn99 (r := F99_res (a5, ([], (true, 0)))) (q236 (q237 (q238 (q249 (q257 pz)))))
   refine cond_some hF (fun h88 hF => ?_) (fun h88 hF => ?_)
   ·
    refine bind_some hF (fun r89 h90 hF => ?_)
    have q259 : PQ hn99 fun l => ((ff (igt a3 40)) :: (ff (bnot a7)) :: .call 143 [.one (i6 a2.Prog)] (F143_res2 r16) :: (ff (leadsAny (Res.mk [(.agg [(.im (.lit (fnV 162))), (.im (.lit (fnV 159))), (.im (.lit (.bool r16.1.only_))), (.im (.lit (fnV 163)))]), (.one (.im (.lit (.bool r16.2))))] []))) :: .call 68 [.agg (eGGraph a1), .one (i6 a4)] (F68_res r89) :: (ff (leadsAny (Res.mk [(.one (.own 89 (.sl (len r89) (flat eGEdge r89))))] []))) :: (ff false) :: l) := fun z => ⟨(igt_eq h14), (bnot_t h15), (F143_ok2 _ h88 (F143_ok K a2.Prog _ h17)), lk, (F68_ok K a1 a4 _ h90), lk, rfl, z⟩
    refine cond_some hF (fun h91 hF => ?_) (fun h91 hF => ?_)
    ·
     have q260 : PQ hn99 fun l => ((bh (ieq a3 0)) :: (bh (ieq a3 0)) :: (bh (ieq a3 0)) :: (bh (ieq a3 0)) :: l) := fun z => ⟨(bC h91), (bC h91), (bC h91), (bC h91), z⟩
     refine cond_some hF (fun h92 hF => ?_) (fun h92 hF => ?_)
     ·
      refine bind_some hF (fun r93 h94 hF => ?_)
      have q261 : PQ hn99 fun l => ((bg (bnot r16.1.only_)) :: (bg (bnot r16.1.only_)) :: (bg (bnot r16.1.only_)) :: (bg (bnot r16.1.only_)) :: (bh (ieq a3 0)) :: (ff (bnot r16.1.only_)) :: (tt (ieq a3 0)) :: (bh a7) :: (bh a7) :: (bh a7) :: (bh a7) :: (bh a7) :: .call 159 [.one (i6 a6), .one (i6 a5)] (F159_res r93) :: (ff (leadsAny (Res.mk [(.one (.im (.lit (.bool r93))))] []))) :: (tt a7) :: l) := fun z => ⟨(bB (bnot_t h92)), (bB (bnot_t h92)), (bB (bnot_t h92)), (bB (bnot_t h92)), (bC h91), (bnot_t h92), h91, (bC h15), (bC h15), (bC h15), (bC h15), (bC h15), (F159_ok K a6 a5 _ h94), lk, h15, z⟩
      refine cond_some hF (fun h95 hF => ?_) (fun h95 hF => ?_)
      ·
       have q262 : PQ hn99 fun l => ((tt r93) :: (ff (bnot true)) :: .int (nl r89) (nl r89) :: l) := fun z => ⟨h95, (bnot_t rfl), rfl, z⟩
       refine bind_some hF (fun y97 h96 hF => ?_)
       refine sum_some hF (fun w98 hx hF => ?_) (fun w99 hx hF => ?_)
       ·
        subst hx
        obtain rfl := sj hF
        have pz : HA hn99 [.loop 0 c99_0 (F99_l0_2_S a6 r16.1.only_ r89 [] 0) .ret (F99_l0_2_X0 a6 r16.1.only_ r89 w98)] := ⟨(F99_l0_2_ok K a6 r16.1.only_ r89 K [] 0 _ h96), trivial⟩
        exact fpC hn99 (r := F99_res (0, ([], (false, 8)))) (q236 (q237 (q238 (q259 (q260 (q261 (q262 pz)))))))
       subst hx
       obtain rfl := sj hF
       have pz : HA hn99 [.loop 0 c99_0 (F99_l0_2_S a6 r16.1.only_ r89 [] 0) (.exit 0) (F99_l0_2_X1 a6 r16.1.only_ r89 w99)] := ⟨(F99_l0_2_ok K a6 r16.1.only_ r89 K [] 0 _ h96), trivial⟩
       exact fpC hn99 (r := F99_res (a6, (w99, (true, 0)))) (q236 (q237 (q238 (q259 (q260 (q261 (q262 pz)))))))
      refine cond_some hF (fun h100 hF => ?_) (fun h100 hF => ?_)
      ·
       have q263 : PQ hn99 fun l => ((ff r93) :: (ff (bnot (ieq a4 a2.Source))) :: .int (nl r89) (nl r89) :: l) := fun z => ⟨h95, (bnot_t h100), rfl, z⟩
       refine bind_some hF (fun y102 h101 hF => ?_)
       refine sum_some hF (fun w103 hx hF => ?_) (fun w104 hx hF => ?_)
       ·
        subst hx
        obtain rfl := sj hF
        have pz : HA hn99 [.loop 0 c99_0 (F99_l0_2_S a5 r16.1.only_ r89 [] 0) .ret (F99_l0_2_X0 a5 r16.1.only_ r89 w103)] := ⟨(F99_l0_2_ok K a5 r16.1.only_ r89 K [] 0 _ h101), trivial⟩
        exact fpC hn99 (r := F99_res (0, ([], (false, 8)))) (q236 (q237 (q238 (q259 (q260 (q261 (q263 pz)))))))
       subst hx
       obtain rfl := sj hF
       have pz : HA hn99 [.loop 0 c99_0 (F99_l0_2_S a5 r16.1.only_ r89 [] 0) (.exit 0) (F99_l0_2_X1 a5 r16.1.only_ r89 w104)] := ⟨(F99_l0_2_ok K a5 r16.1.only_ r89 K [] 0 _ h101), trivial⟩
       exact fpC hn99 (r := F99_res (a5, (w104, (true, 0)))) (q236 (q237 (q238 (q259 (q260 (q261 (q263 pz)))))))
      obtain rfl := sj hF
      have pz : HA hn99 [(ff r93), (tt (bnot (ieq a4 a2.Source)))] := ⟨h95, (bnot_f h100), trivial⟩
      exact fpC hn99 (r := F99_res (a5, ([], (true, 0)))) (q236 (q237 (q238 (q259 (q260 (q261 pz))))))
     refine bind_some hF (fun r105 h106 hF => ?_)
     have q264 : PQ hn99 fun l => ((bf (bnot r16.1.only_)) :: (bf (bnot r16.1.only_)) :: (bf (bnot r16.1.only_)) :: (bf (bnot r16.1.only_)) :: (bh (ieq a3 0)) :: (tt (bnot r16.1.only_)) :: (tt (ieq a3 0)) :: (bh a7) :: (bh a7) :: (bh a7) :: (bh a7) :: (bh a7) :: .call 159 [.one (i6 a6), .one (i6 a5)] (F159_res r105) :: (ff (leadsAny (Res.mk [(.one (.im (.lit (.bool r105))))] []))) :: (tt a7) :: l) := fun z => ⟨(bA (bnot_f h92)), (bA (bnot_f h92)), (bA (bnot_f h92)), (bA (bnot_f h92)), (bC h91), (bnot_f h92), h91, (bC h15), (bC h15), (bC h15), (bC h15), (bC h15), (F159_ok K a6 a5 _ h106), lk, h15, z⟩
     refine cond_some hF (fun h107 hF => ?_) (fun h107 hF => ?_)
     ·
      have q265 : PQ hn99 fun l => ((tt r105) :: (ff (bnot true)) :: .int (nl r89) (nl r89) :: l) := fun z => ⟨h107, (bnot_t rfl), rfl, z⟩
      refine bind_some hF (fun y109 h108 hF => ?_)
      refine sum_some hF (fun w110 hx hF => ?_) (fun w111 hx hF => ?_)
      ·
       subst hx
       obtain rfl := sj hF
       have pz : HA hn99 [.loop 0 c99_0 (F99_l0_2_S a6 r16.1.only_ r89 [] 0) .ret (F99_l0_2_X0 a6 r16.1.only_ r89 w110)] := ⟨(F99_l0_2_ok K a6 r16.1.only_ r89 K [] 0 _ h108), trivial⟩
       exact fpC hn99 (r := F99_res (0, ([], (false, 8)))) (q236 (q237 (q238 (q259 (q260 (q264 (q265 pz)))))))
      subst hx
      obtain rfl := sj hF
      have pz : HA hn99 [.loop 0 c99_0 (F99_l0_2_S a6 r16.1.only_ r89 [] 0) (.exit 0) (F99_l0_2_X1 a6 r16.1.only_ r89 w111)] := ⟨(F99_l0_2_ok K a6 r16.1.only_ r89 K [] 0 _ h108), trivial⟩
      exact fpC hn99 (r := F99_res (a6, (w111, (true, 0)))) (q236 (q237 (q238 (q259 (q260 (q264 (q265 pz)))))))
     have q266 : PQ hn99 fun l => ((ff r105) :: (ff (bnot true)) :: .int (nl r89) (nl r89) :: l) := fun z => ⟨h107, (bnot_t rfl), rfl, z⟩
     refine bind_some hF (fun y113 h112 hF => ?_)
     refine sum_some hF (fun w114 hx hF => ?_) (fun w115 hx hF => ?_)
     ·
      subst hx
      obtain rfl := sj hF
      have pz : HA hn99 [.loop 0 c99_0 (F99_l0_2_S a5 r16.1.only_ r89 [] 0) .ret (F99_l0_2_X0 a5 r16.1.only_ r89 w114)] := ⟨(F99_l0_2_ok K a5 r16.1.only_ r89 K [] 0 _ h112), trivial⟩
      exact fpC hn99 (r := F99_res (0, ([], (false, 8)))) (q236 (q237 (q238 (q259 (q260 (q264 (q266 pz)))))))
     subst hx
     obtain rfl := sj hF
     have pz : HA hn99 [.loop 0 c99_0 (F99_l0_2_S a5 r16.1.only_ r89 [] 0) (.exit 0) (F99_l0_2_X1 a5 r16.1.only_ r89 w115)] := ⟨(F99_l0_2_ok K a5 r16.1.only_ r89 K [] 0 _ h112), trivial⟩
     exact fpC hn99 (r := F99_res (a5, (w115, (true, 0)))) (q236 (q237 (q238 (q259 (q260 (q264 (q266 pz)))))))
    refine bind_some hF (fun r116 h117 hF => ?_)
    have q267 : PQ hn99 fun l => ((bk (ieq a3 0)) :: (bk (ieq a3 0)) :: (bk (ieq a3 0)) :: (bk (ieq a3 0)) :: (bk (ieq a3 0)) :: (ff (ieq a3 0)) :: (bh a7) :: (bh a7) :: (bh a7) :: (bh a7) :: (bh a7) :: .call 159 [.one (i6 a6), .one (i6 a5)] (F159_res r116) :: (ff (leadsAny (Res.mk [(.one (.im (.lit (.bool r116))))] []))) :: (tt a7) :: l) := fun z => ⟨(bC h91), (bC h91), (bC h91), (bC h91), (bC h91), h91, (bC h15), (bC h15), (bC h15), (bC h15), (bC h15), (F159_ok K a6 a5 _ h117), lk, h15, z⟩
    refine cond_some hF (fun h118 hF => ?_) (fun h118 hF => ?_)
    ·
     have q268 : PQ hn99 fun l => ((tt r116) :: (ff (bnot true)) :: .int (nl r89) (nl r89) :: l) := fun z => ⟨h118, (bnot_t rfl), rfl, z⟩
     refine bind_some hF (fun y120 h119 hF => ?_)
     refine sum_some hF (fun w121 hx hF => ?_) (fun w122 hx hF => ?_)
     ·
      subst hx
      obtain rfl := sj hF
      have pz : HA hn99 [.loop 0 c99_0 (F99_l0_2_S a6 r16.1.only_ r89 [] 0) .ret (F99_l0_2_X0 a6 r16.1.only_ r89 w121)] := ⟨(F99_l0_2_ok K a6 r16.1.only_ r89 K [] 0 _ h119), trivial⟩
      exact fpC hn99 (r := F99_res (0, ([], (false, 8)))) (q236 (q237 (q238 (q259 (q267 (q268 pz))))))
     subst hx
     obtain rfl := sj hF
     have pz : HA hn99 [.loop 0 c99_0 (F99_l0_2_S a6 r16.1.only_ r89 [] 0) (.exit 0) (F99_l0_2_X1 a6 r16.1.only_ r89 w122)] := ⟨(F99_l0_2_ok K a6 r16.1.only_ r89 K [] 0 _ h119), trivial⟩
     exact fpC hn99 (r := F99_res (a6, (w122, (true, 0)))) (q236 (q237 (q238 (q259 (q267 (q268 pz))))))
    obtain rfl := sj hF
    have pz : HA hn99 [(ff r116), (tt (bnot false))] := ⟨h118, (bnot_f rfl), trivial⟩
    exact fpC hn99 (r := F99_res (a5, ([], (true, 0)))) (q236 (q237 (q238 (q259 (q267 pz)))))
   refine cond_some hF (fun h123 hF => ?_) (fun h123 hF => ?_)
   ·
    refine bind_some hF (fun r124 h125 hF => ?_)
    have q269 : PQ hn99 fun l => ((ff (igt a3 40)) :: (ff (bnot a7)) :: .call 143 [.one (i6 a2.Prog)] (F143_res3 r16) :: (ff (leadsAny (Res.mk [(.agg [(.im (.lit (fnV 164))), (.im (.lit (fnV 165))), (.im (.lit (.bool r16.1.only_))), (.im (.lit (fnV 163)))]), (.one (.im (.lit (.bool r16.2))))] []))) :: .call 68 [.agg (eGGraph a1), .one (i6 a4)] (F68_res r124) :: (ff (leadsAny (Res.mk [(.one (.own 89 (.sl (len r124) (flat eGEdge r124))))] []))) :: (ff false) :: l) := fun z => ⟨(igt_eq h14), (bnot_t h15), (F143_ok3 _ h123 (F143_ok K a2.Prog _ h17)), lk, (F68_ok K a1 a4 _ h125), lk, rfl, z⟩
    refine cond_some hF (fun h126 hF => ?_) (fun h126 hF => ?_)
    ·
     have q270 : PQ hn99 fun l => ((bh (ieq a3 0)) :: (bh (ieq a3 0)) :: (bh (ieq a3 0)) :: (bh (ieq a3 0)) :: l) := fun z => ⟨(bC h126), (bC h126), (bC h126), (bC h126), z⟩
     refine cond_some hF (fun h127 hF => ?_) (fun h127 hF => ?_)
     ·
      refine bind_some hF (fun r128 h129 hF => ?_)
      have q271 : PQ hn99 fun l => ((bg (bnot r16.1.only_)) :: (bg (bnot r16.1.only_)) :: (bg (bnot r16.1.only_)) :: (bg (bnot r16.1.only_)) :: (bh (ieq a3 0)) :: (ff (bnot r16.1.only_)) :: (tt (ieq a3 0)) :: (bh a7) :: (bh a7) :: (bh a7) :: (bh a7) :: (bh a7) :: .call 165 [.one (i6 a6), .one (i6 a5)] (F165_res r128) :: (ff (leadsAny (Res.mk [(.one (.im (.lit (.bool r128))))] []))) :: (tt a7) :: l) := fun z => ⟨(bB (bnot_t h127)), (bB (bnot_t h127)), (bB (bnot_t h127)), (bB (bnot_t h127)), (bC h126), (bnot_t h127), h126, (bC h15), (bC h15), (bC h15), (bC h15), (bC h15), (F165_ok K a6 a5 _ h129), lk, h15, z⟩
      refine cond_some hF (fun h130 hF => ?_) (fun h130 hF => ?_)
      ·
       have q272 : PQ hn99 fun l => ((tt r128) :: (ff (bnot true)) :: .int (nl r124) (nl r124) :: l) := fun z => ⟨h130, (bnot_t rfl), rfl, z⟩
       refine bind_some hF (fun y132 h131 hF => ?_)
       refine sum_some hF (fun w133 hx hF => ?_) (fun w134 hx hF => ?_)
       ·
        subst hx
        obtain rfl := sj hF
        have pz : HA hn99 [.loop 0 c99_0 (F99_l0_3_S a6 r16.1.only_ r124 [] 0) .ret (F99_l0_3_X0 a6 r16.1.only_ r124 w133)] := ⟨(F99_l0_3_ok K a6 r16.1.only_ r124 K [] 0 _ h131), trivial⟩
        exact fpC hn99 (r := F99_res (0, ([], (false, 8)))) (q236 (q237 (q238 (q269 (q270 (q271 (q272 pz)))))))
       subst hx
       obtain rfl := sj hF
       have pz : HA hn99 [.loop 0 c99_0 (F99_l0_3_S a6 r16.1.only_ r124 [] 0) (.exit 0) (F99_l0_3_X1 a6 r16.1.only_ r124 w134)] := ⟨(F99_l0_3_ok K a6 r16.1.only_ r124 K [] 0 _ h131), trivial⟩
       exact fpC hn99 (r := F99_res (a6, (w134, (true, 0)))) (q236 (q237 (q238 (q269 (q270 (q271 (q272 pz)))))))
      refine cond_some hF (fun h135 hF => ?_) (fun h135 hF => ?_)
      ·
       have q273 : PQ hn99 fun l => ((ff r128) :: (ff (bnot (ieq a4 a2.Source))) :: .int (nl r124) (nl r124) :: l) := fun z => ⟨h130, (bnot_t h135), rfl, z⟩
       refine bind_some hF (fun y137 h136 hF => ?_)
       refine sum_some hF (fun w138 hx hF => ?_) (fun w139 hx hF => ?_)
       ·
        subst hx
        obtain rfl := sj hF
        have pz : HA hn99 [.loop 0 c99_0 (F99_l0_3_S a5 r16.1.only_ r124 [] 0) .ret (F99_l0_3_X0 a5 r16.1.only_ r124 w138)] := ⟨(F99_l0_3_ok K a5 r16.1.only_ r124 K [] 0 _ h136), trivial⟩
        exact fpC hn99 (r := F99_res (0, ([], (false, 8)))) (q236 (q237 (q238 (q269 (q270 (q271 (q273 pz)))))))
       subst hx
       obtain rfl := sj hF
       have pz : HA hn99 [.loop 0 c99_0 (F99_l0_3_S a5 r16.1.only_ r124 [] 0) (.exit 0) (F99_l0_3_X1 a5 r16.1.only_ r124 w139)] := ⟨(F99_l0_3_ok K a5 r16.1.only_ r124 K [] 0 _ h136), trivial⟩
       exact fpC hn99 (r := F99_res (a5, (w139, (true, 0)))) (q236 (q237 (q238 (q269 (q270 (q271 (q273 pz)))))))
      obtain rfl := sj hF
      have pz : HA hn99 [(ff r128), (tt (bnot (ieq a4 a2.Source)))] := ⟨h130, (bnot_f h135), trivial⟩
      exact fpC hn99 (r := F99_res (a5, ([], (true, 0)))) (q236 (q237 (q238 (q269 (q270 (q271 pz))))))
     refine bind_some hF (fun r140 h141 hF => ?_)
     have q274 : PQ hn99 fun l => ((bf (bnot r16.1.only_)) :: (bf (bnot r16.1.only_)) :: (bf (bnot r16.1.only_)) :: (bf (bnot r16.1.only_)) :: (bh (ieq a3 0)) :: (tt (bnot r16.1.only_)) :: (tt (ieq a3 0)) :: (bh a7) :: (bh a7) :: (bh a7) :: (bh a7) :: (bh a7) :: .call 165 [.one (i6 a6), .one (i6 a5)] (F165_res r140) :: (ff (leadsAny (Res.mk [(.one (.im (.lit (.bool r140))))] []))) :: (tt a7) :: l) := fun z => ⟨(bA (bnot_f h127)), (bA (bnot_f h127)), (bA (bnot_f h127)), (bA (bnot_f h127)), (bC h126), (bnot_f h127), h126, (bC h15), (bC h15), (bC h15), (bC h15), (bC h15), (F165_ok K a6 a5 _ h141), lk, h15, z⟩
     refine cond_some hF (fun h142 hF => ?_) (fun h142 hF => ?_)
     ·
      have q275 : PQ hn99 fun l => ((tt r140) :: (ff (bnot true)) :: .int (nl r124) (nl r124) :: l) := fun z => ⟨h142, (bnot_t rfl), rfl, z⟩
      refine bind_some hF (fun y144 h143 hF => ?_)
      refine sum_some hF (fun w145 hx hF => ?_) (fun w146 hx hF => ?_)
      ·
       subst hx
       obtain rfl := sj hF
       have pz : HA hn99 [.loop 0 c99_0 (F99_l0_3_S a6 r16.1.only_ r124 [] 0) .ret (F99_l0_3_X0 a6 r16.1.only_ r124 w145)] := ⟨(F99_l0_3_ok K a6 r16.1.only_ r124 K [] 0 _ h143), trivial⟩
       exact fpC hn99 (r := F99_res (0, ([], (false, 8)))) (q236 (q237 (q238 (q269 (q270 (q274 (q275 pz)))))))
      subst hx
      obtain rfl := sj hF
      have pz : HA hn99 [.loop 0 c99_0 (F99_l0_3_S a6 r16.1.only_ r124 [] 0) (.exit 0) (F99_l0_3_X1 a6 r16.1.only_ r124 w146)] := ⟨(F99_l0_3_ok K a6 r16.1.only_ r124 K [] 0 _ h143), trivial⟩
      exact fpC hn99 (r := F99_res (a6, (w146, (true, 0)))) (q236 (q237 (q238 (q269 (q270 (q274 (q275 pz)))))))
     have q276 : PQ hn99 fun l => ((ff r140) :: (ff (bnot true)) :: .int (nl r124) (nl r124) :: l) := fun z => ⟨h142, (bnot_t rfl), rfl, z⟩
     refine bind_some hF (fun y148 h147 hF => ?_)
     refine sum_some hF (fun w149 hx hF => ?_) (fun w150 hx hF => ?_)
     ·
      subst hx
      obtain rfl := sj hF
      have pz : HA hn99 [.loop 0 c99_0 (F99_l0_3_S a5 r16.1.only_ r124 [] 0) .ret (F99_l0_3_X0 a5 r16.1.only_ r124 w149)] := ⟨(F99_l0_3_ok K a5 r16.1.only_ r124 K [] 0 _ h147), trivial⟩
      exact fpC hn99 (r := F99_res (0, ([], (false, 8)))) (q236 (q237 (q238 (q269 (q270 (q274 (q276 pz)))))))
     subst hx
     obtain rfl := sj hF
     have pz : HA hn99 [.loop 0 c99_0 (F99_l0_3_S a5 r16.1.only_ r124 [] 0) (.exit 0) (F99_l0_3_X1 a5 r16.1.only_ r124 w150)] := ⟨(F99_l0_3_ok K a5 r16.1.only_ r124 K [] 0 _ h147), trivial⟩
     exact fpC hn99 (r := F99_res (a5, (w150, (true, 0)))) (q236 (q237 (q238 (q269 (q270 (q274 (q276 pz)))))))
    refine bind_some hF (fun r151 h152 hF => ?_)
    have q277 : PQ hn99 fun l => ((bk (ieq a3 0)) :: (bk (ieq a3 0)) :: (bk (ieq a3 0)) :: (bk (ieq a3 0)) :: (bk (ieq a3 0)) :: (ff (ieq a3 0)) :: (bh a7) :: (bh a7) :: (bh a7) :: (bh a7) :: (bh a7) :: .call 165 [.one (i6 a6), .one (i6 a5)] (F165_res r151) :: (ff (leadsAny (Res.mk [(.one (.im (.lit (.bool r151))))] []))) :: (tt a7) :: l) := fun z => ⟨(bC h126), (bC h126), (bC h126), (bC h126), (bC h126), h126, (bC h15), (bC h15), (bC h15), (bC h15), (bC h15), (F165_ok K a6 a5 _ h152), lk, h15, z⟩
    refine cond_some hF (fun h153 hF => ?_) (fun h153 hF => ?_)
    ·
     have q278 : PQ hn99 fun l => ((tt r151) :: (ff (bnot true)) :: .int (nl r124) (nl r124) :: l) := fun z => ⟨h153, (bnot_t rfl), rfl, z⟩
     refine bind_some hF (fun y155 h154 hF => ?_)
     refine sum_some hF (fun w156 hx hF => ?_) (fun w157 hx hF => ?_)
     ·
      subst hx
      obtain rfl := sj hF
      have pz : HA hn99 [.loop 0 c99_0 (F99_l0_3_S a6 r16.1.only_ r124 [] 0) .ret (F99_l0_3_X0 a6 r16.1.only_ r124 w156)] := ⟨(F99_l0_3_ok K a6 r16.1.only_ r124 K [] 0 _ h154), trivial⟩
      exact fpC hn99 (r := F99_res (0, ([], (false, 8)))) (q236 (q237 (q238 (q269 (q277 (q278 pz))))))
     subst hx
     obtain rfl := sj hF
     have pz : HA hn99 [.loop 0 c99_0 (F99_l0_3_S a6 r16.1.only_ r124 [] 0) (.exit 0) (F99_l0_3_X1 a6 r16.1.only_ r124 w157)] := ⟨(F99_l0_3_ok K a6 r16.1.only_ r124 K [] 0 _ h154), trivial⟩
     exact fpC hn99 (r := F99_res (a6, (w157, (true, 0)))) (q236 (q237 (q238 (q269 (q277 (q278 pz))))))
    obtain rfl := sj hF
    have pz : HA hn99 [(ff r151), (tt (bnot false))] := ⟨h153, (bnot_f rfl), trivial⟩
    exact fpC hn99 (r := F99_res (a5, ([], (true, 0)))) (q236 (q237 (q238 (q269 (q277 pz)))))
   refine cond_some hF (fun h158 hF => ?_) (fun h158 hF => ?_)
   ·
    refine bind_some hF (fun r159 h160 hF => ?_)
    refine bind_some hF (fun r161 h162 hF => ?_)
    obtain rfl := sj hF
    have pz : HA hn99 [(ff (igt a3 40)), (ff (bnot a7)), .call 143 [.one (i6 a2.Prog)] (F143_res4 r16), (ff (leadsAny (Res.mk [(.agg [(.im (.lit (fnV 166))), (.im (.lit .nilFunc)), (.im (.lit (.bool r16.1.only_))), (.im (.lit (fnV 163)))]), (.one (.im (.lit (.bool r16.2))))] []))), .call 68 [.agg (eGGraph a1), .one (i6 a4)] (F68_res r159), (ff (leadsAny (Res.mk [(.one (.own 89 (.sl (len r159) (flat eGEdge r159))))] []))), (tt true), .call 146 [.one (.sl (len r159) (flat eGEdge r159)), .one (i6 a3), .one (i6 a5), .one (i6 a6)] (F146_res r161), (ff (leadsAny (Res.mk [(.one (.im (i6 r161.1))), (.one (.own 130 (.sl (len r161.2.1) (flat eGMsg r161.2.1)))), (.one (.im (.lit (.bool r161.2.2.1)))), (.one (.im (i6 r161.2.2.2)))] [])))] := ⟨(igt_eq h14), (bnot_t h15), (F143_ok4 _ h158 (F143_ok K a2.Prog _ h17)), lk, (F68_ok K a1 a4 _ h160), lk, rfl, (F146_ok K r159 a3 a5 a6 _ h162), lk, trivial⟩
    exact fpC hn99 (r := F99_res (r161.1, (r161.2.1, (r161.2.2.1, r161.2.2.2)))) (q236 (q237 (q238 pz)))
   refine cond_some hF (fun h163 hF => ?_) (fun _ hF => nomatch hF)
   refine bind_some hF (fun r164 h165 hF => ?_)
   refine bind_some hF (fun r166 h167 hF => ?_)
   obtain rfl := sj hF
   have pz : HA hn99 [(ff (igt a3 40)), (ff (bnot a7)), .call 143 [.one (i6 a2.Prog)] (F143_res5 r16), (ff (leadsAny (Res.mk [(.agg [(.im (.lit .nilFunc)), (.im (.lit .nilFunc)), (.im (.lit (.bool r16.1.only_))), (.im (.lit .nilFunc))]), (.one (.im (.lit (.bool r16.2))))] []))), .call 68 [.agg (eGGraph a1), .one (i6 a4)] (F68_res r164), (ff (leadsAny (Res.mk [(.one (.own 89 (.sl (len r164) (flat eGEdge r164))))] []))), (tt true), .call 146 [.one (.sl (len r164) (flat eGEdge r164)), .one (i6 a3), .one (i6 a5), .one (i6 a6)] (F146_res r166), (ff (leadsAny (Res.mk [(.one (.im (i6 r166.1))), (.one (.own 130 (.sl (len r166.2.1) (flat eGMsg r166.2.1)))), (.one (.im (.lit (.bool r166.2.2.1)))), (.one (.im (i6 r166.2.2.2)))] [])))] := ⟨(igt_eq h14), (bnot_t h15), (F143_ok5 _ h163 (F143_ok K a2.Prog _ h17)), lk, (F68_ok K a1 a4 _ h165), lk, rfl, (F146_ok K r164 a3 a5 a6 _ h167), lk, trivial⟩
   exact fpC hn99 (r := F99_res (r166.1, (r166.2.1, (r166.2.2.1, r166.2.2.2)))) (q236 (q237 (q238 pz)))
  refine bind_some hF (fun r168 h169 hF => ?_)
  refine cond_some hF (fun h170 hF => ?_) (fun h170 hF => ?_)
  ·
   refine bind_some hF (fun r171 h172 hF => ?_)
   have q279 : PQ hn99 fun l => ((ff (igt a3 40)) :: (tt (bnot a7)) :: .call 143 [.one (i6 a2.Prog)] (F143_res0 r168) :: (ff (leadsAny (Res.mk [(.agg [(.im (.lit (fnV 158))), (.im (.lit (fnV 159))), (.im (.lit (.bool r168.1.only_))), (.im (.lit (fnV 160)))]), (.one (.im (.lit (.bool r168.2))))] []))) :: .call 68 [.agg (eGGraph a1), .one (i6 a4)] (F68_res r171) :: (ff (leadsAny (Res.mk [(.one (.own 89 (.sl (len r171) (flat eGEdge r171))))] []))) :: (ff false) :: l) := fun z => ⟨(igt_eq h14), (bnot_f h15), (F143_ok0 _ h170 (F143_ok K a2.Prog _ h169)), lk, (F68_ok K a1 a4 _ h172), lk, rfl, z⟩
   refine cond_some hF (fun h173 hF => ?_) (fun h173 hF => ?_)
   ·
    have q280 : PQ hn99 fun l => ((bh (ieq a3 0)) :: (bh (ieq a3 0)) :: (bh (ieq a3 0)) :: (bh (ieq a3 0)) :: l) := fun z => ⟨(bC h173), (bC h173), (bC h173), (bC h173), z⟩
    refine cond_some hF (fun h174 hF => ?_) (fun h174 hF => ?_)
    ·
     have q281 : PQ hn99 fun l => ((bg (bnot r168.1.only_)) :: (bg (bnot r168.1.only_)) :: (bg (bnot r168.1.only_)) :: (bg (bnot r168.1.only_)) :: (bh (ieq a3 0)) :: (ff (bnot r168.1.only_)) :: (tt (ieq a3 0)) :: (bk a7) :: (bk a7) :: (bk a7) :: (bk a7) :: (bk a7) :: (ff a7) :: (ff false) :: l) := fun z => ⟨(bB (bnot_t h174)), (bB (bnot_t h174)), (bB (bnot_t h174)), (bB (bnot_t h174)), (bC h173), (bnot_t h174), h173, (bC h15), (bC h15), (bC h15), (bC h15), (bC h15), h15, rfl, z⟩
     refine cond_some hF (fun h175 hF => ?_) (fun h175 hF => ?_)
     ·
      refine bind_some hF (fun y177 h176 hF => ?_)
      refine sum_some hF (fun w178 hx hF => ?_) (fun w179 hx hF => ?_)
      ·
       subst hx
       obtain rfl := sj hF
       have pz : HA hn99 [(ff (bnot (ieq a4 a2.Source))), .int (nl r171) (nl r171), .loop 0 c99_0 (F99_l0_0_S a5 r168.1.only_ r171 [] 0) .ret (F99_l0_0_X0 a5 r168.1.only_ r171 w178)] := ⟨(bnot_t h175), rfl, (F99_l0_0_ok K a5 r168.1.only_ r171 K [] 0 _ h176), trivial⟩
       exact fpC hn99 (r := F99_res (0, ([], (false, 8)))) (q236 (q237 (q238 (q279 (q280 (q281 pz))))))
      subst hx
      obtain rfl := sj hF
      have pz : HA hn99 [(ff (bnot (ieq a4 a2.Source))), .int (nl r171) (nl r171), .loop 0 c99_0 (F99_l0_0_S a5 r168.1.only_ r171 [] 0) (.exit 0) (F99_l0_0_X1 a5 r168.1.only_ r171 w179)] := ⟨(bnot_t h175), rfl, (F99_l0_0_ok K a5 r168.1.only_ r171 K [] 0 _ h176), trivial⟩
      exact fpC hn99 (r := F99_res (a5, (w179, (true, 0)))) (q236 (q237 (q238 (q279 (q280 (q281 pz))))))
     obtain rfl := sj hF
     have pz : HA hn99 [(tt (bnot (ieq a4 a2.Source)))] := ⟨(bnot_f h175), trivial⟩
     exact fpC hn99 (r := F99_res (a5, ([], (true, 0)))) (q236 (q237 (q238 (q279 (q280 (q281 pz))))))
    have q282 : PQ hn99 fun l => ((bf (bnot r168.1.only_)) :: (bf (bnot r168.1.only_)) :: (bf (bnot r168.1.only_)) :: (bf (bnot r168.1.only_)) :: (bh (ieq a3 0)) :: (tt (bnot r168.1.only_)) :: (tt (ieq a3 0)) :: (bk a7) :: (bk a7) :: (bk a7) :: (bk a7) :: (bk a7) :: (ff a7) :: (ff false) :: (ff (bnot true)) :: .int (nl r171) (nl r171) :: l) := fun z => ⟨(bA (bnot_f h174)), (bA (bnot_f h174)), (bA (bnot_f h174)), (bA (bnot_f h174)), (bC h173), (bnot_f h174), h173, (bC h15), (bC h15), (bC h15), (bC h15), (bC h15), h15, rfl, (bnot_t rfl), rfl, z⟩
    refine bind_some hF (fun y181 h180 hF => ?_)
    refine sum_some hF (fun w182 hx hF => ?_) (fun w183 hx hF => ?_)
    ·
     subst hx
     obtain rfl := sj hF
     have pz : HA hn99 [.loop 0 c99_0 (F99_l0_0_S a5 r168.1.only_ r171 [] 0) .ret (F99_l0_0_X0 a5 r168.1.only_ r171 w182)] := ⟨(F99_l0_0_ok K a5 r168.1.only_ r171 K [] 0 _ h180), trivial⟩
     exact fpC hn99 (r := F99_res (0, ([], (false, 8)))) (q236 (q237 (q238 (q279 (q280 (q282 pz))))))
    subst hx
    obtain rfl := sj hF
    have pz : HA hn99 [.loop 0 c99_0 (F99_l0_0_S a5 r168.1.only_ r171 [] 0) (.exit 0) (F99_l0_0_X1 a5 r168.1.only_ r171 w183)] := ⟨(F99_l0_0_ok K a5 r168.1.only_ r171 K [] 0 _ h180), trivial⟩
    exact fpC hn99 (r := F99_res (a5, (w183, (true, 0)))) (q236 (q237 (q238 (q279 (q280 (q282 pz))))))
   obtain rfl := sj hF
   have pz : HA hn99 [(bk (ieq a3 0)), (bk (ieq a3 0)), (bk (ieq a3 0)), (bk (ieq a3 0)), (bk (ieq a3 0)), (ff (ieq a3 0)), (bk a7), (bk a7), (bk a7), (bk a7), (bk a7), (ff a7), (ff false), (tt (bnot false))] := ⟨(bC h173), (bC h173), (bC h173), (bC h173), (bC h173), h173, (bC h15), (bC h15), (bC h15), (bC h15), (bC h15), h15, rfl, (bnot_f rfl), trivial⟩
   exact fpC hn99 (r := F99_res (a5, ([], (true, 0)))) (q236 (q237 (q238 (q279 pz))))
  refine cond_some hF (fun h184 hF => ?_) (fun h184 hF => ?_)
  ·
   refine bind_some hF (fun r185 h186 hF => ?_)
   have q283 : PQ hn99 fun l => ((ff (igt a3 40)) :: (tt (bnot a7)) :: .call 143 [.one (i6 a2.Prog)] (F143_res1 r168) :: (ff (leadsAny (Res.mk [(.agg [(.im (.lit (fnV 158))), (.im (.lit (fnV 159))), (.im (.lit (.bool r168.1.only_))), (.im (.lit (fnV 161)))]), (.one (.im (.lit (.bool r168.2))))] []))) :: .call 68 [.agg (eGGraph a1), .one (i6 a4)] (F68_res r185) :: (ff (leadsAny (Res.mk [(.one (.own 89 (.sl (len r185) (flat eGEdge r185))))] []))) :: (ff false) :: l) := fun z => ⟨(igt_eq h14), (bnot_f h15), (F143_ok1 _ h184 (F143_ok K a2.Prog _ h169)), lk, (F68_ok K a1 a4 _ h186), lk, rfl, z⟩
   refine cond_some hF (fun h187 hF => ?_) (fun h187 hF => ?_)
   ·
    have q284 : PQ hn99 fun l => ((bh (ieq a3 0)) :: (bh (ieq a3 0)) :: (bh (ieq a3 0)) :: (bh (ieq a3 0)) :: l) := fun z => ⟨(bC h187), (bC h187), (bC h187), (bC h187), z⟩
    refine cond_some hF (fun h188 hF => ?_) (fun h188 hF => ?_)
    ·
     have q285 : PQ hn99 fun l => ((bg (bnot r168.1.only_)) :: (bg (bnot r168.1.only_)) :: (bg (bnot r168.1.only_)) :: (bg (bnot r168.1.only_)) :: (bh (ieq a3 0)) :: (ff (bnot r168.1.only_)) :: (tt (ieq a3 0)) :: (bk a7) :: (bk a7) :: (bk a7) :: (bk a7) :: (bk a7) :: (ff a7) :: (ff false) :: l) := fun z => ⟨(bB (bnot_t h188)), (bB (bnot_t h188)), (bB (bnot_t h188)), (bB (bnot_t h188)), (bC h187), (bnot_t h188), h187, (bC h15), (bC h15), (bC h15), (bC h15), (bC h15), h15, rfl, z⟩
     refine cond_some hF (fun h189 hF => ?_) (fun h189 hF => ?_)
     ·
      refine bind_some hF (fun y191 h190 hF => ?_)
      refine sum_some hF (fun w192 hx hF => ?_) (fun w193 hx hF => ?_)
      ·
       subst hx
       obtain rfl := sj hF
       have pz : HA hn99 [(ff (bnot (ieq a4 a2.Source))), .int (nl r185) (nl r185), .loop 0 c99_0 (F99_l0_1_S a5 r168.1.only_ r185 [] 0) .ret (F99_l0_1_X0 a5 r168.1.only_ r185 w192)] := ⟨(bnot_t h189), rfl, (F99_l0_1_ok K a5 r168.1.only_ r185 K [] 0 _ h190), trivial⟩
       exact fpC hn99 (r := F99_res (0, ([], (false, 8)))) (q236 (q237 (q238 (q283 (q284 (q285 pz))))))
      subst hx
      obtain rfl := sj hF
      have pz : HA hn99 [(ff (bnot (ieq a4 a2.Source))), .int (nl r185) (nl r185), .loop 0 c99_0 (F99_l0_1_S a5 r168.1.only_ r185 [] 0) (.exit 0) (F99_l0_1_X1 a5 r168.1.only_ r185 w193)] := ⟨(bnot_t h189), rfl, (F99_l0_1_ok K a5 r168.1.only_ r185 K [] 0 _ h190), trivial⟩
      exact fpC hn99 (r := F99_res (a5, (w193, (true, 0)))) (q236 (q237 (q238 (q283 (q284 (q285 pz))))))
     obtain rfl := sj hF
     have pz : HA hn99 [(tt (bnot (ieq a4 a2.Source)))] := ⟨(bnot_f h189), trivial⟩
     exact fpC hn99 (r := F99_res (a5, ([], (true, 0)))) (q236 (q237 (q238 (q283 (q284 (q285 pz))))))
    have q286 : PQ hn99 fun l => ((bf (bnot r168.1.only_)) :: (bf (bnot r168.1.only_)) :: (bf (bnot r168.1.only_)) :: (bf (bnot r168.1.only_)) :: (bh (ieq a3 0)) :: (tt (bnot r168.1.only_)) :: (tt (ieq a3 0)) :: (bk a7) :: (bk a7) :: (bk a7) :: (bk a7) :: (bk a7) :: (ff a7) :: (ff false) :: (ff (bnot true)) :: .int (nl r185) (nl r185) :: l) := fun z => ⟨(bA (bnot_f h188)), (bA (bnot_f h188)), (bA (bnot_f h188)), (bA (bnot_f h188)), (bC h187), (bnot_f h188), h187, (bC h15), (bC h15), (bC h15), (bC h15), (bC h15), h15, rfl, (bnot_t rfl), rfl, z⟩
    refine bind_some hF (fun y195 h194 hF => ?_)
    refine sum_some hF (fun w196 hx hF => ?_) (fun w197 hx hF => ?_)
    ·
     subst hx
     obtain rfl := sj hF
     have pz : HA hn99 [.loop 0 c99_0 (F99_l0_1_S a5 r168.1.only_ r185 [] 0) .ret (F99_l0_1_X0 a5 r168.1.only_ r185 w196)] := ⟨(F99_l0_1_ok K a5 r168.1.only_ r185 K [] 0 _ h194), trivial⟩
     exact fpC hn99 (r := F99_res (0, ([], (false, 8)))) (q236 (q237 (q238 (q283 (q284 (q286 pz))))))
    subst hx
    obtain rfl := sj hF
    have pz : HA hn99 [.loop 0 c99_0 (F99_l0_1_S a5 r168.1.only_ r185 [] 0) (.exit 0) (F99_l0_1_X1 a5 r168.1.only_ r185 w197)] := ⟨(F99_l0_1_ok K a5 r168.1.only_ r185 K [] 0 _ h194), trivial⟩
    exact fpC hn99 (r := F99_res (a5, (w197, (true, 0)))) (q236 (q237 (q238 (q283 (q284 (q286 pz))))))
   obtain rfl := sj hF
   have pz : HA hn99 [(bk (ieq a3 0)), (bk (ieq a3 0)), (bk (ieq a3 0)), (bk (ieq a3 0)), (bk (ieq a3 0)), (ff (ieq a3 0)), (bk a7), (bk a7), (bk a7), (bk a7), (bk a7), (ff a7), (ff false), (tt (bnot false))] := ⟨(bC h187), (bC h187), (bC h187), (bC h187), (bC h187), h187, (bC h15), (bC h15), (bC h15), (bC h15), (bC h15), h15, rfl, (bnot_f rfl), trivial⟩
   exact fpC hn99 (r := F99_res (a5, ([], (true, 0)))) (q236 (q237 (q238 (q283 pz))))
  refine cond_some hF (fun h198 hF => ?_) (fun h198 hF => ?_)
  ·
   refine bind_some hF (fun r199 h200 hF => ?_)
   have q287 : PQ hn99 fun l => ((ff (igt a3 40)) :: (tt (bnot a7)) :: .call 143 [.one (i6 a2.Prog)] (F143_res2 r168) :: (ff (leadsAny (Res.mk [(.agg [(.im (.lit (fnV 162))), (.im (.lit (fnV 159))), (.im (.lit (.bool r168.1.only_))), (.im (.lit (fnV 163)))]), (.one (.im (.lit (.bool r168.2))))] []))) :: .call 68 [.agg (eGGraph a1), .one (i6 a4)] (F68_res r199) :: (ff (leadsAny (Res.mk [(.one (.own 89 (.sl (len r199) (flat eGEdge r199))))] []))) :: (ff false) :: l) := fun z => ⟨(igt_eq h14), (bnot_f h15), (F143_ok2 _ h198 (F143_ok K a2.Prog _ h169)), lk, (F68_ok K a1 a4 _ h200), lk, rfl, z⟩
   refine cond_some hF (fun h201 hF => ?_) (fun h201 hF => ?_)
   ·
    have q288 : PQ hn99 fun l => ((bh (ieq a3 0)) :: (bh (ieq a3 0)) :: (bh (ieq a3 0)) :: (bh (ieq a3 0)) :: l) := fun z => ⟨(bC h201), (bC h201), (bC h201), (bC h201), z⟩
    refine cond_some hF (fun h202 hF => ?_) (fun h202 hF => ?_)
    ·
     have q289 : PQ hn99 fun l => ((bg (bnot r168.1.only_)) :: (bg (bnot r168.1.only_)) :: (bg (bnot r168.1.only_)) :: (bg (bnot r168.1.only_)) :: (bh (ieq a3 0)) :: (ff (bnot r168.1.only_)) :: (tt (ieq a3 0)) :: (bk a7) :: (bk a7) :: (bk a7) :: (bk a7) :: (bk a7) :: (ff a7) :: (ff false) :: l) := fun z => ⟨(bB (bnot_t h202)), (bB (bnot_t h202)), (bB (bnot_t h202)), (bB (bnot_t h202)), (bC h201), (bnot_t h202), h201, (bC h15), (bC h15), (bC h15), (bC h15), (bC h15), h15, rfl, z⟩
     refine cond_some hF (fun h203 hF => ?_) (fun h203 hF => ?_)
     ·
      refine bind_some hF (fun y205 h204 hF => ?_)
      refine sum_some hF (fun w206 hx hF => ?_) (fun w207 hx hF => ?_)
      ·
       subst hx
       obtain rfl := sj hF
       have pz : HA hn99 [(ff (bnot (ieq a4 a2.Source))), .int (nl r199) (nl r199), .loop 0 c99_0 (F99_l0_2_S a5 r168.1.only_ r199 [] 0) .ret (F99_l0_2_X0 a5 r168.1.only_ r199 w206)] := ⟨(bnot_t h203), rfl, (F99_l0_2_ok K a5 r168.1.only_ r199 K [] 0 _ h204), trivial⟩
       exact fpC hn99 (r := F99_res (0, ([], (false, 8)))) (q236 (q237 (q238 (q287 (q288 (q289 pz))))))
      subst hx
      obtain rfl := sj hF
      have pz : HA hn99 [(ff (bnot (ieq a4 a2.Source))), .int (nl r199) (nl r199), .loop 0 c99_0 (F99_l0_2_S a5 r168.1.only_ r199 [] 0) (.exit 0) (F99_l0_2_X1 a5 r168.1.only_ r199 w207)] := ⟨(bnot_t h203), rfl, (F99_l0_2_ok K a5 r168.1.only_ r199 K [] 0 _ h204), trivial⟩
      exact fpC hn99 (r := F99_res (a5, (w207, (true, 0)))) (q236 (q237 (q238 (q287 (q288 (q289 pz))))))
     obtain rfl := sj hF
     have pz : HA hn99 [(tt (bnot (ieq a4 a2.Source)))] := ⟨(bnot_f h203), trivial⟩
     exact fpC hn99 (r := F99_res (a5, ([], (true, 0)))) (q236 (q237 (q238 (q287 (q288 (q289 pz))))))
    have q290 : PQ hn99 fun l => ((bf (bnot r168.1.only_)) :: (bf (bnot r168.1.only_)) :: (bf (bnot r168.1.only_)) :: (bf (bnot r168.1.only_)) :: (bh (ieq a3 0)) :: (tt (bnot r168.1.only_)) :: (tt (ieq a3 0)) :: (bk a7) :: (bk a7) :: (bk a7) :: (bk a7) :: (bk a7) :: (ff a7) :: (ff false) :: (ff (bnot true)) :: .int (nl r199) (nl r199) :: l) := fun z => ⟨(bA (bnot_f h202)), (bA (bnot_f h202)), (bA (bnot_f h202)), (bA (bnot_f h202)), (bC h201), (bnot_f h202), h201, (bC h15), (bC h15), (bC h15), (bC h15), (bC h15), h15, rfl, (bnot_t rfl), rfl, z⟩
    refine bind_some hF (fun y209 h208 hF => ?_)
    refine sum_some hF (fun w210 hx hF => ?_) (fun w211 hx hF => ?_)
    ·
     subst hx
     obtain rfl := sj hF
     have pz : HA hn99 [.loop 0 c99_0 (F99_l0_2_S a5 r168.1.only_ r199 [] 0) .ret (F99_l0_2_X0 a5 r168.1.only_ r199 w210)] := ⟨(F99_l0_2_ok K a5 r168.1.only_ r199 K [] 0 _ h208), trivial⟩
     exact fpC hn99 (r := F99_res (0, ([], (false, 8)))) (q236 (q237 (q238 (q287 (q288 (q290 pz))))))
    subst hx
    obtain rfl := sj hF
    have pz : HA hn99 [.loop 0 c99_0 (F99_l0_2_S a5 r168.1.only_ r199 [] 0) (.exit 0) (F99_l0_2_X1 a5 r168.1.only_ r199 w211)] := ⟨(F99_l0_2_ok K a5 r168.1.only_ r199 K [] 0 _ h208), trivial⟩
    exact fpC hn99 (r := F99_res (a5, (w211, (true, 0)))) (q236 (q237 (q238 (q287 (q288 (q290 pz))))))
   obtain rfl := sj hF
   have pz : HA hn99 [(bk (ieq a3 0)), (bk (ieq a3 0)), (bk (ieq a3 0)), (bk (ieq a3 0)), (bk (ieq a3 0)), (ff (ieq a3 0)), (bk a7), (bk a7), (bk a7), (bk a7), (bk a7), (ff a7), (ff false), (tt (bnot false))] := ⟨(bC h201), (bC h201), (bC h201), (bC h201), (bC h201), h201, (bC h15), (bC h15), (bC h15), (bC h15), (bC h15), h15, rfl, (bnot_f rfl), trivial⟩
   exact fpC hn99 (r := F99_res (a5, ([], (true, 0)))) (q236 (q237 (q238 (q287 pz))))
  refine cond_some hF (fun h212 hF => ?_) (fun h212 hF => ?_)
  ·
   refine bind_some hF (fun r213 h214 hF => ?_)
   have q291 : PQ hn99 fun l => ((ff (igt a3 40)) :: (tt (bnot a7)) :: .call 143 [.one (i6 a2.Prog)] (F143_res3 r168) :: (ff (leadsAny (Res.mk [(.agg [(.im (.lit (fnV 164))), (.im (.lit (fnV 165))), (.im (.lit (.bool r168.1.only_))), (.im (.lit (fnV 163)))]), (.one (.im (.lit (.bool r168.2))))] []))) :: .call 68 [.agg (eGGraph a1), .one (i6 a4)] (F68_res r213) :: (ff (leadsAny (Res.mk [(.one (.own 89 (.sl (len r213) (flat eGEdge r213))))] []))) :: (ff false) :: l) := fun z => ⟨(igt_eq h14), (bnot_f h15), (F143_ok3 _ h212 (F143_ok K a2.Prog _ h169)), lk, (F68_ok K a1 a4 _ h214), lk, rfl, z⟩
   refine cond_some hF (fun h215 hF => ?_) (fun h215 hF => ?_)
   ·
    have q292 : PQ hn99 fun l => ((bh (ieq a3 0)) :: (bh (ieq a3 0)) :: (bh (ieq a3 0)) :: (bh (ieq a3 0)) :: l) := fun z => ⟨(bC h215), (bC h215), (bC h215), (bC h215), z⟩
    refine cond_some hF (fun h216 hF => ?_) (fun h216 hF => ?_)
    ·
     have q293 : PQ hn99 fun l => ((bg (bnot r168.1.only_)) :: (bg (bnot r168.1.only_)) :: (bg (bnot r168.1.only_)) :: (bg (bnot r168.1.only_)) :: (bh (ieq a3 0)) :: (ff (bnot r168.1.only_)) :: (tt (ieq a3 0)) :: (bk a7) :: (bk a7) :: (bk a7) :: (bk a7) :: (bk a7) :: (ff a7) :: (ff false) :: l) := fun z => ⟨(bB (bnot_t h216)), (bB (bnot_t h216)), (bB (bnot_t h216)), (bB (bnot_t h216)), (bC h215), (bnot_t h216), h215, (bC h15), (bC h15), (bC h15), (bC h15), (bC h15), h15, rfl, z⟩
     refine cond_some hF (fun h217 hF => ?_) (fun h217 hF => ?_)
     ·
      refine bind_some hF (fun y219 h218 hF => ?_)
      refine sum_some hF (fun w220 hx hF => ?_) (fun w221 hx hF => ?_)
      ·
       subst hx
       obtain rfl := sj hF
       have pz : HA hn99 [(ff (bnot (ieq a4 a2.Source))), .int (nl r213) (nl r213), .loop 0 c99_0 (F99_l0_3_S a5 r168.1.only_ r213 [] 0) .ret (F99_l0_3_X0 a5 r168.1.only_ r213 w220)] := ⟨(bnot_t h217), rfl, (F99_l0_3_ok K a5 r168.1.only_ r213 K [] 0 _ h218), trivial⟩
       exact fpC hn99 (r := F99_res (0, ([], (false, 8)))) (q236 (q237 (q238 (q291 (q292 (q293 pz))))))
      subst hx
      obtain rfl := sj hF
      have pz : HA hn99 [(ff (bnot (ieq a4 a2.Source))), .int (nl r213) (nl r213), .loop 0 c99_0 (F99_l0_3_S a5 r168.1.only_ r213 [] 0) (.exit 0) (F99_l0_3_X1 a5 r168.1.only_ r213 w221)] := ⟨(bnot_t h217), rfl, (F99_l0_3_ok K a5 r168.1.only_ r213 K [] 0 _ h218), trivial⟩
      exact fpC hn99 (r := F99_res (a5, (w221, (true, 0)))) (q236 (q237 (q238 (q291 (q292 (q293 pz))))))
     obtain rfl := sj hF
     have pz : HA hn99 [(tt (bnot (ieq a4 a2.Source)))] := ⟨(bnot_f h217), trivial⟩
     exact fpC hn99 (r := F99_res (a5, ([], (true, 0)))) (q236 (q237 (q238 (q291 (q292 (q293 pz))))))
    have q294 : PQ hn99 fun l => ((bf (bnot r168.1.only_)) :: (bf (bnot r168.1.only_)) :: (bf (bnot r168.1.only_)) :: (bf (bnot r168.1.only_)) :: (bh (ieq a3 0)) :: (tt (bnot r168.1.only_)) :: (tt (ieq a3 0)) :: (bk a7) :: (bk a7) :: (bk a7) :: (bk a7) :: (bk a7) :: (ff a7) :: (ff false) :: (ff (bnot true)) :: .int (nl r213) (nl r213) :: l) := fun z => ⟨(bA (bnot_f h216)), (bA (bnot_f h216)), (bA (bnot_f h216)), (bA (bnot_f h216)), (bC h215), (bnot_f h216), h215, (bC h15), (bC h15), (bC h15), (bC h15), (bC h15), h15, rfl, (bnot_t rfl), rfl, z⟩
    refine bind_some hF (fun y223 h222 hF => ?_)
    refine sum_some hF (fun w224 hx hF => ?_) (fun w225 hx hF => ?_)
    ·
     subst hx
     obtain rfl := sj hF
     have pz : HA hn99 [.loop 0 c99_0 (F99_l0_3_S a5 r168.1.only_ r213 [] 0) .ret (F99_l0_3_X0 a5 r168.1.only_ r213 w224)] := ⟨(F99_l0_3_ok K a5 r168.1.only_ r213 K [] 0 _ h222), trivial⟩
     exact fpC hn99 (r := F99_res (0, ([], (false, 8)))) (q236 (q237 (q238 (q291 (q292 (q294 pz))))))
    subst hx
    obtain rfl := sj hF
    have pz : HA hn99 [.loop 0 c99_0 (F99_l0_3_S a5 r168.1.only_ r213 [] 0) (.exit 0) (F99_l0_3_X1 a5 r168.1.only_ r213 w225)] := ⟨(F99_l0_3_ok K a5 r168.1.only_ r213 K [] 0 _ h222), trivial⟩
    exact fpC hn99 (r := F99_res (a5, (w225, (true, 0)))) (q236 (q237 (q238 (q291 (q292 (q294 pz))))))
   obtain rfl := sj hF
   have pz : HA hn99 [(bk (ieq a3 0)), (bk (ieq a3 0)), (bk (ieq a3 0)), (bk (ieq a3 0)), (bk (ieq a3 0)), (ff (ieq a3 0)), (bk a7), (bk a7), (bk a7), (bk a7), (bk a7), (ff a7), (ff false), (tt (bnot false))] := ⟨(bC h215), (bC h215), (bC h215), (bC h215), (bC h215), h215, (bC h15), (bC h15), (bC h15), (bC h15), (bC h15), h15, rfl, (bnot_f rfl), trivial⟩
   exact fpC hn99 (r := F99_res (a5, ([], (true, 0)))) (q236 (q237 (q238 (q291 pz))))
  refine cond_some hF (fun h226 hF => ?_) (fun h226 hF => ?_)
  ·
   refine bind_some hF (fun r227 h228 hF => ?_)
   refine bind_some hF (fun r229 h230 hF => ?_)
   obtain rfl := sj hF
   have pz : HA hn99 [(ff (igt a3 40)), (tt (bnot a7)), .call 143 [.one (i6 a2.Prog)] (F143_res4 r168), (ff (leadsAny (Res.mk [(.agg [(.im (.lit (fnV 166))), (.im (.lit .nilFunc)), (.im (.lit (.bool r168.1.only_))), (.im (.lit (fnV 163)))]), (.one (.im (.lit (.bool r168.2))))] []))), .call 68 [.agg (eGGraph a1), .one (i6 a4)] (F68_res r227), (ff (leadsAny (Res.mk [(.one (.own 89 (.sl (len r227) (flat eGEdge r227))))] []))), (tt true), .call 146 [.one (.sl (len r227) (flat eGEdge r227)), .one (i6 a3), .one (i6 a5), .one (i6 0)] (F146_res r229), (ff (leadsAny (Res.mk [(.one (.im (i6 r229.1))), (.one (.own 130 (.sl (len r229.2.1) (flat eGMsg r229.2.1)))), (.one (.im (.lit (.bool r229.2.2.1)))), (.one (.im (i6 r229.2.2.2)))] [])))] := ⟨(igt_eq h14), (bnot_f h15), (F143_ok4 _ h226 (F143_ok K a2.Prog _ h169)), lk, (F68_ok K a1 a4 _ h228), lk, rfl, (F146_ok K r227 a3 a5 0 _ h230), lk, trivial⟩
   exact fpC hn99 (r := F99_res (r229.1, (r229.2.1, (r229.2.2.1, r229.2.2.2)))) (q236 (q237 (q238 pz)))
  refine cond_some hF (fun h231 hF => ?_) (fun _ hF => nomatch hF)
  refine bind_some hF (fun r232 h233 hF => ?_)
  refine bind_some hF (fun r234 h235 hF => ?_)
  obtain rfl := sj hF
  have pz : HA hn99 [(ff (igt a3 40)), (tt (bnot a7)), .call 143 [.one (i6 a2.Prog)] (F143_res5 r168), (ff (leadsAny (Res.mk [(.agg [(.im (.lit .nilFunc)), (.im (.lit .nilFunc)), (.im (.lit (.bool r168.1.only_))), (.im (.lit .nilFunc))]), (.one (.im (.lit (.bool r168.2))))] []))), .call 68 [.agg (eGGraph a1), .one (i6 a4)] (F68_res r232), (ff (leadsAny (Res.mk [(.one (.own 89 (.sl (len r232) (flat eGEdge r232))))] []))), (tt true), .call 146 [.one (.sl (len r232) (flat eGEdge r232)), .one (i6 a3), .one (i6 a5), .one (i6 0)] (F146_res r234), (ff (leadsAny (Res.mk [(.one (.im (i6 r234.1))), (.one (.own 130 (.sl (len r234.2.1) (flat eGMsg r234.2.1)))), (.one (.im (.lit (.bool r234.2.2.1)))), (.one (.im (i6 r234.2.2.2)))] [])))] := ⟨(igt_eq h14), (bnot_f h15), (F143_ok5 _ h231 (F143_ok K a2.Prog _ h169)), lk, (F68_ok K a1 a4 _ h233), lk, rfl, (F146_ok K r232 a3 a5 0 _ h235), lk, trivial⟩
  exact fpC hn99 (r := F99_res (r234.1, (r234.2.1, (r234.2.2.1, r234.2.2.2)))) (q236 (q237 (q238 pz)))
 obtain rfl := sj hF
 have pz : HA hn99 [.call 94 [.agg (eGGraph a1), .agg (eGJob a2)] (F94_res r8), (ff (leadsAny (Res.mk [(.one (.im (i6 r8)))] []))), (tt (ine r8 0))] := ⟨(F94_ok K a1 a2 _ h9), lk, (ine_f h10), trivial⟩
 exact fpC hn99 (r := F99_res (0, ([], (false, r8)))) pz
def F171 (K : Nat) (a1 : Int) (a2 : Int) : Option (Int × Bool) :=
 bif (ieq a1 0) then
  (some (0, true))
 else
 bif (ieq a2 0) then
  (some (0, true))
 else
 bif (ieq a1 (-1)) then
  (bif (ieq a1 (-9223372036854775808)) then
   (some (0, false))
  else
  bif (ieq a2 (-9223372036854775808)) then
   (some (0, false))
  else
  some ((wmul .i64 a1 a2), true))
 else
 bif (ieq a2 (-1)) then
  (bif (ieq a1 (-9223372036854775808)) then
   (some (0, false))
  else
  bif (ieq a2 (-9223372036854775808)) then
   (some (0, false))
  else
  some ((wmul .i64 a1 a2), true))
 else
 bif (izero a2) then none else
 bif (ieq (wquo .i64 (wmul .i64 a1 a2) a2) a1) then
  (some ((wmul .i64 a1 a2), true))
 else
 some (0, false)
def F168 (K : Nat) (a1 : Int) (a2 : Int) (a3 : Int) : Option (Int × Bool) :=
 bif (ilt a3 1) then
  (some (0, false))
 else
 (F171 K a1 a2).bind fun r4 =>
 bif r4.2 then
  (bif (izero a3) then none else
  some ((wquo .i64 r4.1 a3), true))
 else
 some (0, false)
def F148 (K : Nat) (a1 : Int) (a2 : Int) (a3 : GEdge) (a4 : Int) : Option (Int × Bool) :=
 bif (ieq a1 1) then
  ((F145 K a2 a3.W).bind fun r5 =>
  some (r5.1, r5.2))
 else
 bif (ieq a1 3) then
  ((F145 K a2 1).bind fun r6 =>
  some (r6.1, r6.2))
 else
 bif (ieq a1 5) then
  ((F168 K a2 1 a4).bind fun r7 =>
  some (r7.1, r7.2))
 else
 some (a2, true)
def F100_l0_0 (K : Nat) (v1 : Int) (v2 : Int) (v3 : Int) (v4 : Int) (v5 : Int) (v6 : Bool) (v7 : List GEdge) : Nat → List GMsg → Int → Option ((Unit) ⊕ (List GMsg))
 | 0, _, _ => none
 | k + 1, v8, v9 =>
  bif (ilt v9 (nlen (len v7))) then
   (bif v6 then
    (bif (inr v9 (len v7)) then
    (elAt v7 v9).bind fun x10 =>
    (F148 K v2 v1 x10 (nlen (len v7))).bind fun r11 =>
    bif r11.2 then
     (bif (apok (len v8) 1 16) then
     F100_l0_0 K v1 v2 v3 v4 v5 v6 v7 k (appL v8 [(GMsg.mk x10.To r11.1)]) (wadd .i64 v9 1)
     else none)
    else
    some (.inl ())
    else none)
   else
   some (.inr v8))
  else
  some (.inr v8)
def F100_l0_1 (K : Nat) (v1 : Int) (v2 : Int) (v3 : Int) (v4 : Int) (v5 : Int) (v6 : List GEdge) : Nat → List GMsg → Int → Option ((Unit) ⊕ (List GMsg))
 | 0, _, _ => none
 | k + 1, v7, v8 =>
  bif (ilt v8 (nlen (len v6))) then
   (bif (inr v8 (len v6)) then
   (elAt v6 v8).bind fun x9 =>
   (F148 K v2 v1 x9 (nlen (len v6))).bind fun r10 =>
   bif r10.2 then
    (bif (apok (len v7) 1 16) then
    F100_l0_1 K v1 v2 v3 v4 v5 v6 k (appL v7 [(GMsg.mk x9.To r10.1)]) (wadd .i64 v8 1)
    else none)
   else
   some (.inl ())
   else none)
  else
  some (.inr v7)
def F100_l0_2 (K : Nat) (v1 : Int) (v2 : Int) (v3 : Int) (v4 : Int) (v5 : Int) (v6 : Bool) (v7 : List GEdge) : Nat → List GMsg → Int → Option ((Unit) ⊕ (List GMsg))
 | 0, _, _ => none
 | k + 1, v8, v9 =>
  bif (ilt v9 (nlen (len v7))) then
   (bif v6 then
    (bif (inr v9 (len v7)) then
    (elAt v7 v9).bind fun x10 =>
    (F148 K v2 v1 x10 (nlen (len v7))).bind fun r11 =>
    bif r11.2 then
     (bif (apok (len v8) 1 16) then
     F100_l0_2 K v1 v2 v3 v4 v5 v6 v7 k (appL v8 [(GMsg.mk x10.To r11.1)]) (wadd .i64 v9 1)
     else none)
    else
    some (.inl ())
    else none)
   else
   some (.inr v8))
  else
  some (.inr v8)
def F100_l0_3 (K : Nat) (v1 : Int) (v2 : Int) (v3 : Int) (v4 : Int) (v5 : Int) (v6 : List GEdge) : Nat → List GMsg → Int → Option (((List GMsg)) ⊕ (Unit))
 | 0, _, _ => none
 | k + 1, v7, v8 =>
  bif (ilt v8 (nlen (len v6))) then
   (bif (ieq v1 v1) then
    (some (.inl v7))
   else
   bif (inr v8 (len v6)) then
   (elAt v6 v8).bind fun x9 =>
   (F148 K v2 v1 x9 (nlen (len v6))).bind fun r10 =>
   bif r10.2 then
    (bif (apok (len v7) 1 16) then
    F100_l0_3 K v1 v2 v3 v4 v5 v6 k (appL v7 [(GMsg.mk x9.To r10.1)]) (wadd .i64 v8 1)
    else none)
   else
   some (.inr ())
   else none)
  else
  some (.inl v7)
theorem u_add {a b : Int} (h : 0 ≤ a + b) (h2 : a + b < 18446744073709551616) : wadd .u64 a b = a + b := by
 show IntKind.u64.wrap (a + b) = _
 simp [IntKind.wrap, IntKind.signed, IntKind.bits]; omega
theorem u_mul {a b : Int} (h : 0 ≤ a * b) (h2 : a * b < 18446744073709551616) : wmul .u64 a b = a * b := by
 show IntKind.u64.wrap (a * b) = _
 simp only [IntKind.wrap, IntKind.signed, IntKind.bits, Bool.false_and]
 generalize a * b = t at *
 simp; omega
theorem u_quo {a : Int} (h : 0 ≤ a) (h2 : a < 18446744073709551616) : wquo .u64 a 4294967296 = a / 4294967296 := by
 show IntKind.u64.wrap (a.tdiv 4294967296) = _
 rw [Int.tdiv_eq_ediv_of_nonneg h]
 simp [IntKind.wrap, IntKind.signed, IntKind.bits]; omega
theorem u_rem {a : Int} (h : 0 ≤ a) : wrem a 4294967296 = a % 4294967296 := by
 show a.tmod 4294967296 = _
 exact Int.tmod_eq_emod_of_nonneg h
theorem F174_spec (K : Nat) {x b : Int} (hx : 0 ≤ x) (hx2 : x ≤ 9223372036854775808) (hb : 1 ≤ b) (hb2 : b ≤ 1000) :
 ∃ hi lo, F174 K x b = some (GA199.mk hi lo) ∧ hi * 18446744073709551616 + lo = x * b ∧ 0 ≤ lo ∧ lo < 18446744073709551616 ∧ 0 ≤ hi := by
 obtain ⟨u, hu⟩ : ∃ u, x / 4294967296 = u := ⟨_, rfl⟩
 obtain ⟨v, hv⟩ : ∃ v, x % 4294967296 = v := ⟨_, rfl⟩
 have hu0 : 0 ≤ u ∧ u ≤ 2147483648 := by omega
 have hv0 : 0 ≤ v ∧ v < 4294967296 := by omega
 have hxu : x = u * 4294967296 + v := by omega
 obtain ⟨P, hP⟩ : ∃ P, u * b = P := ⟨_, rfl⟩
 obtain ⟨Q, hQ⟩ : ∃ Q, v * b = Q := ⟨_, rfl⟩
 have hP0 : 0 ≤ P := hP ▸ Int.mul_nonneg hu0.1 (by omega)
 have hQ0 : 0 ≤ Q := hQ ▸ Int.mul_nonneg hv0.1 (by omega)
 have hP1 : P ≤ 2147483648 * 1000 := hP ▸ Int.mul_le_mul hu0.2 hb2 (by omega) (by omega)
 have hQ1 : Q ≤ 4294967296 * 1000 := hQ ▸ Int.mul_le_mul (by omega) hb2 (by omega) (by omega)
 have hxb : x * b = P * 4294967296 + Q := by rw [hxu, Int.add_mul, hQ, ← hP, Int.mul_right_comm]
 have a1 : wquo .u64 x 4294967296 = u := by rw [u_quo hx (by omega), hu]
 have a2 : wquo .u64 b 4294967296 = 0 := by rw [u_quo (by omega) (by omega)]; omega
 have a3 : wrem x 4294967296 = v := by rw [u_rem hx, hv]
 have a4 : wrem b 4294967296 = b := by rw [u_rem (by omega)]; omega
 have b1 : wmul .u64 u 0 = 0 := by rw [u_mul (by omega) (by omega)]; omega
 have b2 : wmul .u64 u b = P := by rw [u_mul (by omega) (by omega), hP]
 have b3 : wmul .u64 v 0 = 0 := by rw [u_mul (by omega) (by omega)]; omega
 have b4 : wmul .u64 v b = Q := by rw [u_mul (by omega) (by omega), hQ]
 have c1 : wquo .u64 P 4294967296 = P / 4294967296 := u_quo hP0 (by omega)
 have c2 : wquo .u64 0 4294967296 = 0 := by rw [u_quo (by omega) (by omega)]; omega
 have c3 : wquo .u64 Q 4294967296 = Q / 4294967296 := u_quo hQ0 (by omega)
 have c4 : wrem P 4294967296 = P % 4294967296 := u_rem hP0
 have c5 : wrem 0 4294967296 = 0 := by rw [u_rem (by omega)]; omega
 have c6 : wrem Q 4294967296 = Q % 4294967296 := u_rem hQ0
 have d1 : wadd .u64 (Q / 4294967296) (P % 4294967296) = Q / 4294967296 + P % 4294967296 := u_add (by omega) (by omega)
 have d2 : wadd .u64 (Q / 4294967296 + P % 4294967296) 0 = Q / 4294967296 + P % 4294967296 := by rw [u_add (by omega) (by omega)]; omega
 have d3 : wquo .u64 (Q / 4294967296 + P % 4294967296) 4294967296 = (Q / 4294967296 + P % 4294967296) / 4294967296 := u_quo (by omega) (by omega)
 have d4 : wrem (Q / 4294967296 + P % 4294967296) 4294967296 = (Q / 4294967296 + P % 4294967296) % 4294967296 := u_rem (by omega)
 have d5 : wadd .u64 0 (P / 4294967296) = P / 4294967296 := by rw [u_add (by omega) (by omega)]; omega
 have d6 : wadd .u64 (P / 4294967296) 0 = P / 4294967296 := by rw [u_add (by omega) (by omega)]; omega
 have d7 : wadd .u64 (P / 4294967296) ((Q / 4294967296 + P % 4294967296) / 4294967296) = P / 4294967296 + (Q / 4294967296 + P % 4294967296) / 4294967296 := u_add (by omega) (by omega)
 have d8 : wmul .u64 ((Q / 4294967296 + P % 4294967296) % 4294967296) 4294967296 = (Q / 4294967296 + P % 4294967296) % 4294967296 * 4294967296 := u_mul (by omega) (by omega)
 have d9 : wadd .u64 ((Q / 4294967296 + P % 4294967296) % 4294967296 * 4294967296) (Q % 4294967296) = (Q / 4294967296 + P % 4294967296) % 4294967296 * 4294967296 + Q % 4294967296 := u_add (by omega) (by omega)
 refine ⟨P / 4294967296 + (Q / 4294967296 + P % 4294967296) / 4294967296, (Q / 4294967296 + P % 4294967296) % 4294967296 * 4294967296 + Q % 4294967296, ?_, ?_, by omega, by omega, by omega⟩
 · rw [F174, a1, a2, a3, a4, b1, b2, b3, b4, c1, c2, c3, c4, c5, c6, d1, d2, d3, d4, d5, d6, d7, d8, d9]
 · rw [hxb]; omega
theorem F175_spec (K : Nat) {a : Int} (ha : i64 a) : F175 K a = some (bif ilt a 0 then -a else a) := by
 unfold i64 at ha
 rw [F175]
 cases h : ilt a 0
 · have := ilt_f.1 h
   have e : wconv .u64 a = a := by
    show IntKind.u64.wrap a = _
    simp [IntKind.wrap, IntKind.signed, IntKind.bits]; omega
   rw [e]; rfl
 · have := ilt_iff.1 h
   have e1 : wadd .i64 a 1 = a + 1 := wadd_i64 (by unfold i64; omega)
   have e2 : wneg .i64 (a + 1) = -(a + 1) := by
    show IntKind.i64.wrap (0 - (a + 1)) = _
    rw [IntKind.wrap_i64]; omega
   have e3 : wconv .u64 (-(a + 1)) = -(a + 1) := by
    show IntKind.u64.wrap _ = _
    simp [IntKind.wrap, IntKind.signed, IntKind.bits]; omega
   have e4 : wadd .u64 (-(a + 1)) 1 = -a := by rw [u_add (by omega) (by omega)]; omega
   rw [e1, e2, e3, e4]; rfl
def mulS (a b : Int) : Int × Bool := bif fitsB (a * b) then (a * b, true) else (0, false)
theorem F170_spec (K : Nat) {a b : Int} (ha : i64 a) (hb : 1 ≤ b) (hb2 : b ≤ 1000) : F170 K a b = some (mulS a b) := by
 have hb0 : ilt b 0 = false := ilt_f.2 (by omega)
 have h175 : F175 K b = some b := by rw [F175_spec K (by unfold i64; omega), hb0]; rfl
 have hconv : ∀ n : Int, 0 ≤ n → n ≤ 9223372036854775807 → wconv .i64 n = n := fun n h1 h2 => by
  show IntKind.i64.wrap n = _
  rw [IntKind.wrap_i64]; omega
 rw [F170, F175_spec K ha, h175, mulS, hb0]
 unfold i64 at ha
 cases h : ilt a 0
 · have hn := ilt_f.1 h
   obtain ⟨hi, lo, e, h1, h2, h3, h4⟩ := F174_spec K hn (by omega) hb hb2
   simp only [Option.bind_some, cond_false, e]
   cases c1 : ilt 0 hi
   · have c1' := ilt_f.1 c1
     cases c2 : ilt 9223372036854775808 lo
     · have c2' := ilt_f.1 c2
       cases c3 : ieq lo 9223372036854775808
       · have c3' := ieq_f.1 c3
         have hf : fitsB (a * b) = true := fitsB_iff.2 (by unfold i64; omega)
         have : lo = a * b := by omega
         rw [hf, hconv lo h2 (by omega), this]; rfl
       · have c3' := ieq_iff.1 c3
         have hf : fitsB (a * b) = false := fitsB_f.2 (by omega)
         rw [hf]; rfl
     · have c2' := ilt_iff.1 c2
       have hf : fitsB (a * b) = false := fitsB_f.2 (by omega)
       rw [hf]; rfl
   · have c1' := ilt_iff.1 c1
     have hf : fitsB (a * b) = false := fitsB_f.2 (by omega)
     rw [hf]; rfl
 · have hn := ilt_iff.1 h
   obtain ⟨hi, lo, e, h1, h2, h3, h4⟩ := F174_spec K (x := -a) (by omega) (by omega) hb hb2
   rw [Int.neg_mul] at h1
   simp only [Option.bind_some, cond_true, e]
   cases c1 : ilt 0 hi
   · have c1' := ilt_f.1 c1
     cases c2 : ilt 9223372036854775808 lo
     · have c2' := ilt_f.1 c2
       cases c3 : ieq lo 9223372036854775808
       · have c3' := ieq_f.1 c3
         have hf : fitsB (a * b) = true := fitsB_iff.2 (by unfold i64; omega)
         have hw : wneg .i64 lo = a * b := by
          show IntKind.i64.wrap (0 - lo) = _
          rw [IntKind.wrap_i64]; omega
         rw [hf, hconv lo h2 (by omega), hw]; rfl
       · have c3' := ieq_iff.1 c3
         have hf : fitsB (a * b) = true := fitsB_iff.2 (by unfold i64; omega)
         have : a * b = -9223372036854775808 := by omega
         rw [hf, this]; rfl
     · have c2' := ilt_iff.1 c2
       have hf : fitsB (a * b) = false := fitsB_f.2 (by omega)
       rw [hf]; rfl
   · have c1' := ilt_iff.1 c1
     have hf : fitsB (a * b) = false := fitsB_f.2 (by omega)
     rw [hf]; rfl
theorem tdiv_i64 {a d : Int} (ha : i64 a) (hd : 1 ≤ d) : wquo .i64 a d = a.tdiv d ∧ i64 (a.tdiv d) := by
 unfold i64 at ha
 have h1 : (a.tdiv d).natAbs ≤ a.natAbs := Int.natAbs_tdiv_le_natAbs a d
 have h2 : -9223372036854775808 ≤ a.tdiv d ∧ a.tdiv d ≤ 9223372036854775808 := by omega
 have h3 : 0 ≤ a → 0 ≤ a.tdiv d := fun h => Int.tdiv_nonneg h (by omega)
 have h4 : a ≤ 0 → a.tdiv d ≤ 0 := fun h => by
  have := Int.tdiv_nonneg (show 0 ≤ -a by omega) (show 0 ≤ d by omega)
  rw [Int.neg_tdiv] at this; omega
 have h5 : i64 (a.tdiv d) := by
  unfold i64
  rcases Int.le_total 0 a with h | h
  · have := h3 h; omega
  · have := h4 h; omega
 refine ⟨?_, h5⟩
 unfold i64 at h5
 show IntKind.i64.wrap (a.tdiv d) = _
 rw [IntKind.wrap_i64]; omega
theorem F171_spec (K : Nat) {a b : Int} (ha : i64 a) (hb : 1 ≤ b) (hb2 : b ≤ 1000) : F171 K a b = some (mulS a b) := by
 unfold i64 at ha
 rw [F171, mulS, ieq_f.2 (by omega : b ≠ 0), ieq_f.2 (by omega : b ≠ -1)]
 cases h0 : ieq a 0
 · have h0' := ieq_f.1 h0
   cases h1 : ieq a (-1)
   · have hz : izero b = false := decide_eq_false (by omega)
     simp only [cond_false, hz]
     obtain ⟨t, ht⟩ : ∃ t, a * b = t := ⟨_, rfl⟩
     obtain ⟨p, hp⟩ : ∃ p, wmul .i64 a b = p := ⟨_, rfl⟩
     have hp' : p = if 9223372036854775808 ≤ t % 18446744073709551616 then t % 18446744073709551616 - 18446744073709551616 else t % 18446744073709551616 := by
      rw [← hp, ← ht]
      show IntKind.i64.wrap (a * b) = _
      rw [IntKind.wrap_i64, ht]
      split <;> omega
     have hpr : -9223372036854775808 ≤ p ∧ p ≤ 9223372036854775807 := by rw [hp']; split <;> omega
     obtain ⟨q, hq⟩ : ∃ q, p.tdiv b = q := ⟨_, rfl⟩
     obtain ⟨r, hr⟩ : ∃ r, p.tmod b = r := ⟨_, rfl⟩
     have hdiv : b * q + r = p := by rw [← hq, ← hr]; exact Int.mul_tdiv_add_tmod p b
     have hrb : -1000 < r ∧ r < 1000 := by
      have h1 := Int.tmod_lt_of_pos p (show 0 < b by omega)
      have h2 := Int.lt_tmod_of_pos p (show 0 < b by omega)
      omega
     have hqr : -9223372036854775808 ≤ q ∧ q ≤ 9223372036854775807 := by
      have : i64 (p.tdiv b) := (tdiv_i64 (show i64 p from hpr) hb).2
      unfold i64 at this
      rw [hq] at this; exact this
     have hw : wquo .i64 p b = q := by rw [(tdiv_i64 (show i64 p from hpr) hb).1, hq]
     rw [hp, hw, ht]
     cases hf : fitsB t
     · have hf' := fitsB_f.1 hf
       have hne : ieq q a = false := ieq_f.2 fun hc => by
        have hba : b * q = t := by rw [hc, Int.mul_comm]; exact ht
        rw [hba] at hdiv
        have := hp'
        split at this <;> omega
       rw [hne]; rfl
     · have hf' := fitsB_iff.1 hf
       unfold i64 at hf'
       have hpt : p = t := by rw [hp']; split <;> omega
       have hqa : q = a := by
        rw [← hq, hpt, ← ht]
        exact Int.mul_tdiv_cancel a (by omega)
       rw [hqa, ieq_refl, hpt]; rfl
   · have h1' := ieq_iff.1 h1
     subst h1'
     have e1 : ieq (-1) (-9223372036854775808) = false := rfl
     have e2 : ieq b (-9223372036854775808) = false := ieq_f.2 (by omega)
     have e3 : fitsB (-1 * b) = true := fitsB_iff.2 (by unfold i64; omega)
     have e4 : wmul .i64 (-1) b = -1 * b := wmul_ok (by unfold i64; omega)
     rw [e1, e2, e3, e4]; rfl
 · have h0' := ieq_iff.1 h0
   subst h0'
   have e3 : fitsB (0 * b) = true := fitsB_iff.2 (by unfold i64; omega)
   rw [e3, Int.zero_mul]; rfl
def ratioS (v n d : Int) : Int × Bool := bif ilt d 1 then (0, false) else bif (mulS v n).2 then ((mulS v n).1.tdiv d, true) else (0, false)
theorem mulS_i64 {a b : Int} : i64 (mulS a b).1 := by
 rw [mulS]
 cases h : fitsB (a * b)
 · unfold i64; simp
 · exact fitsB_iff.1 h
theorem ratioS_i64 {v n d : Int} : i64 (ratioS v n d).1 := by
 have h0 : i64 0 := by unfold i64; omega
 rw [ratioS]
 cases hd : ilt d 1
 · cases (mulS v n).2
   · exact h0
   · exact (tdiv_i64 mulS_i64 (ilt_f.1 hd)).2
 · exact h0
theorem F167_spec (K : Nat) {v n : Int} (d : Int) (hv : i64 v) (hn : 1 ≤ n) (hn2 : n ≤ 1000) : F167 K v n d = some (ratioS v n d) := by
 rw [F167, F170_spec K hv hn hn2, Option.bind_some, ratioS]
 cases hd : ilt d 1
 · have hd' := ilt_f.1 hd
   have hz : izero d = false := decide_eq_false (by omega)
   rw [(tdiv_i64 (mulS_i64 (a := v) (b := n)) hd').1, hz]
   cases (mulS v n).2 <;> rfl
 · cases (mulS v n).2 <;> rfl
theorem F168_spec (K : Nat) {v n : Int} (d : Int) (hv : i64 v) (hn : 1 ≤ n) (hn2 : n ≤ 1000) : F168 K v n d = some (ratioS v n d) := by
 rw [F168, F171_spec K hv hn hn2, ratioS]
 cases hd : ilt d 1
 · have hd' := ilt_f.1 hd
   have hz : izero d = false := decide_eq_false (by omega)
   rw [cond_false, cond_false, Option.bind_some, (tdiv_i64 (mulS_i64 (a := v) (b := n)) hd').1, hz]
   cases (mulS v n).2 <;> rfl
 · rfl
def sumS (got : Int) : Int × Bool := bif (ratioS got 85 100).2 then addS 150000 (ratioS got 85 100).1 else (0, false)
theorem addS_i64 {a b : Int} : i64 (addS a b).1 := by
 rw [addS]
 cases h : fitsB (a + b)
 · unfold i64; simp
 · exact fitsB_iff.1 h
theorem sumS_i64 {got : Int} : i64 (sumS got).1 := by
 rw [sumS]
 cases (ratioS got 85 100).2
 · unfold i64; simp
 · exact addS_i64
def outs (g : GGraph) (v : Int) : List GEdge := bif ieq (gcheck g) 0 then g.Edges.filter (fun e => ieq e.From v) else []
theorem out_go (l : List GEdge) (v : Int) : ∀ (s : List GEdge), s.length + l.length ≤ 80 →
 goL (fun x (s : List GEdge) c => bif (ieq x.From v) then (bif (apok (len s) 1 24) then c (appL s [x]) else none) else c s) (fun s => some s) l s = some (s ++ l.filter (fun e => ieq e.From v)) := by
 induction l with
 | nil => intro s _; simp [goL]
 | cons x l ih =>
  intro s hs
  simp only [List.length_cons] at hs
  rw [goL]
  cases hx : ieq x.From v
  · rw [cond_false, ih s (by omega), List.filter_cons, hx]; rfl
  · have ha : apok (len s) 1 24 = true := decide_eq_true ⟨by show s.length + 1 ≤ _; omega, by show (s.length + 1) * 24 ≤ _; omega⟩
    rw [cond_true, ha, cond_true, ih _ (by simp [appL]; omega), List.filter_cons, hx]
    simp [appL]
theorem F68_spec {K : Nat} (hK : 100 ≤ K) (g : GGraph) (v : Int) : F68 K g v = some (outs g v) := by
 rw [F68, F64_spec hK, Option.bind_some, outs]
 cases hc : ieq (gcheck g) 0
 · rfl
 · obtain ⟨h1, h2, h3, h4⟩ := gcheck_ok hc
   have e : F68_l0_0 K g v K [] 0 = _ := scanL (l := g.Edges) (L := fun k s i => F68_l0_0 K g v k s i) (fun x (s : List GEdge) c => bif (ieq x.From v) then (bif (apok (len s) 1 24) then c (appL s [x]) else none) else c s) (fun s => some s) (fun k s i _ => rfl) (by omega) (by omega) []
   rw [cond_true, cond_true, e, out_go _ _ _ (by simpa using h3)]; rfl
theorem outs_len {g : GGraph} {v : Int} : (outs g v).length ≤ 80 := by
 rw [outs]
 cases hc : ieq (gcheck g) 0
 · simp
 · obtain ⟨h1, h2, h3, h4⟩ := gcheck_ok hc
   exact Nat.le_trans (List.length_filter_le _ _) h3
def sendS (p val : Int) (e : GEdge) (many : Int) : Int × Bool := bif ieq p 1 then addS val e.W else bif ieq p 3 then addS val 1 else bif ieq p 5 then ratioS val 1 many else (val, true)
def sendA (p val many : Int) : List GEdge → List GMsg → Option (List GMsg)
 | [], s => some s
 | e :: l, s => bif (sendS p val e many).2 then sendA p val many l (s ++ [GMsg.mk e.To (sendS p val e many).1]) else none
def sumO {α : Type} : Option α → Unit ⊕ α
 | none => .inl ()
 | some s => .inr s
def sendO (rest : Bool) (val : Int) : Option (List GMsg) → Int × List GMsg × Bool × Int
 | none => (0, [], false, 8)
 | some s => (val, s, rest, 0)
theorem sum_elim (rest : Bool) (val : Int) (o : Option (List GMsg)) : (some (sumO o)).bind (fun y => Sum.elim (fun w => some ((0, ([], (false, 8))) : Int × List GMsg × Bool × Int)) (fun w => some (val, (w, (rest, 0)))) y) = some (sendO rest val o) := by
 cases o <;> rfl
theorem sum_elim' (rest : Bool) (val : Int) (o : Option (List GMsg)) : Sum.elim (fun w => some ((0, ([], (false, 8))) : Int × List GMsg × Bool × Int)) (fun w => some (val, (w, (rest, 0)))) (sumO o) = some (sendO rest val o) := by
 cases o <;> rfl
theorem send_go (p val many : Int) (f : GEdge → Option (Int × Bool)) (l : List GEdge) (hf : ∀ e ∈ l, f e = some (sendS p val e many)) : ∀ (s : List GMsg), s.length + l.length ≤ 80 →
 goL (fun e (s : List GMsg) c => (f e).bind fun r => bif r.2 then (bif (apok (len s) 1 16) then c (appL s [(GMsg.mk e.To r.1)]) else none) else some (.inl ())) (fun s => some (.inr s)) l s = some (sumO (sendA p val many l s)) := by
 induction l with
 | nil => intro s _; rfl
 | cons x l ih =>
  intro s hs
  simp only [List.length_cons] at hs
  rw [goL, hf x List.mem_cons_self, Option.bind_some, sendA]
  cases (sendS p val x many).2
  · rfl
  · have ha : apok (len s) 1 16 = true := decide_eq_true ⟨by show s.length + 1 ≤ _; omega, by show (s.length + 1) * 16 ≤ _; omega⟩
    rw [cond_true, ha, cond_true, ih (fun e he => hf e (List.mem_cons_of_mem _ he)) _ (by simp [appL]; omega), cond_true]; rfl
theorem outs_W {g : GGraph} {v : Int} {e : GEdge} (h : e ∈ outs g v) : 0 ≤ e.W ∧ e.W ≤ 4611686018427387904 := by
 rw [outs] at h
 cases hc : ieq (gcheck g) 0
 · rw [hc] at h; cases h
 · obtain ⟨h1, h2, h3, h4⟩ := gcheck_ok hc
   rw [hc] at h
   have := badE_ok (gchk_mem h4 e (List.mem_filter.1 h).1)
   omega
theorem F160_spec (K : Nat) {val : Int} {e : GEdge} (many : Int) (hv : i64 val) (he : i64 e.W) : F160 K val e = some (sendS 1 val e many) := by
 rw [F160, F144_spec K hv he]; rfl
theorem F161_spec (K : Nat) {val : Int} (e : GEdge) (many : Int) (hv : i64 val) : F161 K val e = some (sendS 3 val e many) := by
 rw [F161, F144_spec K hv (by unfold i64; omega)]; rfl
theorem F148_spec (K : Nat) (p : Int) {val many : Int} {e : GEdge} (hv : i64 val) (he : i64 e.W) : F148 K p val e many = some (sendS p val e many) := by
 rw [F148, sendS, F145_spec K hv he, F145_spec K hv (show i64 1 by unfold i64; omega), F168_spec K many hv (show (1 : Int) ≤ 1 by omega) (show (1 : Int) ≤ 1000 by omega)]
 cases ieq p 1 <;> cases ieq p 3 <;> cases ieq p 5 <;> rfl
def manyO (g : GGraph) (v : Int) : Int := nlen (len (outs g v))
section loops
variable {K : Nat} (hK : 100 ≤ K) (g : GGraph) (v : Int) {val : Int} (hv : i64 val)
include hK hv
theorem loop99_0 (b : Bool) : F99_l0_0 K val b (outs g v) K [] 0 = some (sumO (sendA 1 val (manyO g v) (outs g v) [])) := by
 have hl := outs_len (g := g) (v := v)
 have e := scanL (l := outs g v) (L := fun k s i => F99_l0_0 K val b (outs g v) k s i) (fun e (s : List GMsg) c => (F160 K val e).bind fun r => bif r.2 then (bif (apok (len s) 1 16) then c (appL s [(GMsg.mk e.To r.1)]) else none) else some (.inl ())) (fun s => some (.inr s)) (fun k s i _ => rfl) (K := K) (by omega) (by omega) []
 exact e.trans (send_go 1 val (manyO g v) (F160 K val) _ (fun e he => F160_spec K _ hv (by have := outs_W he; unfold i64; omega)) [] (by simpa using hl))
theorem loop99_1 (b : Bool) : F99_l0_1 K val b (outs g v) K [] 0 = some (sumO (sendA 3 val (manyO g v) (outs g v) [])) := by
 have hl := outs_len (g := g) (v := v)
 have e := scanL (l := outs g v) (L := fun k s i => F99_l0_1 K val b (outs g v) k s i) (fun e (s : List GMsg) c => (F161 K val e).bind fun r => bif r.2 then (bif (apok (len s) 1 16) then c (appL s [(GMsg.mk e.To r.1)]) else none) else some (.inl ())) (fun s => some (.inr s)) (fun k s i _ => rfl) (K := K) (by omega) (by omega) []
 exact e.trans (send_go 3 val (manyO g v) (F161 K val) _ (fun e he => F161_spec K e _ hv) [] (by simpa using hl))
omit hv in
theorem loop99_2 (val : Int) (b : Bool) : F99_l0_2 K val b (outs g v) K [] 0 = some (sumO (sendA 2 val (manyO g v) (outs g v) [])) := by
 have hl := outs_len (g := g) (v := v)
 have e := scanL (l := outs g v) (L := fun k s i => F99_l0_2 K val b (outs g v) k s i) (fun e (s : List GMsg) c => (F163 K val e).bind fun r => bif r.2 then (bif (apok (len s) 1 16) then c (appL s [(GMsg.mk e.To r.1)]) else none) else some (.inl ())) (fun s => some (.inr s)) (fun k s i _ => rfl) (K := K) (by omega) (by omega) []
 exact e.trans (send_go 2 val (manyO g v) (F163 K val) _ (fun e he => rfl) [] (by simpa using hl))
omit hv in
theorem loop99_3 (val : Int) (b : Bool) : F99_l0_3 K val b (outs g v) K [] 0 = some (sumO (sendA 4 val (manyO g v) (outs g v) [])) := by
 have hl := outs_len (g := g) (v := v)
 have e := scanL (l := outs g v) (L := fun k s i => F99_l0_3 K val b (outs g v) k s i) (fun e (s : List GMsg) c => (F163 K val e).bind fun r => bif r.2 then (bif (apok (len s) 1 16) then c (appL s [(GMsg.mk e.To r.1)]) else none) else some (.inl ())) (fun s => some (.inr s)) (fun k s i _ => rfl) (K := K) (by omega) (by omega) []
 exact e.trans (send_go 4 val (manyO g v) (F163 K val) _ (fun e he => rfl) [] (by simpa using hl))
theorem loop146 : F146_l0_0 K (outs g v) val K [] 0 = some (sumO (sendA 5 val (manyO g v) (outs g v) [])) := by
 have hl := outs_len (g := g) (v := v)
 have e := scanL (l := outs g v) (L := fun k s i => F146_l0_0 K (outs g v) val k s i) (fun e (s : List GMsg) c => (F167 K val 1 (nlen (len (outs g v)))).bind fun r => bif r.2 then (bif (apok (len s) 1 16) then c (appL s [(GMsg.mk e.To r.1)]) else none) else some (.inl ())) (fun s => some (.inr s)) (fun k s i _ => rfl) (K := K) (by omega) (by omega) []
 exact e.trans (send_go 5 val (manyO g v) (fun _ => F167 K val 1 (nlen (len (outs g v)))) _ (fun e he => F167_spec K _ hv (by omega) (by omega)) [] (by simpa using hl))
theorem loop100_1 (p a b c : Int) : F100_l0_1 K val p a b c (outs g v) K [] 0 = some (sumO (sendA p val (manyO g v) (outs g v) [])) := by
 have hl := outs_len (g := g) (v := v)
 have e := scanL (l := outs g v) (L := fun k s i => F100_l0_1 K val p a b c (outs g v) k s i) (fun e (s : List GMsg) c => (F148 K p val e (nlen (len (outs g v)))).bind fun r => bif r.2 then (bif (apok (len s) 1 16) then c (appL s [(GMsg.mk e.To r.1)]) else none) else some (.inl ())) (fun s => some (.inr s)) (fun k s i _ => rfl) (K := K) (by omega) (by omega) []
 exact e.trans (send_go p val (manyO g v) (fun e => F148 K p val e (nlen (len (outs g v)))) _ (fun e he => F148_spec K p hv (by have := outs_W he; unfold i64; omega)) [] (by simpa using hl))
theorem loop100_0 (p a b c : Int) (m : Bool) : F100_l0_0 K val p a b c m (outs g v) K [] 0 = some (bif m then sumO (sendA p val (manyO g v) (outs g v) []) else .inr []) := by
 have hl := outs_len (g := g) (v := v)
 cases m
 · obtain ⟨k, rfl⟩ : ∃ k, K = k + 1 := ⟨K - 1, by omega⟩
   rw [F100_l0_0]
   cases ilt 0 (nlen (len (outs g v))) <;> rfl
 · have e := scanL (l := outs g v) (L := fun k s i => F100_l0_0 K val p a b c true (outs g v) k s i) (fun e (s : List GMsg) c => (F148 K p val e (nlen (len (outs g v)))).bind fun r => bif r.2 then (bif (apok (len s) 1 16) then c (appL s [(GMsg.mk e.To r.1)]) else none) else some (.inl ())) (fun s => some (.inr s)) (fun k s i _ => rfl) (K := K) (by omega) (by omega) []
   exact e.trans (send_go p val (manyO g v) (fun e => F148 K p val e (nlen (len (outs g v)))) _ (fun e he => F148_spec K p hv (by have := outs_W he; unfold i64; omega)) [] (by simpa using hl))
theorem loop100_2 (p a b c : Int) (m : Bool) : F100_l0_2 K val p a b c m (outs g v) K [] 0 = some (bif m then sumO (sendA p val (manyO g v) (outs g v) []) else .inr []) := by
 have hl := outs_len (g := g) (v := v)
 cases m
 · obtain ⟨k, rfl⟩ : ∃ k, K = k + 1 := ⟨K - 1, by omega⟩
   rw [F100_l0_2]
   cases ilt 0 (nlen (len (outs g v))) <;> rfl
 · have e := scanL (l := outs g v) (L := fun k s i => F100_l0_2 K val p a b c true (outs g v) k s i) (fun e (s : List GMsg) c => (F148 K p val e (nlen (len (outs g v)))).bind fun r => bif r.2 then (bif (apok (len s) 1 16) then c (appL s [(GMsg.mk e.To r.1)]) else none) else some (.inl ())) (fun s => some (.inr s)) (fun k s i _ => rfl) (K := K) (by omega) (by omega) []
   exact e.trans (send_go p val (manyO g v) (fun e => F148 K p val e (nlen (len (outs g v)))) _ (fun e he => F148_spec K p hv (by have := outs_W he; unfold i64; omega)) [] (by simpa using hl))
omit hv in
theorem loop100_3 (val p a b c : Int) : F100_l0_3 K val p a b c (outs g v) K [] 0 = some (.inl []) := by
 obtain ⟨k, rfl⟩ : ∃ k, K = k + 1 := ⟨K - 1, by omega⟩
 rw [F100_l0_3, ieq_refl]
 cases ilt 0 (nlen (len (outs g v))) <;> rfl
end loops
def rankW (step val got : Int) (sm : Bool) : Int × Bool := bif ilt 0 step then sumS (bif sm then got else 0) else (val, true)
def rankS (step : Int) (w : Int × Bool) (many : Int) (l : List GEdge) : Int × List GMsg × Bool × Int :=
 bif w.2 then (bif ile 10 step then (w.1, [], true, 0) else sendO false w.1 (sendA 5 w.1 many l [])) else (0, [], false, 8)
def turnV (p val got : Int) (sm : Bool) : Int := bif sm then (foldS p val got).1 else val
def turnM (p src step v val w : Int) : Bool := bif ieq step 0 && (bif ieq p 1 || ieq p 3 then ieq v src else true) then true else ine w val
def moveS (p : Int) (m : Bool) (w many : Int) (l : List GEdge) : Int × List GMsg × Bool × Int :=
 bif m then sendO true w (sendA p w many l []) else (w, [], true, 0)
def turnS (g : GGraph) (j : GJob) (step v val got : Int) (sm : Bool) : Int × List GMsg × Bool × Int :=
 bif ieq (jcheck g j) 0 then
  (bif ilt v 0 then (0, [], false, 4) else bif ile g.N v then (0, [], false, 4)
   else bif ilt step 0 then (0, [], false, 1) else bif ilt 40 step then (0, [], false, 1)
   else bif ieq j.Prog 5 then rankS step (rankW step val got sm) (manyO g v) (outs g v)
   else moveS j.Prog (turnM j.Prog j.Source step v val (turnV j.Prog val got sm)) (turnV j.Prog val got sm) (manyO g v) (outs g v))
 else (0, [], false, jcheck g j)
theorem F146_spec {K : Nat} (hK : 100 ≤ K) (g : GGraph) (v step : Int) {val got : Int} (hv : i64 val) (hg : i64 got) : F146 K (outs g v) step val got = some (rankS step (rankW step val got true) (manyO g v) (outs g v)) := by
 rw [F146, F167_spec K 100 hg (by omega) (by omega), Option.bind_some, F144_spec K (by unfold i64; omega) ratioS_i64, rankW, rankS]
 cases hs : ilt 0 step
 · rw [loop146 hK g v hv, sum_elim]
   cases ile 10 step <;> rfl
 · rw [cond_true, cond_true, Option.bind_some, cond_true, sumS]
   cases (ratioS got 85 100).2
   · rfl
   · cases h2 : (addS 150000 (ratioS got 85 100).1).2
     · rw [cond_true, cond_true, h2]; rfl
     · rw [cond_true, cond_true, cond_true, h2, cond_true, loop146 hK g v addS_i64, sum_elim]
       cases ile 10 step <;> rfl
theorem F99_spec {K : Nat} (hK : 100 ≤ K) (g : GGraph) (j : GJob) (step v : Int) {val got : Int} (sm : Bool) (hv : i64 val) (hg : i64 got) : F99 K g j step v val got sm = some (turnS g j step v val got sm) := by
 rw [F99, F94_spec hK, Option.bind_some, turnS]
 cases hc : ieq (jcheck g j) 0
 · rfl
 · obtain ⟨hgc, p1, p2, p3, p4, p5, p6, p7, p8⟩ := jcheck_ok hc
   rw [cond_true, cond_true]
   cases h1 : ilt v 0
   · cases h2 : ile g.N v
     · cases h3 : ilt step 0
       · cases h4 : ilt 40 step
         · simp only [cond_false]
           rcases prog_cases j.Prog with q | q | q | q | q | q
           · have e5 : ieq 1 5 = false := rfl
             have e4 : ieq 1 4 = false := rfl
             have e1 : ieq 1 1 = true := rfl
             have e3 : ieq 1 3 = false := rfl
             have eb : pbad 1 = false := rfl
             rw [F68_spec hK, q, F143_1, turnM, turnV, foldS, e5, e4, e1, e3, eb, moveS]
             simp only [Option.bind_some, cond_true, cond_false, af_1_1, af_1_3, af_1_2, af_1_4, af_1_5, af_1_0, af_3_1, af_3_3, af_3_2, af_3_4, af_3_5, af_3_0, af_2_1, af_2_3, af_2_2, af_2_4, af_2_5, af_2_0, af_4_1, af_4_3, af_4_2, af_4_4, af_4_5, af_4_0, af_5_1, af_5_3, af_5_2, af_5_4, af_5_5, af_5_0, af_0_1, af_0_3, af_0_2, af_0_4, af_0_5, af_0_0, loop99_0 hK g v hv, loop99_0 hK g v hg, F159, sum_elim', Bool.or_true, Bool.true_or, Bool.or_false, Bool.and_true]
             cases sm
             · have : ine val val = false := ine_t (ieq_refl val)
               simp only [cond_false, this]
               cases ieq step 0 <;> cases ieq v j.Source <;> rfl
             · cases hb : ilt got val
               · have : ine val val = false := ine_t (ieq_refl val)
                 simp only [cond_true, cond_false, this]
                 cases ieq step 0 <;> cases ieq v j.Source <;> rfl
               · have : ine got val = true := ine_f (ieq_f.2 (by have := ilt_iff.1 hb; omega))
                 simp only [cond_true, cond_false, this]
                 cases ieq step 0 <;> cases ieq v j.Source <;> rfl
           · have e5 : ieq 2 5 = false := rfl
             have e4 : ieq 2 4 = false := rfl
             have e1 : ieq 2 1 = false := rfl
             have e3 : ieq 2 3 = false := rfl
             have eb : pbad 2 = false := rfl
             rw [F68_spec hK, q, F143_2, turnM, turnV, foldS, e5, e4, e1, e3, eb, moveS]
             simp only [Option.bind_some, cond_true, cond_false, af_1_1, af_1_3, af_1_2, af_1_4, af_1_5, af_1_0, af_3_1, af_3_3, af_3_2, af_3_4, af_3_5, af_3_0, af_2_1, af_2_3, af_2_2, af_2_4, af_2_5, af_2_0, af_4_1, af_4_3, af_4_2, af_4_4, af_4_5, af_4_0, af_5_1, af_5_3, af_5_2, af_5_4, af_5_5, af_5_0, af_0_1, af_0_3, af_0_2, af_0_4, af_0_5, af_0_0, loop99_2 hK g v val, loop99_2 hK g v got, F159, sum_elim', Bool.or_true, Bool.true_or, Bool.or_false, Bool.and_true]
             cases sm
             · have : ine val val = false := ine_t (ieq_refl val)
               simp only [cond_false, this]
               cases ieq step 0 <;> rfl
             · cases hb : ilt got val
               · have : ine val val = false := ine_t (ieq_refl val)
                 simp only [cond_true, cond_false, this]
                 cases ieq step 0 <;> rfl
               · have : ine got val = true := ine_f (ieq_f.2 (by have := ilt_iff.1 hb; omega))
                 simp only [cond_true, cond_false, this]
                 cases ieq step 0 <;> rfl
           · have e5 : ieq 3 5 = false := rfl
             have e4 : ieq 3 4 = false := rfl
             have e1 : ieq 3 1 = false := rfl
             have e3 : ieq 3 3 = true := rfl
             have eb : pbad 3 = false := rfl
             rw [F68_spec hK, q, F143_3, turnM, turnV, foldS, e5, e4, e1, e3, eb, moveS]
             simp only [Option.bind_some, cond_true, cond_false, af_1_1, af_1_3, af_1_2, af_1_4, af_1_5, af_1_0, af_3_1, af_3_3, af_3_2, af_3_4, af_3_5, af_3_0, af_2_1, af_2_3, af_2_2, af_2_4, af_2_5, af_2_0, af_4_1, af_4_3, af_4_2, af_4_4, af_4_5, af_4_0, af_5_1, af_5_3, af_5_2, af_5_4, af_5_5, af_5_0, af_0_1, af_0_3, af_0_2, af_0_4, af_0_5, af_0_0, loop99_1 hK g v hv, loop99_1 hK g v hg, F159, sum_elim', Bool.or_true, Bool.true_or, Bool.or_false, Bool.and_true]
             cases sm
             · have : ine val val = false := ine_t (ieq_refl val)
               simp only [cond_false, this]
               cases ieq step 0 <;> cases ieq v j.Source <;> rfl
             · cases hb : ilt got val
               · have : ine val val = false := ine_t (ieq_refl val)
                 simp only [cond_true, cond_false, this]
                 cases ieq step 0 <;> cases ieq v j.Source <;> rfl
               · have : ine got val = true := ine_f (ieq_f.2 (by have := ilt_iff.1 hb; omega))
                 simp only [cond_true, cond_false, this]
                 cases ieq step 0 <;> cases ieq v j.Source <;> rfl
           · have e5 : ieq 4 5 = false := rfl
             have e4 : ieq 4 4 = true := rfl
             have e1 : ieq 4 1 = false := rfl
             have e3 : ieq 4 3 = false := rfl
             have eb : pbad 4 = false := rfl
             rw [F68_spec hK, q, F143_4, turnM, turnV, foldS, e5, e4, e1, e3, eb, moveS]
             simp only [Option.bind_some, cond_true, cond_false, af_1_1, af_1_3, af_1_2, af_1_4, af_1_5, af_1_0, af_3_1, af_3_3, af_3_2, af_3_4, af_3_5, af_3_0, af_2_1, af_2_3, af_2_2, af_2_4, af_2_5, af_2_0, af_4_1, af_4_3, af_4_2, af_4_4, af_4_5, af_4_0, af_5_1, af_5_3, af_5_2, af_5_4, af_5_5, af_5_0, af_0_1, af_0_3, af_0_2, af_0_4, af_0_5, af_0_0, loop99_3 hK g v val, loop99_3 hK g v got, F165, igt, sum_elim', Bool.or_true, Bool.true_or, Bool.or_false, Bool.and_true]
             have hd : decide (got > val) = ilt val got := rfl
             rw [hd]
             cases sm
             · have : ine val val = false := ine_t (ieq_refl val)
               simp only [cond_false, this]
               cases ieq step 0 <;> rfl
             · cases hb : ilt val got
               · have : ine val val = false := ine_t (ieq_refl val)
                 simp only [cond_true, cond_false, this]
                 cases ieq step 0 <;> rfl
               · have : ine got val = true := ine_f (ieq_f.2 (by have := ilt_iff.1 hb; omega))
                 simp only [cond_true, cond_false, this]
                 cases ieq step 0 <;> rfl
           · have e5 : ieq 5 5 = true := rfl
             rw [F68_spec hK, q, F143_5, e5]
             simp only [Option.bind_some, cond_true, cond_false, af_1_1, af_1_3, af_1_2, af_1_4, af_1_5, af_1_0, af_3_1, af_3_3, af_3_2, af_3_4, af_3_5, af_3_0, af_2_1, af_2_3, af_2_2, af_2_4, af_2_5, af_2_0, af_4_1, af_4_3, af_4_2, af_4_4, af_4_5, af_4_0, af_5_1, af_5_3, af_5_2, af_5_4, af_5_5, af_5_0, af_0_1, af_0_3, af_0_2, af_0_4, af_0_5, af_0_0, F146_spec hK g v step hv hg, F146_spec hK g v step hv (show i64 0 by unfold i64; omega)]
             cases sm <;> rfl
           · omega
         · rfl
       · rfl
     · rfl
   · rfl
theorem sendA_To {p val many : Int} : ∀ {l : List GEdge} {s r : List GMsg}, sendA p val many l s = some r → r.map (·.To) = s.map (·.To) ++ l.map (·.To)
 | [], s, r, h => by injection h with h; subst h; simp
 | e :: l, s, r, h => by
  rw [sendA] at h
  cases hq : (sendS p val e many).2
  · rw [hq] at h; cases h
  · rw [hq, cond_true] at h
    rw [sendA_To h]; simp
theorem turn_out {g : GGraph} {j : GJob} {step v val got : Int} {sm : Bool} (h : ieq (turnS g j step v val got sm).2.2.2 0 = true) :
 (turnS g j step v val got sm).2.1 = [] ∨ ((turnS g j step v val got sm).2.1.map (·.To) = (outs g v).map (·.To)) := by
 have hs : ∀ (b : Bool) (w : Int) (p : Int), (sendO b w (sendA p w (manyO g v) (outs g v) [])).2.1 = [] ∨ (sendO b w (sendA p w (manyO g v) (outs g v) [])).2.1.map (·.To) = (outs g v).map (·.To) := fun b w p => by
  cases hq : sendA p w (manyO g v) (outs g v) []
  · left; rfl
  · right; have := sendA_To hq; simpa [sendO] using this
 rw [turnS]
 cases ieq (jcheck g j) 0
 · left; rfl
 · cases ilt v 0
   · cases ile g.N v
     · cases ilt step 0
       · cases ilt 40 step
         · simp only [cond_true, cond_false]
           cases ieq j.Prog 5
           · rw [cond_false, moveS]
             cases turnM j.Prog j.Source step v val (turnV j.Prog val got sm)
             · left; rfl
             · exact hs _ _ _
           · rw [cond_true, rankS]
             cases (rankW step val got sm).2
             · left; rfl
             · cases ile 10 step
               · exact hs _ _ _
               · left; rfl
         · left; rfl
       · left; rfl
     · left; rfl
   · left; rfl
theorem turn_bad {g : GGraph} {j : GJob} {step v val got : Int} {sm : Bool} (h : ieq (turnS g j step v val got sm).2.2.2 0 = false) : (turnS g j step v val got sm).1 = 0 ∧ (turnS g j step v val got sm).2.1 = [] := by
 have hs : ∀ (b : Bool) (w : Int) (o : Option (List GMsg)), ieq (sendO b w o).2.2.2 0 = false → (sendO b w o).1 = 0 ∧ (sendO b w o).2.1 = [] := fun b w o => by
  cases o
  · intro _; exact ⟨rfl, rfl⟩
  · intro h; cases h
 rw [turnS] at h ⊢
 cases hc : ieq (jcheck g j) 0
 · exact ⟨rfl, rfl⟩
 · rw [hc] at h
   cases h1 : ilt v 0
   · cases h2 : ile g.N v
     · cases h3 : ilt step 0
       · cases h4 : ilt 40 step
         · rw [h1, h2, h3, h4] at h
           simp only [cond_true, cond_false] at h ⊢
           cases h5 : ieq j.Prog 5
           · rw [h5, cond_false, moveS] at h
             rw [cond_false, moveS]
             cases hm : turnM j.Prog j.Source step v val (turnV j.Prog val got sm)
             · rw [hm] at h; cases h
             · rw [hm] at h; exact hs _ _ _ h
           · rw [h5, cond_true, rankS] at h
             rw [cond_true, rankS]
             cases hw : (rankW step val got sm).2
             · exact ⟨rfl, rfl⟩
             · rw [hw] at h
               cases h10 : ile 10 step
               · rw [h10] at h; exact hs _ _ _ h
               · rw [h10] at h; cases h
         · exact ⟨rfl, rfl⟩
       · exact ⟨rfl, rfl⟩
     · exact ⟨rfl, rfl⟩
   · exact ⟨rfl, rfl⟩
theorem turn_len {g : GGraph} {j : GJob} {step v val got : Int} {sm : Bool} : (turnS g j step v val got sm).2.1.length ≤ 80 := by
 have ho := outs_len (g := g) (v := v)
 cases h : ieq (turnS g j step v val got sm).2.2.2 0
 · rw [(turn_bad h).2]; simp
 · rcases turn_out h with hz | hz
   · rw [hz]; simp
   · have := congrArg List.length hz
     simp only [List.length_map] at this
     omega
def F139_l0_0 (K : Nat) (a1 : GGraph) (a2 : GJob) (a3 : Int) : Nat → List Int → Int → Option (List Int)
 | 0, _, _ => none
 | k + 1, v4, v5 =>
  bif (ilt v5 a1.N) then
   (bif (izero a2.Parts) then none else
   bif (ieq (wrem v5 a2.Parts) a3) then
    (bif (apok (len v4) 1 8) then
    F139_l0_0 K a1 a2 a3 k (appL v4 [v5]) (wadd .i64 v5 1)
    else none)
   else
   F139_l0_0 K a1 a2 a3 k v4 (wadd .i64 v5 1))
  else
  some v4
def F139 (K : Nat) (a1 : GGraph) (a2 : GJob) (a3 : Int) : Option (List Int) :=
 (F139_l0_0 K a1 a2 a3 K [] 0).bind fun w4 =>
 some w4
noncomputable def hn75 : Hint := { H 75 with nt := 21, prot := 0 }
def F75_res (r1 : Int) : Res := ⟨[(.one (.im (.lit (.int .i64 r1))))], []⟩
def F75 (K : Nat) (a1 : GJob) (a2 : Int) : Option (Int) :=
 bif (ilt a2 0) then
  (some (-1))
 else
 bif (ilt a1.Parts 1) then
  (some (-1))
 else
 bif (ilt 6 a1.Parts) then
  (some (-1))
 else
 bif (izero a1.Parts) then none else
 some (wrem a2 a1.Parts)
theorem F75_ok (K : Nat) (a1 : GJob) (a2 : Int) (r : Int) (hF : F75 K a1 a2 = some r) : Evt E H 75 [.agg (eGJob a1), .one (.lit (.int .i64 a2))] (F75_res r) := by
 rw [F75] at hF
 refine cond_some hF (fun h3 hF => ?_) (fun h3 hF => ?_)
 ·
  obtain rfl := sj hF
  have pz : HA hn75 [(bf (ilt a2 0)), (bf (ilt a2 0)), (bf (ilt a2 0)), (tt (ilt a2 0)), bt, bt, bt, (tt true), (tt true)] := ⟨(bA h3), (bA h3), (bA h3), h3, br, br, br, rfl, rfl, trivial⟩
  exact fpC hn75 (r := F75_res (-1)) pz
 have q7 : PQ hn75 fun l => ((bg (ilt a2 0)) :: (bg (ilt a2 0)) :: (bg (ilt a2 0)) :: (ff (ilt a2 0)) :: l) := fun z => ⟨(bB h3), (bB h3), (bB h3), h3, z⟩
 refine cond_some hF (fun h4 hF => ?_) (fun h4 hF => ?_)
 ·
  obtain rfl := sj hF
  have pz : HA hn75 [(bf (ilt a1.Parts 1)), (bf (ilt a1.Parts 1)), (bf (ilt a1.Parts 1)), (tt (ilt a1.Parts 1)), (tt true)] := ⟨(bA h4), (bA h4), (bA h4), h4, rfl, trivial⟩
  exact fpC hn75 (r := F75_res (-1)) (q7 pz)
 have q8 : PQ hn75 fun l => ((bg (ilt a1.Parts 1)) :: (bg (ilt a1.Parts 1)) :: (bg (ilt a1.Parts 1)) :: (ff (ilt a1.Parts 1)) :: l) := fun z => ⟨(bB h4), (bB h4), (bB h4), h4, z⟩
 refine cond_some hF (fun h5 hF => ?_) (fun h5 hF => ?_)
 ·
  obtain rfl := sj hF
  have pz : HA hn75 [(tt (igt a1.Parts 6))] := ⟨(igt_eq h5), trivial⟩
  exact fpC hn75 (r := F75_res (-1)) (q7 (q8 pz))
 refine cond_some hF (fun _ hF => nomatch hF) (fun h6 hF => ?_)
 obtain rfl := sj hF
 have pz : HA hn75 [(ff (igt a1.Parts 6)), (ff (izero a1.Parts)), .int (wrem a2 a1.Parts) (wrem a2 a1.Parts)] := ⟨(igt_eq h5), h6, rfl, trivial⟩
 exact fpC hn75 (r := F75_res (wrem a2 a1.Parts)) (q7 (q8 pz))
noncomputable def hn138 : Hint := { H 138 with nt := 22, prot := 0 }
def F138_res (r1 : Int) : Res := ⟨[(.one (.im (.lit (.int .i64 r1))))], []⟩
def F138 (K : Nat) (a1 : Int) (a2 : Int) (a3 : Int) : Option (Int) :=
 bif (ilt a3 0) then
  (some 0)
 else
 bif (ile a2 a3) then
  (some 0)
 else
 bif (izero a2) then none else
 some (wquo .i64 (wsub .i64 (wadd .i64 (wsub .i64 a1 a3) a2) 1) a2)
theorem F138_ok (K : Nat) (a1 : Int) (a2 : Int) (a3 : Int) (r : Int) (hF : F138 K a1 a2 a3 = some r) : Evt E H 138 [.one (.lit (.int .i64 a1)), .one (.lit (.int .i64 a2)), .one (.lit (.int .i64 a3))] (F138_res r) := by
 rw [F138] at hF
 refine cond_some hF (fun h4 hF => ?_) (fun h4 hF => ?_)
 ·
  obtain rfl := sj hF
  have pz : HA hn138 [(bf (ilt a3 0)), (bf (ilt a3 0)), (bf (ilt a3 0)), (tt (ilt a3 0)), (tt true)] := ⟨(bA h4), (bA h4), (bA h4), h4, rfl, trivial⟩
  exact fpC hn138 (r := F138_res 0) pz
 have q7 : PQ hn138 fun l => ((bg (ilt a3 0)) :: (bg (ilt a3 0)) :: (bg (ilt a3 0)) :: (ff (ilt a3 0)) :: l) := fun z => ⟨(bB h4), (bB h4), (bB h4), h4, z⟩
 refine cond_some hF (fun h5 hF => ?_) (fun h5 hF => ?_)
 ·
  obtain rfl := sj hF
  have pz : HA hn138 [(tt (ige a3 a2))] := ⟨(ige_eq h5), trivial⟩
  exact fpC hn138 (r := F138_res 0) (q7 pz)
 refine cond_some hF (fun _ hF => nomatch hF) (fun h6 hF => ?_)
 obtain rfl := sj hF
 have pz : HA hn138 [(ff (ige a3 a2)), .int (wsub .i64 a1 a3) (wsub .i64 a1 a3), .int (wadd .i64 (wsub .i64 a1 a3) a2) (wadd .i64 (wsub .i64 a1 a3) a2), .int (wsub .i64 (wadd .i64 (wsub .i64 a1 a3) a2) 1) (wsub .i64 (wadd .i64 (wsub .i64 a1 a3) a2) 1), (ff (izero a2)), .int (wquo .i64 (wsub .i64 (wadd .i64 (wsub .i64 a1 a3) a2) 1) a2) (wquo .i64 (wsub .i64 (wadd .i64 (wsub .i64 a1 a3) a2) 1) a2)] := ⟨(ige_eq h5), rfl, rfl, rfl, h6, rfl, trivial⟩
 exact fpC hn138 (r := F138_res (wquo .i64 (wsub .i64 (wadd .i64 (wsub .i64 a1 a3) a2) 1) a2)) (q7 pz)
noncomputable def hn77 : Hint := { H 77 with nt := 18, prot := 0 }
def F77_res (r1 : Int) : Res := ⟨[(.one (.im (.lit (.int .i64 r1))))], []⟩
def F77 (K : Nat) (a1 : GGraph) (a2 : GJob) (a3 : Int) : Option (Int) :=
 (F94 K a1 a2).bind fun r4 =>
 bif (ieq r4 0) then
  ((F138 K a1.N a2.Parts a3).bind fun r5 =>
  bif (ilt 0 r5) then
   (some r5)
  else
  some 0)
 else
 some 0
theorem F77_ok (K : Nat) (a1 : GGraph) (a2 : GJob) (a3 : Int) (r : Int) (hF : F77 K a1 a2 a3 = some r) : Evt E H 77 [.agg (eGGraph a1), .agg (eGJob a2), .one (.lit (.int .i64 a3))] (F77_res r) := by
 rw [F77] at hF
 refine bind_some hF (fun r4 h5 hF => ?_)
 refine cond_some hF (fun h6 hF => ?_) (fun h6 hF => ?_)
 ·
  refine bind_some hF (fun r7 h8 hF => ?_)
  have q10 : PQ hn77 fun l => (.call 94 [.agg (eGGraph a1), .agg (eGJob a2)] (F94_res r4) :: (ff (leadsAny (Res.mk [(.one (.im (i6 r4)))] []))) :: (ff (ine r4 0)) :: .call 138 [.one (i6 a1.N), .one (i6 a2.Parts), .one (i6 a3)] (F138_res r7) :: (ff (leadsAny (Res.mk [(.one (.im (i6 r7)))] []))) :: l) := fun z => ⟨(F94_ok K a1 a2 _ h5), lk, (ine_t h6), (F138_ok K a1.N a2.Parts a3 _ h8), lk, z⟩
  refine cond_some hF (fun h9 hF => ?_) (fun h9 hF => ?_)
  ·
   obtain rfl := sj hF
   have pz : HA hn77 [(tt (igt r7 0))] := ⟨(igt_eq h9), trivial⟩
   exact fpC hn77 (r := F77_res r7) (q10 pz)
  obtain rfl := sj hF
  have pz : HA hn77 [(ff (igt r7 0))] := ⟨(igt_eq h9), trivial⟩
  exact fpC hn77 (r := F77_res 0) (q10 pz)
 obtain rfl := sj hF
 have pz : HA hn77 [.call 94 [.agg (eGGraph a1), .agg (eGJob a2)] (F94_res r4), (ff (leadsAny (Res.mk [(.one (.im (i6 r4)))] []))), (tt (ine r4 0))] := ⟨(F94_ok K a1 a2 _ h5), lk, (ine_f h6), trivial⟩
 exact fpC hn77 (r := F77_res 0) pz
theorem scanN {σ β : Type} {N : Int} {L : Nat → σ → Int → Option β} (step : Nat → σ → (σ → Option β) → Option β) (fin : σ → Option β)
 (h : ∀ k s (i : Nat), i ≤ N.toNat → L (k + 1) s i = bif ilt i N then step i s (fun s' => L k s' (wadd .i64 i 1)) else fin s) (hN : N ≤ 1000000) {K : Nat} (hK : N.toNat < K) (s : σ) :
 L K s 0 = goL step fin (List.range N.toNat) s := by
 have hw : ∀ (k : Nat) (s : σ) (i : Nat), N.toNat - i < k → i ≤ N.toNat → L k s i = goL step fin ((List.range N.toNat).drop i) s := by
  intro k
  induction k with
  | zero => intro s i h; omega
  | succ k ih =>
   intro s i hk hi
   rw [h k s i hi]
   by_cases hlt : i < N.toNat
   · have e : (List.range N.toNat).drop i = i :: (List.range N.toNat).drop (i + 1) := by
      rw [List.drop_eq_getElem_cons (by simpa using hlt)]; simp
     rw [ilt_iff.2 (by omega : (i : Int) < N), cond_true, e, goL]
     congr 1
     funext s'
     rw [wadd_nat (by omega)]
     exact ih s' (i + 1) (by omega) (by omega)
   · have e : (List.range N.toNat).drop i = [] := List.drop_eq_nil_of_le (by simp; omega)
     rw [ilt_f.2 (by omega : N ≤ (i : Int)), cond_false, e]; rfl
 have := hw K s 0 (by omega) (by omega)
 rw [List.drop_zero] at this
 exact this
def homeS (j : GJob) (v : Int) : Int := bif ilt v 0 || (ilt j.Parts 1 || ilt 6 j.Parts) then -1 else v % j.Parts
theorem wrem_emod {a b : Int} (h : 0 ≤ a) : wrem a b = a % b := by
 show Int.tmod _ _ = _
 exact Int.tmod_eq_emod_of_nonneg h
theorem F75_spec (K : Nat) (j : GJob) (v : Int) : F75 K j v = some (homeS j v) := by
 rw [F75, homeS]
 cases h0 : ilt v 0
 · cases h1 : ilt j.Parts 1
   · cases h2 : ilt 6 j.Parts
     · have v0 := ilt_f.1 h0
       have p1 := ilt_f.1 h1
       have hz : izero j.Parts = false := decide_eq_false (by omega)
       rw [hz, wrem_emod v0]; rfl
     · rfl
   · rfl
 · rfl
def vertsN (n parts : Nat) (p : Int) : List Nat := (List.range n).filter fun v => ieq ((v % parts : Nat) : Int) p
def vertsS (g : GGraph) (j : GJob) (p : Int) : List Nat := vertsN g.N.toNat j.Parts.toNat p
theorem F139_spec {K : Nat} (hK : 100 ≤ K) {g : GGraph} {j : GJob} (h1 : 1 ≤ j.Parts) (h2 : j.Parts ≤ 6) (hn : g.N ≤ 24) (p : Int) : F139 K g j p = some ((vertsS g j p).map Int.ofNat) := by
 let step : Nat → List Int → (List Int → Option (List Int)) → Option (List Int) := fun i s c =>
  bif (izero j.Parts) then none else bif (ieq (wrem (i : Int) j.Parts) p) then (bif (apok (len s) 1 8) then c (appL s [(i : Int)]) else none) else c s
 have h := scanN (N := g.N) (L := fun k s i => F139_l0_0 K g j p k s i) step (fun s => some s) (fun k s i _ => rfl) (by omega) (K := K) (by omega) []
 have hz : izero j.Parts = false := decide_eq_false (by omega)
 obtain ⟨q, hq⟩ := Int.eq_ofNat_of_zero_le (show 0 ≤ j.Parts by omega)
 have hw : ∀ (l : List Nat) (s : List Int), s.length + l.length ≤ 1000 → goL step (fun s => some s) l s = some (s ++ (l.filter fun v => ieq ((v % j.Parts.toNat : Nat) : Int) p).map Int.ofNat) := by
  intro l
  induction l with
  | nil => intro s _; simp [goL]
  | cons v l ih =>
   intro s hs
   simp only [List.length_cons] at hs
   rw [goL]
   show (bif (izero j.Parts) then none else bif (ieq (wrem (v : Int) j.Parts) p) then (bif (apok (len s) 1 8) then goL step (fun s => some s) l (appL s [(v : Int)]) else none) else goL step (fun s => some s) l s) = _
   have e : wrem (v : Int) j.Parts = ((v % j.Parts.toNat : Nat) : Int) := by rw [wrem_emod (by omega), hq]; simp
   rw [hz, cond_false, e, List.filter_cons]
   cases ieq ((v % j.Parts.toNat : Nat) : Int) p
   · rw [cond_false, ih s (by omega)]; rfl
   · have ha : apok (len s) 1 8 = true := decide_eq_true ⟨by show s.length + 1 ≤ _; omega, by show (s.length + 1) * 8 ≤ _; omega⟩
     rw [cond_true, ha, cond_true, ih _ (by simp [appL]; omega)]
     simp [appL]
 rw [hw _ _ (by simp; omega), List.nil_append] at h
 have h' : F139_l0_0 K g j p K [] 0 = _ := h
 rw [F139, h']; rfl
theorem cnt_all : ∀ parts < 7, 0 < parts → ∀ n < 25, ∀ p < parts, ((List.range n).filter fun v => v % parts == p).length = (n + parts - 1 - p) / parts := by decide +kernel
def countS (g : GGraph) (j : GJob) (p : Int) : Int := ((vertsS g j p).length : Int)
theorem vertsN_len {n parts : Nat} (h1 : 0 < parts) (h2 : parts < 7) (hn : n < 25) {p : Nat} (hp : p < parts) : (vertsN n parts (p : Int)).length = (n + parts - 1 - p) / parts := by
 rw [← cnt_all parts h2 h1 n hn p hp, vertsN]
 congr 1
 refine List.filter_congr fun v _ => ?_
 rw [Bool.eq_iff_iff, ieq_iff, beq_iff_eq]; omega
theorem vertsN_none {n parts : Nat} (h1 : 0 < parts) {p : Int} (hp : p < 0 ∨ (parts : Int) ≤ p) : vertsN n parts p = [] := by
 rw [vertsN, List.filter_eq_nil_iff]
 intro v _ hc
 have := ieq_iff.1 hc
 have := Nat.mod_lt v h1
 omega
theorem F77_spec {K : Nat} (hK : 100 ≤ K) (g : GGraph) (j : GJob) (p : Int) (hp : -9223372036854775808 ≤ p ∧ p ≤ 9223372036854775807) : F77 K g j p = some (bif ieq (jcheck g j) 0 then countS g j p else 0) := by
 rw [F77, F94_spec hK, Option.bind_some]
 cases hc : ieq (jcheck g j) 0
 · rfl
 · obtain ⟨hg, p1, p2, p3, p4, p5, p6, p7, p8⟩ := jcheck_ok hc
   obtain ⟨g1, g2, _, _⟩ := gcheck_ok hg
   rw [cond_true, cond_true, F138]
   cases h0 : ilt p 0
   · cases h1 : ile j.Parts p
     · have q0 := ilt_f.1 h0
       have q1 := ile_f.1 h1
       obtain ⟨q, rfl⟩ := Int.eq_ofNat_of_zero_le q0
       have hz : izero j.Parts = false := decide_eq_false (by omega)
       have e1 : wsub .i64 g.N (q : Int) = g.N - q := by show IntKind.i64.wrap _ = _; rw [IntKind.wrap_i64]; omega
       have e2 : wadd .i64 (g.N - q) j.Parts = g.N - q + j.Parts := by show IntKind.i64.wrap _ = _; rw [IntKind.wrap_i64]; omega
       have e3 : wsub .i64 (g.N - q + j.Parts) 1 = g.N - q + j.Parts - 1 := by show IntKind.i64.wrap _ = _; rw [IntKind.wrap_i64]; omega
       obtain ⟨n, hn⟩ := Int.eq_ofNat_of_zero_le (show 0 ≤ g.N by omega)
       obtain ⟨m, hm⟩ := Int.eq_ofNat_of_zero_le (show 0 ≤ j.Parts by omega)
       have hnum : g.N - (q : Int) + j.Parts - 1 = ((n + m - 1 - q : Nat) : Int) := by omega
       obtain ⟨d, hd⟩ : ∃ d, (n + m - 1 - q) / m = d := ⟨_, rfl⟩
       have e4 : wquo .i64 (g.N - q + j.Parts - 1) j.Parts = (d : Int) := by
        show IntKind.i64.wrap ((g.N - q + j.Parts - 1).tdiv j.Parts) = _
        rw [hnum, hm, Int.tdiv_eq_ediv_of_nonneg (by omega)]
        have hle : d ≤ n + m - 1 - q := hd ▸ Nat.div_le_self _ _
        have : (((n + m - 1 - q : Nat) : Int) / ((m : Nat) : Int)) = (d : Int) := by rw [← hd]; rfl
        rw [this, IntKind.wrap_i64]; omega
       have ecs : countS g j (q : Int) = (d : Int) := by
        unfold countS vertsS
        have a1 : g.N.toNat = n := by omega
        have a2 : j.Parts.toNat = m := by omega
        rw [a1, a2, vertsN_len (by omega) (by omega) (by omega) (by omega), hd]
       rw [cond_false, cond_false, hz, cond_false, e1, e2, e3, e4, Option.bind_some, ecs]
       cases hpos : ilt 0 (d : Int)
       · have := ilt_f.1 hpos
         have : d = 0 := by omega
         rw [this]; rfl
       · rfl
     · have q1 := ile_iff.1 h1
       have : countS g j p = 0 := by
        unfold countS vertsS
        rw [vertsN_none (by omega) (.inr (by omega))]; rfl
       rw [this]; rfl
   · have q0 := ilt_iff.1 h0
     have : countS g j p = 0 := by
      unfold countS vertsS
      rw [vertsN_none (by omega) (.inl q0)]; rfl
     rw [this]; rfl
theorem mem_verts {g : GGraph} {j : GJob} (h1 : 1 ≤ j.Parts) {p : Int} {v : Nat} : v ∈ vertsS g j p ↔ (v : Int) < g.N ∧ (v : Int) % j.Parts = p := by
 obtain ⟨m, hm⟩ := Int.eq_ofNat_of_zero_le (show 0 ≤ j.Parts by omega)
 simp only [vertsS, vertsN, List.mem_filter, List.mem_range, ieq_iff]
 have : j.Parts.toNat = m := by omega
 rw [this, hm]
 constructor
 · rintro ⟨a, b⟩; exact ⟨by omega, by rw [← b]; simp⟩
 · rintro ⟨a, b⟩; exact ⟨by omega, by rw [← b]; simp⟩
noncomputable def hn88 : Hint := { H 88 with nt := 75, prot := 0 }
noncomputable def c88_0 : Code := loopOf E 88 0
def F88_res (r1 : Bool) : Res := ⟨[(.one (.im (.lit (.bool r1))))], []⟩
def F88_l0_0 (K : Nat) (a16 : GGraph) (a18 : GState) : Nat → Int → Option ((Unit) ⊕ (Unit))
 | 0, _ => none
 | k + 1, v1 =>
  bif (ilt v1 (nlen (len a18.In))) then
   (bif (inr v1 (len a18.In)) then
   (elAt a18.In v1).bind fun x2 =>
   bif (ilt x2.To 0) then
    (some (.inl ()))
   else
   bif (ile a16.N x2.To) then
    (some (.inl ()))
   else
   bif (ilt 0 v1) then
    (bif (inr (wsub .i64 v1 1) (len a18.In)) then
    (elAt a18.In (wsub .i64 v1 1)).bind fun x3 =>
    bif (ile x2.To x3.To) then
     (some (.inl ()))
    else
    F88_l0_0 K a16 a18 k (wadd .i64 v1 1)
    else none)
   else
   F88_l0_0 K a16 a18 k (wadd .i64 v1 1)
   else none)
  else
  some (.inr ())
def F88_l0_0_S (a16 : GGraph) (a18 : GState) (v1 : Int) : TS := .on [192, 193, 194, 320, 321, 322, 323, 324, 448, 449] [(192, ⟨(.box 62 2), 0, nob⟩), (193, ⟨.im, 0, (.lit (.int .i64 a16.N))⟩), (194, ⟨.im, 0, (.sl (len a16.Edges) (flat eGEdge a16.Edges))⟩), (320, ⟨(.box 74 4), 0, nob⟩), (321, ⟨.im, 0, (.lit (.int .i64 a18.Step))⟩), (322, ⟨.im, 0, (.sl (len a18.Vals) (flat (eInt .i64) a18.Vals))⟩), (323, ⟨.im, 0, (.sl (len a18.Rest) (flat eBool a18.Rest))⟩), (324, ⟨.im, 0, (.sl (len a18.In) (flat eGMsg a18.In))⟩), (448, ⟨.one, 0, nob⟩), (449, ⟨.im, 0, (.lit (.int .i64 v1))⟩)]
def F88_l0_0_X0 (a16 : GGraph) (a18 : GState) (w1 : Unit) : TS := .on [384, 385] [(384, ⟨.one, 0, nob⟩), (385, ⟨.im, 0, (.lit (.bool false))⟩)]
def F88_l0_0_X1 (a16 : GGraph) (a18 : GState) (w1 : Unit) : TS := .on [] []
theorem F88_l0_0_ok (K : Nat) (a16 : GGraph) (a18 : GState) : ∀ (k : Nat) (v1 : Int) (r : (Unit) ⊕ (Unit)), F88_l0_0 K a16 a18 k v1 = some r → (Sum.elim (fun w => LoopEv E H hn88 0 c88_0 (F88_l0_0_S a16 a18 v1) .ret (F88_l0_0_X0 a16 a18 w)) (fun w => LoopEv E H hn88 0 c88_0 (F88_l0_0_S a16 a18 v1) (.exit 0) (F88_l0_0_X1 a16 a18 w))) r := by
 intro k
 induction k with
 | zero => intro v1 r hF; cases hF
 | succ k ih =>
  intro v1 r hF
  rw [F88_l0_0] at hF
  refine cond_some hF (fun h2 hF => ?_) (fun h2 hF => ?_)
  ·
   refine cond_some hF (fun h3 hF => ?_) (fun _ hF => nomatch hF)
   refine bind_some hF (fun x4 h5 hF => ?_)
   have q13 : PQ hn88 fun l => (.int (nl a18.In) (nl a18.In) :: (tt (ilt v1 (nl a18.In))) :: (tt (inr v1 (len a18.In))) :: .sub (flat eGMsg a18.In) (nadd (nidx v1 2) 0) 1 [(i6 x4.To)] :: l) := fun z => ⟨rfl, h2, h3, ⟨rfl, sub_flat eGMsg_len h5 0 1 (by decide)⟩, z⟩
   refine cond_some hF (fun h6 hF => ?_) (fun h6 hF => ?_)
   ·
    obtain rfl := sj hF
    have pz : HA hn88 [(bf (ilt x4.To 0)), (bf (ilt x4.To 0)), (bf (ilt x4.To 0)), (bf (ilt x4.To 0)), (tt (ilt x4.To 0)), bt, bt, bt, bt, (tt true), (tt true)] := ⟨(bA h6), (bA h6), (bA h6), (bA h6), h6, br, br, br, br, rfl, rfl, trivial⟩
    exact lE hn88 0 c88_0 (F88_l0_0_S a16 a18 v1) (F88_l0_0_X0 a16 a18 ()) .ret (q13 pz)
   have q14 : PQ hn88 fun l => ((bg (ilt x4.To 0)) :: (bg (ilt x4.To 0)) :: (bg (ilt x4.To 0)) :: (bg (ilt x4.To 0)) :: (ff (ilt x4.To 0)) :: l) := fun z => ⟨(bB h6), (bB h6), (bB h6), (bB h6), h6, z⟩
   refine cond_some hF (fun h7 hF => ?_) (fun h7 hF => ?_)
   ·
    obtain rfl := sj hF
    have pz : HA hn88 [(bf (ige x4.To a16.N)), (bf (ige x4.To a16.N)), (bf (ige x4.To a16.N)), (bf (ige x4.To a16.N)), (tt (ige x4.To a16.N)), (tt true)] := ⟨(bA (ige_eq h7)), (bA (ige_eq h7)), (bA (ige_eq h7)), (bA (ige_eq h7)), (ige_eq h7), rfl, trivial⟩
    exact lE hn88 0 c88_0 (F88_l0_0_S a16 a18 v1) (F88_l0_0_X0 a16 a18 ()) .ret (q13 (q14 pz))
   have q15 : PQ hn88 fun l => ((bg (ige x4.To a16.N)) :: (bg (ige x4.To a16.N)) :: (bg (ige x4.To a16.N)) :: l) := fun z => ⟨(bB (ige_eq h7)), (bB (ige_eq h7)), (bB (ige_eq h7)), z⟩
   refine cond_some hF (fun h8 hF => ?_) (fun h8 hF => ?_)
   ·
    refine cond_some hF (fun h9 hF => ?_) (fun _ hF => nomatch hF)
    refine bind_some hF (fun x10 h11 hF => ?_)
    have q17 : PQ hn88 fun l => ((bh (igt v1 0)) :: (bh (igt v1 0)) :: (bh (igt v1 0)) :: (bh (igt v1 0)) :: .int (wsub .i64 v1 1) (wsub .i64 v1 1) :: (bh (igt v1 0)) :: (tt (inr (wsub .i64 v1 1) (len a18.In))) :: (bh (igt v1 0)) :: (bh (igt v1 0)) :: .sub (flat eGMsg a18.In) (nadd (nidx (wsub .i64 v1 1) 2) 0) 1 [(i6 x10.To)] :: (bh (igt v1 0)) :: (bh (igt v1 0)) :: (bg (ige x4.To a16.N)) :: (tt (igt v1 0)) :: (ff (ige x4.To a16.N)) :: l) := fun z => ⟨(bC (igt_eq h8)), (bC (igt_eq h8)), (bC (igt_eq h8)), (bC (igt_eq h8)), rfl, (bC (igt_eq h8)), h9, (bC (igt_eq h8)), (bC (igt_eq h8)), ⟨rfl, sub_flat eGMsg_len h11 0 1 (by decide)⟩, (bC (igt_eq h8)), (bC (igt_eq h8)), (bB (ige_eq h7)), (igt_eq h8), (ige_eq h7), z⟩
    refine cond_some hF (fun h12 hF => ?_) (fun h12 hF => ?_)
    ·
     obtain rfl := sj hF
     have pz : HA hn88 [(tt (ige x10.To x4.To))] := ⟨(ige_eq h12), trivial⟩
     exact lE hn88 0 c88_0 (F88_l0_0_S a16 a18 v1) (F88_l0_0_X0 a16 a18 ()) .ret (q13 (q14 (q15 (q17 pz))))
    have pz : HA hn88 [(ff (ige x10.To x4.To)), .int (wadd .i64 v1 1) (wadd .i64 v1 1)] := ⟨(ige_eq h12), rfl, trivial⟩
    have h0 := ih _ _ hF
    have hn := lN hn88 0 c88_0 (F88_l0_0_S a16 a18 v1) (F88_l0_0_S a16 a18 (wadd .i64 v1 1)) (q13 (q14 (q15 (q17 pz))))
    cases r with
    | inl w => exact hn _ _ h0
    | inr w => exact hn _ _ h0
   have pz : HA hn88 [(bk (igt v1 0)), (bk (igt v1 0)), (bk (igt v1 0)), (bk (igt v1 0)), (bk (igt v1 0)), (bk (igt v1 0)), (bk (igt v1 0)), (bk (igt v1 0)), (bk (igt v1 0)), (bg (ige x4.To a16.N)), (ff (igt v1 0)), (ff (ige x4.To a16.N)), (ff false), .int (wadd .i64 v1 1) (wadd .i64 v1 1)] := ⟨(bC (igt_eq h8)), (bC (igt_eq h8)), (bC (igt_eq h8)), (bC (igt_eq h8)), (bC (igt_eq h8)), (bC (igt_eq h8)), (bC (igt_eq h8)), (bC (igt_eq h8)), (bC (igt_eq h8)), (bB (ige_eq h7)), (igt_eq h8), (ige_eq h7), rfl, rfl, trivial⟩
   have h0 := ih _ _ hF
   have hn := lN hn88 0 c88_0 (F88_l0_0_S a16 a18 v1) (F88_l0_0_S a16 a18 (wadd .i64 v1 1)) (q13 (q14 (q15 pz)))
   cases r with
   | inl w => exact hn _ _ h0
   | inr w => exact hn _ _ h0
  obtain rfl := sj hF
  have pz : HA hn88 [.int (nl a18.In) (nl a18.In), (ff (ilt v1 (nl a18.In)))] := ⟨rfl, h2, trivial⟩
  exact lE hn88 0 c88_0 (F88_l0_0_S a16 a18 v1) (F88_l0_0_X1 a16 a18 ()) (.exit 0) pz
def F88 (K : Nat) (a16 : GGraph) (a17 : GJob) (a18 : GState) : Option (Bool) :=
 (F59 K a16 a17).bind fun r95 =>
 bif (ieq r95 0) then
  (bif (ilt a18.Step 0) then
   (some false)
  else
  bif (ilt 40 a18.Step) then
   (some false)
  else
  bif (ieq (nlen (len a18.Vals)) a16.N) then
   (bif (ieq (nlen (len a18.Rest)) a16.N) then
    ((F88_l0_0 K a16 a18 K 0).bind fun y1 =>
    Sum.elim (fun w2 =>
     some false)
     (fun w3 =>
     some true) y1)
   else
   some false)
  else
  some false)
 else
 some false
theorem F88_ok (K : Nat) (a16 : GGraph) (a17 : GJob) (a18 : GState) (r : Bool) (hF : F88 K a16 a17 a18 = some r) : Evt E H 88 [.agg (eGGraph a16), .agg (eGJob a17), .agg (eGState a18)] (F88_res r) := by
 rw [F88] at hF
 refine bind_some hF (fun r95 h96 hF => ?_)
 refine cond_some hF (fun h97 hF => ?_) (fun h97 hF => ?_)
 ·
  have q7 : PQ hn88 fun l => (.call 59 [.agg (eGGraph a16), .agg (eGJob a17)] (F59_res r95) :: (ff (leadsAny (Res.mk [(.one (.im (i6 r95)))] []))) :: (bg (ine r95 0)) :: (bg (ine r95 0)) :: (bg (ine r95 0)) :: (ff (ine r95 0)) :: l) := fun z => ⟨(F59_ok K a16 a17 _ h96), lk, (bB (ine_t h97)), (bB (ine_t h97)), (bB (ine_t h97)), (ine_t h97), z⟩
  refine cond_some hF (fun h98 hF => ?_) (fun h98 hF => ?_)
  ·
   obtain rfl := sj hF
   have pz : HA hn88 [(bf (ilt a18.Step 0)), (bf (ilt a18.Step 0)), (bf (ilt a18.Step 0)), (tt (ilt a18.Step 0)), bt, bt, bt, bt, bt, bt, (tt true), bt, bt, bt, bt, bt, bt, (tt true), (tt true)] := ⟨(bA h98), (bA h98), (bA h98), h98, br, br, br, br, br, br, rfl, br, br, br, br, br, br, rfl, rfl, trivial⟩
   exact fpC hn88 (r := F88_res false) (q7 pz)
  have q8 : PQ hn88 fun l => ((bg (ilt a18.Step 0)) :: (bg (ilt a18.Step 0)) :: (bg (ilt a18.Step 0)) :: (ff (ilt a18.Step 0)) :: l) := fun z => ⟨(bB h98), (bB h98), (bB h98), h98, z⟩
  refine cond_some hF (fun h99 hF => ?_) (fun h99 hF => ?_)
  ·
   obtain rfl := sj hF
   have pz : HA hn88 [(bf (igt a18.Step 40)), (bf (igt a18.Step 40)), (bf (igt a18.Step 40)), (bf (igt a18.Step 40)), (bf (igt a18.Step 40)), (bf (igt a18.Step 40)), (tt (igt a18.Step 40)), bt, bt, bt, bt, bt, bt, (tt true), (tt true)] := ⟨(bA (igt_eq h99)), (bA (igt_eq h99)), (bA (igt_eq h99)), (bA (igt_eq h99)), (bA (igt_eq h99)), (bA (igt_eq h99)), (igt_eq h99), br, br, br, br, br, br, rfl, rfl, trivial⟩
   exact fpC hn88 (r := F88_res false) (q7 (q8 pz))
  have q9 : PQ hn88 fun l => ((bg (igt a18.Step 40)) :: (bg (igt a18.Step 40)) :: (bg (igt a18.Step 40)) :: .int (nl a18.Vals) (nl a18.Vals) :: (bg (igt a18.Step 40)) :: (bg (igt a18.Step 40)) :: (bg (igt a18.Step 40)) :: (ff (igt a18.Step 40)) :: l) := fun z => ⟨(bB (igt_eq h99)), (bB (igt_eq h99)), (bB (igt_eq h99)), rfl, (bB (igt_eq h99)), (bB (igt_eq h99)), (bB (igt_eq h99)), (igt_eq h99), z⟩
  refine cond_some hF (fun h1 hF => ?_) (fun h1 hF => ?_)
  ·
   have q10 : PQ hn88 fun l => ((bg (ine (nl a18.Vals) a16.N)) :: (bg (ine (nl a18.Vals) a16.N)) :: (bg (ine (nl a18.Vals) a16.N)) :: .int (nl a18.Rest) (nl a18.Rest) :: (bg (ine (nl a18.Vals) a16.N)) :: (bg (ine (nl a18.Vals) a16.N)) :: (bg (ine (nl a18.Vals) a16.N)) :: (ff (ine (nl a18.Vals) a16.N)) :: l) := fun z => ⟨(bB (ine_t h1)), (bB (ine_t h1)), (bB (ine_t h1)), rfl, (bB (ine_t h1)), (bB (ine_t h1)), (bB (ine_t h1)), (ine_t h1), z⟩
   refine cond_some hF (fun h2 hF => ?_) (fun h2 hF => ?_)
   ·
    refine bind_some hF (fun y4 h3 hF => ?_)
    refine sum_some hF (fun w5 hx hF => ?_) (fun w6 hx hF => ?_)
    ·
     subst hx
     obtain rfl := sj hF
     have pz : HA hn88 [(ff (ine (nl a18.Rest) a16.N)), .loop 0 c88_0 (F88_l0_0_S a16 a18 0) .ret (F88_l0_0_X0 a16 a18 w5)] := ⟨(ine_t h2), (F88_l0_0_ok K a16 a18 K 0 _ h3), trivial⟩
     exact fpC hn88 (r := F88_res false) (q7 (q8 (q9 (q10 pz))))
    subst hx
    obtain rfl := sj hF
    have pz : HA hn88 [(ff (ine (nl a18.Rest) a16.N)), .loop 0 c88_0 (F88_l0_0_S a16 a18 0) (.exit 0) (F88_l0_0_X1 a16 a18 w6)] := ⟨(ine_t h2), (F88_l0_0_ok K a16 a18 K 0 _ h3), trivial⟩
    exact fpC hn88 (r := F88_res true) (q7 (q8 (q9 (q10 pz))))
   obtain rfl := sj hF
   have pz : HA hn88 [(tt (ine (nl a18.Rest) a16.N))] := ⟨(ine_f h2), trivial⟩
   exact fpC hn88 (r := F88_res false) (q7 (q8 (q9 (q10 pz))))
  obtain rfl := sj hF
  have pz : HA hn88 [(bf (ine (nl a18.Vals) a16.N)), (bf (ine (nl a18.Vals) a16.N)), (bf (ine (nl a18.Vals) a16.N)), (bf (ine (nl a18.Vals) a16.N)), (bf (ine (nl a18.Vals) a16.N)), (bf (ine (nl a18.Vals) a16.N)), (tt (ine (nl a18.Vals) a16.N)), (tt true)] := ⟨(bA (ine_f h1)), (bA (ine_f h1)), (bA (ine_f h1)), (bA (ine_f h1)), (bA (ine_f h1)), (bA (ine_f h1)), (ine_f h1), rfl, trivial⟩
  exact fpC hn88 (r := F88_res false) (q7 (q8 (q9 pz)))
 obtain rfl := sj hF
 have pz : HA hn88 [.call 59 [.agg (eGGraph a16), .agg (eGJob a17)] (F59_res r95), (ff (leadsAny (Res.mk [(.one (.im (i6 r95)))] []))), (bf (ine r95 0)), (bf (ine r95 0)), (bf (ine r95 0)), (tt (ine r95 0)), bt, bt, bt, (tt true), bt, bt, bt, bt, bt, bt, (tt true), bt, bt, bt, bt, bt, bt, (tt true), (tt true)] := ⟨(F59_ok K a16 a17 _ h96), lk, (bA (ine_f h97)), (bA (ine_f h97)), (bA (ine_f h97)), (ine_f h97), br, br, br, rfl, br, br, br, br, br, br, rfl, br, br, br, br, br, br, rfl, rfl, trivial⟩
 exact fpC hn88 (r := F88_res false) pz
noncomputable def hn104 : Hint := { H 104 with nt := 61, prot := 0 }
noncomputable def c104_0 : Code := loopOf E 104 0
def F104_res (r1 : Bool) : Res := ⟨[(.one (.im (.lit (.bool r1))))], []⟩
def F104_l0_0 (K : Nat) (a1 : GGraph) (a2 : GState) : Nat → Int → Int → Option ((Unit) ⊕ (Unit))
 | 0, _, _ => none
 | k + 1, v3, v4 =>
  bif (ilt v4 (nlen (len a2.In))) then
   (bif (inr v4 (len a2.In)) then
   (elAt a2.In v4).bind fun x5 =>
   bif (ile x5.To v3) then
    (some (.inl ()))
   else
   bif (ile a1.N x5.To) then
    (some (.inl ()))
   else
   F104_l0_0 K a1 a2 k x5.To (wadd .i64 v4 1)
   else none)
  else
  some (.inr ())
def F104_l0_0_S (a1 : GGraph) (a2 : GState) (v3 : Int) (v4 : Int) : TS := .on [192, 193, 194, 320, 321, 322, 323, 324, 448, 449, 2560, 2624, 2625, 2688, 2689, 2752, 2753] [(192, ⟨(.box 62 2), 0, nob⟩), (193, ⟨.im, 0, (.lit (.int .i64 a1.N))⟩), (194, ⟨.im, 0, (.sl (len a1.Edges) (flat eGEdge a1.Edges))⟩), (320, ⟨(.box 74 4), 0, nob⟩), (321, ⟨.im, 0, (.lit (.int .i64 a2.Step))⟩), (322, ⟨.im, 0, (.sl (len a2.Vals) (flat (eInt .i64) a2.Vals))⟩), (323, ⟨.im, 0, (.sl (len a2.Rest) (flat eBool a2.Rest))⟩), (324, ⟨.im, 0, (.sl (len a2.In) (flat eGMsg a2.In))⟩), (448, ⟨.one, 0, nob⟩), (449, ⟨.im, 0, (.lit (.int .i64 v3))⟩), (2560, ⟨(.ad 5 0 3), 0, nob⟩), (2624, ⟨.one, 0, nob⟩), (2625, ⟨.im, 0, (.sl (len a2.In) (flat eGMsg a2.In))⟩), (2688, ⟨.one, 0, nob⟩), (2689, ⟨.im, 0, (.lit (.int .i64 (nlen (len a2.In))))⟩), (2752, ⟨.one, 0, nob⟩), (2753, ⟨.im, 0, (.lit (.int .i64 v4))⟩)]
def F104_l0_0_X0 (a1 : GGraph) (a2 : GState) (w3 : Unit) : TS := .on [384, 385] [(384, ⟨.one, 0, nob⟩), (385, ⟨.im, 0, (.lit (.bool false))⟩)]
def F104_l0_0_X1 (a1 : GGraph) (a2 : GState) (w3 : Unit) : TS := .on [] []
theorem F104_l0_0_ok (K : Nat) (a1 : GGraph) (a2 : GState) : ∀ (k : Nat) (v3 : Int) (v4 : Int) (r : (Unit) ⊕ (Unit)), F104_l0_0 K a1 a2 k v3 v4 = some r → (Sum.elim (fun w => LoopEv E H hn104 0 c104_0 (F104_l0_0_S a1 a2 v3 v4) .ret (F104_l0_0_X0 a1 a2 w)) (fun w => LoopEv E H hn104 0 c104_0 (F104_l0_0_S a1 a2 v3 v4) (.exit 0) (F104_l0_0_X1 a1 a2 w))) r := by
 intro k
 induction k with
 | zero => intro v3 v4 r hF; cases hF
 | succ k ih =>
  intro v3 v4 r hF
  rw [F104_l0_0] at hF
  refine cond_some hF (fun h5 hF => ?_) (fun h5 hF => ?_)
  ·
   refine cond_some hF (fun h6 hF => ?_) (fun _ hF => nomatch hF)
   refine bind_some hF (fun x7 h8 hF => ?_)
   have q11 : PQ hn104 fun l => ((tt (ilt v4 (nl a2.In))) :: (tt (inr v4 (len a2.In))) :: .sub (flat eGMsg a2.In) (nidx v4 2) 2 [(i6 x7.To), (i6 x7.V)] :: l) := fun z => ⟨h5, h6, ⟨rfl, sub_flat0 eGMsg_len h8 2 (by decide)⟩, z⟩
   refine cond_some hF (fun h9 hF => ?_) (fun h9 hF => ?_)
   ·
    obtain rfl := sj hF
    have pz : HA hn104 [(bf (ile x7.To v3)), (bf (ile x7.To v3)), (bf (ile x7.To v3)), (bf (ile x7.To v3)), (bf (ile x7.To v3)), (tt (ile x7.To v3)), (tt true)] := ⟨(bA h9), (bA h9), (bA h9), (bA h9), (bA h9), h9, rfl, trivial⟩
    exact lE hn104 0 c104_0 (F104_l0_0_S a1 a2 v3 v4) (F104_l0_0_X0 a1 a2 ()) .ret (q11 pz)
   have q12 : PQ hn104 fun l => ((bg (ile x7.To v3)) :: (bg (ile x7.To v3)) :: (bg (ile x7.To v3)) :: (bg (ile x7.To v3)) :: (bg (ile x7.To v3)) :: (ff (ile x7.To v3)) :: l) := fun z => ⟨(bB h9), (bB h9), (bB h9), (bB h9), (bB h9), h9, z⟩
   refine cond_some hF (fun h10 hF => ?_) (fun h10 hF => ?_)
   ·
    obtain rfl := sj hF
    have pz : HA hn104 [(tt (ige x7.To a1.N))] := ⟨(ige_eq h10), trivial⟩
    exact lE hn104 0 c104_0 (F104_l0_0_S a1 a2 v3 v4) (F104_l0_0_X0 a1 a2 ()) .ret (q11 (q12 pz))
   have pz : HA hn104 [(ff (ige x7.To a1.N)), .int (wadd .i64 v4 1) (wadd .i64 v4 1)] := ⟨(ige_eq h10), rfl, trivial⟩
   have h0 := ih _ _ _ hF
   have hn := lN hn104 0 c104_0 (F104_l0_0_S a1 a2 v3 v4) (F104_l0_0_S a1 a2 x7.To (wadd .i64 v4 1)) (q11 (q12 pz))
   cases r with
   | inl w => exact hn _ _ h0
   | inr w => exact hn _ _ h0
  obtain rfl := sj hF
  have pz : HA hn104 [(ff (ilt v4 (nl a2.In)))] := ⟨h5, trivial⟩
  exact lE hn104 0 c104_0 (F104_l0_0_S a1 a2 v3 v4) (F104_l0_0_X1 a1 a2 ()) (.exit 0) pz
def F104 (K : Nat) (a1 : GGraph) (a2 : GJob) (a3 : GState) : Option (Bool) :=
 (F94 K a1 a2).bind fun r4 =>
 bif (ieq r4 0) then
  (bif (ilt a3.Step 0) then
   (some false)
  else
  bif (ilt 40 a3.Step) then
   (some false)
  else
  bif (ieq (nlen (len a3.Vals)) a1.N) then
   (bif (ieq (nlen (len a3.Rest)) a1.N) then
    ((F104_l0_0 K a1 a3 K (-1) 0).bind fun y5 =>
    Sum.elim (fun w6 =>
     some false)
     (fun w7 =>
     some true) y5)
   else
   some false)
  else
  some false)
 else
 some false
theorem F104_ok (K : Nat) (a1 : GGraph) (a2 : GJob) (a3 : GState) (r : Bool) (hF : F104 K a1 a2 a3 = some r) : Evt E H 104 [.agg (eGGraph a1), .agg (eGJob a2), .agg (eGState a3)] (F104_res r) := by
 rw [F104] at hF
 refine bind_some hF (fun r4 h5 hF => ?_)
 refine cond_some hF (fun h6 hF => ?_) (fun h6 hF => ?_)
 ·
  have q15 : PQ hn104 fun l => (.call 94 [.agg (eGGraph a1), .agg (eGJob a2)] (F94_res r4) :: (ff (leadsAny (Res.mk [(.one (.im (i6 r4)))] []))) :: (bg (ine r4 0)) :: (bg (ine r4 0)) :: (bg (ine r4 0)) :: (ff (ine r4 0)) :: l) := fun z => ⟨(F94_ok K a1 a2 _ h5), lk, (bB (ine_t h6)), (bB (ine_t h6)), (bB (ine_t h6)), (ine_t h6), z⟩
  refine cond_some hF (fun h7 hF => ?_) (fun h7 hF => ?_)
  ·
   obtain rfl := sj hF
   have pz : HA hn104 [(bf (ilt a3.Step 0)), (bf (ilt a3.Step 0)), (bf (ilt a3.Step 0)), (tt (ilt a3.Step 0)), bt, bt, bt, bt, bt, bt, (tt true), bt, bt, bt, bt, bt, bt, (tt true), (tt true)] := ⟨(bA h7), (bA h7), (bA h7), h7, br, br, br, br, br, br, rfl, br, br, br, br, br, br, rfl, rfl, trivial⟩
   exact fpC hn104 (r := F104_res false) (q15 pz)
  have q16 : PQ hn104 fun l => ((bg (ilt a3.Step 0)) :: (bg (ilt a3.Step 0)) :: (bg (ilt a3.Step 0)) :: (ff (ilt a3.Step 0)) :: l) := fun z => ⟨(bB h7), (bB h7), (bB h7), h7, z⟩
  refine cond_some hF (fun h8 hF => ?_) (fun h8 hF => ?_)
  ·
   obtain rfl := sj hF
   have pz : HA hn104 [(bf (igt a3.Step 40)), (bf (igt a3.Step 40)), (bf (igt a3.Step 40)), (bf (igt a3.Step 40)), (bf (igt a3.Step 40)), (bf (igt a3.Step 40)), (tt (igt a3.Step 40)), bt, bt, bt, bt, bt, bt, (tt true), (tt true)] := ⟨(bA (igt_eq h8)), (bA (igt_eq h8)), (bA (igt_eq h8)), (bA (igt_eq h8)), (bA (igt_eq h8)), (bA (igt_eq h8)), (igt_eq h8), br, br, br, br, br, br, rfl, rfl, trivial⟩
   exact fpC hn104 (r := F104_res false) (q15 (q16 pz))
  have q17 : PQ hn104 fun l => ((bg (igt a3.Step 40)) :: (bg (igt a3.Step 40)) :: (bg (igt a3.Step 40)) :: .int (nl a3.Vals) (nl a3.Vals) :: (bg (igt a3.Step 40)) :: (bg (igt a3.Step 40)) :: (bg (igt a3.Step 40)) :: (ff (igt a3.Step 40)) :: l) := fun z => ⟨(bB (igt_eq h8)), (bB (igt_eq h8)), (bB (igt_eq h8)), rfl, (bB (igt_eq h8)), (bB (igt_eq h8)), (bB (igt_eq h8)), (igt_eq h8), z⟩
  refine cond_some hF (fun h9 hF => ?_) (fun h9 hF => ?_)
  ·
   have q18 : PQ hn104 fun l => ((bg (ine (nl a3.Vals) a1.N)) :: (bg (ine (nl a3.Vals) a1.N)) :: (bg (ine (nl a3.Vals) a1.N)) :: .int (nl a3.Rest) (nl a3.Rest) :: (bg (ine (nl a3.Vals) a1.N)) :: (bg (ine (nl a3.Vals) a1.N)) :: (bg (ine (nl a3.Vals) a1.N)) :: (ff (ine (nl a3.Vals) a1.N)) :: l) := fun z => ⟨(bB (ine_t h9)), (bB (ine_t h9)), (bB (ine_t h9)), rfl, (bB (ine_t h9)), (bB (ine_t h9)), (bB (ine_t h9)), (ine_t h9), z⟩
   refine cond_some hF (fun h10 hF => ?_) (fun h10 hF => ?_)
   ·
    refine bind_some hF (fun y12 h11 hF => ?_)
    refine sum_some hF (fun w13 hx hF => ?_) (fun w14 hx hF => ?_)
    ·
     subst hx
     obtain rfl := sj hF
     have pz : HA hn104 [(ff (ine (nl a3.Rest) a1.N)), .int (nl a3.In) (nl a3.In), .loop 0 c104_0 (F104_l0_0_S a1 a3 (-1) 0) .ret (F104_l0_0_X0 a1 a3 w13)] := ⟨(ine_t h10), rfl, (F104_l0_0_ok K a1 a3 K (-1) 0 _ h11), trivial⟩
     exact fpC hn104 (r := F104_res false) (q15 (q16 (q17 (q18 pz))))
    subst hx
    obtain rfl := sj hF
    have pz : HA hn104 [(ff (ine (nl a3.Rest) a1.N)), .int (nl a3.In) (nl a3.In), .loop 0 c104_0 (F104_l0_0_S a1 a3 (-1) 0) (.exit 0) (F104_l0_0_X1 a1 a3 w14)] := ⟨(ine_t h10), rfl, (F104_l0_0_ok K a1 a3 K (-1) 0 _ h11), trivial⟩
    exact fpC hn104 (r := F104_res true) (q15 (q16 (q17 (q18 pz))))
   obtain rfl := sj hF
   have pz : HA hn104 [(tt (ine (nl a3.Rest) a1.N))] := ⟨(ine_f h10), trivial⟩
   exact fpC hn104 (r := F104_res false) (q15 (q16 (q17 (q18 pz))))
  obtain rfl := sj hF
  have pz : HA hn104 [(bf (ine (nl a3.Vals) a1.N)), (bf (ine (nl a3.Vals) a1.N)), (bf (ine (nl a3.Vals) a1.N)), (bf (ine (nl a3.Vals) a1.N)), (bf (ine (nl a3.Vals) a1.N)), (bf (ine (nl a3.Vals) a1.N)), (tt (ine (nl a3.Vals) a1.N)), (tt true)] := ⟨(bA (ine_f h9)), (bA (ine_f h9)), (bA (ine_f h9)), (bA (ine_f h9)), (bA (ine_f h9)), (bA (ine_f h9)), (ine_f h9), rfl, trivial⟩
  exact fpC hn104 (r := F104_res false) (q15 (q16 (q17 pz)))
 obtain rfl := sj hF
 have pz : HA hn104 [.call 94 [.agg (eGGraph a1), .agg (eGJob a2)] (F94_res r4), (ff (leadsAny (Res.mk [(.one (.im (i6 r4)))] []))), (bf (ine r4 0)), (bf (ine r4 0)), (bf (ine r4 0)), (tt (ine r4 0)), bt, bt, bt, (tt true), bt, bt, bt, bt, bt, bt, (tt true), bt, bt, bt, bt, bt, bt, (tt true), (tt true)] := ⟨(F94_ok K a1 a2 _ h5), lk, (bA (ine_f h6)), (bA (ine_f h6)), (bA (ine_f h6)), (ine_f h6), br, br, br, rfl, br, br, br, br, br, br, rfl, br, br, br, br, br, br, rfl, rfl, trivial⟩
 exact fpC hn104 (r := F104_res false) pz
noncomputable def hn80 : Hint := { H 80 with nt := 85, prot := 0 }
noncomputable def c80_0 : Code := loopOf E 80 0
def F80_res (r1 : Bool) : Res := ⟨[(.one (.im (.lit (.bool r1))))], []⟩
def F80_l0_0 (K : Nat) (a1 : GGraph) (a2 : GJob) (a3 : GPart) : Nat → Int → Int → Option ((Unit) ⊕ (Unit))
 | 0, _, _ => none
 | k + 1, v4, v5 =>
  bif (ilt v5 (nlen (len a3.In))) then
   (bif (inr v5 (len a3.In)) then
   (elAt a3.In v5).bind fun x6 =>
   bif (ile x6.To v4) then
    (some (.inl ()))
   else
   bif (ile a1.N x6.To) then
    (some (.inl ()))
   else
   bif (izero a2.Parts) then none else
   bif (ieq (wrem x6.To a2.Parts) a3.P) then
    (F80_l0_0 K a1 a2 a3 k x6.To (wadd .i64 v5 1))
   else
   some (.inl ())
   else none)
  else
  some (.inr ())
def F80_l0_0_S (a1 : GGraph) (a2 : GJob) (a3 : GPart) (v4 : Int) (v5 : Int) : TS := .on [192, 193, 194, 256, 257, 258, 259, 260, 320, 321, 322, 323, 324, 325, 512, 513, 3456, 3520, 3521, 3584, 3585, 3648, 3649] [(192, ⟨(.box 62 2), 0, nob⟩), (193, ⟨.im, 0, (.lit (.int .i64 a1.N))⟩), (194, ⟨.im, 0, (.sl (len a1.Edges) (flat eGEdge a1.Edges))⟩), (256, ⟨(.box 64 4), 0, nob⟩), (257, ⟨.im, 0, (.lit (.int .i64 a2.Prog))⟩), (258, ⟨.im, 0, (.lit (.int .i64 a2.Source))⟩), (259, ⟨.im, 0, (.lit (.int .i64 a2.Limit))⟩), (260, ⟨.im, 0, (.lit (.int .i64 a2.Parts))⟩), (320, ⟨(.box 42 5), 0, nob⟩), (321, ⟨.im, 0, (.lit (.int .i64 a3.P))⟩), (322, ⟨.im, 0, (.lit (.int .i64 a3.Step))⟩), (323, ⟨.im, 0, (.sl (len a3.Vals) (flat (eInt .i64) a3.Vals))⟩), (324, ⟨.im, 0, (.sl (len a3.Rest) (flat eBool a3.Rest))⟩), (325, ⟨.im, 0, (.sl (len a3.In) (flat eGMsg a3.In))⟩), (512, ⟨.one, 0, nob⟩), (513, ⟨.im, 0, (.lit (.int .i64 v4))⟩), (3456, ⟨(.ad 5 0 4), 0, nob⟩), (3520, ⟨.one, 0, nob⟩), (3521, ⟨.im, 0, (.sl (len a3.In) (flat eGMsg a3.In))⟩), (3584, ⟨.one, 0, nob⟩), (3585, ⟨.im, 0, (.lit (.int .i64 (nlen (len a3.In))))⟩), (3648, ⟨.one, 0, nob⟩), (3649, ⟨.im, 0, (.lit (.int .i64 v5))⟩)]
def F80_l0_0_X0 (a1 : GGraph) (a2 : GJob) (a3 : GPart) (w4 : Unit) : TS := .on [384, 385] [(384, ⟨.one, 0, nob⟩), (385, ⟨.im, 0, (.lit (.bool false))⟩)]
def F80_l0_0_X1 (a1 : GGraph) (a2 : GJob) (a3 : GPart) (w4 : Unit) : TS := .on [] []
theorem F80_l0_0_ok (K : Nat) (a1 : GGraph) (a2 : GJob) (a3 : GPart) : ∀ (k : Nat) (v4 : Int) (v5 : Int) (r : (Unit) ⊕ (Unit)), F80_l0_0 K a1 a2 a3 k v4 v5 = some r → (Sum.elim (fun w => LoopEv E H hn80 0 c80_0 (F80_l0_0_S a1 a2 a3 v4 v5) .ret (F80_l0_0_X0 a1 a2 a3 w)) (fun w => LoopEv E H hn80 0 c80_0 (F80_l0_0_S a1 a2 a3 v4 v5) (.exit 0) (F80_l0_0_X1 a1 a2 a3 w))) r := by
 intro k
 induction k with
 | zero => intro v4 v5 r hF; cases hF
 | succ k ih =>
  intro v4 v5 r hF
  rw [F80_l0_0] at hF
  refine cond_some hF (fun h6 hF => ?_) (fun h6 hF => ?_)
  ·
   refine cond_some hF (fun h7 hF => ?_) (fun _ hF => nomatch hF)
   refine bind_some hF (fun x8 h9 hF => ?_)
   have q14 : PQ hn80 fun l => ((tt (ilt v5 (nl a3.In))) :: (tt (inr v5 (len a3.In))) :: .sub (flat eGMsg a3.In) (nidx v5 2) 2 [(i6 x8.To), (i6 x8.V)] :: l) := fun z => ⟨h6, h7, ⟨rfl, sub_flat0 eGMsg_len h9 2 (by decide)⟩, z⟩
   refine cond_some hF (fun h10 hF => ?_) (fun h10 hF => ?_)
   ·
    obtain rfl := sj hF
    have pz : HA hn80 [(bf (ile x8.To v4)), (bf (ile x8.To v4)), (bf (ile x8.To v4)), (bf (ile x8.To v4)), (bf (ile x8.To v4)), (tt (ile x8.To v4)), bt, bt, bt, bt, bt, bt, bt, bt, (tt true), (tt true)] := ⟨(bA h10), (bA h10), (bA h10), (bA h10), (bA h10), h10, br, br, br, br, br, br, br, br, rfl, rfl, trivial⟩
    exact lE hn80 0 c80_0 (F80_l0_0_S a1 a2 a3 v4 v5) (F80_l0_0_X0 a1 a2 a3 ()) .ret (q14 pz)
   have q15 : PQ hn80 fun l => ((bg (ile x8.To v4)) :: (bg (ile x8.To v4)) :: (bg (ile x8.To v4)) :: (bg (ile x8.To v4)) :: (bg (ile x8.To v4)) :: (ff (ile x8.To v4)) :: l) := fun z => ⟨(bB h10), (bB h10), (bB h10), (bB h10), (bB h10), h10, z⟩
   refine cond_some hF (fun h11 hF => ?_) (fun h11 hF => ?_)
   ·
    obtain rfl := sj hF
    have pz : HA hn80 [(bf (ige x8.To a1.N)), (bf (ige x8.To a1.N)), (bf (ige x8.To a1.N)), (bf (ige x8.To a1.N)), (bf (ige x8.To a1.N)), (bf (ige x8.To a1.N)), (bf (ige x8.To a1.N)), (bf (ige x8.To a1.N)), (tt (ige x8.To a1.N)), (tt true)] := ⟨(bA (ige_eq h11)), (bA (ige_eq h11)), (bA (ige_eq h11)), (bA (ige_eq h11)), (bA (ige_eq h11)), (bA (ige_eq h11)), (bA (ige_eq h11)), (bA (ige_eq h11)), (ige_eq h11), rfl, trivial⟩
    exact lE hn80 0 c80_0 (F80_l0_0_S a1 a2 a3 v4 v5) (F80_l0_0_X0 a1 a2 a3 ()) .ret (q14 (q15 pz))
   refine cond_some hF (fun _ hF => nomatch hF) (fun h12 hF => ?_)
   have q16 : PQ hn80 fun l => ((bg (ige x8.To a1.N)) :: (bg (ige x8.To a1.N)) :: (bg (ige x8.To a1.N)) :: (bg (ige x8.To a1.N)) :: (bg (ige x8.To a1.N)) :: (ff (izero a2.Parts)) :: .int (wrem x8.To a2.Parts) (wrem x8.To a2.Parts) :: (bg (ige x8.To a1.N)) :: (bg (ige x8.To a1.N)) :: (bg (ige x8.To a1.N)) :: (ff (ige x8.To a1.N)) :: l) := fun z => ⟨(bB (ige_eq h11)), (bB (ige_eq h11)), (bB (ige_eq h11)), (bB (ige_eq h11)), (bB (ige_eq h11)), h12, rfl, (bB (ige_eq h11)), (bB (ige_eq h11)), (bB (ige_eq h11)), (ige_eq h11), z⟩
   refine cond_some hF (fun h13 hF => ?_) (fun h13 hF => ?_)
   ·
    have pz : HA hn80 [(ff (ine (wrem x8.To a2.Parts) a3.P)), .int (wadd .i64 v5 1) (wadd .i64 v5 1)] := ⟨(ine_t h13), rfl, trivial⟩
    have h0 := ih _ _ _ hF
    have hn := lN hn80 0 c80_0 (F80_l0_0_S a1 a2 a3 v4 v5) (F80_l0_0_S a1 a2 a3 x8.To (wadd .i64 v5 1)) (q14 (q15 (q16 pz)))
    cases r with
    | inl w => exact hn _ _ h0
    | inr w => exact hn _ _ h0
   obtain rfl := sj hF
   have pz : HA hn80 [(tt (ine (wrem x8.To a2.Parts) a3.P))] := ⟨(ine_f h13), trivial⟩
   exact lE hn80 0 c80_0 (F80_l0_0_S a1 a2 a3 v4 v5) (F80_l0_0_X0 a1 a2 a3 ()) .ret (q14 (q15 (q16 pz)))
  obtain rfl := sj hF
  have pz : HA hn80 [(ff (ilt v5 (nl a3.In)))] := ⟨h6, trivial⟩
  exact lE hn80 0 c80_0 (F80_l0_0_S a1 a2 a3 v4 v5) (F80_l0_0_X1 a1 a2 a3 ()) (.exit 0) pz
def F80 (K : Nat) (a1 : GGraph) (a2 : GJob) (a3 : GPart) : Option (Bool) :=
 (F94 K a1 a2).bind fun r4 =>
 bif (ieq r4 0) then
  (bif (ilt a3.P 0) then
   (some false)
  else
  bif (ile a2.Parts a3.P) then
   (some false)
  else
  bif (ilt a3.Step 0) then
   (some false)
  else
  bif (ilt 40 a3.Step) then
   (some false)
  else
  (F77 K a1 a2 a3.P).bind fun r5 =>
  bif (ieq (nlen (len a3.Vals)) r5) then
   (bif (ieq (nlen (len a3.Rest)) r5) then
    ((F80_l0_0 K a1 a2 a3 K (-1) 0).bind fun y6 =>
    Sum.elim (fun w7 =>
     some false)
     (fun w8 =>
     some true) y6)
   else
   some false)
  else
  some false)
 else
 some false
theorem F80_ok (K : Nat) (a1 : GGraph) (a2 : GJob) (a3 : GPart) (r : Bool) (hF : F80 K a1 a2 a3 = some r) : Evt E H 80 [.agg (eGGraph a1), .agg (eGJob a2), .agg (eGPart a3)] (F80_res r) := by
 rw [F80] at hF
 refine bind_some hF (fun r4 h5 hF => ?_)
 refine cond_some hF (fun h6 hF => ?_) (fun h6 hF => ?_)
 ·
  have q19 : PQ hn80 fun l => (.call 94 [.agg (eGGraph a1), .agg (eGJob a2)] (F94_res r4) :: (ff (leadsAny (Res.mk [(.one (.im (i6 r4)))] []))) :: (bg (ine r4 0)) :: (bg (ine r4 0)) :: (bg (ine r4 0)) :: (ff (ine r4 0)) :: l) := fun z => ⟨(F94_ok K a1 a2 _ h5), lk, (bB (ine_t h6)), (bB (ine_t h6)), (bB (ine_t h6)), (ine_t h6), z⟩
  refine cond_some hF (fun h7 hF => ?_) (fun h7 hF => ?_)
  ·
   obtain rfl := sj hF
   have pz : HA hn80 [(bf (ilt a3.P 0)), (bf (ilt a3.P 0)), (bf (ilt a3.P 0)), (bf (ilt a3.P 0)), (bf (ilt a3.P 0)), (tt (ilt a3.P 0)), bt, bt, bt, (tt true), bt, bt, bt, (tt true), (tt true)] := ⟨(bA h7), (bA h7), (bA h7), (bA h7), (bA h7), h7, br, br, br, rfl, br, br, br, rfl, rfl, trivial⟩
   exact fpC hn80 (r := F80_res false) (q19 pz)
  have q20 : PQ hn80 fun l => ((bg (ilt a3.P 0)) :: (bg (ilt a3.P 0)) :: (bg (ilt a3.P 0)) :: (bg (ilt a3.P 0)) :: (bg (ilt a3.P 0)) :: (ff (ilt a3.P 0)) :: l) := fun z => ⟨(bB h7), (bB h7), (bB h7), (bB h7), (bB h7), h7, z⟩
  refine cond_some hF (fun h8 hF => ?_) (fun h8 hF => ?_)
  ·
   obtain rfl := sj hF
   have pz : HA hn80 [(bf (ige a3.P a2.Parts)), (bf (ige a3.P a2.Parts)), (bf (ige a3.P a2.Parts)), (tt (ige a3.P a2.Parts)), bt, bt, bt, (tt true), (tt true)] := ⟨(bA (ige_eq h8)), (bA (ige_eq h8)), (bA (ige_eq h8)), (ige_eq h8), br, br, br, rfl, rfl, trivial⟩
   exact fpC hn80 (r := F80_res false) (q19 (q20 pz))
  have q21 : PQ hn80 fun l => ((bg (ige a3.P a2.Parts)) :: (bg (ige a3.P a2.Parts)) :: (bg (ige a3.P a2.Parts)) :: (ff (ige a3.P a2.Parts)) :: l) := fun z => ⟨(bB (ige_eq h8)), (bB (ige_eq h8)), (bB (ige_eq h8)), (ige_eq h8), z⟩
  refine cond_some hF (fun h9 hF => ?_) (fun h9 hF => ?_)
  ·
   obtain rfl := sj hF
   have pz : HA hn80 [(bf (ilt a3.Step 0)), (bf (ilt a3.Step 0)), (bf (ilt a3.Step 0)), (tt (ilt a3.Step 0)), (tt true)] := ⟨(bA h9), (bA h9), (bA h9), h9, rfl, trivial⟩
   exact fpC hn80 (r := F80_res false) (q19 (q20 (q21 pz)))
  have q22 : PQ hn80 fun l => ((bg (ilt a3.Step 0)) :: (bg (ilt a3.Step 0)) :: (bg (ilt a3.Step 0)) :: (ff (ilt a3.Step 0)) :: l) := fun z => ⟨(bB h9), (bB h9), (bB h9), h9, z⟩
  refine cond_some hF (fun h10 hF => ?_) (fun h10 hF => ?_)
  ·
   obtain rfl := sj hF
   have pz : HA hn80 [(tt (igt a3.Step 40))] := ⟨(igt_eq h10), trivial⟩
   exact fpC hn80 (r := F80_res false) (q19 (q20 (q21 (q22 pz))))
  refine bind_some hF (fun r11 h12 hF => ?_)
  have q23 : PQ hn80 fun l => ((ff (igt a3.Step 40)) :: .call 77 [.agg (eGGraph a1), .agg (eGJob a2), .one (i6 a3.P)] (F77_res r11) :: (ff (leadsAny (Res.mk [(.one (.im (i6 r11)))] []))) :: .int (nl a3.Vals) (nl a3.Vals) :: l) := fun z => ⟨(igt_eq h10), (F77_ok K a1 a2 a3.P _ h12), lk, rfl, z⟩
  refine cond_some hF (fun h13 hF => ?_) (fun h13 hF => ?_)
  ·
   have q24 : PQ hn80 fun l => ((bg (ine (nl a3.Vals) r11)) :: (bg (ine (nl a3.Vals) r11)) :: (bg (ine (nl a3.Vals) r11)) :: .int (nl a3.Rest) (nl a3.Rest) :: (bg (ine (nl a3.Vals) r11)) :: (bg (ine (nl a3.Vals) r11)) :: (ff (ine (nl a3.Vals) r11)) :: l) := fun z => ⟨(bB (ine_t h13)), (bB (ine_t h13)), (bB (ine_t h13)), rfl, (bB (ine_t h13)), (bB (ine_t h13)), (ine_t h13), z⟩
   refine cond_some hF (fun h14 hF => ?_) (fun h14 hF => ?_)
   ·
    refine bind_some hF (fun y16 h15 hF => ?_)
    refine sum_some hF (fun w17 hx hF => ?_) (fun w18 hx hF => ?_)
    ·
     subst hx
     obtain rfl := sj hF
     have pz : HA hn80 [(ff (ine (nl a3.Rest) r11)), .int (nl a3.In) (nl a3.In), .loop 0 c80_0 (F80_l0_0_S a1 a2 a3 (-1) 0) .ret (F80_l0_0_X0 a1 a2 a3 w17)] := ⟨(ine_t h14), rfl, (F80_l0_0_ok K a1 a2 a3 K (-1) 0 _ h15), trivial⟩
     exact fpC hn80 (r := F80_res false) (q19 (q20 (q21 (q22 (q23 (q24 pz))))))
    subst hx
    obtain rfl := sj hF
    have pz : HA hn80 [(ff (ine (nl a3.Rest) r11)), .int (nl a3.In) (nl a3.In), .loop 0 c80_0 (F80_l0_0_S a1 a2 a3 (-1) 0) (.exit 0) (F80_l0_0_X1 a1 a2 a3 w18)] := ⟨(ine_t h14), rfl, (F80_l0_0_ok K a1 a2 a3 K (-1) 0 _ h15), trivial⟩
    exact fpC hn80 (r := F80_res true) (q19 (q20 (q21 (q22 (q23 (q24 pz))))))
   obtain rfl := sj hF
   have pz : HA hn80 [(tt (ine (nl a3.Rest) r11))] := ⟨(ine_f h14), trivial⟩
   exact fpC hn80 (r := F80_res false) (q19 (q20 (q21 (q22 (q23 (q24 pz))))))
  obtain rfl := sj hF
  have pz : HA hn80 [(bf (ine (nl a3.Vals) r11)), (bf (ine (nl a3.Vals) r11)), (bf (ine (nl a3.Vals) r11)), (bf (ine (nl a3.Vals) r11)), (bf (ine (nl a3.Vals) r11)), (tt (ine (nl a3.Vals) r11)), (tt true)] := ⟨(bA (ine_f h13)), (bA (ine_f h13)), (bA (ine_f h13)), (bA (ine_f h13)), (bA (ine_f h13)), (ine_f h13), rfl, trivial⟩
  exact fpC hn80 (r := F80_res false) (q19 (q20 (q21 (q22 (q23 pz)))))
 obtain rfl := sj hF
 have pz : HA hn80 [.call 94 [.agg (eGGraph a1), .agg (eGJob a2)] (F94_res r4), (ff (leadsAny (Res.mk [(.one (.im (i6 r4)))] []))), (bf (ine r4 0)), (bf (ine r4 0)), (bf (ine r4 0)), (tt (ine r4 0)), bt, bt, bt, bt, bt, (tt true), bt, bt, bt, (tt true), bt, bt, bt, (tt true), (tt true)] := ⟨(F94_ok K a1 a2 _ h5), lk, (bA (ine_f h6)), (bA (ine_f h6)), (bA (ine_f h6)), (ine_f h6), br, br, br, br, br, rfl, br, br, br, rfl, br, br, br, rfl, rfl, trivial⟩
 exact fpC hn80 (r := F80_res false) pz
def F81_l1_1 (K : Nat) (a1 : GPart) (r2 : List Int) (v3 : Int) (x4 : GMsg) : Nat → Bool → Int → Option (Bool)
 | 0, _, _ => none
 | k + 1, v5, v6 =>
  bif (ilt v6 (nlen (len r2))) then
   (bif v5 then
    (F81_l1_1 K a1 r2 v3 x4 k true (wadd .i64 v6 1))
   else
   bif (inr v6 (len r2)) then
   (elAt r2 v6).bind fun x7 =>
   F81_l1_1 K a1 r2 v3 x4 k (ieq x7 x4.To) (wadd .i64 v6 1)
   else none)
  else
  some v5
def F81_l0_0 (K : Nat) (a1 : GPart) (r2 : List Int) : Nat → Int → Option ((Unit) ⊕ (Unit))
 | 0, _ => none
 | k + 1, v3 =>
  bif (ilt v3 (nlen (len a1.In))) then
   (bif (inr v3 (len a1.In)) then
   (elAt a1.In v3).bind fun x4 =>
   (F81_l1_1 K a1 r2 v3 x4 K false 0).bind fun w5 =>
   bif w5 then
    (bif (ilt 0 v3) then
     (bif (inr (wsub .i64 v3 1) (len a1.In)) then
     (elAt a1.In (wsub .i64 v3 1)).bind fun x6 =>
     bif (ile x4.To x6.To) then
      (some (.inl ()))
     else
     F81_l0_0 K a1 r2 k (wadd .i64 v3 1)
     else none)
    else
    F81_l0_0 K a1 r2 k (wadd .i64 v3 1))
   else
   some (.inl ())
   else none)
  else
  some (.inr ())
def F81 (K : Nat) (a1 : GGraph) (a2 : GJob) (a3 : GPart) : Option (Bool) :=
 (F59 K a1 a2).bind fun r4 =>
 bif (ieq r4 0) then
  (bif (ilt a3.P 0) then
   (some false)
  else
  bif (ile a2.Parts a3.P) then
   (some false)
  else
  bif (ilt a3.Step 0) then
   (some false)
  else
  bif (ilt 40 a3.Step) then
   (some false)
  else
  (F139 K a1 a2 a3.P).bind fun r5 =>
  bif (ieq (nlen (len a3.Vals)) (nlen (len r5))) then
   (bif (ieq (nlen (len a3.Rest)) (nlen (len r5))) then
    ((F81_l0_0 K a3 r5 K 0).bind fun y6 =>
    Sum.elim (fun w7 =>
     some false)
     (fun w8 =>
     some true) y6)
   else
   some false)
  else
  some false)
 else
 some false
def inOkS (n parts p : Int) : Int → List GMsg → Bool
 | _, [] => true
 | prev, m :: r => ilt prev m.To && (ilt m.To n && (ieq (m.To % parts) p && inOkS n parts p m.To r))
def inSt (n : Int) : Int → List GMsg → Bool
 | _, [] => true
 | prev, m :: r => ilt prev m.To && (ilt m.To n && inSt n m.To r)
def sumU (b : Bool) : Unit ⊕ Unit := bif b then .inr () else .inl ()
theorem sumU_elim (b : Bool) : (some (sumU b)).bind (fun y => Sum.elim (fun w => some false) (fun w => some true) y) = some b := by cases b <;> rfl
theorem not_ile {a b : Int} : ile a b = !(ilt b a) := by
 unfold ile ilt; by_cases h : b < a <;> simp [h] <;> omega
def partRight (g : GGraph) (j : GJob) (x : GPart) : Bool :=
 ieq (jcheck g j) 0 && (ile 0 x.P && (ilt x.P j.Parts && (ile 0 x.Step && (ile x.Step 40 && (ieq (x.Vals.length : Int) (countS g j x.P) && (ieq (x.Rest.length : Int) (countS g j x.P) && inOkS g.N j.Parts x.P (-1) x.In))))))
theorem F80_loop {K : Nat} (g : GGraph) (j : GJob) (x : GPart) (hp : 1 ≤ j.Parts) (hl : x.In.length < 1000000) (hK : x.In.length < K) : F80_l0_0 K g j x K (-1) 0 = some (sumU (inOkS g.N j.Parts x.P (-1) x.In)) := by
 let step : GMsg → Int → (Int → Option (Unit ⊕ Unit)) → Option (Unit ⊕ Unit) := fun m s c =>
  bif (ile m.To s) then (some (.inl ())) else bif (ile g.N m.To) then (some (.inl ())) else bif (izero j.Parts) then none else bif (ieq (wrem m.To j.Parts) x.P) then c m.To else some (.inl ())
 have h := scanL (l := x.In) (L := fun k s i => F80_l0_0 K g j x k s i) step (fun _ => some (.inr ())) (fun k s i _ => rfl) (by omega) (K := K) hK (-1)
 have hz : izero j.Parts = false := decide_eq_false (by omega)
 have hw : ∀ (l : List GMsg) (s : Int), -1 ≤ s → goL step (fun _ => some (.inr ())) l s = some (sumU (inOkS g.N j.Parts x.P s l)) := by
  intro l
  induction l with
  | nil => intro s _; rfl
  | cons m l ih =>
   intro s hs
   rw [goL]
   show (bif (ile m.To s) then (some (.inl ())) else bif (ile g.N m.To) then (some (.inl ())) else bif (izero j.Parts) then none else bif (ieq (wrem m.To j.Parts) x.P) then goL step (fun _ => some (.inr ())) l m.To else some (.inl ())) = _
   rw [inOkS, hz, not_ile, not_ile]
   cases h1 : ilt s m.To
   · rfl
   · have h1' := ilt_iff.1 h1
     rw [wrem_emod (by omega), ih m.To (by omega)]
     cases ilt m.To g.N <;> cases ieq (m.To % j.Parts) x.P <;> rfl
 rw [hw _ _ (by omega)] at h
 exact h
theorem F80_spec {K : Nat} (hK : 1000 ≤ K) (g : GGraph) (j : GJob) (x : GPart) (hl : x.In.length < 1000000) (hk : x.In.length < K) (hp : -9223372036854775808 ≤ x.P ∧ x.P ≤ 9223372036854775807) : F80 K g j x = some (partRight g j x) := by
 rw [F80, F94_spec (by omega), Option.bind_some, partRight]
 cases hc : ieq (jcheck g j) 0
 · rfl
 · obtain ⟨hg, p1, p2, p3, p4, p5, p6, p7, p8⟩ := jcheck_ok hc
   rw [cond_true, F77_spec (by omega) g j x.P hp, hc, F80_loop g j x p7 hl hk]
   have n1 : nlen (len x.Vals) = (x.Vals.length : Int) := rfl
   have n2 : nlen (len x.Rest) = (x.Rest.length : Int) := rfl
   rw [ilt_not' x.P 0, not_ile (a := j.Parts), ilt_not' x.Step 0, ilt_not' 40 x.Step, n1, n2, cond_true, Option.bind_some, sumU_elim]
   cases ile 0 x.P <;> cases ilt x.P j.Parts <;> cases ile 0 x.Step <;> cases ile x.Step 40 <;> cases ieq (x.Vals.length : Int) (countS g j x.P) <;> cases ieq (x.Rest.length : Int) (countS g j x.P) <;> rfl
theorem any_verts {g : GGraph} {j : GJob} (hp : 1 ≤ j.Parts) (p to : Int) : (((vertsS g j p).map Int.ofNat).any fun v => ieq v to) = (ile 0 to && (ilt to g.N && ieq (to % j.Parts) p)) := by
 rw [Bool.eq_iff_iff]
 simp only [List.any_map, List.any_eq_true, Function.comp, Bool.and_eq_true, ile_iff, ilt_iff, ieq_iff]
 constructor
 · rintro ⟨v, hv, e⟩
   have := (mem_verts hp).1 hv
   have e' : (v : Int) = to := e
   rw [← e']; exact ⟨by omega, this⟩
 · rintro ⟨h0, h1, h2⟩
   obtain ⟨v, rfl⟩ := Int.eq_ofNat_of_zero_le h0
   exact ⟨v, (mem_verts hp).2 ⟨h1, h2⟩, rfl⟩
theorem F81_inner {K : Nat} (x : GPart) (l : List Int) (v : Int) (m : GMsg) (hl : l.length < 1000000) (hk : l.length < K) : F81_l1_1 K x l v m K false 0 = some (l.any fun v => ieq v m.To) := by
 have h := scanL (l := l) (L := fun k s i => F81_l1_1 K x l v m k s i) (fun y s c => bif s then c true else c (ieq y m.To)) (fun s => some s) (fun k s i _ => by
  show F81_l1_1 K x l v m (k + 1) s i = _
  rw [F81_l1_1]
  rcases at_idx l i with ⟨z, e1, e2, e3, e4⟩ | ⟨e1, e2⟩
  · rw [e2, e3, e4]; cases s <;> rfl
  · rw [e2]; rfl) (by omega) (K := K) hk false
 have hw : ∀ (l : List Int) (s : Bool), goL (fun y s c => bif s then c true else c (ieq y m.To)) (fun s => some s) l s = some (s || l.any fun v => ieq v m.To) := by
  intro l
  induction l with
  | nil => intro s; simp [goL]
  | cons y l ih =>
   intro s
   rw [goL]
   cases s
   · rw [cond_false, ih, List.any_cons, Bool.false_or]
   · rw [cond_true, ih]; rfl
 rw [hw, Bool.false_or] at h
 exact h
theorem verts_len (g : GGraph) (j : GJob) (hn : g.N ≤ 24) (p : Int) : (vertsS g j p).length ≤ 24 := by
 unfold vertsS vertsN
 refine Nat.le_trans (List.length_filter_le _ _) ?_
 simp; omega
theorem F81_loop {K : Nat} (hK : 1000 ≤ K) (g : GGraph) (j : GJob) (x : GPart) (hp : 1 ≤ j.Parts) (hn : g.N ≤ 24) (hl : x.In.length < 1000000) (hk : x.In.length < K) : F81_l0_0 K x ((vertsS g j x.P).map Int.ofNat) K 0 = some (sumU (inOkS g.N j.Parts x.P (-1) x.In)) := by
 have hv := verts_len g j hn x.P
 let step : Nat → GMsg → Unit → (Unit → Option (Unit ⊕ Unit)) → Option (Unit ⊕ Unit) := fun i m _ c =>
  (F81_l1_1 K x ((vertsS g j x.P).map Int.ofNat) (i : Int) m K false 0).bind fun w3384 =>
  bif w3384 then
   (bif (ilt 0 (i : Int)) then
    (bif (inr (wsub .i64 (i : Int) 1) (len x.In)) then
    (elAt x.In (wsub .i64 (i : Int) 1)).bind fun x3389 =>
    bif (ile m.To x3389.To) then (some (.inl ())) else c ()
    else none)
   else c ())
  else some (.inl ())
 have h := scanI (l := x.In) (L := fun k (_ : Unit) i => F81_l0_0 K x ((vertsS g j x.P).map Int.ofNat) k i) step (fun _ => some (.inr ())) (fun k st i hi => rfl) (by omega) K () 0 (by omega) (by omega)
 have hw : ∀ (r : List GMsg) (i : Nat), x.In.drop i = r → goI step (fun _ => some (.inr ())) i r () = some (sumU (inOkS g.N j.Parts x.P (match prevOf x.In i with | none => -1 | some d => if 0 ≤ d.To then d.To else -1) r)) ∨ (∃ d, prevOf x.In i = some d ∧ d.To < 0) := by
  intro r
  induction r with
  | nil => intro i _; exact .inl rfl
  | cons m r ih =>
   intro i hr
   obtain ⟨n1, n2, hi⟩ := prev_next hr
   by_cases hneg : ∃ d, prevOf x.In i = some d ∧ d.To < 0
   · exact .inr hneg
   left
   rw [goI]
   show ((F81_l1_1 K x ((vertsS g j x.P).map Int.ofNat) (i : Int) m K false 0).bind fun w3384 =>
   bif w3384 then
    (bif (ilt 0 (i : Int)) then
     (bif (inr (wsub .i64 (i : Int) 1) (len x.In)) then
     (elAt x.In (wsub .i64 (i : Int) 1)).bind fun x3389 =>
     bif (ile m.To x3389.To) then (some (.inl ())) else goI step (fun _ => some (.inr ())) (i + 1) r ()
     else none)
    else goI step (fun _ => some (.inr ())) (i + 1) r ())
   else some (.inl ())) = _
   rw [F81_inner x _ _ m (by simp; omega) (by simp; omega), any_verts hp, Option.bind_some]
   cases h0 : ile 0 m.To
   · have := ile_f.1 h0
     have hno : ∀ a : Int, -1 ≤ a → ilt a m.To = false := fun a ha => ilt_f.2 (by omega)
     have hprev : (-1 : Int) ≤ (match prevOf x.In i with | none => -1 | some d => if 0 ≤ d.To then d.To else -1) := by
      split
      · omega
      · split <;> omega
     rw [inOkS, hno _ hprev]; rfl
   · have hm0 := ile_iff.1 h0
     have nx : goI step (fun _ => some (.inr ())) (i + 1) r () = some (sumU (inOkS g.N j.Parts x.P m.To r)) := by
      rcases ih (i + 1) n2 with q | ⟨d, q1, q2⟩
      · rw [n1] at q
        dsimp only at q
        rw [if_pos hm0] at q; exact q
      · rw [n1] at q1; cases q1; omega
     rw [nx, inOkS]
     cases i with
     | zero =>
      have e1 : ilt 0 ((0 : Nat) : Int) = false := rfl
      have e2 : (match prevOf x.In 0 with | none => (-1 : Int) | some d => if 0 ≤ d.To then d.To else -1) = -1 := rfl
      rw [e1, e2, ilt_iff.2 (by omega : (-1 : Int) < m.To)]
      cases ilt m.To g.N <;> cases ieq (m.To % j.Parts) x.P <;> rfl
     | succ q =>
      obtain ⟨d, p1, p2, p3, p4⟩ := prev_at (l := x.In) (i := q + 1) (by omega) hi (by omega)
      have hd : ¬ d.To < 0 := fun hh => hneg ⟨d, p1, hh⟩
      have e1 : ilt 0 ((q + 1 : Nat) : Int) = true := ilt_iff.2 (by omega)
      rw [e1, p2, p3, p4, p1]
      simp only [Option.bind_some, cond_true, Bool.true_and, not_ile (a := m.To), if_pos (show 0 ≤ d.To by omega)]
      cases ilt d.To m.To <;> cases ilt m.To g.N <;> cases ieq (m.To % j.Parts) x.P <;> rfl
 rcases hw x.In 0 rfl with q | ⟨d, q1, _⟩
 · rw [List.drop_zero, q] at h; exact h
 · cases q1
theorem F81_spec {K : Nat} (hK : 1000 ≤ K) (g : GGraph) (j : GJob) (x : GPart) (hl : x.In.length < 1000000) (hk : x.In.length < K) : F81 K g j x = some (partRight g j x) := by
 rw [F81, F59_spec (by omega), Option.bind_some, partRight]
 cases hc : ieq (jcheck g j) 0
 · rfl
 · obtain ⟨hg, p1, p2, p3, p4, p5, p6, p7, p8⟩ := jcheck_ok hc
   obtain ⟨g1, g2, _, _⟩ := gcheck_ok hg
   have n3 : nlen (len ((vertsS g j x.P).map Int.ofNat)) = countS g j x.P := by simp [nlen, len, countS]
   rw [cond_true, F139_spec (by omega) p7 p8 g2, Option.bind_some, F81_loop hK g j x p7 g2 hl hk, n3]
   have n1 : nlen (len x.Vals) = (x.Vals.length : Int) := rfl
   have n2 : nlen (len x.Rest) = (x.Rest.length : Int) := rfl
   rw [ilt_not' x.P 0, not_ile (a := j.Parts), ilt_not' x.Step 0, ilt_not' 40 x.Step, n1, n2, sumU_elim]
   cases ile 0 x.P <;> cases ilt x.P j.Parts <;> cases ile 0 x.Step <;> cases ile x.Step 40 <;> cases ieq (x.Vals.length : Int) (countS g j x.P) <;> cases ieq (x.Rest.length : Int) (countS g j x.P) <;> rfl
def stRight (g : GGraph) (j : GJob) (s : GState) : Bool :=
 ieq (jcheck g j) 0 && (ile 0 s.Step && (ile s.Step 40 && (ieq (s.Vals.length : Int) g.N && (ieq (s.Rest.length : Int) g.N && inSt g.N (-1) s.In))))
theorem F104_loop {K : Nat} (g : GGraph) (s : GState) (hl : s.In.length < 1000000) (hK : s.In.length < K) : F104_l0_0 K g s K (-1) 0 = some (sumU (inSt g.N (-1) s.In)) := by
 let step : GMsg → Int → (Int → Option (Unit ⊕ Unit)) → Option (Unit ⊕ Unit) := fun m s c =>
  bif (ile m.To s) then (some (.inl ())) else bif (ile g.N m.To) then (some (.inl ())) else c m.To
 have h := scanL (l := s.In) (L := fun k v i => F104_l0_0 K g s k v i) step (fun _ => some (.inr ())) (fun k s i _ => rfl) (by omega) (K := K) hK (-1)
 have hw : ∀ (l : List GMsg) (v : Int), goL step (fun _ => some (.inr ())) l v = some (sumU (inSt g.N v l)) := by
  intro l
  induction l with
  | nil => intro s; rfl
  | cons m l ih =>
   intro v
   rw [goL]
   show (bif (ile m.To v) then (some (.inl ())) else bif (ile g.N m.To) then (some (.inl ())) else goL step (fun _ => some (.inr ())) l m.To) = _
   rw [inSt, not_ile, not_ile, ih]
   cases ilt v m.To <;> cases ilt m.To g.N <;> rfl
 rw [hw] at h
 exact h
theorem F104_spec {K : Nat} (hK : 1000 ≤ K) (g : GGraph) (j : GJob) (s : GState) (hl : s.In.length < 1000000) (hk : s.In.length < K) : F104 K g j s = some (stRight g j s) := by
 rw [F104, F94_spec (by omega), Option.bind_some, stRight]
 cases hc : ieq (jcheck g j) 0
 · rfl
 · rw [cond_true, F104_loop g s hl hk]
   have n1 : nlen (len s.Vals) = (s.Vals.length : Int) := rfl
   have n2 : nlen (len s.Rest) = (s.Rest.length : Int) := rfl
   rw [ilt_not' s.Step 0, ilt_not' 40 s.Step, n1, n2, sumU_elim]
   cases ile 0 s.Step <;> cases ile s.Step 40 <;> cases ieq (s.Vals.length : Int) g.N <;> cases ieq (s.Rest.length : Int) g.N <;> rfl
theorem F88_loop {K : Nat} (g : GGraph) (s : GState) (hl : s.In.length < 1000000) (hK : s.In.length < K) : F88_l0_0 K g s K 0 = some (sumU (inSt g.N (-1) s.In)) := by
 let step : Nat → GMsg → Unit → (Unit → Option (Unit ⊕ Unit)) → Option (Unit ⊕ Unit) := fun i m _ c =>
  bif (ilt m.To 0) then (some (.inl ())) else bif (ile g.N m.To) then (some (.inl ())) else
  bif (ilt 0 (i : Int)) then
   (bif (inr (wsub .i64 (i : Int) 1) (len s.In)) then
   (elAt s.In (wsub .i64 (i : Int) 1)).bind fun d => bif (ile m.To d.To) then (some (.inl ())) else c ()
   else none)
  else c ()
 have h := scanI (l := s.In) (L := fun k (_ : Unit) i => F88_l0_0 K g s k i) step (fun _ => some (.inr ())) (fun k st i hi => rfl) (by omega) K () 0 (by omega) (by omega)
 have hw : ∀ (r : List GMsg) (i : Nat), s.In.drop i = r → (∀ d, prevOf s.In i = some d → 0 ≤ d.To) → goI step (fun _ => some (.inr ())) i r () = some (sumU (inSt g.N (match prevOf s.In i with | none => -1 | some d => d.To) r)) := by
  intro r
  induction r with
  | nil => intro i _ _; rfl
  | cons m r ih =>
   intro i hr hp
   obtain ⟨n1, n2, hi⟩ := prev_next hr
   rw [goI]
   show (bif (ilt m.To 0) then (some (.inl ())) else bif (ile g.N m.To) then (some (.inl ())) else
   bif (ilt 0 (i : Int)) then
    (bif (inr (wsub .i64 (i : Int) 1) (len s.In)) then
    (elAt s.In (wsub .i64 (i : Int) 1)).bind fun d => bif (ile m.To d.To) then (some (.inl ())) else goI step (fun _ => some (.inr ())) (i + 1) r ()
    else none)
   else goI step (fun _ => some (.inr ())) (i + 1) r ()) = _
   cases h0 : ilt m.To 0
   · have hm0 := ilt_f.1 h0
     have nx := ih (i + 1) n2 (fun d hd => by rw [n1] at hd; cases hd; exact hm0)
     rw [n1] at nx
     dsimp only at nx
     rw [nx, inSt, not_ile]
     cases i with
     | zero =>
      have e1 : ilt 0 ((0 : Nat) : Int) = false := rfl
      have e2 : (match prevOf s.In 0 with | none => (-1 : Int) | some d => d.To) = -1 := rfl
      rw [e1, e2, ilt_iff.2 (by omega : (-1 : Int) < m.To)]
      cases ilt m.To g.N <;> rfl
     | succ q =>
      obtain ⟨d, p1, p2, p3, p4⟩ := prev_at (l := s.In) (i := q + 1) (by omega) hi (by omega)
      have e1 : ilt 0 ((q + 1 : Nat) : Int) = true := ilt_iff.2 (by omega)
      rw [e1, p2, p3, p4, p1]
      simp only [Option.bind_some, cond_true, cond_false, not_ile (a := m.To)]
      cases ilt d.To m.To <;> cases ilt m.To g.N <;> rfl
   · have hm0 := ilt_iff.1 h0
     have hno : ∀ a : Int, -1 ≤ a → ilt a m.To = false := fun a ha => ilt_f.2 (by omega)
     have hprev : (-1 : Int) ≤ (match prevOf s.In i with | none => -1 | some d => d.To) := by
      split
      · omega
      · rename_i d hd; have := hp d hd; omega
     rw [inSt, hno _ hprev]; rfl
 have := hw s.In 0 rfl (fun d hd => by cases hd)
 rw [List.drop_zero, this] at h
 exact h
theorem F88_spec {K : Nat} (hK : 1000 ≤ K) (g : GGraph) (j : GJob) (s : GState) (hl : s.In.length < 1000000) (hk : s.In.length < K) : F88 K g j s = some (stRight g j s) := by
 rw [F88, F59_spec (by omega), Option.bind_some, stRight]
 cases hc : ieq (jcheck g j) 0
 · rfl
 · rw [cond_true, F88_loop g s hl hk]
   have n1 : nlen (len s.Vals) = (s.Vals.length : Int) := rfl
   have n2 : nlen (len s.Rest) = (s.Rest.length : Int) := rfl
   rw [ilt_not' s.Step 0, ilt_not' 40 s.Step, n1, n2, sumU_elim]
   cases ile 0 s.Step <;> cases ile s.Step 40 <;> cases ieq (s.Vals.length : Int) g.N <;> cases ieq (s.Rest.length : Int) g.N <;> rfl
noncomputable def hn83 : Hint := { H 83 with nt := 91, prot := 0 }
noncomputable def c83_0 : Code := loopOf E 83 0
noncomputable def c83_1 : Code := loopOf E 83 1
noncomputable def c83_2 : Code := loopOf E 83 2
def F83_res (r1 : List GPart × Int) : Res := ⟨[(.one (.own 42 (.sl (len r1.1) (flat eGPart r1.1)))), (.one (.im (.lit (.int .i64 r1.2))))], []⟩
def F83_l1_1 (K : Nat) (a1 : GGraph) (a2 : GJob) (a3 : GState) (v4 : List GPart) (v5 : Int) : Nat → List Int → List Bool → Int → Option (List Int × List Bool)
 | 0, _, _, _ => none
 | k + 1, v6, v7, v8 =>
  bif (ilt v8 a1.N) then
   (bif (inr v8 (len a3.Vals)) then
   (elAt a3.Vals v8).bind fun x9 =>
   bif (apok (len v6) 1 8) then
   bif (inr v8 (len a3.Rest)) then
   (elAt a3.Rest v8).bind fun x10 =>
   bif (apok (len v7) 1 1) then
   F83_l1_1 K a1 a2 a3 v4 v5 k (appL v6 [x9]) (appL v7 [x10]) (wadd .i64 v8 a2.Parts)
   else none
   else none
   else none
   else none)
  else
  some (v6, v7)
def F83_l1_1_S (a1 : GGraph) (a2 : GJob) (a3 : GState) (v4 : List GPart) (v5 : Int) (v6 : List Int) (v7 : List Bool) (v8 : Int) : TS := .on [192, 193, 194, 256, 257, 258, 259, 260, 320, 321, 322, 323, 324, 576, 577, 640, 641, 704, 705, 706, 707, 708, 709, 768, 769, 1728, 1729, 1792, 1793] [(192, ⟨(.box 62 2), 0, nob⟩), (193, ⟨.im, 0, (.lit (.int .i64 a1.N))⟩), (194, ⟨.im, 0, (.sl (len a1.Edges) (flat eGEdge a1.Edges))⟩), (256, ⟨(.box 64 4), 0, nob⟩), (257, ⟨.im, 0, (.lit (.int .i64 a2.Prog))⟩), (258, ⟨.im, 0, (.lit (.int .i64 a2.Source))⟩), (259, ⟨.im, 0, (.lit (.int .i64 a2.Limit))⟩), (260, ⟨.im, 0, (.lit (.int .i64 a2.Parts))⟩), (320, ⟨(.box 74 4), 0, nob⟩), (321, ⟨.im, 0, (.lit (.int .i64 a3.Step))⟩), (322, ⟨.im, 0, (.sl (len a3.Vals) (flat (eInt .i64) a3.Vals))⟩), (323, ⟨.im, 0, (.sl (len a3.Rest) (flat eBool a3.Rest))⟩), (324, ⟨.im, 0, (.sl (len a3.In) (flat eGMsg a3.In))⟩), (576, ⟨.one, 0, nob⟩), (577, ⟨(.own 42), 0, (.sl (len v4) (flat eGPart v4))⟩), (640, ⟨.one, 0, nob⟩), (641, ⟨.im, 0, (.lit (.int .i64 v5))⟩), (704, ⟨(.box 42 5), 0, nob⟩), (705, ⟨.im, 0, (.lit (.int .i64 v5))⟩), (706, ⟨.im, 0, (.lit (.int .i64 a3.Step))⟩), (707, ⟨(.own 2), 0, (.sl (len v6) (flat (eInt .i64) v6))⟩), (708, ⟨(.own 4), 0, (.sl (len v7) (flat eBool v7))⟩), (709, ⟨(.own 130), 0, (.sl 0 [])⟩), (768, ⟨.one, 0, nob⟩), (769, ⟨.im, 0, (.lit (.int .i64 v8))⟩), (1728, ⟨.one, 0, nob⟩), (1729, ⟨.im, 0, (.lit (.int .i64 a2.Parts))⟩), (1792, ⟨.one, 0, nob⟩), (1793, ⟨.im, 0, (.lit (.int .i64 v5))⟩)]
def F83_l1_1_X0 (a1 : GGraph) (a2 : GJob) (a3 : GState) (v4 : List GPart) (v5 : Int) (w6 : List Int × List Bool) : TS := .on [192, 193, 194, 256, 257, 258, 259, 260, 320, 321, 322, 323, 324, 576, 577, 640, 641, 704, 705, 706, 707, 708, 709, 1728, 1729, 1792, 1793] [(192, ⟨(.box 62 2), 0, nob⟩), (193, ⟨.im, 0, (.lit (.int .i64 a1.N))⟩), (194, ⟨.im, 0, (.sl (len a1.Edges) (flat eGEdge a1.Edges))⟩), (256, ⟨(.box 64 4), 0, nob⟩), (257, ⟨.im, 0, (.lit (.int .i64 a2.Prog))⟩), (258, ⟨.im, 0, (.lit (.int .i64 a2.Source))⟩), (259, ⟨.im, 0, (.lit (.int .i64 a2.Limit))⟩), (260, ⟨.im, 0, (.lit (.int .i64 a2.Parts))⟩), (320, ⟨(.box 74 4), 0, nob⟩), (321, ⟨.im, 0, (.lit (.int .i64 a3.Step))⟩), (322, ⟨.im, 0, (.sl (len a3.Vals) (flat (eInt .i64) a3.Vals))⟩), (323, ⟨.im, 0, (.sl (len a3.Rest) (flat eBool a3.Rest))⟩), (324, ⟨.im, 0, (.sl (len a3.In) (flat eGMsg a3.In))⟩), (576, ⟨.one, 0, nob⟩), (577, ⟨(.own 42), 0, (.sl (len v4) (flat eGPart v4))⟩), (640, ⟨.one, 0, nob⟩), (641, ⟨.im, 0, (.lit (.int .i64 v5))⟩), (704, ⟨(.box 42 5), 0, nob⟩), (705, ⟨.im, 0, (.lit (.int .i64 v5))⟩), (706, ⟨.im, 0, (.lit (.int .i64 a3.Step))⟩), (707, ⟨(.own 2), 0, (.sl (len w6.1) (flat (eInt .i64) w6.1))⟩), (708, ⟨(.own 4), 0, (.sl (len w6.2) (flat eBool w6.2))⟩), (709, ⟨(.own 130), 0, (.sl 0 [])⟩), (1728, ⟨.one, 0, nob⟩), (1729, ⟨.im, 0, (.lit (.int .i64 a2.Parts))⟩), (1792, ⟨.one, 0, nob⟩), (1793, ⟨.im, 0, (.lit (.int .i64 v5))⟩)]
theorem F83_l1_1_ok (K : Nat) (a1 : GGraph) (a2 : GJob) (a3 : GState) (v4 : List GPart) (v5 : Int) : ∀ (k : Nat) (v6 : List Int) (v7 : List Bool) (v8 : Int) (r : List Int × List Bool), F83_l1_1 K a1 a2 a3 v4 v5 k v6 v7 v8 = some r → LoopEv E H hn83 2 c83_1 (F83_l1_1_S a1 a2 a3 v4 v5 v6 v7 v8) (.exit 2) (F83_l1_1_X0 a1 a2 a3 v4 v5 r) := by
 intro k
 induction k with
 | zero => intro v6 v7 v8 r hF; cases hF
 | succ k ih =>
  intro v6 v7 v8 r hF
  rw [F83_l1_1] at hF
  refine cond_some hF (fun h9 hF => ?_) (fun h9 hF => ?_)
  ·
   refine cond_some hF (fun h10 hF => ?_) (fun _ hF => nomatch hF)
   refine bind_some hF (fun x11 h12 hF => ?_)
   refine cond_some hF (fun h13 hF => ?_) (fun _ hF => nomatch hF)
   refine cond_some hF (fun h14 hF => ?_) (fun _ hF => nomatch hF)
   refine bind_some hF (fun x15 h16 hF => ?_)
   refine cond_some hF (fun h17 hF => ?_) (fun _ hF => nomatch hF)
   have pz : HA hn83 [(tt (ilt v8 a1.N)), (tt (inr v8 (len a3.Vals))), .sub (flat (eInt .i64) a3.Vals) (nidx v8 1) 1 [(i6 x11)], (tt (leqm [(i6 x11)] 1 1)), (tt (apok (len v6) 1 8)), .sl (nadd (len v6) 1) (lapp (flat (eInt .i64) v6) [(i6 x11)]) (len (α := Int) (appL v6 [x11])) (flat (eInt .i64) (appL v6 [x11])), (tt (inr v8 (len a3.Rest))), .sub (flat eBool a3.Rest) (nidx v8 1) 1 [(.lit (.bool x15))], (tt (leqm [(.lit (.bool x15))] 1 1)), (tt (apok (len v7) 1 1)), .sl (nadd (len v7) 1) (lapp (flat eBool v7) [(.lit (.bool x15))]) (len (α := Bool) (appL v7 [x15])) (flat eBool (appL v7 [x15])), .int (wadd .i64 v8 a2.Parts) (wadd .i64 v8 a2.Parts)] := ⟨h9, h10, ⟨rfl, sub_flat0 (eInt_len _) h12 1 (by decide)⟩, rfl, h13, (app_ok (enc := (eInt .i64)) (v6 : List Int) [x11]), h14, ⟨rfl, sub_flat0 eBool_len h16 1 (by decide)⟩, rfl, h17, (app_ok (enc := eBool) (v7 : List Bool) [x15]), rfl, trivial⟩
   have h0 := ih _ _ _ _ hF
   have hn := lN hn83 2 c83_1 (F83_l1_1_S a1 a2 a3 v4 v5 v6 v7 v8) (F83_l1_1_S a1 a2 a3 v4 v5 (appL v6 [x11]) (appL v7 [x15]) (wadd .i64 v8 a2.Parts)) pz
   exact hn _ _ h0
  obtain rfl := sj hF
  have pz : HA hn83 [(ff (ilt v8 a1.N))] := ⟨h9, trivial⟩
  exact lE hn83 2 c83_1 (F83_l1_1_S a1 a2 a3 v4 v5 v6 v7 v8) (F83_l1_1_X0 a1 a2 a3 v4 v5 (v6, v7)) (.exit 2) pz
def F83_l2_2 (K : Nat) (a1 : GGraph) (a2 : GJob) (a3 : GState) (v4 : List GPart) (v5 : Int) (w6 : List Int × List Bool) : Nat → List GMsg → Int → Option (List GMsg)
 | 0, _, _ => none
 | k + 1, v7, v8 =>
  bif (ilt v8 (nlen (len a3.In))) then
   (bif (inr v8 (len a3.In)) then
   (elAt a3.In v8).bind fun x9 =>
   bif (izero a2.Parts) then none else
   bif (ieq (wrem x9.To a2.Parts) v5) then
    (bif (apok (len v7) 1 16) then
    F83_l2_2 K a1 a2 a3 v4 v5 w6 k (appL v7 [x9]) (wadd .i64 v8 1)
    else none)
   else
   F83_l2_2 K a1 a2 a3 v4 v5 w6 k v7 (wadd .i64 v8 1)
   else none)
  else
  some v7
def F83_l2_2_S (a1 : GGraph) (a2 : GJob) (a3 : GState) (v4 : List GPart) (v5 : Int) (w6 : List Int × List Bool) (v7 : List GMsg) (v8 : Int) : TS := .on [192, 193, 194, 256, 257, 258, 259, 260, 320, 321, 322, 323, 324, 576, 577, 640, 641, 704, 705, 706, 707, 708, 709, 1728, 1729, 1792, 1793, 4096, 4160, 4161, 4224, 4225, 4288, 4289] [(192, ⟨(.box 62 2), 0, nob⟩), (193, ⟨.im, 0, (.lit (.int .i64 a1.N))⟩), (194, ⟨.im, 0, (.sl (len a1.Edges) (flat eGEdge a1.Edges))⟩), (256, ⟨(.box 64 4), 0, nob⟩), (257, ⟨.im, 0, (.lit (.int .i64 a2.Prog))⟩), (258, ⟨.im, 0, (.lit (.int .i64 a2.Source))⟩), (259, ⟨.im, 0, (.lit (.int .i64 a2.Limit))⟩), (260, ⟨.im, 0, (.lit (.int .i64 a2.Parts))⟩), (320, ⟨(.box 74 4), 0, nob⟩), (321, ⟨.im, 0, (.lit (.int .i64 a3.Step))⟩), (322, ⟨.im, 0, (.sl (len a3.Vals) (flat (eInt .i64) a3.Vals))⟩), (323, ⟨.im, 0, (.sl (len a3.Rest) (flat eBool a3.Rest))⟩), (324, ⟨.im, 0, (.sl (len a3.In) (flat eGMsg a3.In))⟩), (576, ⟨.one, 0, nob⟩), (577, ⟨(.own 42), 0, (.sl (len v4) (flat eGPart v4))⟩), (640, ⟨.one, 0, nob⟩), (641, ⟨.im, 0, (.lit (.int .i64 v5))⟩), (704, ⟨(.box 42 5), 0, nob⟩), (705, ⟨.im, 0, (.lit (.int .i64 v5))⟩), (706, ⟨.im, 0, (.lit (.int .i64 a3.Step))⟩), (707, ⟨(.own 2), 0, (.sl (len w6.1) (flat (eInt .i64) w6.1))⟩), (708, ⟨(.own 4), 0, (.sl (len w6.2) (flat eBool w6.2))⟩), (709, ⟨(.own 130), 0, (.sl (len v7) (flat eGMsg v7))⟩), (1728, ⟨.one, 0, nob⟩), (1729, ⟨.im, 0, (.lit (.int .i64 a2.Parts))⟩), (1792, ⟨.one, 0, nob⟩), (1793, ⟨.im, 0, (.lit (.int .i64 v5))⟩), (4096, ⟨(.ad 5 0 3), 0, nob⟩), (4160, ⟨.one, 0, nob⟩), (4161, ⟨.im, 0, (.sl (len a3.In) (flat eGMsg a3.In))⟩), (4224, ⟨.one, 0, nob⟩), (4225, ⟨.im, 0, (.lit (.int .i64 (nlen (len a3.In))))⟩), (4288, ⟨.one, 0, nob⟩), (4289, ⟨.im, 0, (.lit (.int .i64 v8))⟩)]
def F83_l2_2_X0 (a1 : GGraph) (a2 : GJob) (a3 : GState) (v4 : List GPart) (v5 : Int) (w6 : List Int × List Bool) (w7 : List GMsg) : TS := .on [192, 193, 194, 256, 257, 258, 259, 260, 320, 321, 322, 323, 324, 576, 577, 704, 705, 706, 707, 708, 709, 1728, 1729, 1792, 1793] [(192, ⟨(.box 62 2), 0, nob⟩), (193, ⟨.im, 0, (.lit (.int .i64 a1.N))⟩), (194, ⟨.im, 0, (.sl (len a1.Edges) (flat eGEdge a1.Edges))⟩), (256, ⟨(.box 64 4), 0, nob⟩), (257, ⟨.im, 0, (.lit (.int .i64 a2.Prog))⟩), (258, ⟨.im, 0, (.lit (.int .i64 a2.Source))⟩), (259, ⟨.im, 0, (.lit (.int .i64 a2.Limit))⟩), (260, ⟨.im, 0, (.lit (.int .i64 a2.Parts))⟩), (320, ⟨(.box 74 4), 0, nob⟩), (321, ⟨.im, 0, (.lit (.int .i64 a3.Step))⟩), (322, ⟨.im, 0, (.sl (len a3.Vals) (flat (eInt .i64) a3.Vals))⟩), (323, ⟨.im, 0, (.sl (len a3.Rest) (flat eBool a3.Rest))⟩), (324, ⟨.im, 0, (.sl (len a3.In) (flat eGMsg a3.In))⟩), (576, ⟨.one, 0, nob⟩), (577, ⟨(.own 42), 0, (.sl (len v4) (flat eGPart v4))⟩), (704, ⟨(.box 42 5), 0, nob⟩), (705, ⟨.im, 0, (.lit (.int .i64 v5))⟩), (706, ⟨.im, 0, (.lit (.int .i64 a3.Step))⟩), (707, ⟨(.own 2), 0, (.sl (len w6.1) (flat (eInt .i64) w6.1))⟩), (708, ⟨(.own 4), 0, (.sl (len w6.2) (flat eBool w6.2))⟩), (709, ⟨(.own 130), 0, (.sl (len w7) (flat eGMsg w7))⟩), (1728, ⟨.one, 0, nob⟩), (1729, ⟨.im, 0, (.lit (.int .i64 a2.Parts))⟩), (1792, ⟨.one, 0, nob⟩), (1793, ⟨.im, 0, (.lit (.int .i64 v5))⟩)]
theorem F83_l2_2_ok (K : Nat) (a1 : GGraph) (a2 : GJob) (a3 : GState) (v4 : List GPart) (v5 : Int) (w6 : List Int × List Bool) : ∀ (k : Nat) (v7 : List GMsg) (v8 : Int) (r : List GMsg), F83_l2_2 K a1 a2 a3 v4 v5 w6 k v7 v8 = some r → LoopEv E H hn83 4 c83_2 (F83_l2_2_S a1 a2 a3 v4 v5 w6 v7 v8) (.exit 4) (F83_l2_2_X0 a1 a2 a3 v4 v5 w6 r) := by
 intro k
 induction k with
 | zero => intro v7 v8 r hF; cases hF
 | succ k ih =>
  intro v7 v8 r hF
  rw [F83_l2_2] at hF
  refine cond_some hF (fun h9 hF => ?_) (fun h9 hF => ?_)
  ·
   refine cond_some hF (fun h10 hF => ?_) (fun _ hF => nomatch hF)
   refine bind_some hF (fun x11 h12 hF => ?_)
   refine cond_some hF (fun _ hF => nomatch hF) (fun h13 hF => ?_)
   have q16 : PQ hn83 fun l => ((tt (ilt v8 (nl a3.In))) :: (tt (inr v8 (len a3.In))) :: .sub (flat eGMsg a3.In) (nidx v8 2) 2 [(i6 x11.To), (i6 x11.V)] :: (ff (izero a2.Parts)) :: .int (wrem x11.To a2.Parts) (wrem x11.To a2.Parts) :: l) := fun z => ⟨h9, h10, ⟨rfl, sub_flat0 eGMsg_len h12 2 (by decide)⟩, h13, rfl, z⟩
   refine cond_some hF (fun h14 hF => ?_) (fun h14 hF => ?_)
   ·
    refine cond_some hF (fun h15 hF => ?_) (fun _ hF => nomatch hF)
    have pz : HA hn83 [(tt (ieq (wrem x11.To a2.Parts) v5)), (tt (leqm [(i6 x11.To), (i6 x11.V)] 1 2)), (tt (apok (len v7) 1 16)), .sl (nadd (len v7) 1) (lapp (flat eGMsg v7) [(i6 x11.To), (i6 x11.V)]) (len (α := GMsg) (appL v7 [x11])) (flat eGMsg (appL v7 [x11])), .int (wadd .i64 v8 1) (wadd .i64 v8 1)] := ⟨h14, rfl, h15, (app_ok (enc := eGMsg) (v7 : List GMsg) [x11]), rfl, trivial⟩
    have h0 := ih _ _ _ hF
    have hn := lN hn83 4 c83_2 (F83_l2_2_S a1 a2 a3 v4 v5 w6 v7 v8) (F83_l2_2_S a1 a2 a3 v4 v5 w6 (appL v7 [x11]) (wadd .i64 v8 1)) (q16 pz)
    exact hn _ _ h0
   have pz : HA hn83 [(ff (ieq (wrem x11.To a2.Parts) v5)), .int (wadd .i64 v8 1) (wadd .i64 v8 1)] := ⟨h14, rfl, trivial⟩
   have h0 := ih _ _ _ hF
   have hn := lN hn83 4 c83_2 (F83_l2_2_S a1 a2 a3 v4 v5 w6 v7 v8) (F83_l2_2_S a1 a2 a3 v4 v5 w6 v7 (wadd .i64 v8 1)) (q16 pz)
   exact hn _ _ h0
  obtain rfl := sj hF
  have pz : HA hn83 [(ff (ilt v8 (nl a3.In)))] := ⟨h9, trivial⟩
  exact lE hn83 4 c83_2 (F83_l2_2_S a1 a2 a3 v4 v5 w6 v7 v8) (F83_l2_2_X0 a1 a2 a3 v4 v5 w6 v7) (.exit 4) pz
def F83_l0_0 (K : Nat) (a1 : GGraph) (a2 : GJob) (a3 : GState) : Nat → List GPart → Int → Option (List GPart)
 | 0, _, _ => none
 | k + 1, v4, v5 =>
  bif (ilt v5 a2.Parts) then
   ((F83_l1_1 K a1 a2 a3 v4 v5 K [] [] v5).bind fun w6 =>
   (F83_l2_2 K a1 a2 a3 v4 v5 w6 K [] 0).bind fun w7 =>
   bif (apok (len v4) 1 88) then
   F83_l0_0 K a1 a2 a3 k (appL v4 [(GPart.mk v5 a3.Step w6.1 w6.2 w7)]) (wadd .i64 v5 1)
   else none)
  else
  some v4
def F83_l0_0_S (a1 : GGraph) (a2 : GJob) (a3 : GState) (v4 : List GPart) (v5 : Int) : TS := .on [192, 193, 194, 256, 257, 258, 259, 260, 320, 321, 322, 323, 324, 576, 577, 1728, 1729, 1792, 1793] [(192, ⟨(.box 62 2), 0, nob⟩), (193, ⟨.im, 0, (.lit (.int .i64 a1.N))⟩), (194, ⟨.im, 0, (.sl (len a1.Edges) (flat eGEdge a1.Edges))⟩), (256, ⟨(.box 64 4), 0, nob⟩), (257, ⟨.im, 0, (.lit (.int .i64 a2.Prog))⟩), (258, ⟨.im, 0, (.lit (.int .i64 a2.Source))⟩), (259, ⟨.im, 0, (.lit (.int .i64 a2.Limit))⟩), (260, ⟨.im, 0, (.lit (.int .i64 a2.Parts))⟩), (320, ⟨(.box 74 4), 0, nob⟩), (321, ⟨.im, 0, (.lit (.int .i64 a3.Step))⟩), (322, ⟨.im, 0, (.sl (len a3.Vals) (flat (eInt .i64) a3.Vals))⟩), (323, ⟨.im, 0, (.sl (len a3.Rest) (flat eBool a3.Rest))⟩), (324, ⟨.im, 0, (.sl (len a3.In) (flat eGMsg a3.In))⟩), (576, ⟨.one, 0, nob⟩), (577, ⟨(.own 42), 0, (.sl (len v4) (flat eGPart v4))⟩), (1728, ⟨.one, 0, nob⟩), (1729, ⟨.im, 0, (.lit (.int .i64 a2.Parts))⟩), (1792, ⟨.one, 0, nob⟩), (1793, ⟨.im, 0, (.lit (.int .i64 v5))⟩)]
def F83_l0_0_X0 (a1 : GGraph) (a2 : GJob) (a3 : GState) (w4 : List GPart) : TS := .on [576, 577] [(576, ⟨.one, 0, nob⟩), (577, ⟨(.own 42), 0, (.sl (len w4) (flat eGPart w4))⟩)]
theorem F83_l0_0_ok (K : Nat) (a1 : GGraph) (a2 : GJob) (a3 : GState) : ∀ (k : Nat) (v4 : List GPart) (v5 : Int) (r : List GPart), F83_l0_0 K a1 a2 a3 k v4 v5 = some r → LoopEv E H hn83 0 c83_0 (F83_l0_0_S a1 a2 a3 v4 v5) (.exit 0) (F83_l0_0_X0 a1 a2 a3 r) := by
 intro k
 induction k with
 | zero => intro v4 v5 r hF; cases hF
 | succ k ih =>
  intro v4 v5 r hF
  rw [F83_l0_0] at hF
  refine cond_some hF (fun h6 hF => ?_) (fun h6 hF => ?_)
  ·
   refine bind_some hF (fun w8 h7 hF => ?_)
   refine bind_some hF (fun w10 h9 hF => ?_)
   refine cond_some hF (fun h11 hF => ?_) (fun _ hF => nomatch hF)
   have pz : HA hn83 [(tt (ilt v5 a2.Parts)), .loop 2 c83_1 (F83_l1_1_S a1 a2 a3 v4 v5 [] [] v5) (.exit 2) (F83_l1_1_X0 a1 a2 a3 v4 v5 w8), .int (nl a3.In) (nl a3.In), .loop 4 c83_2 (F83_l2_2_S a1 a2 a3 v4 v5 w8 [] 0) (.exit 4) (F83_l2_2_X0 a1 a2 a3 v4 v5 w8 w10), (tt (leqm [(i6 v5), (i6 a3.Step), (.sl (len w8.1) (flat (eInt .i64) w8.1)), (.sl (len w8.2) (flat eBool w8.2)), (.sl (len w10) (flat eGMsg w10))] 1 5)), (tt (apok (len v4) 1 88)), .sl (nadd (len v4) 1) (lapp (flat eGPart v4) [(i6 v5), (i6 a3.Step), (.sl (len w8.1) (flat (eInt .i64) w8.1)), (.sl (len w8.2) (flat eBool w8.2)), (.sl (len w10) (flat eGMsg w10))]) (len (α := GPart) (appL v4 [(GPart.mk v5 a3.Step w8.1 w8.2 w10)])) (flat eGPart (appL v4 [(GPart.mk v5 a3.Step w8.1 w8.2 w10)])), .int (wadd .i64 v5 1) (wadd .i64 v5 1)] := ⟨h6, (F83_l1_1_ok K a1 a2 a3 v4 v5 K [] [] v5 _ h7), rfl, (F83_l2_2_ok K a1 a2 a3 v4 v5 w8 K [] 0 _ h9), rfl, h11, (app_ok (enc := eGPart) (v4 : List GPart) [(GPart.mk v5 a3.Step w8.1 w8.2 w10)]), rfl, trivial⟩
   have h0 := ih _ _ _ hF
   have hn := lN hn83 0 c83_0 (F83_l0_0_S a1 a2 a3 v4 v5) (F83_l0_0_S a1 a2 a3 (appL v4 [(GPart.mk v5 a3.Step w8.1 w8.2 w10)]) (wadd .i64 v5 1)) pz
   exact hn _ _ h0
  obtain rfl := sj hF
  have pz : HA hn83 [(ff (ilt v5 a2.Parts))] := ⟨h6, trivial⟩
  exact lE hn83 0 c83_0 (F83_l0_0_S a1 a2 a3 v4 v5) (F83_l0_0_X0 a1 a2 a3 v4) (.exit 0) pz
def F83 (K : Nat) (a1 : GGraph) (a2 : GJob) (a3 : GState) : Option (List GPart × Int) :=
 (F94 K a1 a2).bind fun r4 =>
 bif (ieq r4 0) then
  ((F104 K a1 a2 a3).bind fun r5 =>
  bif r5 then
   ((F83_l0_0 K a1 a2 a3 K [] 0).bind fun w6 =>
   some (w6, 0))
  else
  some ([], 1))
 else
 some ([], r4)
theorem F83_ok (K : Nat) (a1 : GGraph) (a2 : GJob) (a3 : GState) (r : List GPart × Int) (hF : F83 K a1 a2 a3 = some r) : Evt E H 83 [.agg (eGGraph a1), .agg (eGJob a2), .agg (eGState a3)] (F83_res r) := by
 rw [F83] at hF
 refine bind_some hF (fun r4 h5 hF => ?_)
 refine cond_some hF (fun h6 hF => ?_) (fun h6 hF => ?_)
 ·
  refine bind_some hF (fun r7 h8 hF => ?_)
  have q12 : PQ hn83 fun l => (.call 94 [.agg (eGGraph a1), .agg (eGJob a2)] (F94_res r4) :: (ff (leadsAny (Res.mk [(.one (.im (i6 r4)))] []))) :: (ff (ine r4 0)) :: .call 104 [.agg (eGGraph a1), .agg (eGJob a2), .agg (eGState a3)] (F104_res r7) :: (ff (leadsAny (Res.mk [(.one (.im (.lit (.bool r7))))] []))) :: l) := fun z => ⟨(F94_ok K a1 a2 _ h5), lk, (ine_t h6), (F104_ok K a1 a2 a3 _ h8), lk, z⟩
  refine cond_some hF (fun h9 hF => ?_) (fun h9 hF => ?_)
  ·
   refine bind_some hF (fun w11 h10 hF => ?_)
   obtain rfl := sj hF
   have pz : HA hn83 [(ff (bnot r7)), .loop 0 c83_0 (F83_l0_0_S a1 a2 a3 [] 0) (.exit 0) (F83_l0_0_X0 a1 a2 a3 w11)] := ⟨(bnot_t h9), (F83_l0_0_ok K a1 a2 a3 K [] 0 _ h10), trivial⟩
   exact fpC hn83 (r := F83_res (w11, 0)) (q12 pz)
  obtain rfl := sj hF
  have pz : HA hn83 [(tt (bnot r7))] := ⟨(bnot_f h9), trivial⟩
  exact fpC hn83 (r := F83_res ([], 1)) (q12 pz)
 obtain rfl := sj hF
 have pz : HA hn83 [.call 94 [.agg (eGGraph a1), .agg (eGJob a2)] (F94_res r4), (ff (leadsAny (Res.mk [(.one (.im (i6 r4)))] []))), (tt (ine r4 0))] := ⟨(F94_ok K a1 a2 _ h5), lk, (ine_f h6), trivial⟩
 exact fpC hn83 (r := F83_res ([], r4)) pz
def cutS (g : GGraph) (j : GJob) (s : GState) (p : Int) : GPart :=
 GPart.mk p s.Step ((vertsS g j p).map fun v => s.Vals.getD v 0) ((vertsS g j p).map fun v => s.Rest.getD v false) (s.In.filter fun m => ieq (m.To % j.Parts) p)
def splitS (g : GGraph) (j : GJob) (s : GState) : List GPart := (List.range j.Parts.toNat).map fun (p : Nat) => cutS g j s (p : Int)
def splitR (g : GGraph) (j : GJob) (s : GState) : List GPart × Int := bif ieq (jcheck g j) 0 then (bif stRight g j s then (splitS g j s, 0) else ([], 1)) else ([], jcheck g j)
theorem stRight_ok {g : GGraph} {j : GJob} {s : GState} (h : stRight g j s = true) : ieq (jcheck g j) 0 = true ∧ 0 ≤ s.Step ∧ s.Step ≤ 40 ∧ (s.Vals.length : Int) = g.N ∧ (s.Rest.length : Int) = g.N ∧ inSt g.N (-1) s.In = true := by
 simp only [stRight, Bool.and_eq_true, ile_iff, ieq_iff] at h
 obtain ⟨h1, h2, h3, h4, h5, h6⟩ := h
 exact ⟨ieq_iff.2 h1, h2, h3, h4, h5, h6⟩
theorem inSt_ok {n : Int} : ∀ {l : List GMsg} {v : Int}, inSt n v l = true → l.Pairwise (fun a b => a.To < b.To) ∧ (∀ m ∈ l, v < m.To ∧ m.To < n)
 | [], v, _ => ⟨List.Pairwise.nil, fun m h => (nomatch h)⟩
 | m :: l, v, h => by
  simp only [inSt, Bool.and_eq_true, ilt_iff] at h
  obtain ⟨h1, h2, h3⟩ := h
  obtain ⟨a, b⟩ := inSt_ok h3
  refine ⟨List.pairwise_cons.2 ⟨fun x hx => (b x hx).1, a⟩, fun x hx => ?_⟩
  rcases List.mem_cons.1 hx with e | e
  · subst e; exact ⟨h1, h2⟩
  · have := b x e; exact ⟨by omega, this.2⟩
theorem inSt_len {n : Int} : ∀ {l : List GMsg} {v : Int}, inSt n v l = true → v ≤ n → (l.length : Int) ≤ n - v
 | [], v, _, hv => by simp; omega
 | m :: l, v, h, hv => by
  simp only [inSt, Bool.and_eq_true, ilt_iff] at h
  obtain ⟨h1, h2, h3⟩ := h
  have := inSt_len h3 (by omega)
  simp only [List.length_cons]; omega
def progL : Nat → Nat → Nat → Nat → List Nat
 | 0, _, _, _ => []
 | k + 1, n, parts, v => if v < n then v :: progL k n parts (v + parts) else []
theorem prog_all : ∀ parts < 7, 0 < parts → ∀ n < 25, ∀ p < parts, progL 30 n parts p = (List.range n).filter fun v => v % parts == p := by decide +kernel
theorem prog_verts {n parts : Nat} (h1 : 0 < parts) (h2 : parts < 7) (hn : n < 25) {p : Nat} (hp : p < parts) : progL 30 n parts p = vertsN n parts (p : Int) := by
 rw [prog_all parts h2 h1 n hn p hp, vertsN]
 refine List.filter_congr fun v _ => ?_
 rw [Bool.eq_iff_iff, ieq_iff, beq_iff_eq]; omega
theorem getD_at {α : Type} {l : List α} {v : Nat} (d : α) (h : v < l.length) : inr (v : Int) (len l) = true ∧ elAt l (v : Int) = some (l.getD v d) := by
 refine ⟨decide_eq_true ⟨by omega, by show (v : Int) < (l.length : Int); omega⟩, ?_⟩
 rw [elAt_nat]; simp [h, List.getD]
theorem F83_vals {K : Nat} (g : GGraph) (j : GJob) (s : GState) (out : List GPart) (pp : Int) {n m : Nat} (hn : g.N = (n : Int)) (hm : j.Parts = (m : Int)) (hm1 : 1 ≤ m) (hm2 : m ≤ 6) (hn2 : n ≤ 24) (hv : s.Vals.length = n) (hr : s.Rest.length = n) :
 ∀ (f k v : Nat) (a : List Int) (b : List Bool), n < v + f → f < k → v ≤ 100 → a.length + f ≤ 1000 → b.length + f ≤ 1000 →
  F83_l1_1 K g j s out pp k a b (v : Int) = some (a ++ (progL f n m v).map (fun v => s.Vals.getD v 0), b ++ (progL f n m v).map (fun v => s.Rest.getD v false)) := by
 intro f
 induction f with
 | zero =>
  intro k v a b h _ _ _ _
  obtain ⟨k, rfl⟩ : ∃ q, k = q + 1 := ⟨k - 1, by omega⟩
  rw [F83_l1_1, ilt_f.2 (by omega : g.N ≤ (v : Int))]; simp [progL]
 | succ f ih =>
  intro k v a b h hk hv100 ha hb
  obtain ⟨k, rfl⟩ : ∃ q, k = q + 1 := ⟨k - 1, by omega⟩
  rw [F83_l1_1]
  by_cases hlt : v < n
  · obtain ⟨i1, i2⟩ := getD_at (l := s.Vals) 0 (by omega : v < s.Vals.length)
    obtain ⟨i3, i4⟩ := getD_at (l := s.Rest) false (by omega : v < s.Rest.length)
    have a1 : apok (len a) 1 8 = true := decide_eq_true ⟨by show a.length + 1 ≤ _; omega, by show (a.length + 1) * 8 ≤ _; omega⟩
    have a2 : apok (len b) 1 1 = true := decide_eq_true ⟨by show b.length + 1 ≤ _; omega, by show (b.length + 1) * 1 ≤ _; omega⟩
    have ew : wadd .i64 (v : Int) j.Parts = ((v + m : Nat) : Int) := by
     show IntKind.i64.wrap _ = _
     rw [hm, IntKind.wrap_i64]; omega
    rw [ilt_iff.2 (by omega : (v : Int) < g.N), cond_true, i1, cond_true, i2, Option.bind_some, a1, cond_true, i3, cond_true, i4, Option.bind_some, a2, cond_true, ew, ih k (v + m) _ _ (by omega) (by omega) (by omega) (by simp [appL]; omega) (by simp [appL]; omega)]
    simp [progL, hlt, appL]
  · rw [ilt_f.2 (by omega : g.N ≤ (v : Int))]; simp [progL, hlt]
theorem F83_in {K : Nat} (g : GGraph) (j : GJob) (s : GState) (out : List GPart) (pp : Int) (w : List Int × List Bool) (hp : 1 ≤ j.Parts) (hl : s.In.length ≤ 1000) (hK : s.In.length < K) (h0 : ∀ m ∈ s.In, 0 ≤ m.To) :
 F83_l2_2 K g j s out pp w K [] 0 = some (s.In.filter fun m => ieq (m.To % j.Parts) pp) := by
 let step : GMsg → List GMsg → (List GMsg → Option (List GMsg)) → Option (List GMsg) := fun m a c =>
  bif (izero j.Parts) then none else bif (ieq (wrem m.To j.Parts) pp) then (bif (apok (len a) 1 16) then c (appL a [m]) else none) else c a
 have h := scanL (l := s.In) (L := fun k a i => F83_l2_2 K g j s out pp w k a i) step (fun a => some a) (fun k s i _ => rfl) (by omega) (K := K) hK []
 have hz : izero j.Parts = false := decide_eq_false (by omega)
 have hw : ∀ (l : List GMsg) (a : List GMsg), (∀ m ∈ l, 0 ≤ m.To) → a.length + l.length ≤ 1000 → goL step (fun a => some a) l a = some (a ++ l.filter fun m => ieq (m.To % j.Parts) pp) := by
  intro l
  induction l with
  | nil => intro a _ _; simp [goL]
  | cons m l ih =>
   intro a hm ha
   simp only [List.length_cons] at ha
   rw [goL]
   show (bif (izero j.Parts) then none else bif (ieq (wrem m.To j.Parts) pp) then (bif (apok (len a) 1 16) then goL step (fun a => some a) l (appL a [m]) else none) else goL step (fun a => some a) l a) = _
   have ap : apok (len a) 1 16 = true := decide_eq_true ⟨by show a.length + 1 ≤ _; omega, by show (a.length + 1) * 16 ≤ _; omega⟩
   rw [hz, cond_false, wrem_emod (hm m List.mem_cons_self), ap, List.filter_cons]
   cases ieq (m.To % j.Parts) pp
   · rw [cond_false, ih a (fun x hx => hm x (List.mem_cons_of_mem _ hx)) (by omega)]; rfl
   · rw [cond_true, cond_true, ih _ (fun x hx => hm x (List.mem_cons_of_mem _ hx)) (by simp [appL]; omega)]; simp [appL]
 rw [hw s.In [] h0 (by simpa using hl)] at h
 exact h
theorem F83_loop {K : Nat} (hK : 1000 ≤ K) (g : GGraph) (j : GJob) (s : GState) (h : stRight g j s = true) : F83_l0_0 K g j s K [] 0 = some (splitS g j s) := by
 obtain ⟨hc, s1, s2, s3, s4, s5⟩ := stRight_ok h
 obtain ⟨hg, p1, p2, p3, p4, p5, p6, p7, p8⟩ := jcheck_ok hc
 obtain ⟨g1, g2, _, _⟩ := gcheck_ok hg
 obtain ⟨n, hn⟩ := Int.eq_ofNat_of_zero_le (show 0 ≤ g.N by omega)
 obtain ⟨m, hm⟩ := Int.eq_ofNat_of_zero_le (show 0 ≤ j.Parts by omega)
 obtain ⟨q1, q2⟩ := inSt_ok s5
 have hlen := inSt_len s5 (by omega)
 let step : Nat → List GPart → (List GPart → Option (List GPart)) → Option (List GPart) := fun i out c =>
  ((F83_l1_1 K g j s out (i : Int) K [] [] (i : Int)).bind fun w =>
  (F83_l2_2 K g j s out (i : Int) w K [] 0).bind fun w' =>
  bif (apok (len out) 1 88) then c (appL out [(GPart.mk (i : Int) s.Step w.1 w.2 w')]) else none)
 have hs := scanN (N := j.Parts) (L := fun k a i => F83_l0_0 K g j s k a i) step (fun a => some a) (fun k s i _ => rfl) (by omega) (K := K) (by omega) []
 have hw : ∀ (l : List Nat) (out : List GPart), (∀ p ∈ l, p < m) → out.length + l.length ≤ 100 → goL step (fun a => some a) l out = some (out ++ l.map fun (p : Nat) => cutS g j s (p : Int)) := by
  intro l
  induction l with
  | nil => intro out _ _; simp [goL]
  | cons p l ih =>
   intro out hp ho
   simp only [List.length_cons] at ho
   have hpm := hp p List.mem_cons_self
   have ap : apok (len out) 1 88 = true := decide_eq_true ⟨by show out.length + 1 ≤ _; omega, by show (out.length + 1) * 88 ≤ _; omega⟩
   have e1 := F83_vals (K := K) g j s out (p : Int) hn hm (by omega) (by omega) (by omega) (by omega) (by omega) 30 K p [] [] (by omega) (by omega) (by omega) (by simp) (by simp)
   have e2 := F83_in (K := K) g j s out (p : Int) (((progL 30 n m p).map fun v => s.Vals.getD v 0), ((progL 30 n m p).map fun v => s.Rest.getD v false)) p7 (by omega) (by omega) (fun m hm => by have := q2 m hm; omega)
   rw [goL]
   show ((F83_l1_1 K g j s out (p : Int) K [] [] (p : Int)).bind fun w =>
    (F83_l2_2 K g j s out (p : Int) w K [] 0).bind fun w' =>
    bif (apok (len out) 1 88) then goL step (fun a => some a) l (appL out [(GPart.mk (p : Int) s.Step w.1 w.2 w')]) else none) = _
   rw [e1, Option.bind_some, List.nil_append, List.nil_append, e2, Option.bind_some, ap, cond_true, ih _ (fun x hx => hp x (List.mem_cons_of_mem _ hx)) (by simp [appL]; omega)]
   have ec : GPart.mk (p : Int) s.Step ((progL 30 n m p).map fun v => s.Vals.getD v 0) ((progL 30 n m p).map fun v => s.Rest.getD v false) (s.In.filter fun m => ieq (m.To % j.Parts) (p : Int)) = cutS g j s (p : Int) := by
    have a1 : g.N.toNat = n := by omega
    have a2 : j.Parts.toNat = m := by omega
    rw [cutS, vertsS, a1, a2, prog_verts (by omega) (by omega) (by omega) hpm]
   simp only [ec]
   simp [appL]
 have hmt : j.Parts.toNat = m := by omega
 rw [hmt, hw _ [] (fun p hp => List.mem_range.1 hp) (by simp; omega)] at hs
 rw [splitS, hmt]
 exact hs
theorem F83_spec {K : Nat} (hK : 1000 ≤ K) (g : GGraph) (j : GJob) (s : GState) (hl : s.In.length < 1000) : F83 K g j s = some (splitR g j s) := by
 rw [F83, F94_spec (by omega), Option.bind_some, splitR]
 cases hc : ieq (jcheck g j) 0
 · rfl
 · rw [cond_true, cond_true, F104_spec hK g j s (by omega) (by omega), Option.bind_some]
   cases hr : stRight g j s
   · rfl
   · rw [cond_true, cond_true, F83_loop hK g j s hr]; rfl
noncomputable def hn112 : Hint := { H 112 with nt := 123, prot := 0 }
noncomputable def c112_0 : Code := loopOf E 112 0
def F112_res (r1 : GState × Int) : Res := ⟨[(.agg [(.im (.lit (.int .i64 r1.1.Step))), (.own 2 (.sl (len r1.1.Vals) (flat (eInt .i64) r1.1.Vals))), (.own 4 (.sl (len r1.1.Rest) (flat eBool r1.1.Rest))), (.own 130 (.sl (len r1.1.In) (flat eGMsg r1.1.In)))]), (.one (.im (.lit (.int .i64 r1.2))))], []⟩
def F112_l0_0 (K : Nat) (a1 : GGraph) (a2 : GJob) (a3 : GState) : Nat → List Int → List Bool → List GMsg → Int → Option ((Int) ⊕ (List Int × List Bool × List GMsg))
 | 0, _, _, _, _ => none
 | k + 1, v4, v5, v6, v7 =>
  bif (ilt v7 a1.N) then
   ((F149 K a3.In v7).bind fun r8 =>
   bif (inr v7 (len a3.Rest)) then
   (elAt a3.Rest v7).bind fun x9 =>
   bif x9 then
    (bif r8.2 then
     (bif (inr v7 (len a3.Vals)) then
     (elAt a3.Vals v7).bind fun x10 =>
     (F99 K a1 a2 a3.Step v7 x10 r8.1 r8.2).bind fun r11 =>
     bif (ieq r11.2.2.2 0) then
      (bif (inr v7 (len v4)) then
      (elAt v4 v7).bind fun x12 =>
      bif (inr v7 (len v5)) then
      (elAt v5 v7).bind fun x13 =>
      bif (apok (len v6) (len r11.2.1) 16) then
      F112_l0_0 K a1 a2 a3 k (putAt v4 v7 r11.1) (putAt v5 v7 r11.2.2.1) (appL v6 r11.2.1) (wadd .i64 v7 1)
      else none
      else none
      else none)
     else
     some (.inl r11.2.2.2)
     else none)
    else
    bif (inr v7 (len v5)) then
    (elAt v5 v7).bind fun x14 =>
    F112_l0_0 K a1 a2 a3 k v4 (putAt v5 v7 true) v6 (wadd .i64 v7 1)
    else none)
   else
   bif (inr v7 (len a3.Vals)) then
   (elAt a3.Vals v7).bind fun x15 =>
   (F99 K a1 a2 a3.Step v7 x15 r8.1 r8.2).bind fun r16 =>
   bif (ieq r16.2.2.2 0) then
    (bif (inr v7 (len v4)) then
    (elAt v4 v7).bind fun x17 =>
    bif (inr v7 (len v5)) then
    (elAt v5 v7).bind fun x18 =>
    bif (apok (len v6) (len r16.2.1) 16) then
    F112_l0_0 K a1 a2 a3 k (putAt v4 v7 r16.1) (putAt v5 v7 r16.2.2.1) (appL v6 r16.2.1) (wadd .i64 v7 1)
    else none
    else none
    else none)
   else
   some (.inl r16.2.2.2)
   else none
   else none)
  else
  some (.inr (v4, (v5, v6)))
def F112_l0_0_S (a1 : GGraph) (a2 : GJob) (a3 : GState) (v4 : List Int) (v5 : List Bool) (v6 : List GMsg) (v7 : Int) : TS := .on [192, 193, 194, 256, 257, 258, 259, 260, 320, 321, 322, 323, 324, 384, 385, 386, 387, 388, 576, 577, 578, 579, 580, 640, 641, 3136, 3137, 3200, 3201] [(192, ⟨(.box 62 2), 0, nob⟩), (193, ⟨.im, 0, (.lit (.int .i64 a1.N))⟩), (194, ⟨.im, 0, (.sl (len a1.Edges) (flat eGEdge a1.Edges))⟩), (256, ⟨(.box 64 4), 0, nob⟩), (257, ⟨.im, 0, (.lit (.int .i64 a2.Prog))⟩), (258, ⟨.im, 0, (.lit (.int .i64 a2.Source))⟩), (259, ⟨.im, 0, (.lit (.int .i64 a2.Limit))⟩), (260, ⟨.im, 0, (.lit (.int .i64 a2.Parts))⟩), (320, ⟨(.box 74 4), 0, nob⟩), (321, ⟨.im, 0, (.lit (.int .i64 a3.Step))⟩), (322, ⟨.im, 0, (.sl (len a3.Vals) (flat (eInt .i64) a3.Vals))⟩), (323, ⟨.im, 0, (.sl (len a3.Rest) (flat eBool a3.Rest))⟩), (324, ⟨.im, 0, (.sl (len a3.In) (flat eGMsg a3.In))⟩), (384, ⟨(.box 74 4), 0, nob⟩), (385, ⟨.im, 0, (.lit (.int .i64 0))⟩), (386, ⟨(.own 2), 0, (.sl 0 [])⟩), (387, ⟨(.own 4), 0, (.sl 0 [])⟩), (388, ⟨(.own 130), 0, (.sl 0 [])⟩), (576, ⟨(.box 74 4), 0, nob⟩), (577, ⟨.im, 0, (.lit (.int .i64 (wadd .i64 a3.Step 1)))⟩), (578, ⟨(.own 2), 0, (.sl (len v4) (flat (eInt .i64) v4))⟩), (579, ⟨(.own 4), 0, (.sl (len v5) (flat eBool v5))⟩), (580, ⟨(.own 130), 0, (.sl 0 [])⟩), (640, ⟨.one, 0, nob⟩), (641, ⟨(.own 130), 0, (.sl (len v6) (flat eGMsg v6))⟩), (3136, ⟨.one, 0, nob⟩), (3137, ⟨.im, 0, (.lit (.int .i64 a1.N))⟩), (3200, ⟨.one, 0, nob⟩), (3201, ⟨.im, 0, (.lit (.int .i64 v7))⟩)]
def F112_l0_0_X0 (a1 : GGraph) (a2 : GJob) (a3 : GState) (w4 : Int) : TS := .on [384, 385, 386, 387, 388, 448, 449] [(384, ⟨(.box 74 4), 0, nob⟩), (385, ⟨.im, 0, (.lit (.int .i64 0))⟩), (386, ⟨(.own 2), 0, (.sl 0 [])⟩), (387, ⟨(.own 4), 0, (.sl 0 [])⟩), (388, ⟨(.own 130), 0, (.sl 0 [])⟩), (448, ⟨.one, 0, nob⟩), (449, ⟨.im, 0, (.lit (.int .i64 w4))⟩)]
def F112_l0_0_X1 (a1 : GGraph) (a2 : GJob) (a3 : GState) (w4 : List Int × List Bool × List GMsg) : TS := .on [256, 257, 258, 259, 260, 384, 385, 386, 387, 388, 576, 577, 578, 579, 580, 640, 641] [(256, ⟨(.box 64 4), 0, nob⟩), (257, ⟨.im, 0, (.lit (.int .i64 a2.Prog))⟩), (258, ⟨.im, 0, (.lit (.int .i64 a2.Source))⟩), (259, ⟨.im, 0, (.lit (.int .i64 a2.Limit))⟩), (260, ⟨.im, 0, (.lit (.int .i64 a2.Parts))⟩), (384, ⟨(.box 74 4), 0, nob⟩), (385, ⟨.im, 0, (.lit (.int .i64 0))⟩), (386, ⟨(.own 2), 0, (.sl 0 [])⟩), (387, ⟨(.own 4), 0, (.sl 0 [])⟩), (388, ⟨(.own 130), 0, (.sl 0 [])⟩), (576, ⟨(.box 74 4), 0, nob⟩), (577, ⟨.im, 0, (.lit (.int .i64 (wadd .i64 a3.Step 1)))⟩), (578, ⟨(.own 2), 0, (.sl (len w4.1) (flat (eInt .i64) w4.1))⟩), (579, ⟨(.own 4), 0, (.sl (len w4.2.1) (flat eBool w4.2.1))⟩), (580, ⟨(.own 130), 0, (.sl 0 [])⟩), (640, ⟨.one, 0, nob⟩), (641, ⟨(.own 130), 0, (.sl (len w4.2.2) (flat eGMsg w4.2.2))⟩)]
theorem F112_l0_0_ok (K : Nat) (a1 : GGraph) (a2 : GJob) (a3 : GState) : ∀ (k : Nat) (v4 : List Int) (v5 : List Bool) (v6 : List GMsg) (v7 : Int) (r : (Int) ⊕ (List Int × List Bool × List GMsg)), F112_l0_0 K a1 a2 a3 k v4 v5 v6 v7 = some r → (Sum.elim (fun w => LoopEv E H hn112 0 c112_0 (F112_l0_0_S a1 a2 a3 v4 v5 v6 v7) .ret (F112_l0_0_X0 a1 a2 a3 w)) (fun w => LoopEv E H hn112 0 c112_0 (F112_l0_0_S a1 a2 a3 v4 v5 v6 v7) (.exit 0) (F112_l0_0_X1 a1 a2 a3 w))) r := by
 intro k
 induction k with
 | zero => intro v4 v5 v6 v7 r hF; cases hF
 | succ k ih =>
  intro v4 v5 v6 v7 r hF
  rw [F112_l0_0] at hF
  refine cond_some hF (fun h8 hF => ?_) (fun h8 hF => ?_)
  ·
   refine bind_some hF (fun r9 h10 hF => ?_)
   refine cond_some hF (fun h11 hF => ?_) (fun _ hF => nomatch hF)
   refine bind_some hF (fun x12 h13 hF => ?_)
   have q45 : PQ hn112 fun l => ((tt (ilt v7 a1.N)) :: .call 149 [.one (.sl (len a3.In) (flat eGMsg a3.In)), .one (i6 v7)] (F149_res r9) :: (ff (leadsAny (Res.mk [(.one (.im (i6 r9.1))), (.one (.im (.lit (.bool r9.2))))] []))) :: (tt (inr v7 (len a3.Rest))) :: .sub (flat eBool a3.Rest) (nidx v7 1) 1 [(.lit (.bool x12))] :: l) := fun z => ⟨h8, (F149_ok K a3.In v7 _ h10), lk, h11, ⟨rfl, sub_flat0 eBool_len h13 1 (by decide)⟩, z⟩
   refine cond_some hF (fun h14 hF => ?_) (fun h14 hF => ?_)
   ·
    have q46 : PQ hn112 fun l => ((bh x12) :: (bh x12) :: (tt x12) :: l) := fun z => ⟨(bC h14), (bC h14), h14, z⟩
    refine cond_some hF (fun h15 hF => ?_) (fun h15 hF => ?_)
    ·
     refine cond_some hF (fun h16 hF => ?_) (fun _ hF => nomatch hF)
     refine bind_some hF (fun x17 h18 hF => ?_)
     refine bind_some hF (fun r19 h20 hF => ?_)
     have q47 : PQ hn112 fun l => ((ff (bnot r9.2)) :: (tt (inr v7 (len a3.Vals))) :: .sub (flat (eInt .i64) a3.Vals) (nidx v7 1) 1 [(i6 x17)] :: .call 99 [.agg (eGGraph a1), .agg (eGJob a2), .one (i6 a3.Step), .one (i6 v7), .one (i6 x17), .one (i6 r9.1), .one (.lit (.bool r9.2))] (F99_res r19) :: (ff (leadsAny (Res.mk [(.one (.im (i6 r19.1))), (.one (.own 130 (.sl (len r19.2.1) (flat eGMsg r19.2.1)))), (.one (.im (.lit (.bool r19.2.2.1)))), (.one (.im (i6 r19.2.2.2)))] []))) :: l) := fun z => ⟨(bnot_t h15), h16, ⟨rfl, sub_flat0 (eInt_len _) h18 1 (by decide)⟩, (F99_ok K a1 a2 a3.Step v7 x17 r9.1 r9.2 _ h20), lk, z⟩
     refine cond_some hF (fun h21 hF => ?_) (fun h21 hF => ?_)
     ·
      refine cond_some hF (fun h22 hF => ?_) (fun _ hF => nomatch hF)
      refine bind_some hF (fun x23 h24 hF => ?_)
      refine cond_some hF (fun h25 hF => ?_) (fun _ hF => nomatch hF)
      refine bind_some hF (fun x26 h27 hF => ?_)
      refine cond_some hF (fun h28 hF => ?_) (fun _ hF => nomatch hF)
      have pz : HA hn112 [(ff (ine r19.2.2.2 0)), (tt (inr v7 (len v4))), (tt (lfits (nidx v7 1) 1 (flat (eInt .i64) v4))), .sl (len v4) (lset (flat (eInt .i64) v4) (nidx v7 1) [(i6 r19.1)]) (len (α := Int) (putAt v4 v7 r19.1)) (flat (eInt .i64) (putAt v4 v7 r19.1)), (tt (inr v7 (len v5))), (tt (lfits (nidx v7 1) 1 (flat eBool v5))), .sl (len v5) (lset (flat eBool v5) (nidx v7 1) [(.lit (.bool r19.2.2.1))]) (len (α := Bool) (putAt v5 v7 r19.2.2.1)) (flat eBool (putAt v5 v7 r19.2.2.1)), (tt (leqm (flat eGMsg r19.2.1) (len r19.2.1) 2)), (tt (apok (len v6) (len r19.2.1) 16)), .sl (nadd (len v6) (len r19.2.1)) (lapp (flat eGMsg v6) (flat eGMsg r19.2.1)) (len (α := GMsg) (appL v6 r19.2.1)) (flat eGMsg (appL v6 r19.2.1)), .int (wadd .i64 v7 1) (wadd .i64 v7 1)] := ⟨(ine_t h21), h22, (lfits_flat0 (eInt_len _) h24 _ (by decide)), (set_ok0 (eInt_len _) h24 _ (by simp) rfl), h25, (lfits_flat0 eBool_len h27 _ (by decide)), (set_ok0 eBool_len h27 _ (by simp) rfl), (leqm_flat eGMsg_len _), h28, (app_ok (enc := eGMsg) (v6 : List GMsg) r19.2.1), rfl, trivial⟩
      have h0 := ih _ _ _ _ _ hF
      have hn := lN hn112 0 c112_0 (F112_l0_0_S a1 a2 a3 v4 v5 v6 v7) (F112_l0_0_S a1 a2 a3 (putAt v4 v7 r19.1) (putAt v5 v7 r19.2.2.1) (appL v6 r19.2.1) (wadd .i64 v7 1)) (q45 (q46 (q47 pz)))
      cases r with
      | inl w => exact hn _ _ h0
      | inr w => exact hn _ _ h0
     obtain rfl := sj hF
     have pz : HA hn112 [(tt (ine r19.2.2.2 0))] := ⟨(ine_f h21), trivial⟩
     exact lE hn112 0 c112_0 (F112_l0_0_S a1 a2 a3 v4 v5 v6 v7) (F112_l0_0_X0 a1 a2 a3 r19.2.2.2) .ret (q45 (q46 (q47 pz)))
    refine cond_some hF (fun h29 hF => ?_) (fun _ hF => nomatch hF)
    refine bind_some hF (fun x30 h31 hF => ?_)
    have pz : HA hn112 [(tt (bnot r9.2)), (tt (inr v7 (len v5))), (tt (lfits (nidx v7 1) 1 (flat eBool v5))), .sl (len v5) (lset (flat eBool v5) (nidx v7 1) [(.lit (.bool true))]) (len (α := Bool) (putAt v5 v7 true)) (flat eBool (putAt v5 v7 true)), .int (wadd .i64 v7 1) (wadd .i64 v7 1)] := ⟨(bnot_f h15), h29, (lfits_flat0 eBool_len h31 _ (by decide)), (set_ok0 eBool_len h31 _ (by simp) rfl), rfl, trivial⟩
    have h0 := ih _ _ _ _ _ hF
    have hn := lN hn112 0 c112_0 (F112_l0_0_S a1 a2 a3 v4 v5 v6 v7) (F112_l0_0_S a1 a2 a3 v4 (putAt v5 v7 true) v6 (wadd .i64 v7 1)) (q45 (q46 pz))
    cases r with
    | inl w => exact hn _ _ h0
    | inr w => exact hn _ _ h0
   refine cond_some hF (fun h32 hF => ?_) (fun _ hF => nomatch hF)
   refine bind_some hF (fun x33 h34 hF => ?_)
   refine bind_some hF (fun r35 h36 hF => ?_)
   have q48 : PQ hn112 fun l => ((bk x12) :: (bk x12) :: (ff x12) :: (ff false) :: (tt (inr v7 (len a3.Vals))) :: .sub (flat (eInt .i64) a3.Vals) (nidx v7 1) 1 [(i6 x33)] :: .call 99 [.agg (eGGraph a1), .agg (eGJob a2), .one (i6 a3.Step), .one (i6 v7), .one (i6 x33), .one (i6 r9.1), .one (.lit (.bool r9.2))] (F99_res r35) :: (ff (leadsAny (Res.mk [(.one (.im (i6 r35.1))), (.one (.own 130 (.sl (len r35.2.1) (flat eGMsg r35.2.1)))), (.one (.im (.lit (.bool r35.2.2.1)))), (.one (.im (i6 r35.2.2.2)))] []))) :: l) := fun z => ⟨(bC h14), (bC h14), h14, rfl, h32, ⟨rfl, sub_flat0 (eInt_len _) h34 1 (by decide)⟩, (F99_ok K a1 a2 a3.Step v7 x33 r9.1 r9.2 _ h36), lk, z⟩
   refine cond_some hF (fun h37 hF => ?_) (fun h37 hF => ?_)
   ·
    refine cond_some hF (fun h38 hF => ?_) (fun _ hF => nomatch hF)
    refine bind_some hF (fun x39 h40 hF => ?_)
    refine cond_some hF (fun h41 hF => ?_) (fun _ hF => nomatch hF)
    refine bind_some hF (fun x42 h43 hF => ?_)
    refine cond_some hF (fun h44 hF => ?_) (fun _ hF => nomatch hF)
    have pz : HA hn112 [(ff (ine r35.2.2.2 0)), (tt (inr v7 (len v4))), (tt (lfits (nidx v7 1) 1 (flat (eInt .i64) v4))), .sl (len v4) (lset (flat (eInt .i64) v4) (nidx v7 1) [(i6 r35.1)]) (len (α := Int) (putAt v4 v7 r35.1)) (flat (eInt .i64) (putAt v4 v7 r35.1)), (tt (inr v7 (len v5))), (tt (lfits (nidx v7 1) 1 (flat eBool v5))), .sl (len v5) (lset (flat eBool v5) (nidx v7 1) [(.lit (.bool r35.2.2.1))]) (len (α := Bool) (putAt v5 v7 r35.2.2.1)) (flat eBool (putAt v5 v7 r35.2.2.1)), (tt (leqm (flat eGMsg r35.2.1) (len r35.2.1) 2)), (tt (apok (len v6) (len r35.2.1) 16)), .sl (nadd (len v6) (len r35.2.1)) (lapp (flat eGMsg v6) (flat eGMsg r35.2.1)) (len (α := GMsg) (appL v6 r35.2.1)) (flat eGMsg (appL v6 r35.2.1)), .int (wadd .i64 v7 1) (wadd .i64 v7 1)] := ⟨(ine_t h37), h38, (lfits_flat0 (eInt_len _) h40 _ (by decide)), (set_ok0 (eInt_len _) h40 _ (by simp) rfl), h41, (lfits_flat0 eBool_len h43 _ (by decide)), (set_ok0 eBool_len h43 _ (by simp) rfl), (leqm_flat eGMsg_len _), h44, (app_ok (enc := eGMsg) (v6 : List GMsg) r35.2.1), rfl, trivial⟩
    have h0 := ih _ _ _ _ _ hF
    have hn := lN hn112 0 c112_0 (F112_l0_0_S a1 a2 a3 v4 v5 v6 v7) (F112_l0_0_S a1 a2 a3 (putAt v4 v7 r35.1) (putAt v5 v7 r35.2.2.1) (appL v6 r35.2.1) (wadd .i64 v7 1)) (q45 (q48 pz))
    cases r with
    | inl w => exact hn _ _ h0
    | inr w => exact hn _ _ h0
   obtain rfl := sj hF
   have pz : HA hn112 [(tt (ine r35.2.2.2 0))] := ⟨(ine_f h37), trivial⟩
   exact lE hn112 0 c112_0 (F112_l0_0_S a1 a2 a3 v4 v5 v6 v7) (F112_l0_0_X0 a1 a2 a3 r35.2.2.2) .ret (q45 (q48 pz))
  obtain rfl := sj hF
  have pz : HA hn112 [(ff (ilt v7 a1.N))] := ⟨h8, trivial⟩
  exact lE hn112 0 c112_0 (F112_l0_0_S a1 a2 a3 v4 v5 v6 v7) (F112_l0_0_X1 a1 a2 a3 (v4, (v5, v6))) (.exit 0) pz
def F112 (K : Nat) (a1 : GGraph) (a2 : GJob) (a3 : GState) : Option (GState × Int) :=
 (F94 K a1 a2).bind fun r4 =>
 bif (ieq r4 0) then
  ((F104 K a1 a2 a3).bind fun r5 =>
  bif r5 then
   (bif (ieq a3.Step 40) then
    (some ((GState.mk 0 [] [] []), 6))
   else
   bif (apok 0 (len a3.Vals) 8) then
   bif (mkok a1.N a1.N 1) then
   (F112_l0_0 K a1 a2 a3 K (appL [] a3.Vals) (repL (α := Bool) a1.N false) [] 0).bind fun y6 =>
   Sum.elim (fun w7 =>
    some ((GState.mk 0 [] [] []), w7))
    (fun w8 =>
    (F150 K a2.Prog w8.2.2).bind fun r9 =>
    bif (ieq r9.2 0) then
     (some ((GState.mk (wadd .i64 a3.Step 1) w8.1 w8.2.1 r9.1), 0))
    else
    some ((GState.mk 0 [] [] []), r9.2)) y6
   else none
   else none)
  else
  some ((GState.mk 0 [] [] []), 1))
 else
 some ((GState.mk 0 [] [] []), r4)
theorem F112_ok (K : Nat) (a1 : GGraph) (a2 : GJob) (a3 : GState) (r : GState × Int) (hF : F112 K a1 a2 a3 = some r) : Evt E H 112 [.agg (eGGraph a1), .agg (eGJob a2), .agg (eGState a3)] (F112_res r) := by
 rw [F112] at hF
 refine bind_some hF (fun r4 h5 hF => ?_)
 refine cond_some hF (fun h6 hF => ?_) (fun h6 hF => ?_)
 ·
  refine bind_some hF (fun r7 h8 hF => ?_)
  have q20 : PQ hn112 fun l => (.call 94 [.agg (eGGraph a1), .agg (eGJob a2)] (F94_res r4) :: (ff (leadsAny (Res.mk [(.one (.im (i6 r4)))] []))) :: (ff (ine r4 0)) :: .call 104 [.agg (eGGraph a1), .agg (eGJob a2), .agg (eGState a3)] (F104_res r7) :: (ff (leadsAny (Res.mk [(.one (.im (.lit (.bool r7))))] []))) :: l) := fun z => ⟨(F94_ok K a1 a2 _ h5), lk, (ine_t h6), (F104_ok K a1 a2 a3 _ h8), lk, z⟩
  refine cond_some hF (fun h9 hF => ?_) (fun h9 hF => ?_)
  ·
   refine cond_some hF (fun h10 hF => ?_) (fun h10 hF => ?_)
   ·
    obtain rfl := sj hF
    have pz : HA hn112 [(ff (bnot r7)), (tt (ieq a3.Step 40))] := ⟨(bnot_t h9), h10, trivial⟩
    exact fpC hn112 (r := F112_res ((GState.mk 0 [] [] []), 6)) (q20 pz)
   refine cond_some hF (fun h11 hF => ?_) (fun _ hF => nomatch hF)
   refine cond_some hF (fun h12 hF => ?_) (fun _ hF => nomatch hF)
   have q21 : PQ hn112 fun l => ((ff (bnot r7)) :: (ff (ieq a3.Step 40)) :: .int (wadd .i64 a3.Step 1) (wadd .i64 a3.Step 1) :: (tt (leqm (flat (eInt .i64) a3.Vals) (len a3.Vals) 1)) :: (tt (apok 0 (len a3.Vals) 8)) :: .sl (nadd 0 (len a3.Vals)) (lapp [] (flat (eInt .i64) a3.Vals)) (len (α := Int) (appL [] a3.Vals)) (flat (eInt .i64) (appL [] a3.Vals)) :: (tt (mkok a1.N a1.N 1)) :: .sl (nint a1.N) (lrep a1.N [(.lit (.bool false))]) (len (α := Bool) (repL (α := Bool) a1.N false)) (flat eBool (repL (α := Bool) a1.N false)) :: l) := fun z => ⟨(bnot_t h9), h10, rfl, (leqm_flat (eInt_len _) _), h11, (app_ok (enc := (eInt .i64)) ([] : List Int) a3.Vals), h12, (rep_okC (enc := eBool) (n := a1.N) (x := false) rfl), z⟩
   refine bind_some hF (fun y14 h13 hF => ?_)
   refine sum_some hF (fun w15 hx hF => ?_) (fun w16 hx hF => ?_)
   ·
    subst hx
    obtain rfl := sj hF
    have pz : HA hn112 [.loop 0 c112_0 (F112_l0_0_S a1 a2 a3 (appL [] a3.Vals) (repL (α := Bool) a1.N false) [] 0) .ret (F112_l0_0_X0 a1 a2 a3 w15)] := ⟨(F112_l0_0_ok K a1 a2 a3 K (appL [] a3.Vals) (repL (α := Bool) a1.N false) [] 0 _ h13), trivial⟩
    exact fpC hn112 (r := F112_res ((GState.mk 0 [] [] []), w15)) (q20 (q21 pz))
   subst hx
   refine bind_some hF (fun r17 h18 hF => ?_)
   have q22 : PQ hn112 fun l => (.loop 0 c112_0 (F112_l0_0_S a1 a2 a3 (appL [] a3.Vals) (repL (α := Bool) a1.N false) [] 0) (.exit 0) (F112_l0_0_X1 a1 a2 a3 w16) :: .call 150 [.one (i6 a2.Prog), .one (.sl (len w16.2.2) (flat eGMsg w16.2.2))] (F150_res r17) :: (ff (leadsAny (Res.mk [(.one (.own 130 (.sl (len r17.1) (flat eGMsg r17.1)))), (.one (.im (i6 r17.2)))] []))) :: l) := fun z => ⟨(F112_l0_0_ok K a1 a2 a3 K (appL [] a3.Vals) (repL (α := Bool) a1.N false) [] 0 _ h13), (F150_ok K a2.Prog w16.2.2 _ h18), lk, z⟩
   refine cond_some hF (fun h19 hF => ?_) (fun h19 hF => ?_)
   ·
    obtain rfl := sj hF
    have pz : HA hn112 [(ff (ine r17.2 0))] := ⟨(ine_t h19), trivial⟩
    exact fpC hn112 (r := F112_res ((GState.mk (wadd .i64 a3.Step 1) w16.1 w16.2.1 r17.1), 0)) (q20 (q21 (q22 pz)))
   obtain rfl := sj hF
   have pz : HA hn112 [(tt (ine r17.2 0))] := ⟨(ine_f h19), trivial⟩
   exact fpC hn112 (r := F112_res ((GState.mk 0 [] [] []), r17.2)) (q20 (q21 (q22 pz)))
  obtain rfl := sj hF
  have pz : HA hn112 [(tt (bnot r7))] := ⟨(bnot_f h9), trivial⟩
  exact fpC hn112 (r := F112_res ((GState.mk 0 [] [] []), 1)) (q20 pz)
 obtain rfl := sj hF
 have pz : HA hn112 [.call 94 [.agg (eGGraph a1), .agg (eGJob a2)] (F94_res r4), (ff (leadsAny (Res.mk [(.one (.im (i6 r4)))] []))), (tt (ine r4 0))] := ⟨(F94_ok K a1 a2 _ h5), lk, (ine_f h6), trivial⟩
 exact fpC hn112 (r := F112_res ((GState.mk 0 [] [] []), r4)) pz
abbrev Tri := List Int × List Bool × List GMsg
def oneS (g : GGraph) (j : GJob) (s : GState) (v : Nat) : Int × List GMsg × Bool × Int :=
 bif s.Rest.getD v false && !(atS s.In (v : Int)).2 then (s.Vals.getD v 0, [], true, 0)
 else turnS g j s.Step (v : Int) (s.Vals.getD v 0) (atS s.In (v : Int)).1 (atS s.In (v : Int)).2
def stepA (g : GGraph) (j : GJob) (s : GState) : List Nat → List Int → List Bool → List GMsg → Int ⊕ Tri
 | [], a, b, c => .inr (a, b, c)
 | v :: l, a, b, c => bif ieq (oneS g j s v).2.2.2 0 then stepA g j s l (a ++ [(oneS g j s v).1]) (b ++ [(oneS g j s v).2.2.1]) (c ++ (oneS g j s v).2.1) else .inl (oneS g j s v).2.2.2
def zeroS : GState := GState.mk 0 [] [] []
def stepB (g : GGraph) (j : GJob) (s : GState) : Int ⊕ Tri → GState × Int
 | .inl e => (zeroS, e)
 | .inr w => bif ieq (boxS j.Prog w.2.2).2 0 then (GState.mk (s.Step + 1) w.1 w.2.1 (boxS j.Prog w.2.2).1, 0) else (zeroS, (boxS j.Prog w.2.2).2)
def stepS (g : GGraph) (j : GJob) (s : GState) : GState × Int :=
 bif ieq (jcheck g j) 0 then (bif stRight g j s then (bif ieq s.Step 40 then (zeroS, 6) else stepB g j s (stepA g j s (List.range g.N.toNat) [] [] [])) else (zeroS, 1)) else (zeroS, jcheck g j)
def niceS (s : GState) : Prop := (∀ v ∈ s.Vals, i64 v) ∧ (∀ m ∈ s.In, i64 m.V)
theorem wf_nice {s : GState} (h : WGState s) : niceS s := ⟨fun v hv => i64_wf (h.2.1.2 v hv), fun m hm => i64_wf ((h.2.2.2.1).2 m hm).2.1⟩
theorem sendS_i64 {p val many : Int} {e : GEdge} (hv : i64 val) : i64 (sendS p val e many).1 := by
 rw [sendS]
 cases ieq p 1
 · cases ieq p 3
   · cases ieq p 5
     · exact hv
     · exact ratioS_i64
   · exact addS_i64
 · exact addS_i64
theorem sendA_i64 {p val many : Int} (hv : i64 val) : ∀ {l : List GEdge} {s r : List GMsg}, (∀ m ∈ s, i64 m.V) → sendA p val many l s = some r → ∀ m ∈ r, i64 m.V
 | [], s, r, hs, h => by injection h with h; subst h; exact hs
 | e :: l, s, r, hs, h => by
  rw [sendA] at h
  cases hq : (sendS p val e many).2
  · rw [hq] at h; cases h
  · rw [hq, cond_true] at h
    refine sendA_i64 hv (fun m hm => ?_) h
    rcases List.mem_append.1 hm with hm | hm
    · exact hs m hm
    · rw [List.mem_singleton.1 hm]; exact sendS_i64 hv
theorem sendO_i64 {p w many : Int} {b : Bool} {l : List GEdge} (hw : i64 w) : i64 (sendO b w (sendA p w many l [])).1 ∧ ∀ m ∈ (sendO b w (sendA p w many l [])).2.1, i64 m.V := by
 have h0 : i64 0 := by unfold i64; omega
 cases hq : sendA p w many l []
 · exact ⟨h0, fun m hm => absurd hm (List.not_mem_nil)⟩
 · exact ⟨hw, sendA_i64 hw (fun m hm => absurd hm (List.not_mem_nil)) hq⟩
theorem turn_i64 {g : GGraph} {j : GJob} {step v val got : Int} {sm : Bool} (hv : i64 val) (hg : i64 got) : i64 (turnS g j step v val got sm).1 ∧ ∀ m ∈ (turnS g j step v val got sm).2.1, i64 m.V := by
 have h0 : i64 0 := by unfold i64; omega
 have hn : ∀ m ∈ ([] : List GMsg), i64 m.V := fun m hm => absurd hm (List.not_mem_nil)
 rw [turnS]
 cases ieq (jcheck g j) 0
 · exact ⟨h0, hn⟩
 · cases ilt v 0
   · cases ile g.N v
     · cases ilt step 0
       · cases ilt 40 step
         · simp only [cond_true, cond_false]
           cases ieq j.Prog 5
           · have hw : i64 (turnV j.Prog val got sm) := by
              rw [turnV]
              cases sm
              · exact hv
              · exact foldS_i64 hv hg
             rw [cond_false, moveS]
             cases turnM j.Prog j.Source step v val (turnV j.Prog val got sm)
             · exact ⟨hw, hn⟩
             · exact sendO_i64 hw
           · have hw : i64 (rankW step val got sm).1 := by
              rw [rankW]
              cases ilt 0 step
              · exact hv
              · exact sumS_i64
             rw [cond_true, rankS]
             cases (rankW step val got sm).2
             · exact ⟨h0, hn⟩
             · cases ile 10 step
               · exact sendO_i64 hw
               · exact ⟨hw, hn⟩
         · exact ⟨h0, hn⟩
       · exact ⟨h0, hn⟩
     · exact ⟨h0, hn⟩
   · exact ⟨h0, hn⟩
theorem turn_outs {g : GGraph} {j : GJob} {step v val got : Int} {sm : Bool} : (turnS g j step v val got sm).2.1.length ≤ (g.Edges.filter fun e => ieq e.From v).length := by
 have ho : (outs g v).length ≤ (g.Edges.filter fun e => ieq e.From v).length := by
  rw [outs]
  cases ieq (gcheck g) 0
  · exact Nat.zero_le _
  · exact Nat.le_refl _
 cases h : ieq (turnS g j step v val got sm).2.2.2 0
 · rw [(turn_bad h).2]; exact Nat.zero_le _
 · rcases turn_out h with hz | hz
   · rw [hz]; exact Nat.zero_le _
   · have := congrArg List.length hz
     simp only [List.length_map] at this
     omega
theorem from_add (E : List GEdge) (v : Int) : (E.filter fun e => ilt e.From v).length + (E.filter fun e => ieq e.From v).length = (E.filter fun e => ilt e.From (v + 1)).length := by
 induction E with
 | nil => rfl
 | cons e E ih =>
  simp only [List.filter_cons]
  cases h1 : ilt e.From v
  · have h1' := ilt_f.1 h1
    cases h2 : ieq e.From v
    · have h2' := ieq_f.1 h2
      rw [ilt_f.2 (by omega : v + 1 ≤ e.From)]
      simpa using ih
    · have h2' := ieq_iff.1 h2
      rw [ilt_iff.2 (by omega : e.From < v + 1)]
      simp; omega
  · have h1' := ilt_iff.1 h1
    rw [ieq_f.2 (by omega : e.From ≠ v), ilt_iff.2 (by omega : e.From < v + 1)]
    simp; omega
theorem one_i64 {g : GGraph} {j : GJob} {s : GState} (hn : niceS s) {v : Nat} : i64 (oneS g j s v).1 ∧ ∀ m ∈ (oneS g j s v).2.1, i64 m.V := by
 have h0 : i64 0 := by unfold i64; omega
 have hx : i64 (s.Vals.getD v 0) := by
  rw [List.getD_eq_getElem?_getD]
  cases hq : s.Vals[v]? with
  | none => exact h0
  | some x => exact hn.1 x (List.mem_of_getElem? hq)
 rw [oneS]
 cases s.Rest.getD v false && !(atS s.In (v : Int)).2
 · exact turn_i64 hx (atS_i64 hn.2)
 · exact ⟨hx, fun m hm => absurd hm (List.not_mem_nil)⟩
theorem one_outs {g : GGraph} {j : GJob} {s : GState} {v : Nat} : (oneS g j s v).2.1.length ≤ (g.Edges.filter fun e => ieq e.From (v : Int)).length := by
 rw [oneS]
 cases s.Rest.getD v false && !(atS s.In (v : Int)).2
 · exact turn_outs
 · exact Nat.zero_le _
structure keepS (g : GGraph) (i : Nat) (a : List Int) (b : List Bool) (c : List GMsg) : Prop where
 la : a.length = i
 lb : b.length = i
 lc : c.length ≤ (g.Edges.filter fun e => ilt e.From (i : Int)).length
 va : ∀ v ∈ a, i64 v
 vc : ∀ m ∈ c, i64 m.V
theorem keep_next {g : GGraph} {j : GJob} {s : GState} (hn : niceS s) {i : Nat} {a : List Int} {b : List Bool} {c : List GMsg} (h : keepS g i a b c) :
 keepS g (i + 1) (a ++ [(oneS g j s i).1]) (b ++ [(oneS g j s i).2.2.1]) (c ++ (oneS g j s i).2.1) := by
 obtain ⟨o1, o2⟩ := one_i64 (g := g) (j := j) hn (v := i)
 refine ⟨by simp [h.la], by simp [h.lb], ?_, fun v hv => ?_, fun m hm => ?_⟩
 · have h1 := one_outs (g := g) (j := j) (s := s) (v := i)
   have h2 := from_add g.Edges (i : Int)
   have h3 := h.lc
   rw [List.length_append]
   show _ ≤ (g.Edges.filter fun e => ilt e.From ((i + 1 : Nat) : Int)).length
   have : ((i + 1 : Nat) : Int) = (i : Int) + 1 := by omega
   rw [this]; omega
 · rcases List.mem_append.1 hv with hv | hv
   · exact h.va v hv
   · rw [List.mem_singleton.1 hv]; exact o1
 · rcases List.mem_append.1 hm with hm | hm
   · exact h.vc m hm
   · exact o2 m hm
theorem keep_len {g : GGraph} {i : Nat} {a : List Int} {b : List Bool} {c : List GMsg} (h : keepS g i a b c) (he : g.Edges.length ≤ 80) : c.length ≤ 80 :=
 Nat.le_trans h.lc (Nat.le_trans (List.length_filter_le _ _) he)
theorem stepA_keep {g : GGraph} {j : GJob} {s : GState} (hn : niceS s) : ∀ (n i : Nat) (a : List Int) (b : List Bool) (c : List GMsg), keepS g i a b c → ∀ w, stepA g j s (List.range' i n) a b c = .inr w → keepS g (i + n) w.1 w.2.1 w.2.2 := by
 intro n
 induction n with
 | zero => intro i a b c h w hw; injection hw with hw; subst hw; exact h
 | succ n ih =>
  intro i a b c h w hw
  rw [List.range'_succ, stepA] at hw
  cases hq : ieq (oneS g j s i).2.2.2 0
  · rw [hq] at hw; cases hw
  · rw [hq] at hw
    have := ih (i + 1) _ _ _ (keep_next hn h) w hw
    rwa [show i + 1 + n = i + (n + 1) by omega] at this
theorem elAt_get {α : Type} {l : List α} {i : Nat} (h : i < l.length) (d : α) : inr (i : Int) (len l) = true ∧ elAt l (i : Int) = some (l.getD i d) := by
 refine ⟨decide_eq_true ⟨by omega, by show (i : Int) < (l.length : Int); omega⟩, ?_⟩
 rw [elAt_nat, List.getElem?_eq_getElem h, List.getD_eq_getElem?_getD, List.getElem?_eq_getElem h]; rfl
theorem keep0 (g : GGraph) : keepS g 0 [] [] [] := ⟨rfl, rfl, Nat.zero_le _, fun v hv => absurd hv (List.not_mem_nil), fun m hm => absurd hm (List.not_mem_nil)⟩
theorem foldC_rise (p : Int) : ∀ (r : List GMsg) (c : GMsg) (d w : List GMsg), foldC p r c d = .inr w → (∀ x ∈ r, c.To ≤ x.To) → r.Pairwise (fun a b => a.To ≤ b.To) → (d ++ [c]).Pairwise (fun a b => a.To < b.To) →
 w.Pairwise (fun a b => a.To < b.To) ∧ ∀ t ∈ w, ∃ s ∈ d ++ c :: r, s.To = t.To
 | [], c, d, w, h, _, _, hd => by
  injection h with h
  subst h
  exact ⟨hd, fun t ht => ⟨t, ht, rfl⟩⟩
 | x :: r, c, d, w, h, hc, hr, hd => by
  rw [foldC] at h
  obtain ⟨hx, hr'⟩ := List.pairwise_cons.1 hr
  cases h1 : ieq c.To x.To
  · rw [h1, cond_false] at h
    have hne := ieq_f.1 h1
    have hlt := hc x List.mem_cons_self
    obtain ⟨q1, q2⟩ := foldC_rise p r x (d ++ [c]) w h hx hr' (by
     refine List.pairwise_append.2 ⟨hd, List.pairwise_singleton _ _, fun u hu v hv => ?_⟩
     rw [List.mem_singleton.1 hv]
     rcases List.mem_append.1 hu with hu | hu
     · have := (List.pairwise_append.1 hd).2.2 u hu c (List.mem_singleton.2 rfl); omega
     · rw [List.mem_singleton.1 hu]; omega)
    exact ⟨q1, fun t ht => by
     obtain ⟨s, hs, e⟩ := q2 t ht
     exact ⟨s, by simpa using hs, e⟩⟩
  · rw [h1, cond_true] at h
    cases h2 : ieq (foldS p c.V x.V).2 0
    · rw [h2] at h; cases h
    · rw [h2, cond_true] at h
      obtain ⟨q1, q2⟩ := foldC_rise p r (GMsg.mk c.To (foldS p c.V x.V).1) d w h (fun y hy => hc y (List.mem_cons_of_mem _ hy)) hr' (by
       obtain ⟨a, b, e⟩ := List.pairwise_append.1 hd
       exact List.pairwise_append.2 ⟨a, List.pairwise_singleton _ _, fun u hu v hv => by rw [List.mem_singleton.1 hv]; exact e u hu c (List.mem_singleton.2 rfl)⟩)
      refine ⟨q1, fun t ht => ?_⟩
      obtain ⟨s, hs, e⟩ := q2 t ht
      rcases List.mem_append.1 hs with hs | hs
      · exact ⟨s, List.mem_append_left _ hs, e⟩
      · rcases List.mem_cons.1 hs with rfl | hs
        · exact ⟨c, List.mem_append_right _ List.mem_cons_self, e⟩
        · exact ⟨s, List.mem_append_right _ (List.mem_cons_of_mem _ (List.mem_cons_of_mem _ hs)), e⟩
theorem boxS_rise {p : Int} {l : List GMsg} : (boxS p l).1.Pairwise (fun a b => a.To < b.To) ∧ ∀ t ∈ (boxS p l).1, ∃ s ∈ l, s.To = t.To := by
 have hn : (([] : List GMsg).Pairwise (fun a b => a.To < b.To)) ∧ ∀ t ∈ ([] : List GMsg), ∃ s ∈ l, s.To = t.To := ⟨List.Pairwise.nil, fun t ht => absurd ht List.not_mem_nil⟩
 have hp := sortM_perm l
 have hs : (sortM l).Pairwise (fun a b => a.To ≤ b.To) := (sortM_srt l).imp fun {a b} h => by have := leM_iff.1 h; omega
 rw [boxS]
 cases pbad p
 · rw [cond_false]
   generalize sortM l = m at *
   cases m with
   | nil => exact hn
   | cons x r =>
    rw [foldO]
    cases hq : foldC p r x [] with
    | inl e => exact hn
    | inr w =>
     obtain ⟨h1, h2⟩ := List.pairwise_cons.1 hs
     obtain ⟨q1, q2⟩ := foldC_rise p r x [] w hq h1 h2 (List.pairwise_singleton _ _)
     exact ⟨q1, fun t ht => by
      obtain ⟨s, hs, e⟩ := q2 t ht
      exact ⟨s, hp.mem_iff.1 hs, e⟩⟩
 · exact hn
theorem outs_To {g : GGraph} {v : Int} {e : GEdge} (h : e ∈ outs g v) : 0 ≤ e.To ∧ e.To < g.N := by
 rw [outs] at h
 cases hc : ieq (gcheck g) 0
 · rw [hc] at h; cases h
 · obtain ⟨h1, h2, h3, h4⟩ := gcheck_ok hc
   rw [hc] at h
   have := badE_ok (gchk_mem h4 e (List.mem_filter.1 h).1)
   omega
theorem turn_To {g : GGraph} {j : GJob} {step v val got : Int} {sm : Bool} : ∀ m ∈ (turnS g j step v val got sm).2.1, 0 ≤ m.To ∧ m.To < g.N := by
 intro m hm
 cases h : ieq (turnS g j step v val got sm).2.2.2 0
 · rw [(turn_bad h).2] at hm; exact absurd hm List.not_mem_nil
 · rcases turn_out h with hz | hz
   · rw [hz] at hm; exact absurd hm List.not_mem_nil
   · have : m.To ∈ (turnS g j step v val got sm).2.1.map (·.To) := List.mem_map.2 ⟨m, hm, rfl⟩
     rw [hz] at this
     obtain ⟨e, he, q⟩ := List.mem_map.1 this
     rw [← q]; exact outs_To he
def opS (p a b : Int) : Option Int := if p = 5 then (if 0 ≤ a ∧ 0 ≤ b ∧ a + b ≤ 9223372036854775807 then some (a + b) else none) else some (foldS p a b).1
theorem opS_comm (p a b : Int) : opS p a b = opS p b a := by
 unfold opS
 rw [foldS_comm p a b]
 split
 · rw [Int.add_comm b a]
   by_cases h : 0 ≤ a ∧ 0 ≤ b ∧ a + b ≤ 9223372036854775807
   · rw [if_pos h, if_pos ⟨h.2.1, h.1, h.2.2⟩]
   · rw [if_neg h, if_neg (fun q => h ⟨q.2.1, q.1, q.2.2⟩)]
 · rfl
theorem fold_no (p a b : Int) (hb : pbad p = false) (h5 : p ≠ 5) : (foldS p a b).2 = 0 := by
 rw [foldS, hb, ieq_f.2 h5]
 simp only [cond_false]
 cases ieq p 4
 · cases ilt b a <;> rfl
 · cases ilt a b <;> rfl
theorem opS_assoc (p a b c : Int) (hb : pbad p = false) : ((opS p a b).bind fun x => opS p x c) = (opS p b c).bind fun x => opS p a x := by
 by_cases h5 : p = 5
 · have e : ∀ x y, opS p x y = if 0 ≤ x ∧ 0 ≤ y ∧ x + y ≤ 9223372036854775807 then some (x + y) else none := fun x y => by rw [opS, if_pos h5]
   simp only [e]
   by_cases h : 0 ≤ a ∧ 0 ≤ b ∧ 0 ≤ c ∧ a + b + c ≤ 9223372036854775807
   · obtain ⟨h1, h2, h3, h4⟩ := h
     rw [if_pos ⟨h1, h2, by omega⟩, if_pos ⟨h2, h3, by omega⟩, Option.bind_some, Option.bind_some, if_pos ⟨by omega, h3, h4⟩, if_pos ⟨h1, by omega, by omega⟩, Int.add_assoc]
   · have l : ((if 0 ≤ a ∧ 0 ≤ b ∧ a + b ≤ 9223372036854775807 then some (a + b) else none).bind fun x => if 0 ≤ x ∧ 0 ≤ c ∧ x + c ≤ 9223372036854775807 then some (x + c) else none) = none := by
      by_cases q : 0 ≤ a ∧ 0 ≤ b ∧ a + b ≤ 9223372036854775807
      · rw [if_pos q, Option.bind_some, if_neg (fun q2 => h ⟨q.1, q.2.1, q2.2.1, by omega⟩)]
      · rw [if_neg q]; rfl
     have r : ((if 0 ≤ b ∧ 0 ≤ c ∧ b + c ≤ 9223372036854775807 then some (b + c) else none).bind fun x => if 0 ≤ a ∧ 0 ≤ x ∧ a + x ≤ 9223372036854775807 then some (a + x) else none) = none := by
      by_cases q : 0 ≤ b ∧ 0 ≤ c ∧ b + c ≤ 9223372036854775807
      · rw [if_pos q, Option.bind_some, if_neg (fun q2 => h ⟨q2.1, q.1, q.2.1, by omega⟩)]
      · rw [if_neg q]; rfl
     rw [l, r]
 · have e : ∀ x y, opS p x y = some (foldS p x y).1 := fun x y => by rw [opS, if_neg h5]
   simp only [e, Option.bind_some]
   rw [foldS_assoc (fold_no p a b hb h5) (fold_no p _ c hb h5) (fold_no p b c hb h5)]
abbrev Acc := Option (Option Int)
def accM (p : Int) : Acc → Acc → Acc
 | none, y => y
 | some x, none => some x
 | some x, some y => some (x.bind fun a => y.bind fun b => opS p a b)
theorem accM_none (p : Int) (x : Acc) : accM p x none = x := by cases x <;> rfl
theorem accM_comm (p : Int) (x y : Acc) : accM p x y = accM p y x := by
 cases x with
 | none => exact (accM_none p y).symm
 | some x => cases y with
  | none => rfl
  | some y =>
   cases x with
   | none => cases y <;> rfl
   | some a => cases y with
    | none => rfl
    | some b => show some (opS p a b) = some (opS p b a); rw [opS_comm]
theorem accM_assoc (p : Int) (hb : pbad p = false) (x y z : Acc) : accM p (accM p x y) z = accM p x (accM p y z) := by
 cases x with
 | none => rfl
 | some x => cases y with
  | none => rfl
  | some y => cases z with
   | none => rw [accM_none, accM_none]
   | some z =>
    cases x with
    | none => cases y <;> cases z <;> rfl
    | some a => cases y with
     | none => cases z <;> rfl
     | some b => cases z with
      | none => show some ((opS p a b).bind fun a => none) = some none; cases opS p a b <;> rfl
      | some c => show some ((opS p a b).bind fun x => opS p x c) = some ((opS p b c).bind fun x => opS p a x); rw [opS_assoc p a b c hb]
theorem accM_bad (p : Int) (x : Acc) : accM p x (some none) = some none := by
 cases x with
 | none => rfl
 | some x => cases x <;> rfl
theorem accM_bad' (p : Int) (x : Acc) : accM p (some none) x = some none := by rw [accM_comm, accM_bad]
def accOne (t : Int) (m : GMsg) : Acc := if m.To = t then some (some m.V) else none
def acc (p t : Int) : List GMsg → Acc
 | [] => none
 | m :: l => accM p (accOne t m) (acc p t l)
theorem acc_app (p t : Int) (hb : pbad p = false) : ∀ (l l' : List GMsg), acc p t (l ++ l') = accM p (acc p t l) (acc p t l')
 | [], l' => rfl
 | m :: l, l' => by
  show accM p (accOne t m) (acc p t (l ++ l')) = accM p (accM p (accOne t m) (acc p t l)) (acc p t l')
  rw [acc_app p t hb l l', accM_assoc p hb]
theorem acc_perm (p t : Int) (hb : pbad p = false) {l l' : List GMsg} (h : l.Perm l') : acc p t l = acc p t l' := by
 induction h with
 | nil => rfl
 | cons x _ ih => show accM p _ _ = accM p _ _; rw [ih]
 | swap x y l =>
  show accM p (accOne t y) (accM p (accOne t x) (acc p t l)) = accM p (accOne t x) (accM p (accOne t y) (acc p t l))
  rw [← accM_assoc p hb, accM_comm p (accOne t y), accM_assoc p hb]
 | trans _ _ i1 i2 => exact i1.trans i2
theorem acc_none (p t : Int) : ∀ {l : List GMsg}, (∀ m ∈ l, m.To ≠ t) → acc p t l = none
 | [], _ => rfl
 | m :: l, h => by
  show accM p (accOne t m) (acc p t l) = none
  rw [acc_none p t fun x hx => h x (List.mem_cons_of_mem _ hx), accOne, if_neg (h m List.mem_cons_self)]; rfl
theorem acc_some (p t : Int) : ∀ {l : List GMsg}, acc p t l ≠ none → ∃ m ∈ l, m.To = t := fun {l} h => by
 by_cases q : ∃ m ∈ l, m.To = t
 · exact q
 · exact absurd (acc_none p t fun m hm e => q ⟨m, hm, e⟩) h
theorem acc_filter (p t : Int) (f : GMsg → Bool) (hf : ∀ m, m.To = t → f m = true) : ∀ (l : List GMsg), acc p t (l.filter f) = acc p t l
 | [] => rfl
 | m :: l => by
  rw [List.filter_cons]
  by_cases h : m.To = t
  · rw [if_pos (hf m h)]
    show accM p _ _ = accM p _ _
    rw [acc_filter p t f hf l]
  · have e : acc p t (m :: l) = acc p t l := by show accM p (accOne t m) _ = _; rw [accOne, if_neg h]; rfl
    rw [e]
    split
    · have e' : acc p t (m :: l.filter f) = acc p t (l.filter f) := by show accM p (accOne t m) _ = _; rw [accOne, if_neg h]; rfl
      rw [e', acc_filter p t f hf l]
    · exact acc_filter p t f hf l
def nneg (p : Int) (m : GMsg) : Prop := p = 5 → 0 ≤ m.V
theorem fold_op {p a b : Int} (hb : pbad p = false) (h1 : p = 5 → 0 ≤ a) (h2 : p = 5 → 0 ≤ b) :
 (ieq (foldS p a b).2 0 = true ∧ opS p a b = some (foldS p a b).1 ∧ (p = 5 → 0 ≤ (foldS p a b).1)) ∨ (ieq (foldS p a b).2 0 = false ∧ (foldS p a b).2 = 8 ∧ opS p a b = none) := by
 by_cases h5 : p = 5
 · have q1 := h1 h5
   have q2 := h2 h5
   have e : foldS p a b = bif fitsB (a + b) then (a + b, 0) else (0, 8) := by
    rw [foldS, hb, ieq_iff.2 h5, addS]
    cases fitsB (a + b) <;> rfl
   rw [opS, if_pos h5, e]
   cases hf : fitsB (a + b)
   · have := fitsB_f.1 hf
     exact .inr ⟨rfl, rfl, if_neg (by omega)⟩
   · have := fitsB_iff.1 hf
     unfold i64 at this
     exact .inl ⟨rfl, if_pos ⟨q1, q2, this.2⟩, fun _ => by show 0 ≤ a + b; omega⟩
 · exact .inl ⟨ieq_iff.2 (fold_no p a b hb h5), by rw [opS, if_neg h5], fun h => absurd h h5⟩
theorem foldC_acc (p : Int) (hb : pbad p = false) : ∀ (r : List GMsg) (c : GMsg) (d : List GMsg), (∀ x ∈ r, c.To ≤ x.To) → r.Pairwise (fun a b => a.To ≤ b.To) → nneg p c → (∀ x ∈ r, nneg p x) →
 ((∃ t, acc p t (c :: r) = some none) ∧ foldC p r c d = .inl 8) ∨
 ∃ w, foldC p r c d = .inr (d ++ w) ∧ w.Pairwise (fun a b => a.To < b.To) ∧ (∀ m ∈ w, c.To ≤ m.To) ∧ (∀ t, acc p t (c :: r) ≠ some none) ∧ ∀ m, m ∈ w ↔ acc p m.To (c :: r) = some (some m.V) := by
 intro r
 induction r with
 | nil =>
  intro c d _ _ _ _
  have e : ∀ t, acc p t [c] = accOne t c := fun t => accM_none p _
  refine .inr ⟨[c], rfl, List.pairwise_singleton _ _, fun m hm => by rw [List.mem_singleton.1 hm]; omega, fun t => ?_, fun m => ?_⟩
  · rw [e, accOne]; split <;> simp
  · rw [e, accOne, List.mem_singleton]
    constructor
    · rintro rfl; rw [if_pos rfl]
    · intro h
      split at h
      · rename_i h1
        have h2 : c.V = m.V := by simpa using h
        cases m; cases c; simp_all
      · cases h
 | cons x r ih =>
  intro c d hc hr hn hnr
  obtain ⟨hx, hr'⟩ := List.pairwise_cons.1 hr
  have hnx := hnr x List.mem_cons_self
  have hnr' := fun y hy => hnr y (List.mem_cons_of_mem _ hy)
  rw [foldC]
  cases h1 : ieq c.To x.To
  · have hne := ieq_f.1 h1
    have hlt : c.To < x.To := by have := hc x List.mem_cons_self; omega
    have hno : acc p c.To (x :: r) = none := acc_none p _ fun m hm => by
     rcases List.mem_cons.1 hm with rfl | hm
     · omega
     · have := hx m hm; omega
    have hc0 : acc p c.To (c :: x :: r) = some (some c.V) := by
     show accM p (accOne c.To c) (acc p c.To (x :: r)) = _
     rw [hno, accM_none, accOne, if_pos rfl]
    have hcn : ∀ t, c.To ≠ t → acc p t (c :: x :: r) = acc p t (x :: r) := fun t ht => by
     show accM p (accOne t c) (acc p t (x :: r)) = _
     rw [accOne, if_neg ht]; rfl
    rw [cond_false]
    rcases ih x (d ++ [c]) hx hr' hnx hnr' with ⟨⟨t, ht⟩, h2⟩ | ⟨w, h2, h3, h4, h5, h6⟩
    · left
      exact ⟨⟨t, by show accM p _ (acc p t (x :: r)) = _; rw [ht, accM_bad]⟩, h2⟩
    · right
      refine ⟨c :: w, by rw [h2, List.append_assoc]; rfl, List.pairwise_cons.2 ⟨fun m hm => by have := h4 m hm; omega, h3⟩, fun m hm => ?_, fun t => ?_, fun m => ?_⟩
      · rcases List.mem_cons.1 hm with rfl | hm
        · omega
        · have := h4 m hm; omega
      · by_cases ht : c.To = t
        · subst ht; rw [hc0]; simp
        · rw [hcn t ht]; exact h5 t
      · rw [List.mem_cons]
        by_cases ht : c.To = m.To
        · rw [← ht, hc0]
          constructor
          · rintro (rfl | h)
            · rfl
            · have := h4 m h; omega
          · intro h
            have h2 : c.V = m.V := by simpa using h
            left
            cases m; cases c; simp_all
        · rw [hcn _ ht, ← h6 m]
          constructor
          · rintro (rfl | h)
            · exact absurd rfl ht
            · exact h
          · exact .inr
  · have heq := ieq_iff.1 h1
    have hpair : ∀ t, acc p t (c :: x :: r) = accM p (accM p (accOne t c) (accOne t x)) (acc p t r) := fun t => by
     show accM p (accOne t c) (accM p (accOne t x) (acc p t r)) = _
     rw [accM_assoc p hb]
    rw [cond_true]
    rcases fold_op hb hn hnx with ⟨q1, q2, q3⟩ | ⟨q1, q2, q3⟩
    · have hone : ∀ t, accM p (accOne t c) (accOne t x) = accOne t (GMsg.mk c.To (foldS p c.V x.V).1) := fun t => by
       simp only [accOne, ← heq]
       by_cases ht : c.To = t
       · rw [if_pos ht, if_pos ht, if_pos ht]
         show some (opS p c.V x.V) = _
         rw [q2]
       · rw [if_neg ht, if_neg ht, if_neg ht]; rfl
      have hall : ∀ t, acc p t (c :: x :: r) = acc p t (GMsg.mk c.To (foldS p c.V x.V).1 :: r) := fun t => by rw [hpair, hone]; rfl
      rw [q1, cond_true]
      rcases ih (GMsg.mk c.To (foldS p c.V x.V).1) d (fun y hy => by have := hx y hy; show c.To ≤ y.To; omega) hr' q3 hnr' with ⟨⟨t, ht⟩, h2⟩ | ⟨w, h2, h3, h4, h5, h6⟩
      · exact .inl ⟨⟨t, by rw [hall]; exact ht⟩, h2⟩
      · exact .inr ⟨w, h2, h3, h4, fun t => by rw [hall]; exact h5 t, fun m => by rw [hall]; exact h6 m⟩
    · left
      refine ⟨⟨c.To, ?_⟩, by rw [q1, q2]; rfl⟩
      rw [hpair, accOne, if_pos rfl, accOne, if_pos heq.symm]
      show accM p (some (opS p c.V x.V)) _ = _
      rw [q3, accM_bad']
theorem boxS_acc {p : Int} (hb : pbad p = false) {l : List GMsg} (hn : ∀ m ∈ l, nneg p m) :
 (boxS p l = ([], 8) ∧ ∃ t, acc p t l = some none) ∨ (∃ w, boxS p l = (w, 0) ∧ w.Pairwise (fun a b => a.To < b.To) ∧ (∀ t, acc p t l ≠ some none) ∧ ∀ m, m ∈ w ↔ acc p m.To l = some (some m.V)) := by
 have hp := sortM_perm l
 have hs : (sortM l).Pairwise (fun a b => a.To ≤ b.To) := (sortM_srt l).imp fun {a b} h => by have := leM_iff.1 h; omega
 have ha : ∀ t, acc p t l = acc p t (sortM l) := fun t => (acc_perm p t hb hp).symm
 have hn' : ∀ m ∈ sortM l, nneg p m := fun m hm => hn m (hp.mem_iff.1 hm)
 simp only [ha]
 rw [boxS, hb, cond_false]
 generalize sortM l = m at *
 cases m with
 | nil => exact .inr ⟨[], rfl, List.Pairwise.nil, fun t h => (nomatch h), fun m => ⟨fun h => absurd h List.not_mem_nil, fun h => (nomatch h)⟩⟩
 | cons x r =>
  obtain ⟨h1, h2⟩ := List.pairwise_cons.1 hs
  rw [foldO]
  rcases foldC_acc p hb r x [] h1 h2 (hn' x List.mem_cons_self) (fun y hy => hn' y (List.mem_cons_of_mem _ hy)) with ⟨q1, q2⟩ | ⟨w, q1, q2, q3, q4, q5⟩
  · exact .inl ⟨by rw [q2]; rfl, q1⟩
  · exact .inr ⟨w, by rw [q1]; rfl, q2, q4, q5⟩
theorem acc_rise (p : Int) : ∀ {w : List GMsg}, w.Pairwise (fun a b => a.To < b.To) → ∀ m ∈ w, acc p m.To w = some (some m.V)
 | [], _, m, h => absurd h List.not_mem_nil
 | x :: w, hw, m, h => by
  obtain ⟨h1, h2⟩ := List.pairwise_cons.1 hw
  show accM p (accOne m.To x) (acc p m.To w) = _
  rcases List.mem_cons.1 h with rfl | h
  · rw [acc_none p m.To fun y hy => by have := h1 y hy; omega, accM_none, accOne, if_pos rfl]
  · have := h1 m h
    rw [acc_rise p h2 m h, accOne, if_neg (by omega)]; rfl
theorem acc_box {p : Int} {l w : List GMsg} (hw : w.Pairwise (fun a b => a.To < b.To)) (h : ∀ t, acc p t l ≠ some none) (hm : ∀ m, m ∈ w ↔ acc p m.To l = some (some m.V)) (t : Int) : acc p t w = acc p t l := by
 by_cases q : ∃ m ∈ w, m.To = t
 · obtain ⟨m, hm1, rfl⟩ := q
   rw [acc_rise p hw m hm1, (hm m).1 hm1]
 · rw [acc_none p t fun m hm1 e => q ⟨m, hm1, e⟩]
   cases hl : acc p t l with
   | none => rfl
   | some x => cases x with
    | none => exact absurd hl (h t)
    | some v => exact absurd ⟨GMsg.mk t v, (hm _).2 hl, rfl⟩ q
noncomputable def hn85 : Hint := { H 85 with nt := 143, prot := 0 }
noncomputable def c85_0 : Code := loopOf E 85 0
noncomputable def c85_1 : Code := loopOf E 85 1
def F85_res (r1 : GState × Int) : Res := ⟨[(.agg [(.im (.lit (.int .i64 r1.1.Step))), (.own 2 (.sl (len r1.1.Vals) (flat (eInt .i64) r1.1.Vals))), (.own 4 (.sl (len r1.1.Rest) (flat eBool r1.1.Rest))), (.own 130 (.sl (len r1.1.In) (flat eGMsg r1.1.In)))]), (.one (.im (.lit (.int .i64 r1.2))))], []⟩
def F85_l0_0 (K : Nat) (a1 : GGraph) (a2 : GJob) (a3 : List GPart) : Nat → Int → Option ((Unit) ⊕ (Unit))
 | 0, _ => none
 | k + 1, v4 =>
  bif (ilt v4 (nlen (len a3))) then
   (bif (inr v4 (len a3)) then
   (elAt a3 v4).bind fun x5 =>
   bif (ieq x5.P v4) then
    (bif (inr 0 (len a3)) then
    (elAt a3 0).bind fun x6 =>
    bif (ieq x5.Step x6.Step) then
     ((F80 K a1 a2 x5).bind fun r7 =>
     bif r7 then
      (F85_l0_0 K a1 a2 a3 k (wadd .i64 v4 1))
     else
     some (.inl ()))
    else
    some (.inl ())
    else none)
   else
   some (.inl ())
   else none)
  else
  some (.inr ())
def F85_l0_0_S (a1 : GGraph) (a2 : GJob) (a3 : List GPart) (v4 : Int) : TS := .on [128, 129, 192, 193, 194, 256, 257, 258, 259, 260, 384, 385, 386, 387, 388, 1856, 1857, 1920, 1921, 1984, 1985] [(128, ⟨.one, 0, nob⟩), (129, ⟨.im, 0, (.sl (len a3) (flat eGPart a3))⟩), (192, ⟨(.box 62 2), 0, nob⟩), (193, ⟨.im, 0, (.lit (.int .i64 a1.N))⟩), (194, ⟨.im, 0, (.sl (len a1.Edges) (flat eGEdge a1.Edges))⟩), (256, ⟨(.box 64 4), 0, nob⟩), (257, ⟨.im, 0, (.lit (.int .i64 a2.Prog))⟩), (258, ⟨.im, 0, (.lit (.int .i64 a2.Source))⟩), (259, ⟨.im, 0, (.lit (.int .i64 a2.Limit))⟩), (260, ⟨.im, 0, (.lit (.int .i64 a2.Parts))⟩), (384, ⟨(.box 74 4), 0, nob⟩), (385, ⟨.im, 0, (.lit (.int .i64 0))⟩), (386, ⟨(.own 2), 0, (.sl 0 [])⟩), (387, ⟨(.own 4), 0, (.sl 0 [])⟩), (388, ⟨(.own 130), 0, (.sl 0 [])⟩), (1856, ⟨.one, 0, nob⟩), (1857, ⟨.im, 0, (.sl (len a3) (flat eGPart a3))⟩), (1920, ⟨.one, 0, nob⟩), (1921, ⟨.im, 0, (.lit (.int .i64 (nlen (len a3))))⟩), (1984, ⟨.one, 0, nob⟩), (1985, ⟨.im, 0, (.lit (.int .i64 v4))⟩)]
def F85_l0_0_X0 (a1 : GGraph) (a2 : GJob) (a3 : List GPart) (w4 : Unit) : TS := .on [384, 385, 386, 387, 388, 448, 449] [(384, ⟨(.box 74 4), 0, nob⟩), (385, ⟨.im, 0, (.lit (.int .i64 0))⟩), (386, ⟨(.own 2), 0, (.sl 0 [])⟩), (387, ⟨(.own 4), 0, (.sl 0 [])⟩), (388, ⟨(.own 130), 0, (.sl 0 [])⟩), (448, ⟨.one, 0, nob⟩), (449, ⟨.im, 0, (.lit (.int .i64 1))⟩)]
def F85_l0_0_X1 (a1 : GGraph) (a2 : GJob) (a3 : List GPart) (w4 : Unit) : TS := .on [128, 129, 192, 193, 194, 256, 257, 258, 259, 260, 384, 385, 386, 387, 388] [(128, ⟨.one, 0, nob⟩), (129, ⟨.im, 0, (.sl (len a3) (flat eGPart a3))⟩), (192, ⟨(.box 62 2), 0, nob⟩), (193, ⟨.im, 0, (.lit (.int .i64 a1.N))⟩), (194, ⟨.im, 0, (.sl (len a1.Edges) (flat eGEdge a1.Edges))⟩), (256, ⟨(.box 64 4), 0, nob⟩), (257, ⟨.im, 0, (.lit (.int .i64 a2.Prog))⟩), (258, ⟨.im, 0, (.lit (.int .i64 a2.Source))⟩), (259, ⟨.im, 0, (.lit (.int .i64 a2.Limit))⟩), (260, ⟨.im, 0, (.lit (.int .i64 a2.Parts))⟩), (384, ⟨(.box 74 4), 0, nob⟩), (385, ⟨.im, 0, (.lit (.int .i64 0))⟩), (386, ⟨(.own 2), 0, (.sl 0 [])⟩), (387, ⟨(.own 4), 0, (.sl 0 [])⟩), (388, ⟨(.own 130), 0, (.sl 0 [])⟩)]
theorem F85_l0_0_ok (K : Nat) (a1 : GGraph) (a2 : GJob) (a3 : List GPart) : ∀ (k : Nat) (v4 : Int) (r : (Unit) ⊕ (Unit)), F85_l0_0 K a1 a2 a3 k v4 = some r → (Sum.elim (fun w => LoopEv E H hn85 0 c85_0 (F85_l0_0_S a1 a2 a3 v4) .ret (F85_l0_0_X0 a1 a2 a3 w)) (fun w => LoopEv E H hn85 0 c85_0 (F85_l0_0_S a1 a2 a3 v4) (.exit 0) (F85_l0_0_X1 a1 a2 a3 w))) r := by
 intro k
 induction k with
 | zero => intro v4 r hF; cases hF
 | succ k ih =>
  intro v4 r hF
  rw [F85_l0_0] at hF
  refine cond_some hF (fun h5 hF => ?_) (fun h5 hF => ?_)
  ·
   refine cond_some hF (fun h6 hF => ?_) (fun _ hF => nomatch hF)
   refine bind_some hF (fun x7 h8 hF => ?_)
   have q17 : PQ hn85 fun l => ((tt (ilt v4 (nl a3))) :: (tt (inr v4 (len a3))) :: .sub (flat eGPart a3) (nidx v4 5) 5 [(i6 x7.P), (i6 x7.Step), (.sl (len x7.Vals) (flat (eInt .i64) x7.Vals)), (.sl (len x7.Rest) (flat eBool x7.Rest)), (.sl (len x7.In) (flat eGMsg x7.In))] :: l) := fun z => ⟨h5, h6, ⟨rfl, sub_flat0 eGPart_len h8 5 (by decide)⟩, z⟩
   refine cond_some hF (fun h9 hF => ?_) (fun h9 hF => ?_)
   ·
    refine cond_some hF (fun h10 hF => ?_) (fun _ hF => nomatch hF)
    refine bind_some hF (fun x11 h12 hF => ?_)
    have q18 : PQ hn85 fun l => ((bg (ine x7.P v4)) :: (bg (ine x7.P v4)) :: (bg (ine x7.P v4)) :: (bg (ine x7.P v4)) :: (tt (inr 0 (len a3))) :: (bg (ine x7.P v4)) :: (bg (ine x7.P v4)) :: .sub (flat eGPart a3) (nadd (nidx 0 5) 1) 1 [(i6 x11.Step)] :: (bg (ine x7.P v4)) :: (ff (ine x7.P v4)) :: l) := fun z => ⟨(bB (ine_t h9)), (bB (ine_t h9)), (bB (ine_t h9)), (bB (ine_t h9)), h10, (bB (ine_t h9)), (bB (ine_t h9)), ⟨rfl, sub_flat eGPart_len h12 1 1 (by decide)⟩, (bB (ine_t h9)), (ine_t h9), z⟩
    refine cond_some hF (fun h13 hF => ?_) (fun h13 hF => ?_)
    ·
     refine bind_some hF (fun r14 h15 hF => ?_)
     have q19 : PQ hn85 fun l => ((bg (ine x7.Step x11.Step)) :: (bg (ine x7.Step x11.Step)) :: (bg (ine x7.Step x11.Step)) :: (bg (ine x7.Step x11.Step)) :: .call 80 [.agg (eGGraph a1), .agg (eGJob a2), .agg (eGPart x7)] (F80_res r14) :: (ff (leadsAny (Res.mk [(.one (.im (.lit (.bool r14))))] []))) :: (bg (ine x7.Step x11.Step)) :: (ff (ine x7.Step x11.Step)) :: l) := fun z => ⟨(bB (ine_t h13)), (bB (ine_t h13)), (bB (ine_t h13)), (bB (ine_t h13)), (F80_ok K a1 a2 x7 _ h15), lk, (bB (ine_t h13)), (ine_t h13), z⟩
     refine cond_some hF (fun h16 hF => ?_) (fun h16 hF => ?_)
     ·
      have pz : HA hn85 [(ff (bnot r14)), .int (wadd .i64 v4 1) (wadd .i64 v4 1)] := ⟨(bnot_t h16), rfl, trivial⟩
      have h0 := ih _ _ hF
      have hn := lN hn85 0 c85_0 (F85_l0_0_S a1 a2 a3 v4) (F85_l0_0_S a1 a2 a3 (wadd .i64 v4 1)) (q17 (q18 (q19 pz)))
      cases r with
      | inl w => exact hn _ _ h0
      | inr w => exact hn _ _ h0
     obtain rfl := sj hF
     have pz : HA hn85 [(tt (bnot r14))] := ⟨(bnot_f h16), trivial⟩
     exact lE hn85 0 c85_0 (F85_l0_0_S a1 a2 a3 v4) (F85_l0_0_X0 a1 a2 a3 ()) .ret (q17 (q18 (q19 pz)))
    obtain rfl := sj hF
    have pz : HA hn85 [(bf (ine x7.Step x11.Step)), (bf (ine x7.Step x11.Step)), (bf (ine x7.Step x11.Step)), (bf (ine x7.Step x11.Step)), (bf (ine x7.Step x11.Step)), (tt (ine x7.Step x11.Step)), (tt true)] := ⟨(bA (ine_f h13)), (bA (ine_f h13)), (bA (ine_f h13)), (bA (ine_f h13)), (bA (ine_f h13)), (ine_f h13), rfl, trivial⟩
    exact lE hn85 0 c85_0 (F85_l0_0_S a1 a2 a3 v4) (F85_l0_0_X0 a1 a2 a3 ()) .ret (q17 (q18 pz))
   obtain rfl := sj hF
   have pz : HA hn85 [(bf (ine x7.P v4)), (bf (ine x7.P v4)), (bf (ine x7.P v4)), (bf (ine x7.P v4)), (bf (ine x7.P v4)), (bf (ine x7.P v4)), (bf (ine x7.P v4)), (tt (ine x7.P v4)), bt, bt, bt, bt, bt, (tt true), (tt true)] := ⟨(bA (ine_f h9)), (bA (ine_f h9)), (bA (ine_f h9)), (bA (ine_f h9)), (bA (ine_f h9)), (bA (ine_f h9)), (bA (ine_f h9)), (ine_f h9), br, br, br, br, br, rfl, rfl, trivial⟩
   exact lE hn85 0 c85_0 (F85_l0_0_S a1 a2 a3 v4) (F85_l0_0_X0 a1 a2 a3 ()) .ret (q17 pz)
  obtain rfl := sj hF
  have pz : HA hn85 [(ff (ilt v4 (nl a3)))] := ⟨h5, trivial⟩
  exact lE hn85 0 c85_0 (F85_l0_0_S a1 a2 a3 v4) (F85_l0_0_X1 a1 a2 a3 ()) (.exit 0) pz
def F85_l1_1 (K : Nat) (a1 : GGraph) (a2 : GJob) (a3 : List GPart) (x4 : GPart) : Nat → List Int → List Bool → List GMsg → List Int → Int → Option (List Int × List Bool × List GMsg)
 | 0, _, _, _, _, _ => none
 | k + 1, v5, v6, v7, v8, v9 =>
  bif (ilt v9 a1.N) then
   (bif (izero a2.Parts) then none else
   bif (inr (wrem v9 a2.Parts) (len a3)) then
   (elAt a3 (wrem v9 a2.Parts)).bind fun x10 =>
   bif (inr (wquo .i64 v9 a2.Parts) (len x10.Vals)) then
   (elAt x10.Vals (wquo .i64 v9 a2.Parts)).bind fun x11 =>
   bif (apok (len v5) 1 8) then
   bif (inr (wquo .i64 v9 a2.Parts) (len x10.Rest)) then
   (elAt x10.Rest (wquo .i64 v9 a2.Parts)).bind fun x12 =>
   bif (apok (len v6) 1 1) then
   bif (inr x10.P (len v8)) then
   (elAt v8 x10.P).bind fun x13 =>
   bif (ilt x13 (nlen (len x10.In))) then
    (bif (inr x13 (len x10.In)) then
    (elAt x10.In x13).bind fun x14 =>
    bif (ieq x14.To v9) then
     (bif (apok (len v7) 1 16) then
     F85_l1_1 K a1 a2 a3 x4 k (appL v5 [x11]) (appL v6 [x12]) (appL v7 [x14]) (putAt v8 x10.P (wadd .i64 x13 1)) (wadd .i64 v9 1)
     else none)
    else
    F85_l1_1 K a1 a2 a3 x4 k (appL v5 [x11]) (appL v6 [x12]) v7 v8 (wadd .i64 v9 1)
    else none)
   else
   F85_l1_1 K a1 a2 a3 x4 k (appL v5 [x11]) (appL v6 [x12]) v7 v8 (wadd .i64 v9 1)
   else none
   else none
   else none
   else none
   else none
   else none)
  else
  some (v5, (v6, v7))
def F85_l1_1_S (a1 : GGraph) (a2 : GJob) (a3 : List GPart) (x4 : GPart) (v5 : List Int) (v6 : List Bool) (v7 : List GMsg) (v8 : List Int) (v9 : Int) : TS := .on [128, 129, 256, 257, 258, 259, 260, 384, 385, 386, 387, 388, 704, 705, 706, 707, 708, 768, 769, 4288, 4289, 4352, 4353] [(128, ⟨.one, 0, nob⟩), (129, ⟨.im, 0, (.sl (len a3) (flat eGPart a3))⟩), (256, ⟨(.box 64 4), 0, nob⟩), (257, ⟨.im, 0, (.lit (.int .i64 a2.Prog))⟩), (258, ⟨.im, 0, (.lit (.int .i64 a2.Source))⟩), (259, ⟨.im, 0, (.lit (.int .i64 a2.Limit))⟩), (260, ⟨.im, 0, (.lit (.int .i64 a2.Parts))⟩), (384, ⟨(.box 74 4), 0, nob⟩), (385, ⟨.im, 0, (.lit (.int .i64 0))⟩), (386, ⟨(.own 2), 0, (.sl 0 [])⟩), (387, ⟨(.own 4), 0, (.sl 0 [])⟩), (388, ⟨(.own 130), 0, (.sl 0 [])⟩), (704, ⟨(.box 74 4), 0, nob⟩), (705, ⟨.im, 0, (.lit (.int .i64 x4.Step))⟩), (706, ⟨(.own 2), 0, (.sl (len v5) (flat (eInt .i64) v5))⟩), (707, ⟨(.own 4), 0, (.sl (len v6) (flat eBool v6))⟩), (708, ⟨(.own 130), 0, (.sl (len v7) (flat eGMsg v7))⟩), (768, ⟨.one, 0, nob⟩), (769, ⟨(.own 3), 0, (.sl (len v8) (flat (eInt .i64) v8))⟩), (4288, ⟨.one, 0, nob⟩), (4289, ⟨.im, 0, (.lit (.int .i64 a1.N))⟩), (4352, ⟨.one, 0, nob⟩), (4353, ⟨.im, 0, (.lit (.int .i64 v9))⟩)]
def F85_l1_1_X0 (a1 : GGraph) (a2 : GJob) (a3 : List GPart) (x4 : GPart) (w5 : List Int × List Bool × List GMsg) : TS := .on [384, 385, 386, 387, 388, 704, 705, 706, 707, 708] [(384, ⟨(.box 74 4), 0, nob⟩), (385, ⟨.im, 0, (.lit (.int .i64 0))⟩), (386, ⟨(.own 2), 0, (.sl 0 [])⟩), (387, ⟨(.own 4), 0, (.sl 0 [])⟩), (388, ⟨(.own 130), 0, (.sl 0 [])⟩), (704, ⟨(.box 74 4), 0, nob⟩), (705, ⟨.im, 0, (.lit (.int .i64 x4.Step))⟩), (706, ⟨(.own 2), 0, (.sl (len w5.1) (flat (eInt .i64) w5.1))⟩), (707, ⟨(.own 4), 0, (.sl (len w5.2.1) (flat eBool w5.2.1))⟩), (708, ⟨(.own 130), 0, (.sl (len w5.2.2) (flat eGMsg w5.2.2))⟩)]
theorem F85_l1_1_ok (K : Nat) (a1 : GGraph) (a2 : GJob) (a3 : List GPart) (x4 : GPart) : ∀ (k : Nat) (v5 : List Int) (v6 : List Bool) (v7 : List GMsg) (v8 : List Int) (v9 : Int) (r : List Int × List Bool × List GMsg), F85_l1_1 K a1 a2 a3 x4 k v5 v6 v7 v8 v9 = some r → LoopEv E H hn85 2 c85_1 (F85_l1_1_S a1 a2 a3 x4 v5 v6 v7 v8 v9) (.exit 2) (F85_l1_1_X0 a1 a2 a3 x4 r) := by
 intro k
 induction k with
 | zero => intro v5 v6 v7 v8 v9 r hF; cases hF
 | succ k ih =>
  intro v5 v6 v7 v8 v9 r hF
  rw [F85_l1_1] at hF
  refine cond_some hF (fun h10 hF => ?_) (fun h10 hF => ?_)
  ·
   refine cond_some hF (fun _ hF => nomatch hF) (fun h11 hF => ?_)
   refine cond_some hF (fun h12 hF => ?_) (fun _ hF => nomatch hF)
   refine bind_some hF (fun x13 h14 hF => ?_)
   refine cond_some hF (fun h15 hF => ?_) (fun _ hF => nomatch hF)
   refine bind_some hF (fun x16 h17 hF => ?_)
   refine cond_some hF (fun h18 hF => ?_) (fun _ hF => nomatch hF)
   refine cond_some hF (fun h19 hF => ?_) (fun _ hF => nomatch hF)
   refine bind_some hF (fun x20 h21 hF => ?_)
   refine cond_some hF (fun h22 hF => ?_) (fun _ hF => nomatch hF)
   refine cond_some hF (fun h23 hF => ?_) (fun _ hF => nomatch hF)
   refine bind_some hF (fun x24 h25 hF => ?_)
   have q32 : PQ hn85 fun l => ((tt (ilt v9 a1.N)) :: (ff (izero a2.Parts)) :: .int (wrem v9 a2.Parts) (wrem v9 a2.Parts) :: (tt (inr (wrem v9 a2.Parts) (len a3))) :: .sub (flat eGPart a3) (nidx (wrem v9 a2.Parts) 5) 5 [(i6 x13.P), (i6 x13.Step), (.sl (len x13.Vals) (flat (eInt .i64) x13.Vals)), (.sl (len x13.Rest) (flat eBool x13.Rest)), (.sl (len x13.In) (flat eGMsg x13.In))] :: (ff (izero a2.Parts)) :: .int (wquo .i64 v9 a2.Parts) (wquo .i64 v9 a2.Parts) :: (tt (inr (wquo .i64 v9 a2.Parts) (len x13.Vals))) :: .sub (flat (eInt .i64) x13.Vals) (nidx (wquo .i64 v9 a2.Parts) 1) 1 [(i6 x16)] :: (tt (leqm [(i6 x16)] 1 1)) :: (tt (apok (len v5) 1 8)) :: .sl (nadd (len v5) 1) (lapp (flat (eInt .i64) v5) [(i6 x16)]) (len (α := Int) (appL v5 [x16])) (flat (eInt .i64) (appL v5 [x16])) :: (ff (izero a2.Parts)) :: .int (wquo .i64 v9 a2.Parts) (wquo .i64 v9 a2.Parts) :: (tt (inr (wquo .i64 v9 a2.Parts) (len x13.Rest))) :: .sub (flat eBool x13.Rest) (nidx (wquo .i64 v9 a2.Parts) 1) 1 [(.lit (.bool x20))] :: (tt (leqm [(.lit (.bool x20))] 1 1)) :: (tt (apok (len v6) 1 1)) :: .sl (nadd (len v6) 1) (lapp (flat eBool v6) [(.lit (.bool x20))]) (len (α := Bool) (appL v6 [x20])) (flat eBool (appL v6 [x20])) :: (tt (inr x13.P (len v8))) :: .sub (flat (eInt .i64) v8) (nidx x13.P 1) 1 [(i6 x24)] :: .int (nl x13.In) (nl x13.In) :: l) := fun z => ⟨h10, h11, rfl, h12, ⟨rfl, sub_flat0 eGPart_len h14 5 (by decide)⟩, h11, rfl, h15, ⟨rfl, sub_flat0 (eInt_len _) h17 1 (by decide)⟩, rfl, h18, (app_ok (enc := (eInt .i64)) (v5 : List Int) [x16]), h11, rfl, h19, ⟨rfl, sub_flat0 eBool_len h21 1 (by decide)⟩, rfl, h22, (app_ok (enc := eBool) (v6 : List Bool) [x20]), h23, ⟨rfl, sub_flat0 (eInt_len _) h25 1 (by decide)⟩, rfl, z⟩
   refine cond_some hF (fun h26 hF => ?_) (fun h26 hF => ?_)
   ·
    refine cond_some hF (fun h27 hF => ?_) (fun _ hF => nomatch hF)
    refine bind_some hF (fun x28 h29 hF => ?_)
    have q33 : PQ hn85 fun l => ((bh (ilt x24 (nl x13.In))) :: (bh (ilt x24 (nl x13.In))) :: (bh (ilt x24 (nl x13.In))) :: (bh (ilt x24 (nl x13.In))) :: (tt (inr x24 (len x13.In))) :: (bh (ilt x24 (nl x13.In))) :: (bh (ilt x24 (nl x13.In))) :: .sub (flat eGMsg x13.In) (nadd (nidx x24 2) 0) 1 [(i6 x28.To)] :: (bh (ilt x24 (nl x13.In))) :: (bh (ilt x24 (nl x13.In))) :: (tt (ilt x24 (nl x13.In))) :: l) := fun z => ⟨(bC h26), (bC h26), (bC h26), (bC h26), h27, (bC h26), (bC h26), ⟨rfl, sub_flat eGMsg_len h29 0 1 (by decide)⟩, (bC h26), (bC h26), h26, z⟩
    refine cond_some hF (fun h30 hF => ?_) (fun h30 hF => ?_)
    ·
     refine cond_some hF (fun h31 hF => ?_) (fun _ hF => nomatch hF)
     have pz : HA hn85 [(tt (ieq x28.To v9)), (tt (inr x24 (len x13.In))), .sub (flat eGMsg x13.In) (nidx x24 2) 2 [(i6 x28.To), (i6 x28.V)], (tt (leqm [(i6 x28.To), (i6 x28.V)] 1 2)), (tt (apok (len v7) 1 16)), .sl (nadd (len v7) 1) (lapp (flat eGMsg v7) [(i6 x28.To), (i6 x28.V)]) (len (α := GMsg) (appL v7 [x28])) (flat eGMsg (appL v7 [x28])), (tt (inr x13.P (len v8))), .sub (flat (eInt .i64) v8) (nidx x13.P 1) 1 [(i6 x24)], .int (wadd .i64 x24 1) (wadd .i64 x24 1), (tt (inr x13.P (len v8))), (tt (lfits (nidx x13.P 1) 1 (flat (eInt .i64) v8))), .sl (len v8) (lset (flat (eInt .i64) v8) (nidx x13.P 1) [(i6 (wadd .i64 x24 1))]) (len (α := Int) (putAt v8 x13.P (wadd .i64 x24 1))) (flat (eInt .i64) (putAt v8 x13.P (wadd .i64 x24 1))), .int (wadd .i64 v9 1) (wadd .i64 v9 1)] := ⟨h30, h27, ⟨rfl, sub_flat0 eGMsg_len h29 2 (by decide)⟩, rfl, h31, (app_ok (enc := eGMsg) (v7 : List GMsg) [x28]), h23, ⟨rfl, sub_flat0 (eInt_len _) h25 1 (by decide)⟩, rfl, h23, (lfits_flat0 (eInt_len _) h25 _ (by decide)), (set_ok0 (eInt_len _) h25 _ (by simp) rfl), rfl, trivial⟩
     have h0 := ih _ _ _ _ _ _ hF
     have hn := lN hn85 2 c85_1 (F85_l1_1_S a1 a2 a3 x4 v5 v6 v7 v8 v9) (F85_l1_1_S a1 a2 a3 x4 (appL v5 [x16]) (appL v6 [x20]) (appL v7 [x28]) (putAt v8 x13.P (wadd .i64 x24 1)) (wadd .i64 v9 1)) (q32 (q33 pz))
     exact hn _ _ h0
    have pz : HA hn85 [(ff (ieq x28.To v9)), .int (wadd .i64 v9 1) (wadd .i64 v9 1)] := ⟨h30, rfl, trivial⟩
    have h0 := ih _ _ _ _ _ _ hF
    have hn := lN hn85 2 c85_1 (F85_l1_1_S a1 a2 a3 x4 v5 v6 v7 v8 v9) (F85_l1_1_S a1 a2 a3 x4 (appL v5 [x16]) (appL v6 [x20]) v7 v8 (wadd .i64 v9 1)) (q32 (q33 pz))
    exact hn _ _ h0
   have pz : HA hn85 [(bk (ilt x24 (nl x13.In))), (bk (ilt x24 (nl x13.In))), (bk (ilt x24 (nl x13.In))), (bk (ilt x24 (nl x13.In))), (bk (ilt x24 (nl x13.In))), (bk (ilt x24 (nl x13.In))), (bk (ilt x24 (nl x13.In))), (bk (ilt x24 (nl x13.In))), (ff (ilt x24 (nl x13.In))), (ff false), .int (wadd .i64 v9 1) (wadd .i64 v9 1)] := ⟨(bC h26), (bC h26), (bC h26), (bC h26), (bC h26), (bC h26), (bC h26), (bC h26), h26, rfl, rfl, trivial⟩
   have h0 := ih _ _ _ _ _ _ hF
   have hn := lN hn85 2 c85_1 (F85_l1_1_S a1 a2 a3 x4 v5 v6 v7 v8 v9) (F85_l1_1_S a1 a2 a3 x4 (appL v5 [x16]) (appL v6 [x20]) v7 v8 (wadd .i64 v9 1)) (q32 pz)
   exact hn _ _ h0
  obtain rfl := sj hF
  have pz : HA hn85 [(ff (ilt v9 a1.N))] := ⟨h10, trivial⟩
  exact lE hn85 2 c85_1 (F85_l1_1_S a1 a2 a3 x4 v5 v6 v7 v8 v9) (F85_l1_1_X0 a1 a2 a3 x4 (v5, (v6, v7))) (.exit 2) pz
def F85 (K : Nat) (a1 : GGraph) (a2 : GJob) (a3 : List GPart) : Option (GState × Int) :=
 (F94 K a1 a2).bind fun r4 =>
 bif (ieq r4 0) then
  (bif (ieq (nlen (len a3)) a2.Parts) then
   ((F85_l0_0 K a1 a2 a3 K 0).bind fun y5 =>
   Sum.elim (fun w6 =>
    some ((GState.mk 0 [] [] []), 1))
    (fun w7 =>
    bif (inr 0 (len a3)) then
    (elAt a3 0).bind fun x8 =>
    bif (mkok a2.Parts a2.Parts 8) then
    (F85_l1_1 K a1 a2 a3 x8 K [] [] [] (repL (α := Int) a2.Parts 0) 0).bind fun w9 =>
    some ((GState.mk x8.Step w9.1 w9.2.1 w9.2.2), 0)
    else none
    else none) y5)
  else
  some ((GState.mk 0 [] [] []), 1))
 else
 some ((GState.mk 0 [] [] []), r4)
theorem F85_ok (K : Nat) (a1 : GGraph) (a2 : GJob) (a3 : List GPart) (r : GState × Int) (hF : F85 K a1 a2 a3 = some r) : Evt E H 85 [.agg (eGGraph a1), .agg (eGJob a2), .one (.sl (len a3) (flat eGPart a3))] (F85_res r) := by
 rw [F85] at hF
 refine bind_some hF (fun r4 h5 hF => ?_)
 refine cond_some hF (fun h6 hF => ?_) (fun h6 hF => ?_)
 ·
  have q18 : PQ hn85 fun l => (.call 94 [.agg (eGGraph a1), .agg (eGJob a2)] (F94_res r4) :: (ff (leadsAny (Res.mk [(.one (.im (i6 r4)))] []))) :: (ff (ine r4 0)) :: .int (nl a3) (nl a3) :: l) := fun z => ⟨(F94_ok K a1 a2 _ h5), lk, (ine_t h6), rfl, z⟩
  refine cond_some hF (fun h7 hF => ?_) (fun h7 hF => ?_)
  ·
   refine bind_some hF (fun y9 h8 hF => ?_)
   refine sum_some hF (fun w10 hx hF => ?_) (fun w11 hx hF => ?_)
   ·
    subst hx
    obtain rfl := sj hF
    have pz : HA hn85 [(ff (ine (nl a3) a2.Parts)), .int (nl a3) (nl a3), .loop 0 c85_0 (F85_l0_0_S a1 a2 a3 0) .ret (F85_l0_0_X0 a1 a2 a3 w10)] := ⟨(ine_t h7), rfl, (F85_l0_0_ok K a1 a2 a3 K 0 _ h8), trivial⟩
    exact fpC hn85 (r := F85_res ((GState.mk 0 [] [] []), 1)) (q18 pz)
   subst hx
   refine cond_some hF (fun h12 hF => ?_) (fun _ hF => nomatch hF)
   refine bind_some hF (fun x13 h14 hF => ?_)
   refine cond_some hF (fun h15 hF => ?_) (fun _ hF => nomatch hF)
   refine bind_some hF (fun w17 h16 hF => ?_)
   obtain rfl := sj hF
   have pz : HA hn85 [(ff (ine (nl a3) a2.Parts)), .int (nl a3) (nl a3), .loop 0 c85_0 (F85_l0_0_S a1 a2 a3 0) (.exit 0) (F85_l0_0_X1 a1 a2 a3 w11), (tt (inr 0 (len a3))), .sub (flat eGPart a3) (nadd (nidx 0 5) 1) 1 [(i6 x13.Step)], (tt (mkok a2.Parts a2.Parts 8)), .sl (nint a2.Parts) (lrep a2.Parts [(i6 0)]) (len (α := Int) (repL (α := Int) a2.Parts 0)) (flat (eInt .i64) (repL (α := Int) a2.Parts 0)), .loop 2 c85_1 (F85_l1_1_S a1 a2 a3 x13 [] [] [] (repL (α := Int) a2.Parts 0) 0) (.exit 2) (F85_l1_1_X0 a1 a2 a3 x13 w17)] := ⟨(ine_t h7), rfl, (F85_l0_0_ok K a1 a2 a3 K 0 _ h8), h12, ⟨rfl, sub_flat eGPart_len h14 1 1 (by decide)⟩, h15, (rep_okC (enc := (eInt .i64)) (n := a2.Parts) (x := 0) rfl), (F85_l1_1_ok K a1 a2 a3 x13 K [] [] [] (repL (α := Int) a2.Parts 0) 0 _ h16), trivial⟩
   exact fpC hn85 (r := F85_res ((GState.mk x13.Step w17.1 w17.2.1 w17.2.2), 0)) (q18 pz)
  obtain rfl := sj hF
  have pz : HA hn85 [(tt (ine (nl a3) a2.Parts))] := ⟨(ine_f h7), trivial⟩
  exact fpC hn85 (r := F85_res ((GState.mk 0 [] [] []), 1)) (q18 pz)
 obtain rfl := sj hF
 have pz : HA hn85 [.call 94 [.agg (eGGraph a1), .agg (eGJob a2)] (F94_res r4), (ff (leadsAny (Res.mk [(.one (.im (i6 r4)))] []))), (tt (ine r4 0))] := ⟨(F94_ok K a1 a2 _ h5), lk, (ine_f h6), trivial⟩
 exact fpC hn85 (r := F85_res ((GState.mk 0 [] [] []), r4)) pz
def F86_l0_0 (K : Nat) (a1 : GGraph) (a2 : GJob) (a3 : List GPart) : Nat → Int → Option ((Unit) ⊕ (Unit))
 | 0, _ => none
 | k + 1, v4 =>
  bif (ilt v4 (nlen (len a3))) then
   (bif (inr v4 (len a3)) then
   (elAt a3 v4).bind fun x5 =>
   bif (ieq x5.P v4) then
    (bif (inr 0 (len a3)) then
    (elAt a3 0).bind fun x6 =>
    bif (ieq x5.Step x6.Step) then
     ((F81 K a1 a2 x5).bind fun r7 =>
     bif r7 then
      (F86_l0_0 K a1 a2 a3 k (wadd .i64 v4 1))
     else
     some (.inl ()))
    else
    some (.inl ())
    else none)
   else
   some (.inl ())
   else none)
  else
  some (.inr ())
def F86_l2_2 (K : Nat) (a1 : GGraph) (a2 : GJob) (a3 : List GPart) (x4 : GPart) (v5 : List Int) (v6 : List Bool) (v7 : Int) (x8 : GPart) (x9 : Int) (x10 : Bool) : Nat → List GMsg → Int → Option (List GMsg)
 | 0, _, _ => none
 | k + 1, v11, v12 =>
  bif (ilt v12 (nlen (len x8.In))) then
   (bif (inr v12 (len x8.In)) then
   (elAt x8.In v12).bind fun x13 =>
   bif (ieq x13.To v7) then
    (bif (apok (len v11) 1 16) then
    F86_l2_2 K a1 a2 a3 x4 v5 v6 v7 x8 x9 x10 k (appL v11 [x13]) (wadd .i64 v12 1)
    else none)
   else
   F86_l2_2 K a1 a2 a3 x4 v5 v6 v7 x8 x9 x10 k v11 (wadd .i64 v12 1)
   else none)
  else
  some v11
def F86_l1_1 (K : Nat) (a1 : GGraph) (a2 : GJob) (a3 : List GPart) (x4 : GPart) : Nat → List Int → List Bool → List GMsg → Int → Option (List Int × List Bool × List GMsg)
 | 0, _, _, _, _ => none
 | k + 1, v5, v6, v7, v8 =>
  bif (ilt v8 a1.N) then
   (bif (izero a2.Parts) then none else
   bif (inr (wrem v8 a2.Parts) (len a3)) then
   (elAt a3 (wrem v8 a2.Parts)).bind fun x9 =>
   bif (inr (wquo .i64 v8 a2.Parts) (len x9.Vals)) then
   (elAt x9.Vals (wquo .i64 v8 a2.Parts)).bind fun x10 =>
   bif (apok (len v5) 1 8) then
   bif (inr (wquo .i64 v8 a2.Parts) (len x9.Rest)) then
   (elAt x9.Rest (wquo .i64 v8 a2.Parts)).bind fun x11 =>
   bif (apok (len v6) 1 1) then
   (F86_l2_2 K a1 a2 a3 x4 v5 v6 v8 x9 x10 x11 K v7 0).bind fun w12 =>
   F86_l1_1 K a1 a2 a3 x4 k (appL v5 [x10]) (appL v6 [x11]) w12 (wadd .i64 v8 1)
   else none
   else none
   else none
   else none
   else none)
  else
  some (v5, (v6, v7))
def F86 (K : Nat) (a1 : GGraph) (a2 : GJob) (a3 : List GPart) : Option (GState × Int) :=
 (F59 K a1 a2).bind fun r4 =>
 bif (ieq r4 0) then
  (bif (ieq (nlen (len a3)) a2.Parts) then
   ((F86_l0_0 K a1 a2 a3 K 0).bind fun y5 =>
   Sum.elim (fun w6 =>
    some ((GState.mk 0 [] [] []), 1))
    (fun w7 =>
    bif (inr 0 (len a3)) then
    (elAt a3 0).bind fun x8 =>
    (F86_l1_1 K a1 a2 a3 x8 K [] [] [] 0).bind fun w9 =>
    some ((GState.mk x8.Step w9.1 w9.2.1 w9.2.2), 0)
    else none) y5)
  else
  some ((GState.mk 0 [] [] []), 1))
 else
 some ((GState.mk 0 [] [] []), r4)
def noP : GPart := GPart.mk 0 0 [] [] []
def noS : GState := GState.mk 0 [] [] []
def partAt (l : List GPart) (j : GJob) (v : Nat) : GPart := l.getD (v % j.Parts.toNat) noP
def joinS (g : GGraph) (j : GJob) (l : List GPart) : GState :=
 GState.mk (l.getD 0 noP).Step ((List.range g.N.toNat).map fun v => (partAt l j v).Vals.getD (v / j.Parts.toNat) 0) ((List.range g.N.toNat).map fun v => (partAt l j v).Rest.getD (v / j.Parts.toNat) false)
  ((List.range g.N.toNat).flatMap fun (v : Nat) => (partAt l j v).In.filter fun m => ieq m.To (v : Int))
def okAll (g : GGraph) (j : GJob) (st : Int) : Nat → List GPart → Bool
 | _, [] => true
 | i, x :: r => ieq x.P (i : Int) && (ieq x.Step st && (partRight g j x && okAll g j st (i + 1) r))
def joinR (g : GGraph) (j : GJob) (l : List GPart) : GState × Int := bif ieq (jcheck g j) 0 then (bif ieq (l.length : Int) j.Parts then (bif okAll g j (l.getD 0 noP).Step 0 l then (joinS g j l, 0) else (noS, 1)) else (noS, 1)) else (noS, jcheck g j)
theorem okAll_get {g : GGraph} {j : GJob} {st : Int} : ∀ {l : List GPart} {i k : Nat}, okAll g j st i l = true → k < l.length → (l.getD k noP).P = ((i + k : Nat) : Int) ∧ (l.getD k noP).Step = st ∧ partRight g j (l.getD k noP) = true
 | [], i, k, _, hk => by simp at hk
 | x :: r, i, k, h, hk => by
  simp only [okAll, Bool.and_eq_true, ieq_iff] at h
  obtain ⟨h1, h2, h3, h4⟩ := h
  cases k with
  | zero => exact ⟨by simpa using h1, by simpa using h2, by simpa using h3⟩
  | succ k =>
   have := okAll_get (k := k) h4 (by simp only [List.length_cons] at hk; omega)
   simp only [List.getD_cons_succ]
   exact ⟨by rw [this.1]; omega, this.2⟩
theorem chk_go {K : Nat} {g : GGraph} {j : GJob} {l : List GPart} {x0 : GPart} (h0 : l.getD 0 noP = x0) (hl : 0 < l.length) (F : Nat → GGraph → GJob → GPart → Option Bool) (hF : ∀ x ∈ l, F K g j x = some (partRight g j x)) :
 ∀ (r : List GPart) (i : Nat), l.drop i = r → goI (fun i x (_ : Unit) c => bif ieq x.P (i : Int) then (bif inr 0 (len l) then (elAt l 0).bind fun y => bif ieq x.Step y.Step then ((F K g j x).bind fun q => bif q then c () else some (.inl ())) else some (.inl ()) else none) else some (.inl ())) (fun _ => some (.inr ())) i r () = some (sumU (okAll g j x0.Step i r)) := by
 intro r
 induction r with
 | nil => intro i _; rfl
 | cons x r ih =>
  intro i hr
  obtain ⟨n1, n2, hi⟩ := prev_next hr
  have hx : x ∈ l := by
   have : x ∈ l.drop i := by rw [hr]; exact List.mem_cons_self
   exact List.mem_of_mem_drop this
  have e1 : inr 0 (len l) = true := decide_eq_true ⟨by omega, by show (0 : Int) < (l.length : Int); omega⟩
  have e2 : elAt l 0 = some x0 := by
   have := (getD_at (l := l) noP hl).2
   rw [h0] at this; exact this
  rw [goI, okAll, ih (i + 1) n2, e1, e2, hF x hx, cond_true, Option.bind_some, Option.bind_some]
  cases ieq x.P (i : Int) <;> cases ieq x.Step x0.Step <;> cases partRight g j x <;> rfl
theorem slot_all : ∀ parts < 7, 0 < parts → ∀ n < 25, ∀ v < n, v / parts < (n + parts - 1 - v % parts) / parts ∧ ((List.range n).filter fun w => w % parts == v % parts)[v / parts]? = some v := by decide +kernel
theorem slot_verts {n parts : Nat} (h1 : 0 < parts) (h2 : parts < 7) (hn : n < 25) {v : Nat} (hv : v < n) : v / parts < (vertsN n parts ((v % parts : Nat) : Int)).length ∧ (vertsN n parts ((v % parts : Nat) : Int))[v / parts]? = some v := by
 obtain ⟨a, b⟩ := slot_all parts h2 h1 n hn v hv
 have e : vertsN n parts ((v % parts : Nat) : Int) = (List.range n).filter fun w => w % parts == v % parts := by
  rw [vertsN]
  refine List.filter_congr fun w _ => ?_
  rw [Bool.eq_iff_iff, ieq_iff, beq_iff_eq]; omega
 exact ⟨by rw [vertsN_len h1 h2 hn (Nat.mod_lt _ h1)]; exact a, by rw [e]; exact b⟩
theorem partRight_ok {g : GGraph} {j : GJob} {x : GPart} (h : partRight g j x = true) : ieq (jcheck g j) 0 = true ∧ 0 ≤ x.P ∧ x.P < j.Parts ∧ 0 ≤ x.Step ∧ x.Step ≤ 40 ∧ (x.Vals.length : Int) = countS g j x.P ∧ (x.Rest.length : Int) = countS g j x.P ∧ inOkS g.N j.Parts x.P (-1) x.In = true := by
 simp only [partRight, Bool.and_eq_true, ile_iff, ilt_iff, ieq_iff] at h
 obtain ⟨h1, h2, h3, h4, h5, h6, h7, h8⟩ := h
 exact ⟨ieq_iff.2 h1, h2, h3, h4, h5, h6, h7, h8⟩
theorem inOkS_ok {n parts p : Int} : ∀ {l : List GMsg} {v : Int}, inOkS n parts p v l = true → l.Pairwise (fun a b => a.To < b.To) ∧ (∀ m ∈ l, v < m.To ∧ m.To < n ∧ m.To % parts = p)
 | [], v, _ => ⟨List.Pairwise.nil, fun m h => (nomatch h)⟩
 | m :: l, v, h => by
  simp only [inOkS, Bool.and_eq_true, ilt_iff, ieq_iff] at h
  obtain ⟨h1, h2, h3, h4⟩ := h
  obtain ⟨a, b⟩ := inOkS_ok h4
  refine ⟨List.pairwise_cons.2 ⟨fun x hx => (b x hx).1, a⟩, fun x hx => ?_⟩
  rcases List.mem_cons.1 hx with e | e
  · subst e; exact ⟨h1, h2, h3⟩
  · have := b x e; exact ⟨by omega, this.2⟩
theorem inOkS_mk {n parts p : Int} : ∀ {l : List GMsg} {v : Int}, l.Pairwise (fun a b => a.To < b.To) → (∀ m ∈ l, v < m.To ∧ m.To < n ∧ m.To % parts = p) → inOkS n parts p v l = true
 | [], _, _, _ => rfl
 | m :: l, v, h, hm => by
  obtain ⟨a, b⟩ := List.pairwise_cons.1 h
  have h1 := hm m List.mem_cons_self
  rw [inOkS, ilt_iff.2 h1.1, ilt_iff.2 h1.2.1, ieq_iff.2 h1.2.2]
  exact inOkS_mk b fun x hx => ⟨a x hx, (hm x (List.mem_cons_of_mem _ hx)).2⟩
theorem inOkS_inSt {n parts p : Int} : ∀ {l : List GMsg} {v : Int}, inOkS n parts p v l = true → inSt n v l = true
 | [], _, _ => rfl
 | m :: l, v, h => by
  simp only [inOkS, Bool.and_eq_true] at h
  simp only [inSt, Bool.and_eq_true]
  exact ⟨h.1, h.2.1, inOkS_inSt h.2.2.2⟩
structure JoinAt (g : GGraph) (j : GJob) (l : List GPart) (v : Nat) : Prop where
 z : izero j.Parts = false
 r : wrem (v : Int) j.Parts = ((v % j.Parts.toNat : Nat) : Int)
 q : wquo .i64 (v : Int) j.Parts = ((v / j.Parts.toNat : Nat) : Int)
 i1 : inr ((v % j.Parts.toNat : Nat) : Int) (len l) = true
 e1 : elAt l ((v % j.Parts.toNat : Nat) : Int) = some (partAt l j v)
 i2 : inr ((v / j.Parts.toNat : Nat) : Int) (len (partAt l j v).Vals) = true
 e2 : elAt (partAt l j v).Vals ((v / j.Parts.toNat : Nat) : Int) = some ((partAt l j v).Vals.getD (v / j.Parts.toNat) 0)
 i3 : inr ((v / j.Parts.toNat : Nat) : Int) (len (partAt l j v).Rest) = true
 e3 : elAt (partAt l j v).Rest ((v / j.Parts.toNat : Nat) : Int) = some ((partAt l j v).Rest.getD (v / j.Parts.toNat) false)
 pr : partRight g j (partAt l j v) = true
 pp : (partAt l j v).P = ((v % j.Parts.toNat : Nat) : Int)
theorem joinAt {g : GGraph} {j : GJob} {l : List GPart} {st : Int} (hc : ieq (jcheck g j) 0 = true) (hl : (l.length : Int) = j.Parts) (h : okAll g j st 0 l = true) {v : Nat} (hv : (v : Int) < g.N) : JoinAt g j l v := by
 obtain ⟨hg, p1, p2, p3, p4, p5, p6, p7, p8⟩ := jcheck_ok hc
 obtain ⟨g1, g2, _, _⟩ := gcheck_ok hg
 obtain ⟨m, hm⟩ := Int.eq_ofNat_of_zero_le (show 0 ≤ j.Parts by omega)
 obtain ⟨n, hn⟩ := Int.eq_ofNat_of_zero_le (show 0 ≤ g.N by omega)
 have hmt : j.Parts.toNat = m := by omega
 have hnt : g.N.toNat = n := by omega
 have hlt : v % m < l.length := by have := Nat.mod_lt v (show 0 < m by omega); omega
 obtain ⟨o1, o2, o3⟩ := okAll_get (k := v % m) h hlt
 obtain ⟨_, r1, r2, r3, r4, r5, r6, r7⟩ := partRight_ok o3
 obtain ⟨s1, s2⟩ := slot_verts (n := n) (parts := m) (by omega) (by omega) (by omega) (v := v) (by omega)
 have hcnt : countS g j (l.getD (v % m) noP).P = ((vertsN n m ((v % m : Nat) : Int)).length : Int) := by
  rw [o1, Nat.zero_add, countS, vertsS, hmt, hnt]
 obtain ⟨a1, a2⟩ := getD_at (l := l) noP hlt
 obtain ⟨b1, b2⟩ := getD_at (l := (l.getD (v % m) noP).Vals) 0 (show v / m < _ by omega)
 obtain ⟨c1, c2⟩ := getD_at (l := (l.getD (v % m) noP).Rest) false (show v / m < _ by omega)
 refine ⟨decide_eq_false (by omega), ?_, ?_, ?_, ?_, ?_, ?_, ?_, ?_, ?_, ?_⟩
 · rw [wrem_emod (by omega), hm]; simp
 · show IntKind.i64.wrap ((v : Int).tdiv j.Parts) = _
   have hle : v / m ≤ v := Nat.div_le_self _ _
   have : (v : Int).tdiv j.Parts = ((v / m : Nat) : Int) := by rw [hm, Int.tdiv_eq_ediv_of_nonneg (by omega)]; rfl
   rw [this, hmt, IntKind.wrap_i64]
   generalize v / m = d at *
   omega
 · rw [hmt]; exact a1
 all_goals (unfold partAt; rw [hmt]; first | exact a2 | exact b1 | exact b2 | exact c1 | exact c2 | exact o3 | (rw [o1, Nat.zero_add]))
theorem app_ok8 {a : List Int} (h : a.length ≤ 1000) : apok (len a) 1 8 = true := decide_eq_true ⟨by show a.length + 1 ≤ _; omega, by show (a.length + 1) * 8 ≤ _; omega⟩
theorem app_ok1 {a : List Bool} (h : a.length ≤ 1000) : apok (len a) 1 1 = true := decide_eq_true ⟨by show a.length + 1 ≤ _; omega, by show (a.length + 1) * 1 ≤ _; omega⟩
theorem app_ok16 {a : List GMsg} (h : a.length ≤ 1000000) : apok (len a) 1 16 = true := decide_eq_true ⟨by show a.length + 1 ≤ _; omega, by show (a.length + 1) * 16 ≤ _; omega⟩
theorem F86_in {K : Nat} (g : GGraph) (j : GJob) (l : List GPart) (x0 : GPart) (a : List Int) (b : List Bool) (v : Int) (x : GPart) (y : Int) (z : Bool) (hl : x.In.length ≤ 1000) (hK : x.In.length < K) (acc : List GMsg) (ha : acc.length ≤ 100000) :
 F86_l2_2 K g j l x0 a b v x y z K acc 0 = some (acc ++ x.In.filter fun m => ieq m.To v) := by
 let step : GMsg → List GMsg → (List GMsg → Option (List GMsg)) → Option (List GMsg) := fun m a c => bif (ieq m.To v) then (bif (apok (len a) 1 16) then c (appL a [m]) else none) else c a
 have h := scanL (l := x.In) (L := fun k c q => F86_l2_2 K g j l x0 a b v x y z k c q) step (fun a => some a) (fun k s i _ => rfl) (by omega) (K := K) hK acc
 have hw : ∀ (l : List GMsg) (a : List GMsg), a.length + l.length ≤ 200000 → goL step (fun a => some a) l a = some (a ++ l.filter fun m => ieq m.To v) := by
  intro l
  induction l with
  | nil => intro a _; simp [goL]
  | cons m l ih =>
   intro a ha
   simp only [List.length_cons] at ha
   rw [goL]
   show (bif (ieq m.To v) then (bif (apok (len a) 1 16) then goL step (fun a => some a) l (appL a [m]) else none) else goL step (fun a => some a) l a) = _
   rw [app_ok16 (by omega), List.filter_cons]
   cases ieq m.To v
   · rw [cond_false, ih a (by omega)]; rfl
   · rw [cond_true, cond_true, ih _ (by simp [appL]; omega)]; simp [appL]
 rw [hw x.In acc (by omega)] at h
 exact h
theorem F86_loop {K : Nat} (hK : 1000 ≤ K) (g : GGraph) (j : GJob) (l : List GPart) (x0 : GPart) {st : Int} (hc : ieq (jcheck g j) 0 = true) (hl : (l.length : Int) = j.Parts) (h : okAll g j st 0 l = true) :
 F86_l1_1 K g j l x0 K [] [] [] 0 = some ((joinS g j l).Vals, (joinS g j l).Rest, (joinS g j l).In) := by
 obtain ⟨hg, p1, p2, p3, p4, p5, p6, p7, p8⟩ := jcheck_ok hc
 obtain ⟨g1, g2, _, _⟩ := gcheck_ok hg
 let step : Nat → List Int × List Bool × List GMsg → (List Int × List Bool × List GMsg → Option (List Int × List Bool × List GMsg)) → Option (List Int × List Bool × List GMsg) := fun v s c =>
  bif (izero j.Parts) then none else
  bif (inr (wrem (v : Int) j.Parts) (len l)) then
  (elAt l (wrem (v : Int) j.Parts)).bind fun x3822 =>
  bif (inr (wquo .i64 (v : Int) j.Parts) (len x3822.Vals)) then
  (elAt x3822.Vals (wquo .i64 (v : Int) j.Parts)).bind fun x3825 =>
  bif (apok (len s.1) 1 8) then
  bif (inr (wquo .i64 (v : Int) j.Parts) (len x3822.Rest)) then
  (elAt x3822.Rest (wquo .i64 (v : Int) j.Parts)).bind fun x3829 =>
  bif (apok (len s.2.1) 1 1) then
  (F86_l2_2 K g j l x0 s.1 s.2.1 (v : Int) x3822 x3825 x3829 K s.2.2 0).bind fun w3851 => c (appL s.1 [x3825], appL s.2.1 [x3829], w3851)
  else none
  else none
  else none
  else none
  else none
 have hs := scanN (N := g.N) (L := fun k (s : List Int × List Bool × List GMsg) i => F86_l1_1 K g j l x0 k s.1 s.2.1 s.2.2 i) step (fun s => some s) (fun k s i _ => rfl) (by omega) (K := K) (by omega) ([], [], [])
 have hw : ∀ (r : List Nat) (a : List Int) (b : List Bool) (m : List GMsg), (∀ v ∈ r, (v : Int) < g.N) → a.length + r.length ≤ 100 → b.length + r.length ≤ 100 → m.length + 100 * r.length ≤ 10000 →
  goL step (fun s => some s) r (a, b, m) = some (a ++ r.map (fun v => (partAt l j v).Vals.getD (v / j.Parts.toNat) 0), b ++ r.map (fun v => (partAt l j v).Rest.getD (v / j.Parts.toNat) false), m ++ r.flatMap fun (v : Nat) => (partAt l j v).In.filter fun m => ieq m.To (v : Int)) := by
  intro r
  induction r with
  | nil => intro a b m _ _ _ _; simp [goL]
  | cons v r ih =>
   intro a b m hv ha hb hm
   simp only [List.length_cons] at ha hb hm
   have ja := joinAt hc hl h (hv v List.mem_cons_self)
   obtain ⟨_, r1, r2, r3, r4, r5, r6, r7⟩ := partRight_ok ja.pr
   obtain ⟨q1, q2⟩ := inOkS_ok r7
   have hlen : (partAt l j v).In.length ≤ 25 := by
    have := inSt_len (n := g.N) (v := -1) (l := (partAt l j v).In) (inOkS_inSt r7) (by omega)
    omega
   have hfl : ((partAt l j v).In.filter fun m => ieq m.To (v : Int)).length ≤ 25 := Nat.le_trans (List.length_filter_le _ _) hlen
   rw [goL]
   show (bif (izero j.Parts) then none else
   bif (inr (wrem (v : Int) j.Parts) (len l)) then
   (elAt l (wrem (v : Int) j.Parts)).bind fun x3822 =>
   bif (inr (wquo .i64 (v : Int) j.Parts) (len x3822.Vals)) then
   (elAt x3822.Vals (wquo .i64 (v : Int) j.Parts)).bind fun x3825 =>
   bif (apok (len a) 1 8) then
   bif (inr (wquo .i64 (v : Int) j.Parts) (len x3822.Rest)) then
   (elAt x3822.Rest (wquo .i64 (v : Int) j.Parts)).bind fun x3829 =>
   bif (apok (len b) 1 1) then
   (F86_l2_2 K g j l x0 a b (v : Int) x3822 x3825 x3829 K m 0).bind fun w3851 => goL step (fun s => some s) r (appL a [x3825], appL b [x3829], w3851)
   else none
   else none
   else none
   else none
   else none) = _
   rw [ja.z, cond_false, ja.r, ja.q, ja.i1, cond_true, ja.e1, Option.bind_some, ja.i2, cond_true, ja.e2, Option.bind_some, app_ok8 (by omega), cond_true, ja.i3, cond_true, ja.e3, Option.bind_some, app_ok1 (by omega), cond_true,
    F86_in g j l x0 a b (v : Int) (partAt l j v) _ _ (by omega) (by omega) m (by omega), Option.bind_some, ih _ _ _ (fun x hx => hv x (List.mem_cons_of_mem _ hx)) (by simp [appL]; omega) (by simp [appL]; omega) (by simp only [List.length_append]; omega)]
   simp [appL]
 rw [hw _ [] [] [] (fun v hv => by have := List.mem_range.1 hv; omega) (by simp; omega) (by simp; omega) (by simp; omega)] at hs
 simpa [joinS] using hs
noncomputable def hn155 : Hint := { H 155 with nt := 14, prot := 0 }
def F155_res (r1 : GPart) : Res := ⟨[(.agg [(.im (.lit (.int .i64 r1.P))), (.im (.lit (.int .i64 r1.Step))), (.own 2 (.sl (len r1.Vals) (flat (eInt .i64) r1.Vals))), (.own 4 (.sl (len r1.Rest) (flat eBool r1.Rest))), (.im (.sl (len r1.In) (flat eGMsg r1.In)))])], []⟩
def F155 (K : Nat) (a1 : GPart) : Option (GPart) :=
 bif (apok 0 (len a1.Vals) 8) then
 bif (apok 0 (len a1.Rest) 1) then
 some (GPart.mk a1.P a1.Step (appL [] a1.Vals) (appL [] a1.Rest) a1.In)
 else none
 else none
theorem F155_ok (K : Nat) (a1 : GPart) (r : GPart) (hF : F155 K a1 = some r) : Evt E H 155 [.agg (eGPart a1)] (F155_res r) := by
 rw [F155] at hF
 refine cond_some hF (fun h2 hF => ?_) (fun _ hF => nomatch hF)
 refine cond_some hF (fun h3 hF => ?_) (fun _ hF => nomatch hF)
 obtain rfl := sj hF
 have pz : HA hn155 [(tt (leqm (flat (eInt .i64) a1.Vals) (len a1.Vals) 1)), (tt (apok 0 (len a1.Vals) 8)), .sl (nadd 0 (len a1.Vals)) (lapp [] (flat (eInt .i64) a1.Vals)) (len (α := Int) (appL [] a1.Vals)) (flat (eInt .i64) (appL [] a1.Vals)), (tt (leqm (flat eBool a1.Rest) (len a1.Rest) 1)), (tt (apok 0 (len a1.Rest) 1)), .sl (nadd 0 (len a1.Rest)) (lapp [] (flat eBool a1.Rest)) (len (α := Bool) (appL [] a1.Rest)) (flat eBool (appL [] a1.Rest))] := ⟨(leqm_flat (eInt_len _) _), h2, (app_ok (enc := (eInt .i64)) ([] : List Int) a1.Vals), (leqm_flat eBool_len _), h3, (app_ok (enc := eBool) ([] : List Bool) a1.Rest), trivial⟩
 exact fpC hn155 (r := F155_res (GPart.mk a1.P a1.Step (appL [] a1.Vals) (appL [] a1.Rest) a1.In)) pz
noncomputable def hn121 : Hint := { H 121 with nt := 76, prot := 0 }
noncomputable def c121_0 : Code := loopOf E 121 0
def F121_res (r1 : GPart × Int) : Res := ⟨[(.agg [(.im (.lit (.int .i64 r1.1.P))), (.im (.lit (.int .i64 r1.1.Step))), (.own 2 (.sl (len r1.1.Vals) (flat (eInt .i64) r1.1.Vals))), (.own 4 (.sl (len r1.1.Rest) (flat eBool r1.1.Rest))), (.own 130 (.sl (len r1.1.In) (flat eGMsg r1.1.In)))]), (.one (.im (.lit (.int .i64 r1.2))))], []⟩
def F121_l0_0 (K : Nat) (a1 : GGraph) (a2 : GJob) (a3 : GPart) (r4 : List GMsg) : Nat → Int → Option ((Unit) ⊕ (Unit))
 | 0, _ => none
 | k + 1, v5 =>
  bif (ilt v5 (nlen (len r4))) then
   (bif (inr v5 (len r4)) then
   (elAt r4 v5).bind fun x6 =>
   bif (ile a1.N x6.To) then
    (some (.inl ()))
   else
   (F75 K a2 x6.To).bind fun r7 =>
   bif (ieq r7 a3.P) then
    (F121_l0_0 K a1 a2 a3 r4 k (wadd .i64 v5 1))
   else
   some (.inl ())
   else none)
  else
  some (.inr ())
def F121_l0_0_S (a1 : GGraph) (a2 : GJob) (a3 : GPart) (r4 : List GMsg) (v5 : Int) : TS := .on [256, 257, 258, 320, 321, 322, 323, 324, 384, 385, 386, 387, 388, 389, 512, 513, 514, 515, 516, 517, 704, 705, 2432, 2433, 2496, 2497, 2560, 2561] [(256, ⟨(.box 62 2), 0, nob⟩), (257, ⟨.im, 0, (.lit (.int .i64 a1.N))⟩), (258, ⟨.im, 0, (.sl (len a1.Edges) (flat eGEdge a1.Edges))⟩), (320, ⟨(.box 64 4), 0, nob⟩), (321, ⟨.im, 0, (.lit (.int .i64 a2.Prog))⟩), (322, ⟨.im, 0, (.lit (.int .i64 a2.Source))⟩), (323, ⟨.im, 0, (.lit (.int .i64 a2.Limit))⟩), (324, ⟨.im, 0, (.lit (.int .i64 a2.Parts))⟩), (384, ⟨(.box 42 5), 0, nob⟩), (385, ⟨.im, 0, (.lit (.int .i64 a3.P))⟩), (386, ⟨.im, 0, (.lit (.int .i64 a3.Step))⟩), (387, ⟨.im, 0, (.sl (len a3.Vals) (flat (eInt .i64) a3.Vals))⟩), (388, ⟨.im, 0, (.sl (len a3.Rest) (flat eBool a3.Rest))⟩), (389, ⟨.im, 0, (.sl (len a3.In) (flat eGMsg a3.In))⟩), (512, ⟨(.box 42 5), 0, nob⟩), (513, ⟨.im, 0, (.lit (.int .i64 0))⟩), (514, ⟨.im, 0, (.lit (.int .i64 0))⟩), (515, ⟨(.own 2), 0, (.sl 0 [])⟩), (516, ⟨(.own 4), 0, (.sl 0 [])⟩), (517, ⟨(.own 130), 0, (.sl 0 [])⟩), (704, ⟨.one, 0, nob⟩), (705, ⟨(.own 130), 0, (.sl (len r4) (flat eGMsg r4))⟩), (2432, ⟨.one, 0, nob⟩), (2433, ⟨(.vw 705 0), 0, nob⟩), (2496, ⟨.one, 0, nob⟩), (2497, ⟨.im, 0, (.lit (.int .i64 (nlen (len r4))))⟩), (2560, ⟨.one, 0, nob⟩), (2561, ⟨.im, 0, (.lit (.int .i64 v5))⟩)]
def F121_l0_0_X0 (a1 : GGraph) (a2 : GJob) (a3 : GPart) (r4 : List GMsg) (w5 : Unit) : TS := .on [512, 513, 514, 515, 516, 517, 576, 577] [(512, ⟨(.box 42 5), 0, nob⟩), (513, ⟨.im, 0, (.lit (.int .i64 0))⟩), (514, ⟨.im, 0, (.lit (.int .i64 0))⟩), (515, ⟨(.own 2), 0, (.sl 0 [])⟩), (516, ⟨(.own 4), 0, (.sl 0 [])⟩), (517, ⟨(.own 130), 0, (.sl 0 [])⟩), (576, ⟨.one, 0, nob⟩), (577, ⟨.im, 0, (.lit (.int .i64 1))⟩)]
def F121_l0_0_X1 (a1 : GGraph) (a2 : GJob) (a3 : GPart) (r4 : List GMsg) (w5 : Unit) : TS := .on [320, 321, 322, 323, 324, 384, 385, 386, 387, 388, 389, 512, 513, 514, 515, 516, 517, 704, 705] [(320, ⟨(.box 64 4), 0, nob⟩), (321, ⟨.im, 0, (.lit (.int .i64 a2.Prog))⟩), (322, ⟨.im, 0, (.lit (.int .i64 a2.Source))⟩), (323, ⟨.im, 0, (.lit (.int .i64 a2.Limit))⟩), (324, ⟨.im, 0, (.lit (.int .i64 a2.Parts))⟩), (384, ⟨(.box 42 5), 0, nob⟩), (385, ⟨.im, 0, (.lit (.int .i64 a3.P))⟩), (386, ⟨.im, 0, (.lit (.int .i64 a3.Step))⟩), (387, ⟨.im, 0, (.sl (len a3.Vals) (flat (eInt .i64) a3.Vals))⟩), (388, ⟨.im, 0, (.sl (len a3.Rest) (flat eBool a3.Rest))⟩), (389, ⟨.im, 0, (.sl (len a3.In) (flat eGMsg a3.In))⟩), (512, ⟨(.box 42 5), 0, nob⟩), (513, ⟨.im, 0, (.lit (.int .i64 0))⟩), (514, ⟨.im, 0, (.lit (.int .i64 0))⟩), (515, ⟨(.own 2), 0, (.sl 0 [])⟩), (516, ⟨(.own 4), 0, (.sl 0 [])⟩), (517, ⟨(.own 130), 0, (.sl 0 [])⟩), (704, ⟨.one, 0, nob⟩), (705, ⟨(.own 130), 0, (.sl (len r4) (flat eGMsg r4))⟩)]
end Go.Proofs.Ytnjanliihnadjaa.Tm

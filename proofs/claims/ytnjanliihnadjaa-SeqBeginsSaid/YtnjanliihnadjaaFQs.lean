/- Printed by program: what each function computes, and that the machine answers so. Conditions: none. -/
import Derived.Test.YtnjanliihnadjaaTy
import Derived.Test.YtnjanliihnadjaaTab
import Derived.Test.YtnjanliihnadjaaKn
import Derived.Test.YtnjanliihnadjaaFP
import Derived.Test.YtnjanliihnadjaaFPs
import Derived.Test.YtnjanliihnadjaaFQ
import Derived.KernelRfl
set_option linter.unusedVariables false
set_option linter.unusedSimpArgs false
namespace Go.Proofs.Ytnjanliihnadjaa.Tm
open Go
/-! ### haywain/haywainref07.Cut -/
noncomputable def hn131 : Hint := { H 131 with nt := 82, prot := 0 }
noncomputable def c131_0 : Code := loopOf E 131 0
noncomputable def c131_1 : Code := loopOf E 131 1
def F131_res (r2290 : GPart) : Res := ⟨[(.agg [(.im (.lit (.int .i64 r2290.P))), (.im (.lit (.int .i64 r2290.Step))), (.own 2 (.sl (len r2290.Vals) (flat (eInt .i64) r2290.Vals))), (.own 4 (.sl (len r2290.Rest) (flat eBool r2290.Rest))), (.own 130 (.sl (len r2290.In) (flat eGMsg r2290.In)))])], []⟩
def F131_l1_1 (K : Nat) (a2173 : GState) (a2174 : Int) (r2196 : List Int) (v2237 : List Int) (v2238 : List Bool) (v2240 : Int) (x2246 : Int) (x2250 : Bool) : Nat → List GMsg → Int → Option (List GMsg)
  | 0, _, _ => none
  | k + 1, v2262, v2263 =>
    bif (ilt v2263 (nlen (len a2173.In))) then
      (bif (inr v2263 (len a2173.In)) then
      (elAt a2173.In v2263).bind fun x2266 =>
      bif (inr v2240 (len r2196)) then
      (elAt r2196 v2240).bind fun x2269 =>
      bif (ieq x2266.To x2269) then
        (bif (apok (len v2262) 1 16) then
        F131_l1_1 K a2173 a2174 r2196 v2237 v2238 v2240 x2246 x2250 k (appL v2262 [x2266]) (wadd .i64 v2263 1)
        else none)
      else
      F131_l1_1 K a2173 a2174 r2196 v2237 v2238 v2240 x2246 x2250 k v2262 (wadd .i64 v2263 1)
      else none
      else none)
    else
    some v2262
def F131_l1_1_S (a2173 : GState) (a2174 : Int) (r2196 : List Int) (v2237 : List Int) (v2238 : List Bool) (v2240 : Int) (x2246 : Int) (x2250 : Bool) (v2262 : List GMsg) (v2263 : Int) : TS := .on [384, 385, 386, 387, 388, 512, 513, 514, 515, 516, 517, 576, 577, 578, 579, 580, 581, 640, 641, 704, 705, 768, 769] [(384, ⟨(.box 74 4), 0, nob⟩), (385, ⟨.im, 0, (.lit (.int .i64 a2173.Step))⟩), (386, ⟨.im, 0, (.sl (len a2173.Vals) (flat (eInt .i64) a2173.Vals))⟩), (387, ⟨.im, 0, (.sl (len a2173.Rest) (flat eBool a2173.Rest))⟩), (388, ⟨.im, 0, (.sl (len a2173.In) (flat eGMsg a2173.In))⟩), (512, ⟨(.box 42 5), 0, nob⟩), (513, ⟨.im, 0, (.lit (.int .i64 0))⟩), (514, ⟨.im, 0, (.lit (.int .i64 0))⟩), (515, ⟨(.own 2), 0, (.sl 0 [])⟩), (516, ⟨(.own 4), 0, (.sl 0 [])⟩), (517, ⟨(.own 130), 0, (.sl 0 [])⟩), (576, ⟨(.box 42 5), 0, nob⟩), (577, ⟨.im, 0, (.lit (.int .i64 a2174))⟩), (578, ⟨.im, 0, (.lit (.int .i64 a2173.Step))⟩), (579, ⟨(.own 2), 0, (.sl (len (α := Int) (appL v2237 [x2246])) (flat (eInt .i64) (appL v2237 [x2246])))⟩), (580, ⟨(.own 4), 0, (.sl (len (α := Bool) (appL v2238 [x2250])) (flat eBool (appL v2238 [x2250])))⟩), (581, ⟨(.own 130), 0, (.sl (len v2262) (flat eGMsg v2262))⟩), (640, ⟨.one, 0, nob⟩), (641, ⟨(.own 3), 0, (.sl (len r2196) (flat (eInt .i64) r2196))⟩), (704, ⟨.one, 0, nob⟩), (705, ⟨.im, 0, (.lit (.int .i64 v2240))⟩), (768, ⟨.one, 0, nob⟩), (769, ⟨.im, 0, (.lit (.int .i64 v2263))⟩)]
def F131_l1_1_X0 (a2173 : GState) (a2174 : Int) (r2196 : List Int) (v2237 : List Int) (v2238 : List Bool) (v2240 : Int) (x2246 : Int) (x2250 : Bool) (w2273 : List GMsg) : TS := .on [384, 385, 386, 387, 388, 512, 513, 514, 515, 516, 517, 576, 577, 578, 579, 580, 581, 640, 641, 704, 705] [(384, ⟨(.box 74 4), 0, nob⟩), (385, ⟨.im, 0, (.lit (.int .i64 a2173.Step))⟩), (386, ⟨.im, 0, (.sl (len a2173.Vals) (flat (eInt .i64) a2173.Vals))⟩), (387, ⟨.im, 0, (.sl (len a2173.Rest) (flat eBool a2173.Rest))⟩), (388, ⟨.im, 0, (.sl (len a2173.In) (flat eGMsg a2173.In))⟩), (512, ⟨(.box 42 5), 0, nob⟩), (513, ⟨.im, 0, (.lit (.int .i64 0))⟩), (514, ⟨.im, 0, (.lit (.int .i64 0))⟩), (515, ⟨(.own 2), 0, (.sl 0 [])⟩), (516, ⟨(.own 4), 0, (.sl 0 [])⟩), (517, ⟨(.own 130), 0, (.sl 0 [])⟩), (576, ⟨(.box 42 5), 0, nob⟩), (577, ⟨.im, 0, (.lit (.int .i64 a2174))⟩), (578, ⟨.im, 0, (.lit (.int .i64 a2173.Step))⟩), (579, ⟨(.own 2), 0, (.sl (len (α := Int) (appL v2237 [x2246])) (flat (eInt .i64) (appL v2237 [x2246])))⟩), (580, ⟨(.own 4), 0, (.sl (len (α := Bool) (appL v2238 [x2250])) (flat eBool (appL v2238 [x2250])))⟩), (581, ⟨(.own 130), 0, (.sl (len w2273) (flat eGMsg w2273))⟩), (640, ⟨.one, 0, nob⟩), (641, ⟨(.own 3), 0, (.sl (len r2196) (flat (eInt .i64) r2196))⟩), (704, ⟨.one, 0, nob⟩), (705, ⟨.im, 0, (.lit (.int .i64 v2240))⟩)]
theorem F131_l1_1_ok (K : Nat) (a2173 : GState) (a2174 : Int) (r2196 : List Int) (v2237 : List Int) (v2238 : List Bool) (v2240 : Int) (x2246 : Int) (x2250 : Bool) : ∀ (k : Nat) (v2262 : List GMsg) (v2263 : Int) (r : List GMsg), F131_l1_1 K a2173 a2174 r2196 v2237 v2238 v2240 x2246 x2250 k v2262 v2263 = some r → LoopEv E H hn131 2 c131_1 (F131_l1_1_S a2173 a2174 r2196 v2237 v2238 v2240 x2246 x2250 v2262 v2263) (.exit 2) (F131_l1_1_X0 a2173 a2174 r2196 v2237 v2238 v2240 x2246 x2250 r) := by
  intro k
  induction k with
  | zero => intro v2262 v2263 r hF; cases hF
  | succ k ih =>
    intro v2262 v2263 r hF
    rw [F131_l1_1] at hF
    refine cond_some hF (fun h2264 hF => ?_) (fun h2264 hF => ?_)
    ·
      refine cond_some hF (fun h2265 hF => ?_) (fun _ hF => nomatch hF)
      refine bind_some hF (fun x2266 h2267 hF => ?_)
      refine cond_some hF (fun h2268 hF => ?_) (fun _ hF => nomatch hF)
      refine bind_some hF (fun x2269 h2270 hF => ?_)
      have pq2275 : ∀ {l : List Cond}, HoldAll E H hn131 l → HoldAll E H hn131 (.int (nlen (len a2173.In)) (nlen (len a2173.In)) :: .test (ilt v2263 (nlen (len a2173.In))) true :: .test (inr v2263 (len a2173.In)) true :: .sub (flat eGMsg a2173.In) (nadd (nidx v2263 2) 0) 1 [(.lit (.int .i64 x2266.To))] :: .test (inr v2240 (len r2196)) true :: .sub (flat (eInt .i64) r2196) (nidx v2240 1) 1 [(.lit (.int .i64 x2269))] :: l) := fun z => ⟨rfl, h2264, h2265, ⟨rfl, sub_flat eGMsg_len h2267 0 1 (by decide)⟩, h2268, ⟨rfl, sub_flat0 (eInt_len _) h2270 1 (by decide)⟩, z⟩
      refine cond_some hF (fun h2271 hF => ?_) (fun h2271 hF => ?_)
      ·
        refine cond_some hF (fun h2272 hF => ?_) (fun _ hF => nomatch hF)
        have pz : HoldAll E H hn131 [.test (ieq x2266.To x2269) true, .test (inr v2263 (len a2173.In)) true, .sub (flat eGMsg a2173.In) (nidx v2263 2) 2 [(.lit (.int .i64 x2266.To)), (.lit (.int .i64 x2266.V))], .test (leqm [(.lit (.int .i64 x2266.To)), (.lit (.int .i64 x2266.V))] 1 2) true, .test (apok (len v2262) 1 16) true, .sl (nadd (len v2262) 1) (lapp (flat eGMsg v2262) [(.lit (.int .i64 x2266.To)), (.lit (.int .i64 x2266.V))]) (len (α := GMsg) (appL v2262 [x2266])) (flat eGMsg (appL v2262 [x2266])), .int (wadd .i64 v2263 1) (wadd .i64 v2263 1)] := ⟨h2271, h2265, ⟨rfl, sub_flat0 eGMsg_len h2267 2 (by decide)⟩, rfl, h2272, (app_ok (enc := eGMsg) (v2262 : List GMsg) [x2266]), rfl, trivial⟩
        have h0 := ih _ _ _ hF
        have hn := fun ex ts' => loop_nextC (h := hn131) (l := 2) (c := c131_1) (ts := F131_l1_1_S a2173 a2174 r2196 v2237 v2238 v2240 x2246 x2250 v2262 v2263) (ts1 := (F131_l1_1_S a2173 a2174 r2196 v2237 v2238 v2240 x2246 x2250 (appL v2262 [x2266]) (wadd .i64 v2263 1))) (ex := ex) (ts' := ts') (pq2275 pz) (by kernel_rfl)
        exact hn _ _ h0
      have pz : HoldAll E H hn131 [.test (ieq x2266.To x2269) false, .int (wadd .i64 v2263 1) (wadd .i64 v2263 1)] := ⟨h2271, rfl, trivial⟩
      have h0 := ih _ _ _ hF
      have hn := fun ex ts' => loop_nextC (h := hn131) (l := 2) (c := c131_1) (ts := F131_l1_1_S a2173 a2174 r2196 v2237 v2238 v2240 x2246 x2250 v2262 v2263) (ts1 := (F131_l1_1_S a2173 a2174 r2196 v2237 v2238 v2240 x2246 x2250 v2262 (wadd .i64 v2263 1))) (ex := ex) (ts' := ts') (pq2275 pz) (by kernel_rfl)
      exact hn _ _ h0
    have hr := Option.some.inj hF
    subst hr
    have pz : HoldAll E H hn131 [.int (nlen (len a2173.In)) (nlen (len a2173.In)), .test (ilt v2263 (nlen (len a2173.In))) false] := ⟨rfl, h2264, trivial⟩
    exact loop_endC (h := hn131) (l := 2) (c := c131_1) (ts := F131_l1_1_S a2173 a2174 r2196 v2237 v2238 v2240 x2246 x2250 v2262 v2263) (ts' := F131_l1_1_X0 a2173 a2174 r2196 v2237 v2238 v2240 x2246 x2250 v2262) (ex := (.exit 2)) pz (by kernel_rfl) trivial

def F131_l0_0 (K : Nat) (a2173 : GState) (a2174 : Int) (r2196 : List Int) : Nat → List Int → List Bool → List GMsg → Int → Option (List Int × List Bool × List GMsg)
  | 0, _, _, _, _ => none
  | k + 1, v2237, v2238, v2239, v2240 =>
    bif (ilt v2240 (nlen (len r2196))) then
      (bif (inr v2240 (len r2196)) then
      (elAt r2196 v2240).bind fun x2243 =>
      bif (inr x2243 (len a2173.Vals)) then
      (elAt a2173.Vals x2243).bind fun x2246 =>
      bif (apok (len v2237) 1 8) then
      bif (inr x2243 (len a2173.Rest)) then
      (elAt a2173.Rest x2243).bind fun x2250 =>
      bif (apok (len v2238) 1 1) then
      (F131_l1_1 K a2173 a2174 r2196 v2237 v2238 v2240 x2246 x2250 K v2239 0).bind fun w2278 =>
      F131_l0_0 K a2173 a2174 r2196 k (appL v2237 [x2246]) (appL v2238 [x2250]) w2278 (wadd .i64 v2240 1)
      else none
      else none
      else none
      else none
      else none)
    else
    some (v2237, (v2238, v2239))
def F131_l0_0_S (a2173 : GState) (a2174 : Int) (r2196 : List Int) (v2237 : List Int) (v2238 : List Bool) (v2239 : List GMsg) (v2240 : Int) : TS := .on [384, 385, 386, 387, 388, 512, 513, 514, 515, 516, 517, 576, 577, 578, 579, 580, 581, 640, 641, 704, 705] [(384, ⟨(.box 74 4), 0, nob⟩), (385, ⟨.im, 0, (.lit (.int .i64 a2173.Step))⟩), (386, ⟨.im, 0, (.sl (len a2173.Vals) (flat (eInt .i64) a2173.Vals))⟩), (387, ⟨.im, 0, (.sl (len a2173.Rest) (flat eBool a2173.Rest))⟩), (388, ⟨.im, 0, (.sl (len a2173.In) (flat eGMsg a2173.In))⟩), (512, ⟨(.box 42 5), 0, nob⟩), (513, ⟨.im, 0, (.lit (.int .i64 0))⟩), (514, ⟨.im, 0, (.lit (.int .i64 0))⟩), (515, ⟨(.own 2), 0, (.sl 0 [])⟩), (516, ⟨(.own 4), 0, (.sl 0 [])⟩), (517, ⟨(.own 130), 0, (.sl 0 [])⟩), (576, ⟨(.box 42 5), 0, nob⟩), (577, ⟨.im, 0, (.lit (.int .i64 a2174))⟩), (578, ⟨.im, 0, (.lit (.int .i64 a2173.Step))⟩), (579, ⟨(.own 2), 0, (.sl (len v2237) (flat (eInt .i64) v2237))⟩), (580, ⟨(.own 4), 0, (.sl (len v2238) (flat eBool v2238))⟩), (581, ⟨(.own 130), 0, (.sl (len v2239) (flat eGMsg v2239))⟩), (640, ⟨.one, 0, nob⟩), (641, ⟨(.own 3), 0, (.sl (len r2196) (flat (eInt .i64) r2196))⟩), (704, ⟨.one, 0, nob⟩), (705, ⟨.im, 0, (.lit (.int .i64 v2240))⟩)]
def F131_l0_0_X0 (a2173 : GState) (a2174 : Int) (r2196 : List Int) (w2280 : List Int × List Bool × List GMsg) : TS := .on [512, 513, 514, 515, 516, 517, 576, 577, 578, 579, 580, 581] [(512, ⟨(.box 42 5), 0, nob⟩), (513, ⟨.im, 0, (.lit (.int .i64 0))⟩), (514, ⟨.im, 0, (.lit (.int .i64 0))⟩), (515, ⟨(.own 2), 0, (.sl 0 [])⟩), (516, ⟨(.own 4), 0, (.sl 0 [])⟩), (517, ⟨(.own 130), 0, (.sl 0 [])⟩), (576, ⟨(.box 42 5), 0, nob⟩), (577, ⟨.im, 0, (.lit (.int .i64 a2174))⟩), (578, ⟨.im, 0, (.lit (.int .i64 a2173.Step))⟩), (579, ⟨(.own 2), 0, (.sl (len w2280.1) (flat (eInt .i64) w2280.1))⟩), (580, ⟨(.own 4), 0, (.sl (len w2280.2.1) (flat eBool w2280.2.1))⟩), (581, ⟨(.own 130), 0, (.sl (len w2280.2.2) (flat eGMsg w2280.2.2))⟩)]
theorem F131_l0_0_ok (K : Nat) (a2173 : GState) (a2174 : Int) (r2196 : List Int) : ∀ (k : Nat) (v2237 : List Int) (v2238 : List Bool) (v2239 : List GMsg) (v2240 : Int) (r : List Int × List Bool × List GMsg), F131_l0_0 K a2173 a2174 r2196 k v2237 v2238 v2239 v2240 = some r → LoopEv E H hn131 0 c131_0 (F131_l0_0_S a2173 a2174 r2196 v2237 v2238 v2239 v2240) (.exit 0) (F131_l0_0_X0 a2173 a2174 r2196 r) := by
  intro k
  induction k with
  | zero => intro v2237 v2238 v2239 v2240 r hF; cases hF
  | succ k ih =>
    intro v2237 v2238 v2239 v2240 r hF
    rw [F131_l0_0] at hF
    refine cond_some hF (fun h2241 hF => ?_) (fun h2241 hF => ?_)
    ·
      refine cond_some hF (fun h2242 hF => ?_) (fun _ hF => nomatch hF)
      refine bind_some hF (fun x2243 h2244 hF => ?_)
      refine cond_some hF (fun h2245 hF => ?_) (fun _ hF => nomatch hF)
      refine bind_some hF (fun x2246 h2247 hF => ?_)
      refine cond_some hF (fun h2248 hF => ?_) (fun _ hF => nomatch hF)
      refine cond_some hF (fun h2249 hF => ?_) (fun _ hF => nomatch hF)
      refine bind_some hF (fun x2250 h2251 hF => ?_)
      refine cond_some hF (fun h2252 hF => ?_) (fun _ hF => nomatch hF)
      refine bind_some hF (fun w2278 h2276 hF => ?_)
      have pz : HoldAll E H hn131 [.int (nlen (len r2196)) (nlen (len r2196)), .test (ilt v2240 (nlen (len r2196))) true, .test (inr v2240 (len r2196)) true, .sub (flat (eInt .i64) r2196) (nidx v2240 1) 1 [(.lit (.int .i64 x2243))], .test (inr x2243 (len a2173.Vals)) true, .sub (flat (eInt .i64) a2173.Vals) (nidx x2243 1) 1 [(.lit (.int .i64 x2246))], .test (leqm [(.lit (.int .i64 x2246))] 1 1) true, .test (apok (len v2237) 1 8) true, .sl (nadd (len v2237) 1) (lapp (flat (eInt .i64) v2237) [(.lit (.int .i64 x2246))]) (len (α := Int) (appL v2237 [x2246])) (flat (eInt .i64) (appL v2237 [x2246])), .test (inr v2240 (len r2196)) true, .sub (flat (eInt .i64) r2196) (nidx v2240 1) 1 [(.lit (.int .i64 x2243))], .test (inr x2243 (len a2173.Rest)) true, .sub (flat eBool a2173.Rest) (nidx x2243 1) 1 [(.lit (.bool x2250))], .test (leqm [(.lit (.bool x2250))] 1 1) true, .test (apok (len v2238) 1 1) true, .sl (nadd (len v2238) 1) (lapp (flat eBool v2238) [(.lit (.bool x2250))]) (len (α := Bool) (appL v2238 [x2250])) (flat eBool (appL v2238 [x2250])), .loop 2 c131_1 (F131_l1_1_S a2173 a2174 r2196 v2237 v2238 v2240 x2246 x2250 v2239 0) (.exit 2) (F131_l1_1_X0 a2173 a2174 r2196 v2237 v2238 v2240 x2246 x2250 w2278), .int (wadd .i64 v2240 1) (wadd .i64 v2240 1)] := ⟨rfl, h2241, h2242, ⟨rfl, sub_flat0 (eInt_len _) h2244 1 (by decide)⟩, h2245, ⟨rfl, sub_flat0 (eInt_len _) h2247 1 (by decide)⟩, rfl, h2248, (app_ok (enc := (eInt .i64)) (v2237 : List Int) [x2246]), h2242, ⟨rfl, sub_flat0 (eInt_len _) h2244 1 (by decide)⟩, h2249, ⟨rfl, sub_flat0 eBool_len h2251 1 (by decide)⟩, rfl, h2252, (app_ok (enc := eBool) (v2238 : List Bool) [x2250]), (F131_l1_1_ok K a2173 a2174 r2196 v2237 v2238 v2240 x2246 x2250 K v2239 0 _ h2276), rfl, trivial⟩
      have h0 := ih _ _ _ _ _ hF
      have hn := fun ex ts' => loop_nextC (h := hn131) (l := 0) (c := c131_0) (ts := F131_l0_0_S a2173 a2174 r2196 v2237 v2238 v2239 v2240) (ts1 := (F131_l0_0_S a2173 a2174 r2196 (appL v2237 [x2246]) (appL v2238 [x2250]) w2278 (wadd .i64 v2240 1))) (ex := ex) (ts' := ts') pz (by kernel_rfl)
      exact hn _ _ h0
    have hr := Option.some.inj hF
    subst hr
    have pz : HoldAll E H hn131 [.int (nlen (len r2196)) (nlen (len r2196)), .test (ilt v2240 (nlen (len r2196))) false] := ⟨rfl, h2241, trivial⟩
    exact loop_endC (h := hn131) (l := 0) (c := c131_0) (ts := F131_l0_0_S a2173 a2174 r2196 v2237 v2238 v2239 v2240) (ts' := F131_l0_0_X0 a2173 a2174 r2196 (v2237, (v2238, v2239))) (ex := (.exit 0)) pz (by kernel_rfl) trivial

def F131 (K : Nat) (a2171 : GGraph) (a2172 : GJob) (a2173 : GState) (a2174 : Int) : Option (GPart) :=
  (F139 K a2171 a2172 a2174).bind fun r2196 =>
  (F131_l0_0 K a2173 a2174 r2196 K [] [] [] 0).bind fun w2286 =>
  some (GPart.mk a2174 a2173.Step w2286.1 w2286.2.1 w2286.2.2)
theorem F131_ok (K : Nat) (a2171 : GGraph) (a2172 : GJob) (a2173 : GState) (a2174 : Int) (r : GPart) (hF : F131 K a2171 a2172 a2173 a2174 = some r) : Evt E H 131 [.agg (eGGraph a2171), .agg (eGJob a2172), .agg (eGState a2173), .one (.lit (.int .i64 a2174))] (F131_res r) := by
  rw [F131] at hF
  refine bind_some hF (fun r2196 h2197 hF => ?_)
  refine bind_some hF (fun w2286 h2284 hF => ?_)
  have hr := Option.some.inj hF
  subst hr
  have pz : HoldAll E H hn131 [.call 139 [.agg (eGGraph a2171), .agg (eGJob a2172), .one (.lit (.int .i64 a2174))] (F139_res r2196), .test (leadsAny (Res.mk [(.one (.own 3 (.sl (len r2196) (flat (eInt .i64) r2196))))] [])) false, .loop 0 c131_0 (F131_l0_0_S a2173 a2174 r2196 [] [] [] 0) (.exit 0) (F131_l0_0_X0 a2173 a2174 r2196 w2286)] := ⟨(F139_ok K a2171 a2172 a2174 _ h2197), (leads_ok (by simp only [leadsAny, List.any_cons, List.any_nil, RV.leads, RC.leads, leadsT, hasSl_lit, Bool.or_false, flat_ns (eInt_ns _), flat_ns eBool_ns, flat_ns eStr_ns, flat_ns eGJob_ns, flat_ns eGEdge_ns, flat_ns eGAsked_ns, flat_ns eGMsg_ns, flat_ns eGrule_ns, flat_ns eGA199_ns, flat_ns eGA202_ns])), (F131_l0_0_ok K a2173 a2174 r2196 K [] [] [] 0 _ h2284), trivial⟩
  exact fn_playC hn131 (f := 131) (ads := [.agg (eGGraph a2171), .agg (eGJob a2172), .agg (eGState a2173), .one (.lit (.int .i64 a2174))]) (r := F131_res (GPart.mk a2174 a2173.Step w2286.1 w2286.2.1 w2286.2.2)) pz (by kernel_rfl) (by kernel_rfl)

/-! ### haywain/haywainref07.Split -/
noncomputable def hn61 : Hint := { H 61 with nt := 37, prot := 0 }
noncomputable def c61_0 : Code := loopOf E 61 0
def F61_res (r2307 : List GPart × Int) : Res := ⟨[(.one (.own 42 (.sl (len r2307.1) (flat eGPart r2307.1)))), (.one (.im (.lit (.int .i64 r2307.2))))], []⟩
def F61_l0_0 (K : Nat) (a2161 : GGraph) (a2162 : GJob) (a2163 : GState) : Nat → List GPart → Int → Option (List GPart)
  | 0, _, _ => none
  | k + 1, v2294, v2295 =>
    bif (ilt v2295 a2162.Parts) then
      ((F131 K a2161 a2162 a2163 v2295).bind fun r2297 =>
      bif (apok (len v2294) 1 88) then
      F61_l0_0 K a2161 a2162 a2163 k (appL v2294 [r2297]) (wadd .i64 v2295 1)
      else none)
    else
    some v2294
def F61_l0_0_S (a2161 : GGraph) (a2162 : GJob) (a2163 : GState) (v2294 : List GPart) (v2295 : Int) : TS := .on [192, 193, 194, 256, 257, 258, 259, 260, 320, 321, 322, 323, 324, 576, 577, 640, 641] [(192, ⟨(.box 62 2), 0, nob⟩), (193, ⟨.im, 0, (.lit (.int .i64 a2161.N))⟩), (194, ⟨.im, 0, (.sl (len a2161.Edges) (flat eGEdge a2161.Edges))⟩), (256, ⟨(.box 64 4), 0, nob⟩), (257, ⟨.im, 0, (.lit (.int .i64 a2162.Prog))⟩), (258, ⟨.im, 0, (.lit (.int .i64 a2162.Source))⟩), (259, ⟨.im, 0, (.lit (.int .i64 a2162.Limit))⟩), (260, ⟨.im, 0, (.lit (.int .i64 a2162.Parts))⟩), (320, ⟨(.box 74 4), 0, nob⟩), (321, ⟨.im, 0, (.lit (.int .i64 a2163.Step))⟩), (322, ⟨.im, 0, (.sl (len a2163.Vals) (flat (eInt .i64) a2163.Vals))⟩), (323, ⟨.im, 0, (.sl (len a2163.Rest) (flat eBool a2163.Rest))⟩), (324, ⟨.im, 0, (.sl (len a2163.In) (flat eGMsg a2163.In))⟩), (576, ⟨.one, 0, nob⟩), (577, ⟨(.own 42), 0, (.sl (len v2294) (flat eGPart v2294))⟩), (640, ⟨.one, 0, nob⟩), (641, ⟨.im, 0, (.lit (.int .i64 v2295))⟩)]
def F61_l0_0_X0 (a2161 : GGraph) (a2162 : GJob) (a2163 : GState) (w2300 : List GPart) : TS := .on [576, 577] [(576, ⟨.one, 0, nob⟩), (577, ⟨(.own 42), 0, (.sl (len w2300) (flat eGPart w2300))⟩)]
theorem F61_l0_0_ok (K : Nat) (a2161 : GGraph) (a2162 : GJob) (a2163 : GState) : ∀ (k : Nat) (v2294 : List GPart) (v2295 : Int) (r : List GPart), F61_l0_0 K a2161 a2162 a2163 k v2294 v2295 = some r → LoopEv E H hn61 0 c61_0 (F61_l0_0_S a2161 a2162 a2163 v2294 v2295) (.exit 0) (F61_l0_0_X0 a2161 a2162 a2163 r) := by
  intro k
  induction k with
  | zero => intro v2294 v2295 r hF; cases hF
  | succ k ih =>
    intro v2294 v2295 r hF
    rw [F61_l0_0] at hF
    refine cond_some hF (fun h2296 hF => ?_) (fun h2296 hF => ?_)
    ·
      refine bind_some hF (fun r2297 h2298 hF => ?_)
      refine cond_some hF (fun h2299 hF => ?_) (fun _ hF => nomatch hF)
      have pz : HoldAll E H hn61 [.test (ilt v2295 a2162.Parts) true, .call 131 [.agg (eGGraph a2161), .agg (eGJob a2162), .agg (eGState a2163), .one (.lit (.int .i64 v2295))] (F131_res r2297), .test (leadsAny (Res.mk [(.agg [(.im (.lit (.int .i64 r2297.P))), (.im (.lit (.int .i64 r2297.Step))), (.own 2 (.sl (len r2297.Vals) (flat (eInt .i64) r2297.Vals))), (.own 4 (.sl (len r2297.Rest) (flat eBool r2297.Rest))), (.own 130 (.sl (len r2297.In) (flat eGMsg r2297.In)))])] [])) false, .test (leqm [(.lit (.int .i64 r2297.P)), (.lit (.int .i64 r2297.Step)), (.sl (len r2297.Vals) (flat (eInt .i64) r2297.Vals)), (.sl (len r2297.Rest) (flat eBool r2297.Rest)), (.sl (len r2297.In) (flat eGMsg r2297.In))] 1 5) true, .test (apok (len v2294) 1 88) true, .sl (nadd (len v2294) 1) (lapp (flat eGPart v2294) [(.lit (.int .i64 r2297.P)), (.lit (.int .i64 r2297.Step)), (.sl (len r2297.Vals) (flat (eInt .i64) r2297.Vals)), (.sl (len r2297.Rest) (flat eBool r2297.Rest)), (.sl (len r2297.In) (flat eGMsg r2297.In))]) (len (α := GPart) (appL v2294 [r2297])) (flat eGPart (appL v2294 [r2297])), .int (wadd .i64 v2295 1) (wadd .i64 v2295 1)] := ⟨h2296, (F131_ok K a2161 a2162 a2163 v2295 _ h2298), (leads_ok (by simp only [leadsAny, List.any_cons, List.any_nil, RV.leads, RC.leads, leadsT, hasSl_lit, Bool.or_false, flat_ns (eInt_ns _), flat_ns eBool_ns, flat_ns eStr_ns, flat_ns eGJob_ns, flat_ns eGEdge_ns, flat_ns eGAsked_ns, flat_ns eGMsg_ns, flat_ns eGrule_ns, flat_ns eGA199_ns, flat_ns eGA202_ns])), rfl, h2299, (app_ok (enc := eGPart) (v2294 : List GPart) [r2297]), rfl, trivial⟩
      have h0 := ih _ _ _ hF
      have hn := fun ex ts' => loop_nextC (h := hn61) (l := 0) (c := c61_0) (ts := F61_l0_0_S a2161 a2162 a2163 v2294 v2295) (ts1 := (F61_l0_0_S a2161 a2162 a2163 (appL v2294 [r2297]) (wadd .i64 v2295 1))) (ex := ex) (ts' := ts') pz (by kernel_rfl)
      exact hn _ _ h0
    have hr := Option.some.inj hF
    subst hr
    have pz : HoldAll E H hn61 [.test (ilt v2295 a2162.Parts) false] := ⟨h2296, trivial⟩
    exact loop_endC (h := hn61) (l := 0) (c := c61_0) (ts := F61_l0_0_S a2161 a2162 a2163 v2294 v2295) (ts' := F61_l0_0_X0 a2161 a2162 a2163 v2294) (ex := (.exit 0)) pz (by kernel_rfl) trivial

def F61 (K : Nat) (a2161 : GGraph) (a2162 : GJob) (a2163 : GState) : Option (List GPart × Int) :=
  (F59 K a2161 a2162).bind fun r2164 =>
  bif (ieq r2164 0) then
    ((F88 K a2161 a2162 a2163).bind fun r2167 =>
    bif r2167 then
      ((F61_l0_0 K a2161 a2162 a2163 K [] 0).bind fun w2304 =>
      some (w2304, 0))
    else
    some ([], 1))
  else
  some ([], r2164)
theorem F61_ok (K : Nat) (a2161 : GGraph) (a2162 : GJob) (a2163 : GState) (r : List GPart × Int) (hF : F61 K a2161 a2162 a2163 = some r) : Evt E H 61 [.agg (eGGraph a2161), .agg (eGJob a2162), .agg (eGState a2163)] (F61_res r) := by
  rw [F61] at hF
  refine bind_some hF (fun r2164 h2165 hF => ?_)
  refine cond_some hF (fun h2166 hF => ?_) (fun h2166 hF => ?_)
  ·
    refine bind_some hF (fun r2167 h2168 hF => ?_)
    have pq2306 : ∀ {l : List Cond}, HoldAll E H hn61 l → HoldAll E H hn61 (.call 59 [.agg (eGGraph a2161), .agg (eGJob a2162)] (F59_res r2164) :: .test (leadsAny (Res.mk [(.one (.im (.lit (.int .i64 r2164))))] [])) false :: .test (ine r2164 0) false :: .call 88 [.agg (eGGraph a2161), .agg (eGJob a2162), .agg (eGState a2163)] (F88_res r2167) :: .test (leadsAny (Res.mk [(.one (.im (.lit (.bool r2167))))] [])) false :: l) := fun z => ⟨(F59_ok K a2161 a2162 _ h2165), (leads_ok (by simp only [leadsAny, List.any_cons, List.any_nil, RV.leads, RC.leads, leadsT, hasSl_lit, Bool.or_false, flat_ns (eInt_ns _), flat_ns eBool_ns, flat_ns eStr_ns, flat_ns eGJob_ns, flat_ns eGEdge_ns, flat_ns eGAsked_ns, flat_ns eGMsg_ns, flat_ns eGrule_ns, flat_ns eGA199_ns, flat_ns eGA202_ns])), (ine_t h2166), (F88_ok K a2161 a2162 a2163 _ h2168), (leads_ok (by simp only [leadsAny, List.any_cons, List.any_nil, RV.leads, RC.leads, leadsT, hasSl_lit, Bool.or_false, flat_ns (eInt_ns _), flat_ns eBool_ns, flat_ns eStr_ns, flat_ns eGJob_ns, flat_ns eGEdge_ns, flat_ns eGAsked_ns, flat_ns eGMsg_ns, flat_ns eGrule_ns, flat_ns eGA199_ns, flat_ns eGA202_ns])), z⟩
    refine cond_some hF (fun h2169 hF => ?_) (fun h2169 hF => ?_)
    ·
      refine bind_some hF (fun w2304 h2302 hF => ?_)
      have hr := Option.some.inj hF
      subst hr
      have pz : HoldAll E H hn61 [.test (bnot r2167) false, .loop 0 c61_0 (F61_l0_0_S a2161 a2162 a2163 [] 0) (.exit 0) (F61_l0_0_X0 a2161 a2162 a2163 w2304)] := ⟨(bnot_t h2169), (F61_l0_0_ok K a2161 a2162 a2163 K [] 0 _ h2302), trivial⟩
      exact fn_playC hn61 (f := 61) (ads := [.agg (eGGraph a2161), .agg (eGJob a2162), .agg (eGState a2163)]) (r := F61_res (w2304, 0)) (pq2306 pz) (by kernel_rfl) (by kernel_rfl)
    have hr := Option.some.inj hF
    subst hr
    have pz : HoldAll E H hn61 [.test (bnot r2167) true] := ⟨(bnot_f h2169), trivial⟩
    exact fn_playC hn61 (f := 61) (ads := [.agg (eGGraph a2161), .agg (eGJob a2162), .agg (eGState a2163)]) (r := F61_res ([], 1)) (pq2306 pz) (by kernel_rfl) (by kernel_rfl)
  have hr := Option.some.inj hF
  subst hr
  have pz : HoldAll E H hn61 [.call 59 [.agg (eGGraph a2161), .agg (eGJob a2162)] (F59_res r2164), .test (leadsAny (Res.mk [(.one (.im (.lit (.int .i64 r2164))))] [])) false, .test (ine r2164 0) true] := ⟨(F59_ok K a2161 a2162 _ h2165), (leads_ok (by simp only [leadsAny, List.any_cons, List.any_nil, RV.leads, RC.leads, leadsT, hasSl_lit, Bool.or_false, flat_ns (eInt_ns _), flat_ns eBool_ns, flat_ns eStr_ns, flat_ns eGJob_ns, flat_ns eGEdge_ns, flat_ns eGAsked_ns, flat_ns eGMsg_ns, flat_ns eGrule_ns, flat_ns eGA199_ns, flat_ns eGA202_ns])), (ine_f h2166), trivial⟩
  exact fn_playC hn61 (f := 61) (ads := [.agg (eGGraph a2161), .agg (eGJob a2162), .agg (eGState a2163)]) (r := F61_res ([], r2164)) pz (by kernel_rfl) (by kernel_rfl)

/-! ### haywain/haywainlaw07.wide -/
noncomputable def hn82 : Hint := { H 82 with nt := 19, prot := 0 }
def F82_res (r3424 : Bool) : Res := ⟨[(.one (.im (.lit (.bool r3424))))], []⟩
def F82 (K : Nat) (a3420 : GState) : Option (Bool) :=
  bif (ilt 100 (nlen (len a3420.Vals))) then
    (some true)
  else
  bif (ilt 100 (nlen (len a3420.Rest))) then
    (some true)
  else
  some (igt (nlen (len a3420.In)) 300)
theorem F82_ok (K : Nat) (a3420 : GState) (r : Bool) (hF : F82 K a3420 = some r) : Evt E H 82 [.agg (eGState a3420)] (F82_res r) := by
  rw [F82] at hF
  refine cond_some hF (fun h3421 hF => ?_) (fun h3421 hF => ?_)
  ·
    have hr := Option.some.inj hF
    subst hr
    have pz : HoldAll E H hn82 [.int (nlen (len a3420.Vals)) (nlen (len a3420.Vals)), .test (beqb (igt (nlen (len a3420.Vals)) 100) false) false, .test (beqb (igt (nlen (len a3420.Vals)) 100) false) false, .test (beqb (igt (nlen (len a3420.Vals)) 100) false) false, .test (beqb (igt (nlen (len a3420.Vals)) 100) false) false, .test (igt (nlen (len a3420.Vals)) 100) true, .test (beqb true false) false, .test (beqb true false) false, .test (beqb true false) false, .test (beqb true false) false, .test true true] := ⟨rfl, (beqb_ft (igt_eq h3421)), (beqb_ft (igt_eq h3421)), (beqb_ft (igt_eq h3421)), (beqb_ft (igt_eq h3421)), (igt_eq h3421), (beqb_ft rfl), (beqb_ft rfl), (beqb_ft rfl), (beqb_ft rfl), rfl, trivial⟩
    exact fn_playC hn82 (f := 82) (ads := [.agg (eGState a3420)]) (r := F82_res true) pz (by kernel_rfl) (by kernel_rfl)
  have pq3423 : ∀ {l : List Cond}, HoldAll E H hn82 l → HoldAll E H hn82 (.int (nlen (len a3420.Vals)) (nlen (len a3420.Vals)) :: .test (beqb (igt (nlen (len a3420.Vals)) 100) false) true :: .test (beqb (igt (nlen (len a3420.Vals)) 100) false) true :: .test (beqb (igt (nlen (len a3420.Vals)) 100) false) true :: .int (nlen (len a3420.Rest)) (nlen (len a3420.Rest)) :: .test (beqb (igt (nlen (len a3420.Vals)) 100) false) true :: .test (igt (nlen (len a3420.Vals)) 100) false :: l) := fun z => ⟨rfl, (beqb_ff (igt_eq h3421)), (beqb_ff (igt_eq h3421)), (beqb_ff (igt_eq h3421)), rfl, (beqb_ff (igt_eq h3421)), (igt_eq h3421), z⟩
  refine cond_some hF (fun h3422 hF => ?_) (fun h3422 hF => ?_)
  ·
    have hr := Option.some.inj hF
    subst hr
    have pz : HoldAll E H hn82 [.test (beqb (igt (nlen (len a3420.Rest)) 100) false) false, .test (beqb (igt (nlen (len a3420.Rest)) 100) false) false, .test (beqb (igt (nlen (len a3420.Rest)) 100) false) false, .test (beqb (igt (nlen (len a3420.Rest)) 100) false) false, .test (igt (nlen (len a3420.Rest)) 100) true] := ⟨(beqb_ft (igt_eq h3422)), (beqb_ft (igt_eq h3422)), (beqb_ft (igt_eq h3422)), (beqb_ft (igt_eq h3422)), (igt_eq h3422), trivial⟩
    exact fn_playC hn82 (f := 82) (ads := [.agg (eGState a3420)]) (r := F82_res true) (pq3423 pz) (by kernel_rfl) (by kernel_rfl)
  have hr := Option.some.inj hF
  subst hr
  have pz : HoldAll E H hn82 [.test (beqb (igt (nlen (len a3420.Rest)) 100) false) true, .test (beqb (igt (nlen (len a3420.Rest)) 100) false) true, .test (beqb (igt (nlen (len a3420.Rest)) 100) false) true, .int (nlen (len a3420.In)) (nlen (len a3420.In)), .test (beqb (igt (nlen (len a3420.Rest)) 100) false) true, .test (igt (nlen (len a3420.Rest)) 100) false] := ⟨(beqb_ff (igt_eq h3422)), (beqb_ff (igt_eq h3422)), (beqb_ff (igt_eq h3422)), rfl, (beqb_ff (igt_eq h3422)), (igt_eq h3422), trivial⟩
  exact fn_playC hn82 (f := 82) (ads := [.agg (eGState a3420)]) (r := F82_res (igt (nlen (len a3420.In)) 300)) (pq3423 pz) (by kernel_rfl) (by kernel_rfl)

/-! ### haywain/part.Split -/
noncomputable def hn83 : Hint := { H 83 with nt := 91, prot := 0 }
noncomputable def c83_0 : Code := loopOf E 83 0
noncomputable def c83_1 : Code := loopOf E 83 1
noncomputable def c83_2 : Code := loopOf E 83 2
def F83_res (r3591 : List GPart × Int) : Res := ⟨[(.one (.own 42 (.sl (len r3591.1) (flat eGPart r3591.1)))), (.one (.im (.lit (.int .i64 r3591.2))))], []⟩
def F83_l1_1 (K : Nat) (a3428 : GGraph) (a3429 : GJob) (a3430 : GState) (v3528 : List GPart) (v3529 : Int) : Nat → List Int → List Bool → Int → Option (List Int × List Bool)
  | 0, _, _, _ => none
  | k + 1, v3540, v3541, v3542 =>
    bif (ilt v3542 a3428.N) then
      (bif (inr v3542 (len a3430.Vals)) then
      (elAt a3430.Vals v3542).bind fun x3545 =>
      bif (apok (len v3540) 1 8) then
      bif (inr v3542 (len a3430.Rest)) then
      (elAt a3430.Rest v3542).bind fun x3549 =>
      bif (apok (len v3541) 1 1) then
      F83_l1_1 K a3428 a3429 a3430 v3528 v3529 k (appL v3540 [x3545]) (appL v3541 [x3549]) (wadd .i64 v3542 a3429.Parts)
      else none
      else none
      else none
      else none)
    else
    some (v3540, v3541)
def F83_l1_1_S (a3428 : GGraph) (a3429 : GJob) (a3430 : GState) (v3528 : List GPart) (v3529 : Int) (v3540 : List Int) (v3541 : List Bool) (v3542 : Int) : TS := .on [192, 193, 194, 256, 257, 258, 259, 260, 320, 321, 322, 323, 324, 576, 577, 640, 641, 704, 705, 706, 707, 708, 709, 768, 769, 1728, 1729, 1792, 1793] [(192, ⟨(.box 62 2), 0, nob⟩), (193, ⟨.im, 0, (.lit (.int .i64 a3428.N))⟩), (194, ⟨.im, 0, (.sl (len a3428.Edges) (flat eGEdge a3428.Edges))⟩), (256, ⟨(.box 64 4), 0, nob⟩), (257, ⟨.im, 0, (.lit (.int .i64 a3429.Prog))⟩), (258, ⟨.im, 0, (.lit (.int .i64 a3429.Source))⟩), (259, ⟨.im, 0, (.lit (.int .i64 a3429.Limit))⟩), (260, ⟨.im, 0, (.lit (.int .i64 a3429.Parts))⟩), (320, ⟨(.box 74 4), 0, nob⟩), (321, ⟨.im, 0, (.lit (.int .i64 a3430.Step))⟩), (322, ⟨.im, 0, (.sl (len a3430.Vals) (flat (eInt .i64) a3430.Vals))⟩), (323, ⟨.im, 0, (.sl (len a3430.Rest) (flat eBool a3430.Rest))⟩), (324, ⟨.im, 0, (.sl (len a3430.In) (flat eGMsg a3430.In))⟩), (576, ⟨.one, 0, nob⟩), (577, ⟨(.own 42), 0, (.sl (len v3528) (flat eGPart v3528))⟩), (640, ⟨.one, 0, nob⟩), (641, ⟨.im, 0, (.lit (.int .i64 v3529))⟩), (704, ⟨(.box 42 5), 0, nob⟩), (705, ⟨.im, 0, (.lit (.int .i64 v3529))⟩), (706, ⟨.im, 0, (.lit (.int .i64 a3430.Step))⟩), (707, ⟨(.own 2), 0, (.sl (len v3540) (flat (eInt .i64) v3540))⟩), (708, ⟨(.own 4), 0, (.sl (len v3541) (flat eBool v3541))⟩), (709, ⟨(.own 130), 0, (.sl 0 [])⟩), (768, ⟨.one, 0, nob⟩), (769, ⟨.im, 0, (.lit (.int .i64 v3542))⟩), (1728, ⟨.one, 0, nob⟩), (1729, ⟨.im, 0, (.lit (.int .i64 a3429.Parts))⟩), (1792, ⟨.one, 0, nob⟩), (1793, ⟨.im, 0, (.lit (.int .i64 v3529))⟩)]
def F83_l1_1_X0 (a3428 : GGraph) (a3429 : GJob) (a3430 : GState) (v3528 : List GPart) (v3529 : Int) (w3552 : List Int × List Bool) : TS := .on [192, 193, 194, 256, 257, 258, 259, 260, 320, 321, 322, 323, 324, 576, 577, 640, 641, 704, 705, 706, 707, 708, 709, 1728, 1729, 1792, 1793] [(192, ⟨(.box 62 2), 0, nob⟩), (193, ⟨.im, 0, (.lit (.int .i64 a3428.N))⟩), (194, ⟨.im, 0, (.sl (len a3428.Edges) (flat eGEdge a3428.Edges))⟩), (256, ⟨(.box 64 4), 0, nob⟩), (257, ⟨.im, 0, (.lit (.int .i64 a3429.Prog))⟩), (258, ⟨.im, 0, (.lit (.int .i64 a3429.Source))⟩), (259, ⟨.im, 0, (.lit (.int .i64 a3429.Limit))⟩), (260, ⟨.im, 0, (.lit (.int .i64 a3429.Parts))⟩), (320, ⟨(.box 74 4), 0, nob⟩), (321, ⟨.im, 0, (.lit (.int .i64 a3430.Step))⟩), (322, ⟨.im, 0, (.sl (len a3430.Vals) (flat (eInt .i64) a3430.Vals))⟩), (323, ⟨.im, 0, (.sl (len a3430.Rest) (flat eBool a3430.Rest))⟩), (324, ⟨.im, 0, (.sl (len a3430.In) (flat eGMsg a3430.In))⟩), (576, ⟨.one, 0, nob⟩), (577, ⟨(.own 42), 0, (.sl (len v3528) (flat eGPart v3528))⟩), (640, ⟨.one, 0, nob⟩), (641, ⟨.im, 0, (.lit (.int .i64 v3529))⟩), (704, ⟨(.box 42 5), 0, nob⟩), (705, ⟨.im, 0, (.lit (.int .i64 v3529))⟩), (706, ⟨.im, 0, (.lit (.int .i64 a3430.Step))⟩), (707, ⟨(.own 2), 0, (.sl (len w3552.1) (flat (eInt .i64) w3552.1))⟩), (708, ⟨(.own 4), 0, (.sl (len w3552.2) (flat eBool w3552.2))⟩), (709, ⟨(.own 130), 0, (.sl 0 [])⟩), (1728, ⟨.one, 0, nob⟩), (1729, ⟨.im, 0, (.lit (.int .i64 a3429.Parts))⟩), (1792, ⟨.one, 0, nob⟩), (1793, ⟨.im, 0, (.lit (.int .i64 v3529))⟩)]
theorem F83_l1_1_ok (K : Nat) (a3428 : GGraph) (a3429 : GJob) (a3430 : GState) (v3528 : List GPart) (v3529 : Int) : ∀ (k : Nat) (v3540 : List Int) (v3541 : List Bool) (v3542 : Int) (r : List Int × List Bool), F83_l1_1 K a3428 a3429 a3430 v3528 v3529 k v3540 v3541 v3542 = some r → LoopEv E H hn83 2 c83_1 (F83_l1_1_S a3428 a3429 a3430 v3528 v3529 v3540 v3541 v3542) (.exit 2) (F83_l1_1_X0 a3428 a3429 a3430 v3528 v3529 r) := by
  intro k
  induction k with
  | zero => intro v3540 v3541 v3542 r hF; cases hF
  | succ k ih =>
    intro v3540 v3541 v3542 r hF
    rw [F83_l1_1] at hF
    refine cond_some hF (fun h3543 hF => ?_) (fun h3543 hF => ?_)
    ·
      refine cond_some hF (fun h3544 hF => ?_) (fun _ hF => nomatch hF)
      refine bind_some hF (fun x3545 h3546 hF => ?_)
      refine cond_some hF (fun h3547 hF => ?_) (fun _ hF => nomatch hF)
      refine cond_some hF (fun h3548 hF => ?_) (fun _ hF => nomatch hF)
      refine bind_some hF (fun x3549 h3550 hF => ?_)
      refine cond_some hF (fun h3551 hF => ?_) (fun _ hF => nomatch hF)
      have pz : HoldAll E H hn83 [.test (ilt v3542 a3428.N) true, .test (inr v3542 (len a3430.Vals)) true, .sub (flat (eInt .i64) a3430.Vals) (nidx v3542 1) 1 [(.lit (.int .i64 x3545))], .test (leqm [(.lit (.int .i64 x3545))] 1 1) true, .test (apok (len v3540) 1 8) true, .sl (nadd (len v3540) 1) (lapp (flat (eInt .i64) v3540) [(.lit (.int .i64 x3545))]) (len (α := Int) (appL v3540 [x3545])) (flat (eInt .i64) (appL v3540 [x3545])), .test (inr v3542 (len a3430.Rest)) true, .sub (flat eBool a3430.Rest) (nidx v3542 1) 1 [(.lit (.bool x3549))], .test (leqm [(.lit (.bool x3549))] 1 1) true, .test (apok (len v3541) 1 1) true, .sl (nadd (len v3541) 1) (lapp (flat eBool v3541) [(.lit (.bool x3549))]) (len (α := Bool) (appL v3541 [x3549])) (flat eBool (appL v3541 [x3549])), .int (wadd .i64 v3542 a3429.Parts) (wadd .i64 v3542 a3429.Parts)] := ⟨h3543, h3544, ⟨rfl, sub_flat0 (eInt_len _) h3546 1 (by decide)⟩, rfl, h3547, (app_ok (enc := (eInt .i64)) (v3540 : List Int) [x3545]), h3548, ⟨rfl, sub_flat0 eBool_len h3550 1 (by decide)⟩, rfl, h3551, (app_ok (enc := eBool) (v3541 : List Bool) [x3549]), rfl, trivial⟩
      have h0 := ih _ _ _ _ hF
      have hn := fun ex ts' => loop_nextC (h := hn83) (l := 2) (c := c83_1) (ts := F83_l1_1_S a3428 a3429 a3430 v3528 v3529 v3540 v3541 v3542) (ts1 := (F83_l1_1_S a3428 a3429 a3430 v3528 v3529 (appL v3540 [x3545]) (appL v3541 [x3549]) (wadd .i64 v3542 a3429.Parts))) (ex := ex) (ts' := ts') pz (by kernel_rfl)
      exact hn _ _ h0
    have hr := Option.some.inj hF
    subst hr
    have pz : HoldAll E H hn83 [.test (ilt v3542 a3428.N) false] := ⟨h3543, trivial⟩
    exact loop_endC (h := hn83) (l := 2) (c := c83_1) (ts := F83_l1_1_S a3428 a3429 a3430 v3528 v3529 v3540 v3541 v3542) (ts' := F83_l1_1_X0 a3428 a3429 a3430 v3528 v3529 (v3540, v3541)) (ex := (.exit 2)) pz (by kernel_rfl) trivial

def F83_l2_2 (K : Nat) (a3428 : GGraph) (a3429 : GJob) (a3430 : GState) (v3528 : List GPart) (v3529 : Int) (w3557 : List Int × List Bool) : Nat → List GMsg → Int → Option (List GMsg)
  | 0, _, _ => none
  | k + 1, v3567, v3568 =>
    bif (ilt v3568 (nlen (len a3430.In))) then
      (bif (inr v3568 (len a3430.In)) then
      (elAt a3430.In v3568).bind fun x3571 =>
      bif (izero a3429.Parts) then none else
      bif (ieq (wrem x3571.To a3429.Parts) v3529) then
        (bif (apok (len v3567) 1 16) then
        F83_l2_2 K a3428 a3429 a3430 v3528 v3529 w3557 k (appL v3567 [x3571]) (wadd .i64 v3568 1)
        else none)
      else
      F83_l2_2 K a3428 a3429 a3430 v3528 v3529 w3557 k v3567 (wadd .i64 v3568 1)
      else none)
    else
    some v3567
def F83_l2_2_S (a3428 : GGraph) (a3429 : GJob) (a3430 : GState) (v3528 : List GPart) (v3529 : Int) (w3557 : List Int × List Bool) (v3567 : List GMsg) (v3568 : Int) : TS := .on [192, 193, 194, 256, 257, 258, 259, 260, 320, 321, 322, 323, 324, 576, 577, 640, 641, 704, 705, 706, 707, 708, 709, 1728, 1729, 1792, 1793, 4096, 4160, 4161, 4224, 4225, 4288, 4289] [(192, ⟨(.box 62 2), 0, nob⟩), (193, ⟨.im, 0, (.lit (.int .i64 a3428.N))⟩), (194, ⟨.im, 0, (.sl (len a3428.Edges) (flat eGEdge a3428.Edges))⟩), (256, ⟨(.box 64 4), 0, nob⟩), (257, ⟨.im, 0, (.lit (.int .i64 a3429.Prog))⟩), (258, ⟨.im, 0, (.lit (.int .i64 a3429.Source))⟩), (259, ⟨.im, 0, (.lit (.int .i64 a3429.Limit))⟩), (260, ⟨.im, 0, (.lit (.int .i64 a3429.Parts))⟩), (320, ⟨(.box 74 4), 0, nob⟩), (321, ⟨.im, 0, (.lit (.int .i64 a3430.Step))⟩), (322, ⟨.im, 0, (.sl (len a3430.Vals) (flat (eInt .i64) a3430.Vals))⟩), (323, ⟨.im, 0, (.sl (len a3430.Rest) (flat eBool a3430.Rest))⟩), (324, ⟨.im, 0, (.sl (len a3430.In) (flat eGMsg a3430.In))⟩), (576, ⟨.one, 0, nob⟩), (577, ⟨(.own 42), 0, (.sl (len v3528) (flat eGPart v3528))⟩), (640, ⟨.one, 0, nob⟩), (641, ⟨.im, 0, (.lit (.int .i64 v3529))⟩), (704, ⟨(.box 42 5), 0, nob⟩), (705, ⟨.im, 0, (.lit (.int .i64 v3529))⟩), (706, ⟨.im, 0, (.lit (.int .i64 a3430.Step))⟩), (707, ⟨(.own 2), 0, (.sl (len w3557.1) (flat (eInt .i64) w3557.1))⟩), (708, ⟨(.own 4), 0, (.sl (len w3557.2) (flat eBool w3557.2))⟩), (709, ⟨(.own 130), 0, (.sl (len v3567) (flat eGMsg v3567))⟩), (1728, ⟨.one, 0, nob⟩), (1729, ⟨.im, 0, (.lit (.int .i64 a3429.Parts))⟩), (1792, ⟨.one, 0, nob⟩), (1793, ⟨.im, 0, (.lit (.int .i64 v3529))⟩), (4096, ⟨(.ad 5 0 3), 0, nob⟩), (4160, ⟨.one, 0, nob⟩), (4161, ⟨.im, 0, (.sl (len a3430.In) (flat eGMsg a3430.In))⟩), (4224, ⟨.one, 0, nob⟩), (4225, ⟨.im, 0, (.lit (.int .i64 (nlen (len a3430.In))))⟩), (4288, ⟨.one, 0, nob⟩), (4289, ⟨.im, 0, (.lit (.int .i64 v3568))⟩)]
def F83_l2_2_X0 (a3428 : GGraph) (a3429 : GJob) (a3430 : GState) (v3528 : List GPart) (v3529 : Int) (w3557 : List Int × List Bool) (w3576 : List GMsg) : TS := .on [192, 193, 194, 256, 257, 258, 259, 260, 320, 321, 322, 323, 324, 576, 577, 704, 705, 706, 707, 708, 709, 1728, 1729, 1792, 1793] [(192, ⟨(.box 62 2), 0, nob⟩), (193, ⟨.im, 0, (.lit (.int .i64 a3428.N))⟩), (194, ⟨.im, 0, (.sl (len a3428.Edges) (flat eGEdge a3428.Edges))⟩), (256, ⟨(.box 64 4), 0, nob⟩), (257, ⟨.im, 0, (.lit (.int .i64 a3429.Prog))⟩), (258, ⟨.im, 0, (.lit (.int .i64 a3429.Source))⟩), (259, ⟨.im, 0, (.lit (.int .i64 a3429.Limit))⟩), (260, ⟨.im, 0, (.lit (.int .i64 a3429.Parts))⟩), (320, ⟨(.box 74 4), 0, nob⟩), (321, ⟨.im, 0, (.lit (.int .i64 a3430.Step))⟩), (322, ⟨.im, 0, (.sl (len a3430.Vals) (flat (eInt .i64) a3430.Vals))⟩), (323, ⟨.im, 0, (.sl (len a3430.Rest) (flat eBool a3430.Rest))⟩), (324, ⟨.im, 0, (.sl (len a3430.In) (flat eGMsg a3430.In))⟩), (576, ⟨.one, 0, nob⟩), (577, ⟨(.own 42), 0, (.sl (len v3528) (flat eGPart v3528))⟩), (704, ⟨(.box 42 5), 0, nob⟩), (705, ⟨.im, 0, (.lit (.int .i64 v3529))⟩), (706, ⟨.im, 0, (.lit (.int .i64 a3430.Step))⟩), (707, ⟨(.own 2), 0, (.sl (len w3557.1) (flat (eInt .i64) w3557.1))⟩), (708, ⟨(.own 4), 0, (.sl (len w3557.2) (flat eBool w3557.2))⟩), (709, ⟨(.own 130), 0, (.sl (len w3576) (flat eGMsg w3576))⟩), (1728, ⟨.one, 0, nob⟩), (1729, ⟨.im, 0, (.lit (.int .i64 a3429.Parts))⟩), (1792, ⟨.one, 0, nob⟩), (1793, ⟨.im, 0, (.lit (.int .i64 v3529))⟩)]
theorem F83_l2_2_ok (K : Nat) (a3428 : GGraph) (a3429 : GJob) (a3430 : GState) (v3528 : List GPart) (v3529 : Int) (w3557 : List Int × List Bool) : ∀ (k : Nat) (v3567 : List GMsg) (v3568 : Int) (r : List GMsg), F83_l2_2 K a3428 a3429 a3430 v3528 v3529 w3557 k v3567 v3568 = some r → LoopEv E H hn83 4 c83_2 (F83_l2_2_S a3428 a3429 a3430 v3528 v3529 w3557 v3567 v3568) (.exit 4) (F83_l2_2_X0 a3428 a3429 a3430 v3528 v3529 w3557 r) := by
  intro k
  induction k with
  | zero => intro v3567 v3568 r hF; cases hF
  | succ k ih =>
    intro v3567 v3568 r hF
    rw [F83_l2_2] at hF
    refine cond_some hF (fun h3569 hF => ?_) (fun h3569 hF => ?_)
    ·
      refine cond_some hF (fun h3570 hF => ?_) (fun _ hF => nomatch hF)
      refine bind_some hF (fun x3571 h3572 hF => ?_)
      refine cond_some hF (fun _ hF => nomatch hF) (fun h3573 hF => ?_)
      have pq3578 : ∀ {l : List Cond}, HoldAll E H hn83 l → HoldAll E H hn83 (.test (ilt v3568 (nlen (len a3430.In))) true :: .test (inr v3568 (len a3430.In)) true :: .sub (flat eGMsg a3430.In) (nidx v3568 2) 2 [(.lit (.int .i64 x3571.To)), (.lit (.int .i64 x3571.V))] :: .test (izero a3429.Parts) false :: .int (wrem x3571.To a3429.Parts) (wrem x3571.To a3429.Parts) :: l) := fun z => ⟨h3569, h3570, ⟨rfl, sub_flat0 eGMsg_len h3572 2 (by decide)⟩, h3573, rfl, z⟩
      refine cond_some hF (fun h3574 hF => ?_) (fun h3574 hF => ?_)
      ·
        refine cond_some hF (fun h3575 hF => ?_) (fun _ hF => nomatch hF)
        have pz : HoldAll E H hn83 [.test (ieq (wrem x3571.To a3429.Parts) v3529) true, .test (leqm [(.lit (.int .i64 x3571.To)), (.lit (.int .i64 x3571.V))] 1 2) true, .test (apok (len v3567) 1 16) true, .sl (nadd (len v3567) 1) (lapp (flat eGMsg v3567) [(.lit (.int .i64 x3571.To)), (.lit (.int .i64 x3571.V))]) (len (α := GMsg) (appL v3567 [x3571])) (flat eGMsg (appL v3567 [x3571])), .int (wadd .i64 v3568 1) (wadd .i64 v3568 1)] := ⟨h3574, rfl, h3575, (app_ok (enc := eGMsg) (v3567 : List GMsg) [x3571]), rfl, trivial⟩
        have h0 := ih _ _ _ hF
        have hn := fun ex ts' => loop_nextC (h := hn83) (l := 4) (c := c83_2) (ts := F83_l2_2_S a3428 a3429 a3430 v3528 v3529 w3557 v3567 v3568) (ts1 := (F83_l2_2_S a3428 a3429 a3430 v3528 v3529 w3557 (appL v3567 [x3571]) (wadd .i64 v3568 1))) (ex := ex) (ts' := ts') (pq3578 pz) (by kernel_rfl)
        exact hn _ _ h0
      have pz : HoldAll E H hn83 [.test (ieq (wrem x3571.To a3429.Parts) v3529) false, .int (wadd .i64 v3568 1) (wadd .i64 v3568 1)] := ⟨h3574, rfl, trivial⟩
      have h0 := ih _ _ _ hF
      have hn := fun ex ts' => loop_nextC (h := hn83) (l := 4) (c := c83_2) (ts := F83_l2_2_S a3428 a3429 a3430 v3528 v3529 w3557 v3567 v3568) (ts1 := (F83_l2_2_S a3428 a3429 a3430 v3528 v3529 w3557 v3567 (wadd .i64 v3568 1))) (ex := ex) (ts' := ts') (pq3578 pz) (by kernel_rfl)
      exact hn _ _ h0
    have hr := Option.some.inj hF
    subst hr
    have pz : HoldAll E H hn83 [.test (ilt v3568 (nlen (len a3430.In))) false] := ⟨h3569, trivial⟩
    exact loop_endC (h := hn83) (l := 4) (c := c83_2) (ts := F83_l2_2_S a3428 a3429 a3430 v3528 v3529 w3557 v3567 v3568) (ts' := F83_l2_2_X0 a3428 a3429 a3430 v3528 v3529 w3557 v3567) (ex := (.exit 4)) pz (by kernel_rfl) trivial

def F83_l0_0 (K : Nat) (a3428 : GGraph) (a3429 : GJob) (a3430 : GState) : Nat → List GPart → Int → Option (List GPart)
  | 0, _, _ => none
  | k + 1, v3528, v3529 =>
    bif (ilt v3529 a3429.Parts) then
      ((F83_l1_1 K a3428 a3429 a3430 v3528 v3529 K [] [] v3529).bind fun w3557 =>
      (F83_l2_2 K a3428 a3429 a3430 v3528 v3529 w3557 K [] 0).bind fun w3581 =>
      bif (apok (len v3528) 1 88) then
      F83_l0_0 K a3428 a3429 a3430 k (appL v3528 [(GPart.mk v3529 a3430.Step w3557.1 w3557.2 w3581)]) (wadd .i64 v3529 1)
      else none)
    else
    some v3528
def F83_l0_0_S (a3428 : GGraph) (a3429 : GJob) (a3430 : GState) (v3528 : List GPart) (v3529 : Int) : TS := .on [192, 193, 194, 256, 257, 258, 259, 260, 320, 321, 322, 323, 324, 576, 577, 1728, 1729, 1792, 1793] [(192, ⟨(.box 62 2), 0, nob⟩), (193, ⟨.im, 0, (.lit (.int .i64 a3428.N))⟩), (194, ⟨.im, 0, (.sl (len a3428.Edges) (flat eGEdge a3428.Edges))⟩), (256, ⟨(.box 64 4), 0, nob⟩), (257, ⟨.im, 0, (.lit (.int .i64 a3429.Prog))⟩), (258, ⟨.im, 0, (.lit (.int .i64 a3429.Source))⟩), (259, ⟨.im, 0, (.lit (.int .i64 a3429.Limit))⟩), (260, ⟨.im, 0, (.lit (.int .i64 a3429.Parts))⟩), (320, ⟨(.box 74 4), 0, nob⟩), (321, ⟨.im, 0, (.lit (.int .i64 a3430.Step))⟩), (322, ⟨.im, 0, (.sl (len a3430.Vals) (flat (eInt .i64) a3430.Vals))⟩), (323, ⟨.im, 0, (.sl (len a3430.Rest) (flat eBool a3430.Rest))⟩), (324, ⟨.im, 0, (.sl (len a3430.In) (flat eGMsg a3430.In))⟩), (576, ⟨.one, 0, nob⟩), (577, ⟨(.own 42), 0, (.sl (len v3528) (flat eGPart v3528))⟩), (1728, ⟨.one, 0, nob⟩), (1729, ⟨.im, 0, (.lit (.int .i64 a3429.Parts))⟩), (1792, ⟨.one, 0, nob⟩), (1793, ⟨.im, 0, (.lit (.int .i64 v3529))⟩)]
def F83_l0_0_X0 (a3428 : GGraph) (a3429 : GJob) (a3430 : GState) (w3584 : List GPart) : TS := .on [576, 577] [(576, ⟨.one, 0, nob⟩), (577, ⟨(.own 42), 0, (.sl (len w3584) (flat eGPart w3584))⟩)]
theorem F83_l0_0_ok (K : Nat) (a3428 : GGraph) (a3429 : GJob) (a3430 : GState) : ∀ (k : Nat) (v3528 : List GPart) (v3529 : Int) (r : List GPart), F83_l0_0 K a3428 a3429 a3430 k v3528 v3529 = some r → LoopEv E H hn83 0 c83_0 (F83_l0_0_S a3428 a3429 a3430 v3528 v3529) (.exit 0) (F83_l0_0_X0 a3428 a3429 a3430 r) := by
  intro k
  induction k with
  | zero => intro v3528 v3529 r hF; cases hF
  | succ k ih =>
    intro v3528 v3529 r hF
    rw [F83_l0_0] at hF
    refine cond_some hF (fun h3530 hF => ?_) (fun h3530 hF => ?_)
    ·
      refine bind_some hF (fun w3557 h3555 hF => ?_)
      refine bind_some hF (fun w3581 h3579 hF => ?_)
      refine cond_some hF (fun h3583 hF => ?_) (fun _ hF => nomatch hF)
      have pz : HoldAll E H hn83 [.test (ilt v3529 a3429.Parts) true, .loop 2 c83_1 (F83_l1_1_S a3428 a3429 a3430 v3528 v3529 [] [] v3529) (.exit 2) (F83_l1_1_X0 a3428 a3429 a3430 v3528 v3529 w3557), .int (nlen (len a3430.In)) (nlen (len a3430.In)), .loop 4 c83_2 (F83_l2_2_S a3428 a3429 a3430 v3528 v3529 w3557 [] 0) (.exit 4) (F83_l2_2_X0 a3428 a3429 a3430 v3528 v3529 w3557 w3581), .test (leqm [(.lit (.int .i64 v3529)), (.lit (.int .i64 a3430.Step)), (.sl (len w3557.1) (flat (eInt .i64) w3557.1)), (.sl (len w3557.2) (flat eBool w3557.2)), (.sl (len w3581) (flat eGMsg w3581))] 1 5) true, .test (apok (len v3528) 1 88) true, .sl (nadd (len v3528) 1) (lapp (flat eGPart v3528) [(.lit (.int .i64 v3529)), (.lit (.int .i64 a3430.Step)), (.sl (len w3557.1) (flat (eInt .i64) w3557.1)), (.sl (len w3557.2) (flat eBool w3557.2)), (.sl (len w3581) (flat eGMsg w3581))]) (len (α := GPart) (appL v3528 [(GPart.mk v3529 a3430.Step w3557.1 w3557.2 w3581)])) (flat eGPart (appL v3528 [(GPart.mk v3529 a3430.Step w3557.1 w3557.2 w3581)])), .int (wadd .i64 v3529 1) (wadd .i64 v3529 1)] := ⟨h3530, (F83_l1_1_ok K a3428 a3429 a3430 v3528 v3529 K [] [] v3529 _ h3555), rfl, (F83_l2_2_ok K a3428 a3429 a3430 v3528 v3529 w3557 K [] 0 _ h3579), rfl, h3583, (app_ok (enc := eGPart) (v3528 : List GPart) [(GPart.mk v3529 a3430.Step w3557.1 w3557.2 w3581)]), rfl, trivial⟩
      have h0 := ih _ _ _ hF
      have hn := fun ex ts' => loop_nextC (h := hn83) (l := 0) (c := c83_0) (ts := F83_l0_0_S a3428 a3429 a3430 v3528 v3529) (ts1 := (F83_l0_0_S a3428 a3429 a3430 (appL v3528 [(GPart.mk v3529 a3430.Step w3557.1 w3557.2 w3581)]) (wadd .i64 v3529 1))) (ex := ex) (ts' := ts') pz (by kernel_rfl)
      exact hn _ _ h0
    have hr := Option.some.inj hF
    subst hr
    have pz : HoldAll E H hn83 [.test (ilt v3529 a3429.Parts) false] := ⟨h3530, trivial⟩
    exact loop_endC (h := hn83) (l := 0) (c := c83_0) (ts := F83_l0_0_S a3428 a3429 a3430 v3528 v3529) (ts' := F83_l0_0_X0 a3428 a3429 a3430 v3528) (ex := (.exit 0)) pz (by kernel_rfl) trivial

def F83 (K : Nat) (a3428 : GGraph) (a3429 : GJob) (a3430 : GState) : Option (List GPart × Int) :=
  (F94 K a3428 a3429).bind fun r3431 =>
  bif (ieq r3431 0) then
    ((F104 K a3428 a3429 a3430).bind fun r3471 =>
    bif r3471 then
      ((F83_l0_0 K a3428 a3429 a3430 K [] 0).bind fun w3588 =>
      some (w3588, 0))
    else
    some ([], 1))
  else
  some ([], r3431)
theorem F83_ok (K : Nat) (a3428 : GGraph) (a3429 : GJob) (a3430 : GState) (r : List GPart × Int) (hF : F83 K a3428 a3429 a3430 = some r) : Evt E H 83 [.agg (eGGraph a3428), .agg (eGJob a3429), .agg (eGState a3430)] (F83_res r) := by
  rw [F83] at hF
  refine bind_some hF (fun r3431 h3432 hF => ?_)
  refine cond_some hF (fun h3433 hF => ?_) (fun h3433 hF => ?_)
  ·
    refine bind_some hF (fun r3471 h3472 hF => ?_)
    have pq3590 : ∀ {l : List Cond}, HoldAll E H hn83 l → HoldAll E H hn83 (.call 94 [.agg (eGGraph a3428), .agg (eGJob a3429)] (F94_res r3431) :: .test (leadsAny (Res.mk [(.one (.im (.lit (.int .i64 r3431))))] [])) false :: .test (ine r3431 0) false :: .call 104 [.agg (eGGraph a3428), .agg (eGJob a3429), .agg (eGState a3430)] (F104_res r3471) :: .test (leadsAny (Res.mk [(.one (.im (.lit (.bool r3471))))] [])) false :: l) := fun z => ⟨(F94_ok K a3428 a3429 _ h3432), (leads_ok (by simp only [leadsAny, List.any_cons, List.any_nil, RV.leads, RC.leads, leadsT, hasSl_lit, Bool.or_false, flat_ns (eInt_ns _), flat_ns eBool_ns, flat_ns eStr_ns, flat_ns eGJob_ns, flat_ns eGEdge_ns, flat_ns eGAsked_ns, flat_ns eGMsg_ns, flat_ns eGrule_ns, flat_ns eGA199_ns, flat_ns eGA202_ns])), (ine_t h3433), (F104_ok K a3428 a3429 a3430 _ h3472), (leads_ok (by simp only [leadsAny, List.any_cons, List.any_nil, RV.leads, RC.leads, leadsT, hasSl_lit, Bool.or_false, flat_ns (eInt_ns _), flat_ns eBool_ns, flat_ns eStr_ns, flat_ns eGJob_ns, flat_ns eGEdge_ns, flat_ns eGAsked_ns, flat_ns eGMsg_ns, flat_ns eGrule_ns, flat_ns eGA199_ns, flat_ns eGA202_ns])), z⟩
    refine cond_some hF (fun h3473 hF => ?_) (fun h3473 hF => ?_)
    ·
      refine bind_some hF (fun w3588 h3586 hF => ?_)
      have hr := Option.some.inj hF
      subst hr
      have pz : HoldAll E H hn83 [.test (bnot r3471) false, .loop 0 c83_0 (F83_l0_0_S a3428 a3429 a3430 [] 0) (.exit 0) (F83_l0_0_X0 a3428 a3429 a3430 w3588)] := ⟨(bnot_t h3473), (F83_l0_0_ok K a3428 a3429 a3430 K [] 0 _ h3586), trivial⟩
      exact fn_playC hn83 (f := 83) (ads := [.agg (eGGraph a3428), .agg (eGJob a3429), .agg (eGState a3430)]) (r := F83_res (w3588, 0)) (pq3590 pz) (by kernel_rfl) (by kernel_rfl)
    have hr := Option.some.inj hF
    subst hr
    have pz : HoldAll E H hn83 [.test (bnot r3471) true] := ⟨(bnot_f h3473), trivial⟩
    exact fn_playC hn83 (f := 83) (ads := [.agg (eGGraph a3428), .agg (eGJob a3429), .agg (eGState a3430)]) (r := F83_res ([], 1)) (pq3590 pz) (by kernel_rfl) (by kernel_rfl)
  have hr := Option.some.inj hF
  subst hr
  have pz : HoldAll E H hn83 [.call 94 [.agg (eGGraph a3428), .agg (eGJob a3429)] (F94_res r3431), .test (leadsAny (Res.mk [(.one (.im (.lit (.int .i64 r3431))))] [])) false, .test (ine r3431 0) true] := ⟨(F94_ok K a3428 a3429 _ h3432), (leads_ok (by simp only [leadsAny, List.any_cons, List.any_nil, RV.leads, RC.leads, leadsT, hasSl_lit, Bool.or_false, flat_ns (eInt_ns _), flat_ns eBool_ns, flat_ns eStr_ns, flat_ns eGJob_ns, flat_ns eGEdge_ns, flat_ns eGAsked_ns, flat_ns eGMsg_ns, flat_ns eGrule_ns, flat_ns eGA199_ns, flat_ns eGA202_ns])), (ine_f h3433), trivial⟩
  exact fn_playC hn83 (f := 83) (ads := [.agg (eGGraph a3428), .agg (eGJob a3429), .agg (eGState a3430)]) (r := F83_res ([], r3431)) pz (by kernel_rfl) (by kernel_rfl)

end Go.Proofs.Ytnjanliihnadjaa.Tm

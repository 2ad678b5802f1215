/- Printed by program: what each function computes, and that the machine answers so. Conditions: none. -/
import Derived.Test.YtnjanliihnadjaaTy
import Derived.Test.YtnjanliihnadjaaTab
import Derived.Test.YtnjanliihnadjaaKn
import Derived.Test.YtnjanliihnadjaaFA
import Derived.Test.YtnjanliihnadjaaFP
import Derived.KernelRfl
set_option linter.unusedVariables false
set_option linter.unusedSimpArgs false
namespace Go.Proofs.Ytnjanliihnadjaa.Tm
open Go
/-! ### haywain/haywainref07.Verts -/
noncomputable def hn139 : Hint := { H 139 with nt := 26, prot := 0 }
noncomputable def c139_0 : Code := loopOf E 139 0
def F139_res (r2195 : List Int) : Res := ⟨[(.one (.own 3 (.sl (len r2195) (flat (eInt .i64) r2195))))], []⟩
def F139_l0_0 (K : Nat) (a2175 : GGraph) (a2176 : GJob) (a2177 : Int) : Nat → List Int → Int → Option (List Int)
  | 0, _, _ => none
  | k + 1, v2182, v2183 =>
    bif (ilt v2183 a2175.N) then
      (bif (izero a2176.Parts) then none else
      bif (ieq (wrem v2183 a2176.Parts) a2177) then
        (bif (apok (len v2182) 1 8) then
        F139_l0_0 K a2175 a2176 a2177 k (appL v2182 [v2183]) (wadd .i64 v2183 1)
        else none)
      else
      F139_l0_0 K a2175 a2176 a2177 k v2182 (wadd .i64 v2183 1))
    else
    some v2182
def F139_l0_0_S (a2175 : GGraph) (a2176 : GJob) (a2177 : Int) (v2182 : List Int) (v2183 : Int) : TS := .on [128, 129, 192, 193, 194, 256, 257, 258, 259, 260, 448, 449, 512, 513] [(128, ⟨.one, 0, nob⟩), (129, ⟨.im, 0, (.lit (.int .i64 a2177))⟩), (192, ⟨(.box 62 2), 0, nob⟩), (193, ⟨.im, 0, (.lit (.int .i64 a2175.N))⟩), (194, ⟨.im, 0, (.sl (len a2175.Edges) (flat eGEdge a2175.Edges))⟩), (256, ⟨(.box 64 4), 0, nob⟩), (257, ⟨.im, 0, (.lit (.int .i64 a2176.Prog))⟩), (258, ⟨.im, 0, (.lit (.int .i64 a2176.Source))⟩), (259, ⟨.im, 0, (.lit (.int .i64 a2176.Limit))⟩), (260, ⟨.im, 0, (.lit (.int .i64 a2176.Parts))⟩), (448, ⟨.one, 0, nob⟩), (449, ⟨(.own 3), 0, (.sl (len v2182) (flat (eInt .i64) v2182))⟩), (512, ⟨.one, 0, nob⟩), (513, ⟨.im, 0, (.lit (.int .i64 v2183))⟩)]
def F139_l0_0_X0 (a2175 : GGraph) (a2176 : GJob) (a2177 : Int) (w2188 : List Int) : TS := .on [448, 449] [(448, ⟨.one, 0, nob⟩), (449, ⟨(.own 3), 0, (.sl (len w2188) (flat (eInt .i64) w2188))⟩)]
theorem F139_l0_0_ok (K : Nat) (a2175 : GGraph) (a2176 : GJob) (a2177 : Int) : ∀ (k : Nat) (v2182 : List Int) (v2183 : Int) (r : List Int), F139_l0_0 K a2175 a2176 a2177 k v2182 v2183 = some r → LoopEv E H hn139 0 c139_0 (F139_l0_0_S a2175 a2176 a2177 v2182 v2183) (.exit 0) (F139_l0_0_X0 a2175 a2176 a2177 r) := by
  intro k
  induction k with
  | zero => intro v2182 v2183 r hF; cases hF
  | succ k ih =>
    intro v2182 v2183 r hF
    rw [F139_l0_0] at hF
    refine cond_some hF (fun h2184 hF => ?_) (fun h2184 hF => ?_)
    ·
      refine cond_some hF (fun _ hF => nomatch hF) (fun h2185 hF => ?_)
      have pq2190 : ∀ {l : List Cond}, HoldAll E H hn139 l → HoldAll E H hn139 (.test (ilt v2183 a2175.N) true :: .test (izero a2176.Parts) false :: .int (wrem v2183 a2176.Parts) (wrem v2183 a2176.Parts) :: l) := fun z => ⟨h2184, h2185, rfl, z⟩
      refine cond_some hF (fun h2186 hF => ?_) (fun h2186 hF => ?_)
      ·
        refine cond_some hF (fun h2187 hF => ?_) (fun _ hF => nomatch hF)
        have pz : HoldAll E H hn139 [.test (ieq (wrem v2183 a2176.Parts) a2177) true, .test (leqm [(.lit (.int .i64 v2183))] 1 1) true, .test (apok (len v2182) 1 8) true, .sl (nadd (len v2182) 1) (lapp (flat (eInt .i64) v2182) [(.lit (.int .i64 v2183))]) (len (α := Int) (appL v2182 [v2183])) (flat (eInt .i64) (appL v2182 [v2183])), .int (wadd .i64 v2183 1) (wadd .i64 v2183 1)] := ⟨h2186, rfl, h2187, (app_ok (enc := (eInt .i64)) (v2182 : List Int) [v2183]), rfl, trivial⟩
        have h0 := ih _ _ _ hF
        have hn := fun ex ts' => loop_nextC (h := hn139) (l := 0) (c := c139_0) (ts := F139_l0_0_S a2175 a2176 a2177 v2182 v2183) (ts1 := (F139_l0_0_S a2175 a2176 a2177 (appL v2182 [v2183]) (wadd .i64 v2183 1))) (ex := ex) (ts' := ts') (pq2190 pz) (by kernel_rfl)
        exact hn _ _ h0
      have pz : HoldAll E H hn139 [.test (ieq (wrem v2183 a2176.Parts) a2177) false, .int (wadd .i64 v2183 1) (wadd .i64 v2183 1)] := ⟨h2186, rfl, trivial⟩
      have h0 := ih _ _ _ hF
      have hn := fun ex ts' => loop_nextC (h := hn139) (l := 0) (c := c139_0) (ts := F139_l0_0_S a2175 a2176 a2177 v2182 v2183) (ts1 := (F139_l0_0_S a2175 a2176 a2177 v2182 (wadd .i64 v2183 1))) (ex := ex) (ts' := ts') (pq2190 pz) (by kernel_rfl)
      exact hn _ _ h0
    have hr := Option.some.inj hF
    subst hr
    have pz : HoldAll E H hn139 [.test (ilt v2183 a2175.N) false] := ⟨h2184, trivial⟩
    exact loop_endC (h := hn139) (l := 0) (c := c139_0) (ts := F139_l0_0_S a2175 a2176 a2177 v2182 v2183) (ts' := F139_l0_0_X0 a2175 a2176 a2177 v2182) (ex := (.exit 0)) pz (by kernel_rfl) trivial

def F139 (K : Nat) (a2175 : GGraph) (a2176 : GJob) (a2177 : Int) : Option (List Int) :=
  (F139_l0_0 K a2175 a2176 a2177 K [] 0).bind fun w2193 =>
  some w2193
theorem F139_ok (K : Nat) (a2175 : GGraph) (a2176 : GJob) (a2177 : Int) (r : List Int) (hF : F139 K a2175 a2176 a2177 = some r) : Evt E H 139 [.agg (eGGraph a2175), .agg (eGJob a2176), .one (.lit (.int .i64 a2177))] (F139_res r) := by
  rw [F139] at hF
  refine bind_some hF (fun w2193 h2191 hF => ?_)
  have hr := Option.some.inj hF
  subst hr
  have pz : HoldAll E H hn139 [.loop 0 c139_0 (F139_l0_0_S a2175 a2176 a2177 [] 0) (.exit 0) (F139_l0_0_X0 a2175 a2176 a2177 w2193)] := ⟨(F139_l0_0_ok K a2175 a2176 a2177 K [] 0 _ h2191), trivial⟩
  exact fn_playC hn139 (f := 139) (ads := [.agg (eGGraph a2175), .agg (eGJob a2176), .one (.lit (.int .i64 a2177))]) (r := F139_res w2193) pz (by kernel_rfl) (by kernel_rfl)

/-! ### haywain/haywainref07.Cut -/
noncomputable def hn131 : Hint := { H 131 with nt := 82, prot := 0 }
noncomputable def c131_0 : Code := loopOf E 131 0
noncomputable def c131_1 : Code := loopOf E 131 1
def F131_res (r2290 : GPart) : Res := ⟨[(.agg [(.im (.lit (.int .i64 r2290.P))), (.im (.lit (.int .i64 r2290.Step))), (.own 2 (.sl (len r2290.Vals) (flat (eInt .i64) r2290.Vals))), (.own 4 (.sl (len r2290.Rest) (flat eBool r2290.Rest))), (.own 130 (.sl (len r2290.In) (flat eGMsg r2290.In)))])], []⟩
def F131_l1_1 (K : Nat) (a2173 : GState) (a2174 : Int) (r2196 : List Int) (v2237 : List Int) (v2238 : List Bool) (v2240 : Int) (x2246 : Int) (x2250 : Bool) : Nat → List GMsg → Int → Option (List GMsg)
  | 0, _, _ => none
  | k + 1, v2262, v2263 =>
    bif (ilt v2263 (nlen (len a2173.In))) then
      (bif (inr v2263 (len a2173.In)) then
      (elAt a2173.In v2263).bind fun x2266 =>
      bif (inr v2240 (len r2196)) then
      (elAt r2196 v2240).bind fun x2269 =>
      bif (ieq x2266.To x2269) then
        (bif (apok (len v2262) 1 16) then
        F131_l1_1 K a2173 a2174 r2196 v2237 v2238 v2240 x2246 x2250 k (appL v2262 [x2266]) (wadd .i64 v2263 1)
        else none)
      else
      F131_l1_1 K a2173 a2174 r2196 v2237 v2238 v2240 x2246 x2250 k v2262 (wadd .i64 v2263 1)
      else none
      else none)
    else
    some v2262
def F131_l1_1_S (a2173 : GState) (a2174 : Int) (r2196 : List Int) (v2237 : List Int) (v2238 : List Bool) (v2240 : Int) (x2246 : Int) (x2250 : Bool) (v2262 : List GMsg) (v2263 : Int) : TS := .on [384, 385, 386, 387, 388, 512, 513, 514, 515, 516, 517, 576, 577, 578, 579, 580, 581, 640, 641, 704, 705, 768, 769] [(384, ⟨(.box 74 4), 0, nob⟩), (385, ⟨.im, 0, (.lit (.int .i64 a2173.Step))⟩), (386, ⟨.im, 0, (.sl (len a2173.Vals) (flat (eInt .i64) a2173.Vals))⟩), (387, ⟨.im, 0, (.sl (len a2173.Rest) (flat eBool a2173.Rest))⟩), (388, ⟨.im, 0, (.sl (len a2173.In) (flat eGMsg a2173.In))⟩), (512, ⟨(.box 42 5), 0, nob⟩), (513, ⟨.im, 0, (.lit (.int .i64 0))⟩), (514, ⟨.im, 0, (.lit (.int .i64 0))⟩), (515, ⟨(.own 2), 0, (.sl 0 [])⟩), (516, ⟨(.own 4), 0, (.sl 0 [])⟩), (517, ⟨(.own 130), 0, (.sl 0 [])⟩), (576, ⟨(.box 42 5), 0, nob⟩), (577, ⟨.im, 0, (.lit (.int .i64 a2174))⟩), (578, ⟨.im, 0, (.lit (.int .i64 a2173.Step))⟩), (579, ⟨(.own 2), 0, (.sl (len (α := Int) (appL v2237 [x2246])) (flat (eInt .i64) (appL v2237 [x2246])))⟩), (580, ⟨(.own 4), 0, (.sl (len (α := Bool) (appL v2238 [x2250])) (flat eBool (appL v2238 [x2250])))⟩), (581, ⟨(.own 130), 0, (.sl (len v2262) (flat eGMsg v2262))⟩), (640, ⟨.one, 0, nob⟩), (641, ⟨(.own 3), 0, (.sl (len r2196) (flat (eInt .i64) r2196))⟩), (704, ⟨.one, 0, nob⟩), (705, ⟨.im, 0, (.lit (.int .i64 v2240))⟩), (768, ⟨.one, 0, nob⟩), (769, ⟨.im, 0, (.lit (.int .i64 v2263))⟩)]
def F131_l1_1_X0 (a2173 : GState) (a2174 : Int) (r2196 : List Int) (v2237 : List Int) (v2238 : List Bool) (v2240 : Int) (x2246 : Int) (x2250 : Bool) (w2273 : List GMsg) : TS := .on [384, 385, 386, 387, 388, 512, 513, 514, 515, 516, 517, 576, 577, 578, 579, 580, 581, 640, 641, 704, 705] [(384, ⟨(.box 74 4), 0, nob⟩), (385, ⟨.im, 0, (.lit (.int .i64 a2173.Step))⟩), (386, ⟨.im, 0, (.sl (len a2173.Vals) (flat (eInt .i64) a2173.Vals))⟩), (387, ⟨.im, 0, (.sl (len a2173.Rest) (flat eBool a2173.Rest))⟩), (388, ⟨.im, 0, (.sl (len a2173.In) (flat eGMsg a2173.In))⟩), (512, ⟨(.box 42 5), 0, nob⟩), (513, ⟨.im, 0, (.lit (.int .i64 0))⟩), (514, ⟨.im, 0, (.lit (.int .i64 0))⟩), (515, ⟨(.own 2), 0, (.sl 0 [])⟩), (516, ⟨(.own 4), 0, (.sl 0 [])⟩), (517, ⟨(.own 130), 0, (.sl 0 [])⟩), (576, ⟨(.box 42 5), 0, nob⟩), (577, ⟨.im, 0, (.lit (.int .i64 a2174))⟩), (578, ⟨.im, 0, (.lit (.int .i64 a2173.Step))⟩), (579, ⟨(.own 2), 0, (.sl (len (α := Int) (appL v2237 [x2246])) (flat (eInt .i64) (appL v2237 [x2246])))⟩), (580, ⟨(.own 4), 0, (.sl (len (α := Bool) (appL v2238 [x2250])) (flat eBool (appL v2238 [x2250])))⟩), (581, ⟨(.own 130), 0, (.sl (len w2273) (flat eGMsg w2273))⟩), (640, ⟨.one, 0, nob⟩), (641, ⟨(.own 3), 0, (.sl (len r2196) (flat (eInt .i64) r2196))⟩), (704, ⟨.one, 0, nob⟩), (705, ⟨.im, 0, (.lit (.int .i64 v2240))⟩)]
theorem F131_l1_1_ok (K : Nat) (a2173 : GState) (a2174 : Int) (r2196 : List Int) (v2237 : List Int) (v2238 : List Bool) (v2240 : Int) (x2246 : Int) (x2250 : Bool) : ∀ (k : Nat) (v2262 : List GMsg) (v2263 : Int) (r : List GMsg), F131_l1_1 K a2173 a2174 r2196 v2237 v2238 v2240 x2246 x2250 k v2262 v2263 = some r → LoopEv E H hn131 2 c131_1 (F131_l1_1_S a2173 a2174 r2196 v2237 v2238 v2240 x2246 x2250 v2262 v2263) (.exit 2) (F131_l1_1_X0 a2173 a2174 r2196 v2237 v2238 v2240 x2246 x2250 r) := by
  intro k
  induction k with
  | zero => intro v2262 v2263 r hF; cases hF
  | succ k ih =>
    intro v2262 v2263 r hF
    rw [F131_l1_1] at hF
    refine cond_some hF (fun h2264 hF => ?_) (fun h2264 hF => ?_)
    ·
      refine cond_some hF (fun h2265 hF => ?_) (fun _ hF => nomatch hF)
      refine bind_some hF (fun x2266 h2267 hF => ?_)
      refine cond_some hF (fun h2268 hF => ?_) (fun _ hF => nomatch hF)
      refine bind_some hF (fun x2269 h2270 hF => ?_)
      have pq2275 : ∀ {l : List Cond}, HoldAll E H hn131 l → HoldAll E H hn131 (.int (nlen (len a2173.In)) (nlen (len a2173.In)) :: .test (ilt v2263 (nlen (len a2173.In))) true :: .test (inr v2263 (len a2173.In)) true :: .sub (flat eGMsg a2173.In) (nadd (nidx v2263 2) 0) 1 [(.lit (.int .i64 x2266.To))] :: .test (inr v2240 (len r2196)) true :: .sub (flat (eInt .i64) r2196) (nidx v2240 1) 1 [(.lit (.int .i64 x2269))] :: l) := fun z => ⟨rfl, h2264, h2265, ⟨rfl, sub_flat eGMsg_len h2267 0 1 (by decide)⟩, h2268, ⟨rfl, sub_flat0 (eInt_len _) h2270 1 (by decide)⟩, z⟩
      refine cond_some hF (fun h2271 hF => ?_) (fun h2271 hF => ?_)
      ·
        refine cond_some hF (fun h2272 hF => ?_) (fun _ hF => nomatch hF)
        have pz : HoldAll E H hn131 [.test (ieq x2266.To x2269) true, .test (inr v2263 (len a2173.In)) true, .sub (flat eGMsg a2173.In) (nidx v2263 2) 2 [(.lit (.int .i64 x2266.To)), (.lit (.int .i64 x2266.V))], .test (leqm [(.lit (.int .i64 x2266.To)), (.lit (.int .i64 x2266.V))] 1 2) true, .test (apok (len v2262) 1 16) true, .sl (nadd (len v2262) 1) (lapp (flat eGMsg v2262) [(.lit (.int .i64 x2266.To)), (.lit (.int .i64 x2266.V))]) (len (α := GMsg) (appL v2262 [x2266])) (flat eGMsg (appL v2262 [x2266])), .int (wadd .i64 v2263 1) (wadd .i64 v2263 1)] := ⟨h2271, h2265, ⟨rfl, sub_flat0 eGMsg_len h2267 2 (by decide)⟩, rfl, h2272, (app_ok (enc := eGMsg) (v2262 : List GMsg) [x2266]), rfl, trivial⟩
        have h0 := ih _ _ _ hF
        have hn := fun ex ts' => loop_nextC (h := hn131) (l := 2) (c := c131_1) (ts := F131_l1_1_S a2173 a2174 r2196 v2237 v2238 v2240 x2246 x2250 v2262 v2263) (ts1 := (F131_l1_1_S a2173 a2174 r2196 v2237 v2238 v2240 x2246 x2250 (appL v2262 [x2266]) (wadd .i64 v2263 1))) (ex := ex) (ts' := ts') (pq2275 pz) (by kernel_rfl)
        exact hn _ _ h0
      have pz : HoldAll E H hn131 [.test (ieq x2266.To x2269) false, .int (wadd .i64 v2263 1) (wadd .i64 v2263 1)] := ⟨h2271, rfl, trivial⟩
      have h0 := ih _ _ _ hF
      have hn := fun ex ts' => loop_nextC (h := hn131) (l := 2) (c := c131_1) (ts := F131_l1_1_S a2173 a2174 r2196 v2237 v2238 v2240 x2246 x2250 v2262 v2263) (ts1 := (F131_l1_1_S a2173 a2174 r2196 v2237 v2238 v2240 x2246 x2250 v2262 (wadd .i64 v2263 1))) (ex := ex) (ts' := ts') (pq2275 pz) (by kernel_rfl)
      exact hn _ _ h0
    have hr := Option.some.inj hF
    subst hr
    have pz : HoldAll E H hn131 [.int (nlen (len a2173.In)) (nlen (len a2173.In)), .test (ilt v2263 (nlen (len a2173.In))) false] := ⟨rfl, h2264, trivial⟩
    exact loop_endC (h := hn131) (l := 2) (c := c131_1) (ts := F131_l1_1_S a2173 a2174 r2196 v2237 v2238 v2240 x2246 x2250 v2262 v2263) (ts' := F131_l1_1_X0 a2173 a2174 r2196 v2237 v2238 v2240 x2246 x2250 v2262) (ex := (.exit 2)) pz (by kernel_rfl) trivial

def F131_l0_0 (K : Nat) (a2173 : GState) (a2174 : Int) (r2196 : List Int) : Nat → List Int → List Bool → List GMsg → Int → Option (List Int × List Bool × List GMsg)
  | 0, _, _, _, _ => none
  | k + 1, v2237, v2238, v2239, v2240 =>
    bif (ilt v2240 (nlen (len r2196))) then
      (bif (inr v2240 (len r2196)) then
      (elAt r2196 v2240).bind fun x2243 =>
      bif (inr x2243 (len a2173.Vals)) then
      (elAt a2173.Vals x2243).bind fun x2246 =>
      bif (apok (len v2237) 1 8) then
      bif (inr x2243 (len a2173.Rest)) then
      (elAt a2173.Rest x2243).bind fun x2250 =>
      bif (apok (len v2238) 1 1) then
      (F131_l1_1 K a2173 a2174 r2196 v2237 v2238 v2240 x2246 x2250 K v2239 0).bind fun w2278 =>
      F131_l0_0 K a2173 a2174 r2196 k (appL v2237 [x2246]) (appL v2238 [x2250]) w2278 (wadd .i64 v2240 1)
      else none
      else none
      else none
      else none
      else none)
    else
    some (v2237, (v2238, v2239))
def F131_l0_0_S (a2173 : GState) (a2174 : Int) (r2196 : List Int) (v2237 : List Int) (v2238 : List Bool) (v2239 : List GMsg) (v2240 : Int) : TS := .on [384, 385, 386, 387, 388, 512, 513, 514, 515, 516, 517, 576, 577, 578, 579, 580, 581, 640, 641, 704, 705] [(384, ⟨(.box 74 4), 0, nob⟩), (385, ⟨.im, 0, (.lit (.int .i64 a2173.Step))⟩), (386, ⟨.im, 0, (.sl (len a2173.Vals) (flat (eInt .i64) a2173.Vals))⟩), (387, ⟨.im, 0, (.sl (len a2173.Rest) (flat eBool a2173.Rest))⟩), (388, ⟨.im, 0, (.sl (len a2173.In) (flat eGMsg a2173.In))⟩), (512, ⟨(.box 42 5), 0, nob⟩), (513, ⟨.im, 0, (.lit (.int .i64 0))⟩), (514, ⟨.im, 0, (.lit (.int .i64 0))⟩), (515, ⟨(.own 2), 0, (.sl 0 [])⟩), (516, ⟨(.own 4), 0, (.sl 0 [])⟩), (517, ⟨(.own 130), 0, (.sl 0 [])⟩), (576, ⟨(.box 42 5), 0, nob⟩), (577, ⟨.im, 0, (.lit (.int .i64 a2174))⟩), (578, ⟨.im, 0, (.lit (.int .i64 a2173.Step))⟩), (579, ⟨(.own 2), 0, (.sl (len v2237) (flat (eInt .i64) v2237))⟩), (580, ⟨(.own 4), 0, (.sl (len v2238) (flat eBool v2238))⟩), (581, ⟨(.own 130), 0, (.sl (len v2239) (flat eGMsg v2239))⟩), (640, ⟨.one, 0, nob⟩), (641, ⟨(.own 3), 0, (.sl (len r2196) (flat (eInt .i64) r2196))⟩), (704, ⟨.one, 0, nob⟩), (705, ⟨.im, 0, (.lit (.int .i64 v2240))⟩)]
def F131_l0_0_X0 (a2173 : GState) (a2174 : Int) (r2196 : List Int) (w2280 : List Int × List Bool × List GMsg) : TS := .on [512, 513, 514, 515, 516, 517, 576, 577, 578, 579, 580, 581] [(512, ⟨(.box 42 5), 0, nob⟩), (513, ⟨.im, 0, (.lit (.int .i64 0))⟩), (514, ⟨.im, 0, (.lit (.int .i64 0))⟩), (515, ⟨(.own 2), 0, (.sl 0 [])⟩), (516, ⟨(.own 4), 0, (.sl 0 [])⟩), (517, ⟨(.own 130), 0, (.sl 0 [])⟩), (576, ⟨(.box 42 5), 0, nob⟩), (577, ⟨.im, 0, (.lit (.int .i64 a2174))⟩), (578, ⟨.im, 0, (.lit (.int .i64 a2173.Step))⟩), (579, ⟨(.own 2), 0, (.sl (len w2280.1) (flat (eInt .i64) w2280.1))⟩), (580, ⟨(.own 4), 0, (.sl (len w2280.2.1) (flat eBool w2280.2.1))⟩), (581, ⟨(.own 130), 0, (.sl (len w2280.2.2) (flat eGMsg w2280.2.2))⟩)]
theorem F131_l0_0_ok (K : Nat) (a2173 : GState) (a2174 : Int) (r2196 : List Int) : ∀ (k : Nat) (v2237 : List Int) (v2238 : List Bool) (v2239 : List GMsg) (v2240 : Int) (r : List Int × List Bool × List GMsg), F131_l0_0 K a2173 a2174 r2196 k v2237 v2238 v2239 v2240 = some r → LoopEv E H hn131 0 c131_0 (F131_l0_0_S a2173 a2174 r2196 v2237 v2238 v2239 v2240) (.exit 0) (F131_l0_0_X0 a2173 a2174 r2196 r) := by
  intro k
  induction k with
  | zero => intro v2237 v2238 v2239 v2240 r hF; cases hF
  | succ k ih =>
    intro v2237 v2238 v2239 v2240 r hF
    rw [F131_l0_0] at hF
    refine cond_some hF (fun h2241 hF => ?_) (fun h2241 hF => ?_)
    ·
      refine cond_some hF (fun h2242 hF => ?_) (fun _ hF => nomatch hF)
      refine bind_some hF (fun x2243 h2244 hF => ?_)
      refine cond_some hF (fun h2245 hF => ?_) (fun _ hF => nomatch hF)
      refine bind_some hF (fun x2246 h2247 hF => ?_)
      refine cond_some hF (fun h2248 hF => ?_) (fun _ hF => nomatch hF)
      refine cond_some hF (fun h2249 hF => ?_) (fun _ hF => nomatch hF)
      refine bind_some hF (fun x2250 h2251 hF => ?_)
      refine cond_some hF (fun h2252 hF => ?_) (fun _ hF => nomatch hF)
      refine bind_some hF (fun w2278 h2276 hF => ?_)
      have pz : HoldAll E H hn131 [.int (nlen (len r2196)) (nlen (len r2196)), .test (ilt v2240 (nlen (len r2196))) true, .test (inr v2240 (len r2196)) true, .sub (flat (eInt .i64) r2196) (nidx v2240 1) 1 [(.lit (.int .i64 x2243))], .test (inr x2243 (len a2173.Vals)) true, .sub (flat (eInt .i64) a2173.Vals) (nidx x2243 1) 1 [(.lit (.int .i64 x2246))], .test (leqm [(.lit (.int .i64 x2246))] 1 1) true, .test (apok (len v2237) 1 8) true, .sl (nadd (len v2237) 1) (lapp (flat (eInt .i64) v2237) [(.lit (.int .i64 x2246))]) (len (α := Int) (appL v2237 [x2246])) (flat (eInt .i64) (appL v2237 [x2246])), .test (inr v2240 (len r2196)) true, .sub (flat (eInt .i64) r2196) (nidx v2240 1) 1 [(.lit (.int .i64 x2243))], .test (inr x2243 (len a2173.Rest)) true, .sub (flat eBool a2173.Rest) (nidx x2243 1) 1 [(.lit (.bool x2250))], .test (leqm [(.lit (.bool x2250))] 1 1) true, .test (apok (len v2238) 1 1) true, .sl (nadd (len v2238) 1) (lapp (flat eBool v2238) [(.lit (.bool x2250))]) (len (α := Bool) (appL v2238 [x2250])) (flat eBool (appL v2238 [x2250])), .loop 2 c131_1 (F131_l1_1_S a2173 a2174 r2196 v2237 v2238 v2240 x2246 x2250 v2239 0) (.exit 2) (F131_l1_1_X0 a2173 a2174 r2196 v2237 v2238 v2240 x2246 x2250 w2278), .int (wadd .i64 v2240 1) (wadd .i64 v2240 1)] := ⟨rfl, h2241, h2242, ⟨rfl, sub_flat0 (eInt_len _) h2244 1 (by decide)⟩, h2245, ⟨rfl, sub_flat0 (eInt_len _) h2247 1 (by decide)⟩, rfl, h2248, (app_ok (enc := (eInt .i64)) (v2237 : List Int) [x2246]), h2242, ⟨rfl, sub_flat0 (eInt_len _) h2244 1 (by decide)⟩, h2249, ⟨rfl, sub_flat0 eBool_len h2251 1 (by decide)⟩, rfl, h2252, (app_ok (enc := eBool) (v2238 : List Bool) [x2250]), (F131_l1_1_ok K a2173 a2174 r2196 v2237 v2238 v2240 x2246 x2250 K v2239 0 _ h2276), rfl, trivial⟩
      have h0 := ih _ _ _ _ _ hF
      have hn := fun ex ts' => loop_nextC (h := hn131) (l := 0) (c := c131_0) (ts := F131_l0_0_S a2173 a2174 r2196 v2237 v2238 v2239 v2240) (ts1 := (F131_l0_0_S a2173 a2174 r2196 (appL v2237 [x2246]) (appL v2238 [x2250]) w2278 (wadd .i64 v2240 1))) (ex := ex) (ts' := ts') pz (by kernel_rfl)
      exact hn _ _ h0
    have hr := Option.some.inj hF
    subst hr
    have pz : HoldAll E H hn131 [.int (nlen (len r2196)) (nlen (len r2196)), .test (ilt v2240 (nlen (len r2196))) false] := ⟨rfl, h2241, trivial⟩
    exact loop_endC (h := hn131) (l := 0) (c := c131_0) (ts := F131_l0_0_S a2173 a2174 r2196 v2237 v2238 v2239 v2240) (ts' := F131_l0_0_X0 a2173 a2174 r2196 (v2237, (v2238, v2239))) (ex := (.exit 0)) pz (by kernel_rfl) trivial

def F131 (K : Nat) (a2171 : GGraph) (a2172 : GJob) (a2173 : GState) (a2174 : Int) : Option (GPart) :=
  (F139 K a2171 a2172 a2174).bind fun r2196 =>
  (F131_l0_0 K a2173 a2174 r2196 K [] [] [] 0).bind fun w2286 =>
  some (GPart.mk a2174 a2173.Step w2286.1 w2286.2.1 w2286.2.2)
theorem F131_ok (K : Nat) (a2171 : GGraph) (a2172 : GJob) (a2173 : GState) (a2174 : Int) (r : GPart) (hF : F131 K a2171 a2172 a2173 a2174 = some r) : Evt E H 131 [.agg (eGGraph a2171), .agg (eGJob a2172), .agg (eGState a2173), .one (.lit (.int .i64 a2174))] (F131_res r) := by
  rw [F131] at hF
  refine bind_some hF (fun r2196 h2197 hF => ?_)
  refine bind_some hF (fun w2286 h2284 hF => ?_)
  have hr := Option.some.inj hF
  subst hr
  have pz : HoldAll E H hn131 [.call 139 [.agg (eGGraph a2171), .agg (eGJob a2172), .one (.lit (.int .i64 a2174))] (F139_res r2196), .test (leadsAny (Res.mk [(.one (.own 3 (.sl (len r2196) (flat (eInt .i64) r2196))))] [])) false, .loop 0 c131_0 (F131_l0_0_S a2173 a2174 r2196 [] [] [] 0) (.exit 0) (F131_l0_0_X0 a2173 a2174 r2196 w2286)] := ⟨(F139_ok K a2171 a2172 a2174 _ h2197), (leads_ok (by simp only [leadsAny, List.any_cons, List.any_nil, RV.leads, RC.leads, leadsT, hasSl_lit, Bool.or_false, flat_ns (eInt_ns _), flat_ns eBool_ns, flat_ns eStr_ns, flat_ns eGJob_ns, flat_ns eGEdge_ns, flat_ns eGAsked_ns, flat_ns eGMsg_ns, flat_ns eGrule_ns, flat_ns eGA199_ns, flat_ns eGA202_ns])), (F131_l0_0_ok K a2173 a2174 r2196 K [] [] [] 0 _ h2284), trivial⟩
  exact fn_playC hn131 (f := 131) (ads := [.agg (eGGraph a2171), .agg (eGJob a2172), .agg (eGState a2173), .one (.lit (.int .i64 a2174))]) (r := F131_res (GPart.mk a2174 a2173.Step w2286.1 w2286.2.1 w2286.2.2)) pz (by kernel_rfl) (by kernel_rfl)

/-! ### haywain/haywainref07.Split -/
noncomputable def hn61 : Hint := { H 61 with nt := 37, prot := 0 }
noncomputable def c61_0 : Code := loopOf E 61 0
def F61_res (r2307 : List GPart × Int) : Res := ⟨[(.one (.own 42 (.sl (len r2307.1) (flat eGPart r2307.1)))), (.one (.im (.lit (.int .i64 r2307.2))))], []⟩
def F61_l0_0 (K : Nat) (a2161 : GGraph) (a2162 : GJob) (a2163 : GState) : Nat → List GPart → Int → Option (List GPart)
  | 0, _, _ => none
  | k + 1, v2294, v2295 =>
    bif (ilt v2295 a2162.Parts) then
      ((F131 K a2161 a2162 a2163 v2295).bind fun r2297 =>
      bif (apok (len v2294) 1 88) then
      F61_l0_0 K a2161 a2162 a2163 k (appL v2294 [r2297]) (wadd .i64 v2295 1)
      else none)
    else
    some v2294
def F61_l0_0_S (a2161 : GGraph) (a2162 : GJob) (a2163 : GState) (v2294 : List GPart) (v2295 : Int) : TS := .on [192, 193, 194, 256, 257, 258, 259, 260, 320, 321, 322, 323, 324, 576, 577, 640, 641] [(192, ⟨(.box 62 2), 0, nob⟩), (193, ⟨.im, 0, (.lit (.int .i64 a2161.N))⟩), (194, ⟨.im, 0, (.sl (len a2161.Edges) (flat eGEdge a2161.Edges))⟩), (256, ⟨(.box 64 4), 0, nob⟩), (257, ⟨.im, 0, (.lit (.int .i64 a2162.Prog))⟩), (258, ⟨.im, 0, (.lit (.int .i64 a2162.Source))⟩), (259, ⟨.im, 0, (.lit (.int .i64 a2162.Limit))⟩), (260, ⟨.im, 0, (.lit (.int .i64 a2162.Parts))⟩), (320, ⟨(.box 74 4), 0, nob⟩), (321, ⟨.im, 0, (.lit (.int .i64 a2163.Step))⟩), (322, ⟨.im, 0, (.sl (len a2163.Vals) (flat (eInt .i64) a2163.Vals))⟩), (323, ⟨.im, 0, (.sl (len a2163.Rest) (flat eBool a2163.Rest))⟩), (324, ⟨.im, 0, (.sl (len a2163.In) (flat eGMsg a2163.In))⟩), (576, ⟨.one, 0, nob⟩), (577, ⟨(.own 42), 0, (.sl (len v2294) (flat eGPart v2294))⟩), (640, ⟨.one, 0, nob⟩), (641, ⟨.im, 0, (.lit (.int .i64 v2295))⟩)]
def F61_l0_0_X0 (a2161 : GGraph) (a2162 : GJob) (a2163 : GState) (w2300 : List GPart) : TS := .on [576, 577] [(576, ⟨.one, 0, nob⟩), (577, ⟨(.own 42), 0, (.sl (len w2300) (flat eGPart w2300))⟩)]
theorem F61_l0_0_ok (K : Nat) (a2161 : GGraph) (a2162 : GJob) (a2163 : GState) : ∀ (k : Nat) (v2294 : List GPart) (v2295 : Int) (r : List GPart), F61_l0_0 K a2161 a2162 a2163 k v2294 v2295 = some r → LoopEv E H hn61 0 c61_0 (F61_l0_0_S a2161 a2162 a2163 v2294 v2295) (.exit 0) (F61_l0_0_X0 a2161 a2162 a2163 r) := by
  intro k
  induction k with
  | zero => intro v2294 v2295 r hF; cases hF
  | succ k ih =>
    intro v2294 v2295 r hF
    rw [F61_l0_0] at hF
    refine cond_some hF (fun h2296 hF => ?_) (fun h2296 hF => ?_)
    ·
      refine bind_some hF (fun r2297 h2298 hF => ?_)
      refine cond_some hF (fun h2299 hF => ?_) (fun _ hF => nomatch hF)
      have pz : HoldAll E H hn61 [.test (ilt v2295 a2162.Parts) true, .call 131 [.agg (eGGraph a2161), .agg (eGJob a2162), .agg (eGState a2163), .one (.lit (.int .i64 v2295))] (F131_res r2297), .test (leadsAny (Res.mk [(.agg [(.im (.lit (.int .i64 r2297.P))), (.im (.lit (.int .i64 r2297.Step))), (.own 2 (.sl (len r2297.Vals) (flat (eInt .i64) r2297.Vals))), (.own 4 (.sl (len r2297.Rest) (flat eBool r2297.Rest))), (.own 130 (.sl (len r2297.In) (flat eGMsg r2297.In)))])] [])) false, .test (leqm [(.lit (.int .i64 r2297.P)), (.lit (.int .i64 r2297.Step)), (.sl (len r2297.Vals) (flat (eInt .i64) r2297.Vals)), (.sl (len r2297.Rest) (flat eBool r2297.Rest)), (.sl (len r2297.In) (flat eGMsg r2297.In))] 1 5) true, .test (apok (len v2294) 1 88) true, .sl (nadd (len v2294) 1) (lapp (flat eGPart v2294) [(.lit (.int .i64 r2297.P)), (.lit (.int .i64 r2297.Step)), (.sl (len r2297.Vals) (flat (eInt .i64) r2297.Vals)), (.sl (len r2297.Rest) (flat eBool r2297.Rest)), (.sl (len r2297.In) (flat eGMsg r2297.In))]) (len (α := GPart) (appL v2294 [r2297])) (flat eGPart (appL v2294 [r2297])), .int (wadd .i64 v2295 1) (wadd .i64 v2295 1)] := ⟨h2296, (F131_ok K a2161 a2162 a2163 v2295 _ h2298), (leads_ok (by simp only [leadsAny, List.any_cons, List.any_nil, RV.leads, RC.leads, leadsT, hasSl_lit, Bool.or_false, flat_ns (eInt_ns _), flat_ns eBool_ns, flat_ns eStr_ns, flat_ns eGJob_ns, flat_ns eGEdge_ns, flat_ns eGAsked_ns, flat_ns eGMsg_ns, flat_ns eGrule_ns, flat_ns eGA199_ns, flat_ns eGA202_ns])), rfl, h2299, (app_ok (enc := eGPart) (v2294 : List GPart) [r2297]), rfl, trivial⟩
      have h0 := ih _ _ _ hF
      have hn := fun ex ts' => loop_nextC (h := hn61) (l := 0) (c := c61_0) (ts := F61_l0_0_S a2161 a2162 a2163 v2294 v2295) (ts1 := (F61_l0_0_S a2161 a2162 a2163 (appL v2294 [r2297]) (wadd .i64 v2295 1))) (ex := ex) (ts' := ts') pz (by kernel_rfl)
      exact hn _ _ h0
    have hr := Option.some.inj hF
    subst hr
    have pz : HoldAll E H hn61 [.test (ilt v2295 a2162.Parts) false] := ⟨h2296, trivial⟩
    exact loop_endC (h := hn61) (l := 0) (c := c61_0) (ts := F61_l0_0_S a2161 a2162 a2163 v2294 v2295) (ts' := F61_l0_0_X0 a2161 a2162 a2163 v2294) (ex := (.exit 0)) pz (by kernel_rfl) trivial

def F61 (K : Nat) (a2161 : GGraph) (a2162 : GJob) (a2163 : GState) : Option (List GPart × Int) :=
  (F59 K a2161 a2162).bind fun r2164 =>
  bif (ieq r2164 0) then
    ((F88 K a2161 a2162 a2163).bind fun r2167 =>
    bif r2167 then
      ((F61_l0_0 K a2161 a2162 a2163 K [] 0).bind fun w2304 =>
      some (w2304, 0))
    else
    some ([], 1))
  else
  some ([], r2164)
theorem F61_ok (K : Nat) (a2161 : GGraph) (a2162 : GJob) (a2163 : GState) (r : List GPart × Int) (hF : F61 K a2161 a2162 a2163 = some r) : Evt E H 61 [.agg (eGGraph a2161), .agg (eGJob a2162), .agg (eGState a2163)] (F61_res r) := by
  rw [F61] at hF
  refine bind_some hF (fun r2164 h2165 hF => ?_)
  refine cond_some hF (fun h2166 hF => ?_) (fun h2166 hF => ?_)
  ·
    refine bind_some hF (fun r2167 h2168 hF => ?_)
    have pq2306 : ∀ {l : List Cond}, HoldAll E H hn61 l → HoldAll E H hn61 (.call 59 [.agg (eGGraph a2161), .agg (eGJob a2162)] (F59_res r2164) :: .test (leadsAny (Res.mk [(.one (.im (.lit (.int .i64 r2164))))] [])) false :: .test (ine r2164 0) false :: .call 88 [.agg (eGGraph a2161), .agg (eGJob a2162), .agg (eGState a2163)] (F88_res r2167) :: .test (leadsAny (Res.mk [(.one (.im (.lit (.bool r2167))))] [])) false :: l) := fun z => ⟨(F59_ok K a2161 a2162 _ h2165), (leads_ok (by simp only [leadsAny, List.any_cons, List.any_nil, RV.leads, RC.leads, leadsT, hasSl_lit, Bool.or_false, flat_ns (eInt_ns _), flat_ns eBool_ns, flat_ns eStr_ns, flat_ns eGJob_ns, flat_ns eGEdge_ns, flat_ns eGAsked_ns, flat_ns eGMsg_ns, flat_ns eGrule_ns, flat_ns eGA199_ns, flat_ns eGA202_ns])), (ine_t h2166), (F88_ok K a2161 a2162 a2163 _ h2168), (leads_ok (by simp only [leadsAny, List.any_cons, List.any_nil, RV.leads, RC.leads, leadsT, hasSl_lit, Bool.or_false, flat_ns (eInt_ns _), flat_ns eBool_ns, flat_ns eStr_ns, flat_ns eGJob_ns, flat_ns eGEdge_ns, flat_ns eGAsked_ns, flat_ns eGMsg_ns, flat_ns eGrule_ns, flat_ns eGA199_ns, flat_ns eGA202_ns])), z⟩
    refine cond_some hF (fun h2169 hF => ?_) (fun h2169 hF => ?_)
    ·
      refine bind_some hF (fun w2304 h2302 hF => ?_)
      have hr := Option.some.inj hF
      subst hr
      have pz : HoldAll E H hn61 [.test (bnot r2167) false, .loop 0 c61_0 (F61_l0_0_S a2161 a2162 a2163 [] 0) (.exit 0) (F61_l0_0_X0 a2161 a2162 a2163 w2304)] := ⟨(bnot_t h2169), (F61_l0_0_ok K a2161 a2162 a2163 K [] 0 _ h2302), trivial⟩
      exact fn_playC hn61 (f := 61) (ads := [.agg (eGGraph a2161), .agg (eGJob a2162), .agg (eGState a2163)]) (r := F61_res (w2304, 0)) (pq2306 pz) (by kernel_rfl) (by kernel_rfl)
    have hr := Option.some.inj hF
    subst hr
    have pz : HoldAll E H hn61 [.test (bnot r2167) true] := ⟨(bnot_f h2169), trivial⟩
    exact fn_playC hn61 (f := 61) (ads := [.agg (eGGraph a2161), .agg (eGJob a2162), .agg (eGState a2163)]) (r := F61_res ([], 1)) (pq2306 pz) (by kernel_rfl) (by kernel_rfl)
  have hr := Option.some.inj hF
  subst hr
  have pz : HoldAll E H hn61 [.call 59 [.agg (eGGraph a2161), .agg (eGJob a2162)] (F59_res r2164), .test (leadsAny (Res.mk [(.one (.im (.lit (.int .i64 r2164))))] [])) false, .test (ine r2164 0) true] := ⟨(F59_ok K a2161 a2162 _ h2165), (leads_ok (by simp only [leadsAny, List.any_cons, List.any_nil, RV.leads, RC.leads, leadsT, hasSl_lit, Bool.or_false, flat_ns (eInt_ns _), flat_ns eBool_ns, flat_ns eStr_ns, flat_ns eGJob_ns, flat_ns eGEdge_ns, flat_ns eGAsked_ns, flat_ns eGMsg_ns, flat_ns eGrule_ns, flat_ns eGA199_ns, flat_ns eGA202_ns])), (ine_f h2166), trivial⟩
  exact fn_playC hn61 (f := 61) (ads := [.agg (eGGraph a2161), .agg (eGJob a2162), .agg (eGState a2163)]) (r := F61_res ([], r2164)) pz (by kernel_rfl) (by kernel_rfl)

/-! ### haywain/haywainlaw07.great -/
noncomputable def hn73 : Hint := { H 73 with nt := 7, prot := 0 }
def F73_res (r3100 : Bool) : Res := ⟨[(.one (.im (.lit (.bool r3100))))], []⟩
def F73 (K : Nat) (a3099 : GGraph) : Option (Bool) :=
  some (igt (nlen (len a3099.Edges)) 200)
theorem F73_ok (K : Nat) (a3099 : GGraph) (r : Bool) (hF : F73 K a3099 = some r) : Evt E H 73 [.agg (eGGraph a3099)] (F73_res r) := by
  rw [F73] at hF
  have hr := Option.some.inj hF
  subst hr
  have pz : HoldAll E H hn73 [.int (nlen (len a3099.Edges)) (nlen (len a3099.Edges))] := ⟨rfl, trivial⟩
  exact fn_playC hn73 (f := 73) (ads := [.agg (eGGraph a3099)]) (r := F73_res (igt (nlen (len a3099.Edges)) 200)) pz (by kernel_rfl) (by kernel_rfl)

/-! ### haywain/part.Home -/
noncomputable def hn75 : Hint := { H 75 with nt := 21, prot := 0 }
def F75_res (r3112 : Int) : Res := ⟨[(.one (.im (.lit (.int .i64 r3112))))], []⟩
def F75 (K : Nat) (a3104 : GJob) (a3105 : Int) : Option (Int) :=
  bif (ilt a3105 0) then
    (some (-1))
  else
  bif (ilt a3104.Parts 1) then
    (some (-1))
  else
  bif (ilt 6 a3104.Parts) then
    (some (-1))
  else
  bif (izero a3104.Parts) then none else
  some (wrem a3105 a3104.Parts)
theorem F75_ok (K : Nat) (a3104 : GJob) (a3105 : Int) (r : Int) (hF : F75 K a3104 a3105 = some r) : Evt E H 75 [.agg (eGJob a3104), .one (.lit (.int .i64 a3105))] (F75_res r) := by
  rw [F75] at hF
  refine cond_some hF (fun h3106 hF => ?_) (fun h3106 hF => ?_)
  ·
    have hr := Option.some.inj hF
    subst hr
    have pz : HoldAll E H hn75 [.test (beqb (ilt a3105 0) false) false, .test (beqb (ilt a3105 0) false) false, .test (beqb (ilt a3105 0) false) false, .test (ilt a3105 0) true, .test (beqb true false) false, .test (beqb true false) false, .test (beqb true false) false, .test true true, .test true true] := ⟨(beqb_ft h3106), (beqb_ft h3106), (beqb_ft h3106), h3106, (beqb_ft rfl), (beqb_ft rfl), (beqb_ft rfl), rfl, rfl, trivial⟩
    exact fn_playC hn75 (f := 75) (ads := [.agg (eGJob a3104), .one (.lit (.int .i64 a3105))]) (r := F75_res (-1)) pz (by kernel_rfl) (by kernel_rfl)
  have pq3110 : ∀ {l : List Cond}, HoldAll E H hn75 l → HoldAll E H hn75 (.test (beqb (ilt a3105 0) false) true :: .test (beqb (ilt a3105 0) false) true :: .test (beqb (ilt a3105 0) false) true :: .test (ilt a3105 0) false :: l) := fun z => ⟨(beqb_ff h3106), (beqb_ff h3106), (beqb_ff h3106), h3106, z⟩
  refine cond_some hF (fun h3107 hF => ?_) (fun h3107 hF => ?_)
  ·
    have hr := Option.some.inj hF
    subst hr
    have pz : HoldAll E H hn75 [.test (beqb (ilt a3104.Parts 1) false) false, .test (beqb (ilt a3104.Parts 1) false) false, .test (beqb (ilt a3104.Parts 1) false) false, .test (ilt a3104.Parts 1) true, .test true true] := ⟨(beqb_ft h3107), (beqb_ft h3107), (beqb_ft h3107), h3107, rfl, trivial⟩
    exact fn_playC hn75 (f := 75) (ads := [.agg (eGJob a3104), .one (.lit (.int .i64 a3105))]) (r := F75_res (-1)) (pq3110 pz) (by kernel_rfl) (by kernel_rfl)
  have pq3111 : ∀ {l : List Cond}, HoldAll E H hn75 l → HoldAll E H hn75 (.test (beqb (ilt a3104.Parts 1) false) true :: .test (beqb (ilt a3104.Parts 1) false) true :: .test (beqb (ilt a3104.Parts 1) false) true :: .test (ilt a3104.Parts 1) false :: l) := fun z => ⟨(beqb_ff h3107), (beqb_ff h3107), (beqb_ff h3107), h3107, z⟩
  refine cond_some hF (fun h3108 hF => ?_) (fun h3108 hF => ?_)
  ·
    have hr := Option.some.inj hF
    subst hr
    have pz : HoldAll E H hn75 [.test (igt a3104.Parts 6) true] := ⟨(igt_eq h3108), trivial⟩
    exact fn_playC hn75 (f := 75) (ads := [.agg (eGJob a3104), .one (.lit (.int .i64 a3105))]) (r := F75_res (-1)) (pq3110 (pq3111 pz)) (by kernel_rfl) (by kernel_rfl)
  refine cond_some hF (fun _ hF => nomatch hF) (fun h3109 hF => ?_)
  have hr := Option.some.inj hF
  subst hr
  have pz : HoldAll E H hn75 [.test (igt a3104.Parts 6) false, .test (izero a3104.Parts) false, .int (wrem a3105 a3104.Parts) (wrem a3105 a3104.Parts)] := ⟨(igt_eq h3108), h3109, rfl, trivial⟩
  exact fn_playC hn75 (f := 75) (ads := [.agg (eGJob a3104), .one (.lit (.int .i64 a3105))]) (r := F75_res (wrem a3105 a3104.Parts)) (pq3110 (pq3111 pz)) (by kernel_rfl) (by kernel_rfl)

/-! ### haywain/haywainref07.Home -/
noncomputable def hn76 : Hint := { H 76 with nt := 26, prot := 0 }
def F76_res (r3123 : Int) : Res := ⟨[(.one (.im (.lit (.int .i64 r3123))))], []⟩
def F76 (K : Nat) (a3115 : GJob) (a3116 : Int) : Option (Int) :=
  bif (ilt a3116 0) then
    (some (-1))
  else
  bif (ilt a3115.Parts 1) then
    (some (-1))
  else
  bif (ilt 6 a3115.Parts) then
    (some (-1))
  else
  bif (izero a3115.Parts) then none else
  some (wsub .i64 a3116 (wmul .i64 (wquo .i64 a3116 a3115.Parts) a3115.Parts))
theorem F76_ok (K : Nat) (a3115 : GJob) (a3116 : Int) (r : Int) (hF : F76 K a3115 a3116 = some r) : Evt E H 76 [.agg (eGJob a3115), .one (.lit (.int .i64 a3116))] (F76_res r) := by
  rw [F76] at hF
  refine cond_some hF (fun h3117 hF => ?_) (fun h3117 hF => ?_)
  ·
    have hr := Option.some.inj hF
    subst hr
    have pz : HoldAll E H hn76 [.test (beqb (ilt a3116 0) false) false, .test (beqb (ilt a3116 0) false) false, .test (beqb (ilt a3116 0) false) false, .test (ilt a3116 0) true, .test (beqb true false) false, .test (beqb true false) false, .test (beqb true false) false, .test true true, .test true true] := ⟨(beqb_ft h3117), (beqb_ft h3117), (beqb_ft h3117), h3117, (beqb_ft rfl), (beqb_ft rfl), (beqb_ft rfl), rfl, rfl, trivial⟩
    exact fn_playC hn76 (f := 76) (ads := [.agg (eGJob a3115), .one (.lit (.int .i64 a3116))]) (r := F76_res (-1)) pz (by kernel_rfl) (by kernel_rfl)
  have pq3121 : ∀ {l : List Cond}, HoldAll E H hn76 l → HoldAll E H hn76 (.test (beqb (ilt a3116 0) false) true :: .test (beqb (ilt a3116 0) false) true :: .test (beqb (ilt a3116 0) false) true :: .test (ilt a3116 0) false :: l) := fun z => ⟨(beqb_ff h3117), (beqb_ff h3117), (beqb_ff h3117), h3117, z⟩
  refine cond_some hF (fun h3118 hF => ?_) (fun h3118 hF => ?_)
  ·
    have hr := Option.some.inj hF
    subst hr
    have pz : HoldAll E H hn76 [.test (beqb (ilt a3115.Parts 1) false) false, .test (beqb (ilt a3115.Parts 1) false) false, .test (beqb (ilt a3115.Parts 1) false) false, .test (ilt a3115.Parts 1) true, .test true true] := ⟨(beqb_ft h3118), (beqb_ft h3118), (beqb_ft h3118), h3118, rfl, trivial⟩
    exact fn_playC hn76 (f := 76) (ads := [.agg (eGJob a3115), .one (.lit (.int .i64 a3116))]) (r := F76_res (-1)) (pq3121 pz) (by kernel_rfl) (by kernel_rfl)
  have pq3122 : ∀ {l : List Cond}, HoldAll E H hn76 l → HoldAll E H hn76 (.test (beqb (ilt a3115.Parts 1) false) true :: .test (beqb (ilt a3115.Parts 1) false) true :: .test (beqb (ilt a3115.Parts 1) false) true :: .test (ilt a3115.Parts 1) false :: l) := fun z => ⟨(beqb_ff h3118), (beqb_ff h3118), (beqb_ff h3118), h3118, z⟩
  refine cond_some hF (fun h3119 hF => ?_) (fun h3119 hF => ?_)
  ·
    have hr := Option.some.inj hF
    subst hr
    have pz : HoldAll E H hn76 [.test (igt a3115.Parts 6) true] := ⟨(igt_eq h3119), trivial⟩
    exact fn_playC hn76 (f := 76) (ads := [.agg (eGJob a3115), .one (.lit (.int .i64 a3116))]) (r := F76_res (-1)) (pq3121 (pq3122 pz)) (by kernel_rfl) (by kernel_rfl)
  refine cond_some hF (fun _ hF => nomatch hF) (fun h3120 hF => ?_)
  have hr := Option.some.inj hF
  subst hr
  have pz : HoldAll E H hn76 [.test (igt a3115.Parts 6) false, .test (izero a3115.Parts) false, .int (wquo .i64 a3116 a3115.Parts) (wquo .i64 a3116 a3115.Parts), .int (wmul .i64 (wquo .i64 a3116 a3115.Parts) a3115.Parts) (wmul .i64 (wquo .i64 a3116 a3115.Parts) a3115.Parts), .int (wsub .i64 a3116 (wmul .i64 (wquo .i64 a3116 a3115.Parts) a3115.Parts)) (wsub .i64 a3116 (wmul .i64 (wquo .i64 a3116 a3115.Parts) a3115.Parts))] := ⟨(igt_eq h3119), h3120, rfl, rfl, rfl, trivial⟩
  exact fn_playC hn76 (f := 76) (ads := [.agg (eGJob a3115), .one (.lit (.int .i64 a3116))]) (r := F76_res (wsub .i64 a3116 (wmul .i64 (wquo .i64 a3116 a3115.Parts) a3115.Parts))) (pq3121 (pq3122 pz)) (by kernel_rfl) (by kernel_rfl)

/-! ### haywain/part.count -/
noncomputable def hn138 : Hint := { H 138 with nt := 22, prot := 0 }
def F138_res (r3241 : Int) : Res := ⟨[(.one (.im (.lit (.int .i64 r3241))))], []⟩
def F138 (K : Nat) (a3234 : Int) (a3235 : Int) (a3236 : Int) : Option (Int) :=
  bif (ilt a3236 0) then
    (some 0)
  else
  bif (ile a3235 a3236) then
    (some 0)
  else
  bif (izero a3235) then none else
  some (wquo .i64 (wsub .i64 (wadd .i64 (wsub .i64 a3234 a3236) a3235) 1) a3235)
theorem F138_ok (K : Nat) (a3234 : Int) (a3235 : Int) (a3236 : Int) (r : Int) (hF : F138 K a3234 a3235 a3236 = some r) : Evt E H 138 [.one (.lit (.int .i64 a3234)), .one (.lit (.int .i64 a3235)), .one (.lit (.int .i64 a3236))] (F138_res r) := by
  rw [F138] at hF
  refine cond_some hF (fun h3237 hF => ?_) (fun h3237 hF => ?_)
  ·
    have hr := Option.some.inj hF
    subst hr
    have pz : HoldAll E H hn138 [.test (beqb (ilt a3236 0) false) false, .test (beqb (ilt a3236 0) false) false, .test (beqb (ilt a3236 0) false) false, .test (ilt a3236 0) true, .test true true] := ⟨(beqb_ft h3237), (beqb_ft h3237), (beqb_ft h3237), h3237, rfl, trivial⟩
    exact fn_playC hn138 (f := 138) (ads := [.one (.lit (.int .i64 a3234)), .one (.lit (.int .i64 a3235)), .one (.lit (.int .i64 a3236))]) (r := F138_res 0) pz (by kernel_rfl) (by kernel_rfl)
  have pq3240 : ∀ {l : List Cond}, HoldAll E H hn138 l → HoldAll E H hn138 (.test (beqb (ilt a3236 0) false) true :: .test (beqb (ilt a3236 0) false) true :: .test (beqb (ilt a3236 0) false) true :: .test (ilt a3236 0) false :: l) := fun z => ⟨(beqb_ff h3237), (beqb_ff h3237), (beqb_ff h3237), h3237, z⟩
  refine cond_some hF (fun h3238 hF => ?_) (fun h3238 hF => ?_)
  ·
    have hr := Option.some.inj hF
    subst hr
    have pz : HoldAll E H hn138 [.test (ige a3236 a3235) true] := ⟨(ige_eq h3238), trivial⟩
    exact fn_playC hn138 (f := 138) (ads := [.one (.lit (.int .i64 a3234)), .one (.lit (.int .i64 a3235)), .one (.lit (.int .i64 a3236))]) (r := F138_res 0) (pq3240 pz) (by kernel_rfl) (by kernel_rfl)
  refine cond_some hF (fun _ hF => nomatch hF) (fun h3239 hF => ?_)
  have hr := Option.some.inj hF
  subst hr
  have pz : HoldAll E H hn138 [.test (ige a3236 a3235) false, .int (wsub .i64 a3234 a3236) (wsub .i64 a3234 a3236), .int (wadd .i64 (wsub .i64 a3234 a3236) a3235) (wadd .i64 (wsub .i64 a3234 a3236) a3235), .int (wsub .i64 (wadd .i64 (wsub .i64 a3234 a3236) a3235) 1) (wsub .i64 (wadd .i64 (wsub .i64 a3234 a3236) a3235) 1), .test (izero a3235) false, .int (wquo .i64 (wsub .i64 (wadd .i64 (wsub .i64 a3234 a3236) a3235) 1) a3235) (wquo .i64 (wsub .i64 (wadd .i64 (wsub .i64 a3234 a3236) a3235) 1) a3235)] := ⟨(ige_eq h3238), rfl, rfl, rfl, h3239, rfl, trivial⟩
  exact fn_playC hn138 (f := 138) (ads := [.one (.lit (.int .i64 a3234)), .one (.lit (.int .i64 a3235)), .one (.lit (.int .i64 a3236))]) (r := F138_res (wquo .i64 (wsub .i64 (wadd .i64 (wsub .i64 a3234 a3236) a3235) 1) a3235)) (pq3240 pz) (by kernel_rfl) (by kernel_rfl)

/-! ### haywain/part.Count -/
noncomputable def hn77 : Hint := { H 77 with nt := 18, prot := 0 }
def F77_res (r3246 : Int) : Res := ⟨[(.one (.im (.lit (.int .i64 r3246))))], []⟩
def F77 (K : Nat) (a3127 : GGraph) (a3128 : GJob) (a3129 : Int) : Option (Int) :=
  (F94 K a3127 a3128).bind fun r3231 =>
  bif (ieq r3231 0) then
    ((F138 K a3127.N a3128.Parts a3129).bind fun r3242 =>
    bif (ilt 0 r3242) then
      (some r3242)
    else
    some 0)
  else
  some 0
theorem F77_ok (K : Nat) (a3127 : GGraph) (a3128 : GJob) (a3129 : Int) (r : Int) (hF : F77 K a3127 a3128 a3129 = some r) : Evt E H 77 [.agg (eGGraph a3127), .agg (eGJob a3128), .one (.lit (.int .i64 a3129))] (F77_res r) := by
  rw [F77] at hF
  refine bind_some hF (fun r3231 h3232 hF => ?_)
  refine cond_some hF (fun h3233 hF => ?_) (fun h3233 hF => ?_)
  ·
    refine bind_some hF (fun r3242 h3243 hF => ?_)
    have pq3245 : ∀ {l : List Cond}, HoldAll E H hn77 l → HoldAll E H hn77 (.call 94 [.agg (eGGraph a3127), .agg (eGJob a3128)] (F94_res r3231) :: .test (leadsAny (Res.mk [(.one (.im (.lit (.int .i64 r3231))))] [])) false :: .test (ine r3231 0) false :: .call 138 [.one (.lit (.int .i64 a3127.N)), .one (.lit (.int .i64 a3128.Parts)), .one (.lit (.int .i64 a3129))] (F138_res r3242) :: .test (leadsAny (Res.mk [(.one (.im (.lit (.int .i64 r3242))))] [])) false :: l) := fun z => ⟨(F94_ok K a3127 a3128 _ h3232), (leads_ok (by simp only [leadsAny, List.any_cons, List.any_nil, RV.leads, RC.leads, leadsT, hasSl_lit, Bool.or_false, flat_ns (eInt_ns _), flat_ns eBool_ns, flat_ns eStr_ns, flat_ns eGJob_ns, flat_ns eGEdge_ns, flat_ns eGAsked_ns, flat_ns eGMsg_ns, flat_ns eGrule_ns, flat_ns eGA199_ns, flat_ns eGA202_ns])), (ine_t h3233), (F138_ok K a3127.N a3128.Parts a3129 _ h3243), (leads_ok (by simp only [leadsAny, List.any_cons, List.any_nil, RV.leads, RC.leads, leadsT, hasSl_lit, Bool.or_false, flat_ns (eInt_ns _), flat_ns eBool_ns, flat_ns eStr_ns, flat_ns eGJob_ns, flat_ns eGEdge_ns, flat_ns eGAsked_ns, flat_ns eGMsg_ns, flat_ns eGrule_ns, flat_ns eGA199_ns, flat_ns eGA202_ns])), z⟩
    refine cond_some hF (fun h3244 hF => ?_) (fun h3244 hF => ?_)
    ·
      have hr := Option.some.inj hF
      subst hr
      have pz : HoldAll E H hn77 [.test (igt r3242 0) true] := ⟨(igt_eq h3244), trivial⟩
      exact fn_playC hn77 (f := 77) (ads := [.agg (eGGraph a3127), .agg (eGJob a3128), .one (.lit (.int .i64 a3129))]) (r := F77_res r3242) (pq3245 pz) (by kernel_rfl) (by kernel_rfl)
    have hr := Option.some.inj hF
    subst hr
    have pz : HoldAll E H hn77 [.test (igt r3242 0) false] := ⟨(igt_eq h3244), trivial⟩
    exact fn_playC hn77 (f := 77) (ads := [.agg (eGGraph a3127), .agg (eGJob a3128), .one (.lit (.int .i64 a3129))]) (r := F77_res 0) (pq3245 pz) (by kernel_rfl) (by kernel_rfl)
  have hr := Option.some.inj hF
  subst hr
  have pz : HoldAll E H hn77 [.call 94 [.agg (eGGraph a3127), .agg (eGJob a3128)] (F94_res r3231), .test (leadsAny (Res.mk [(.one (.im (.lit (.int .i64 r3231))))] [])) false, .test (ine r3231 0) true] := ⟨(F94_ok K a3127 a3128 _ h3232), (leads_ok (by simp only [leadsAny, List.any_cons, List.any_nil, RV.leads, RC.leads, leadsT, hasSl_lit, Bool.or_false, flat_ns (eInt_ns _), flat_ns eBool_ns, flat_ns eStr_ns, flat_ns eGJob_ns, flat_ns eGEdge_ns, flat_ns eGAsked_ns, flat_ns eGMsg_ns, flat_ns eGrule_ns, flat_ns eGA199_ns, flat_ns eGA202_ns])), (ine_f h3233), trivial⟩
  exact fn_playC hn77 (f := 77) (ads := [.agg (eGGraph a3127), .agg (eGJob a3128), .one (.lit (.int .i64 a3129))]) (r := F77_res 0) pz (by kernel_rfl) (by kernel_rfl)

/-! ### haywain/haywainref07.Count -/
noncomputable def hn78 : Hint := { H 78 with nt := 16, prot := 0 }
def F78_res (r3257 : Int) : Res := ⟨[(.one (.im (.lit (.int .i64 r3257))))], []⟩
def F78 (K : Nat) (a3249 : GGraph) (a3250 : GJob) (a3251 : Int) : Option (Int) :=
  (F59 K a3249 a3250).bind fun r3252 =>
  bif (ieq r3252 0) then
    ((F139 K a3249 a3250 a3251).bind fun r3255 =>
    some (nlen (len r3255)))
  else
  some 0
theorem F78_ok (K : Nat) (a3249 : GGraph) (a3250 : GJob) (a3251 : Int) (r : Int) (hF : F78 K a3249 a3250 a3251 = some r) : Evt E H 78 [.agg (eGGraph a3249), .agg (eGJob a3250), .one (.lit (.int .i64 a3251))] (F78_res r) := by
  rw [F78] at hF
  refine bind_some hF (fun r3252 h3253 hF => ?_)
  refine cond_some hF (fun h3254 hF => ?_) (fun h3254 hF => ?_)
  ·
    refine bind_some hF (fun r3255 h3256 hF => ?_)
    have hr := Option.some.inj hF
    subst hr
    have pz : HoldAll E H hn78 [.call 59 [.agg (eGGraph a3249), .agg (eGJob a3250)] (F59_res r3252), .test (leadsAny (Res.mk [(.one (.im (.lit (.int .i64 r3252))))] [])) false, .test (ine r3252 0) false, .call 139 [.agg (eGGraph a3249), .agg (eGJob a3250), .one (.lit (.int .i64 a3251))] (F139_res r3255), .test (leadsAny (Res.mk [(.one (.own 3 (.sl (len r3255) (flat (eInt .i64) r3255))))] [])) false, .int (nlen (len r3255)) (nlen (len r3255))] := ⟨(F59_ok K a3249 a3250 _ h3253), (leads_ok (by simp only [leadsAny, List.any_cons, List.any_nil, RV.leads, RC.leads, leadsT, hasSl_lit, Bool.or_false, flat_ns (eInt_ns _), flat_ns eBool_ns, flat_ns eStr_ns, flat_ns eGJob_ns, flat_ns eGEdge_ns, flat_ns eGAsked_ns, flat_ns eGMsg_ns, flat_ns eGrule_ns, flat_ns eGA199_ns, flat_ns eGA202_ns])), (ine_t h3254), (F139_ok K a3249 a3250 a3251 _ h3256), (leads_ok (by simp only [leadsAny, List.any_cons, List.any_nil, RV.leads, RC.leads, leadsT, hasSl_lit, Bool.or_false, flat_ns (eInt_ns _), flat_ns eBool_ns, flat_ns eStr_ns, flat_ns eGJob_ns, flat_ns eGEdge_ns, flat_ns eGAsked_ns, flat_ns eGMsg_ns, flat_ns eGrule_ns, flat_ns eGA199_ns, flat_ns eGA202_ns])), rfl, trivial⟩
    exact fn_playC hn78 (f := 78) (ads := [.agg (eGGraph a3249), .agg (eGJob a3250), .one (.lit (.int .i64 a3251))]) (r := F78_res (nlen (len r3255))) pz (by kernel_rfl) (by kernel_rfl)
  have hr := Option.some.inj hF
  subst hr
  have pz : HoldAll E H hn78 [.call 59 [.agg (eGGraph a3249), .agg (eGJob a3250)] (F59_res r3252), .test (leadsAny (Res.mk [(.one (.im (.lit (.int .i64 r3252))))] [])) false, .test (ine r3252 0) true] := ⟨(F59_ok K a3249 a3250 _ h3253), (leads_ok (by simp only [leadsAny, List.any_cons, List.any_nil, RV.leads, RC.leads, leadsT, hasSl_lit, Bool.or_false, flat_ns (eInt_ns _), flat_ns eBool_ns, flat_ns eStr_ns, flat_ns eGJob_ns, flat_ns eGEdge_ns, flat_ns eGAsked_ns, flat_ns eGMsg_ns, flat_ns eGrule_ns, flat_ns eGA199_ns, flat_ns eGA202_ns])), (ine_f h3254), trivial⟩
  exact fn_playC hn78 (f := 78) (ads := [.agg (eGGraph a3249), .agg (eGJob a3250), .one (.lit (.int .i64 a3251))]) (r := F78_res 0) pz (by kernel_rfl) (by kernel_rfl)

/-! ### haywain/haywainlaw07.broad -/
noncomputable def hn79 : Hint := { H 79 with nt := 19, prot := 0 }
def F79_res (r3274 : Bool) : Res := ⟨[(.one (.im (.lit (.bool r3274))))], []⟩
def F79 (K : Nat) (a3270 : GPart) : Option (Bool) :=
  bif (ilt 100 (nlen (len a3270.Vals))) then
    (some true)
  else
  bif (ilt 100 (nlen (len a3270.Rest))) then
    (some true)
  else
  some (igt (nlen (len a3270.In)) 300)
theorem F79_ok (K : Nat) (a3270 : GPart) (r : Bool) (hF : F79 K a3270 = some r) : Evt E H 79 [.agg (eGPart a3270)] (F79_res r) := by
  rw [F79] at hF
  refine cond_some hF (fun h3271 hF => ?_) (fun h3271 hF => ?_)
  ·
    have hr := Option.some.inj hF
    subst hr
    have pz : HoldAll E H hn79 [.int (nlen (len a3270.Vals)) (nlen (len a3270.Vals)), .test (beqb (igt (nlen (len a3270.Vals)) 100) false) false, .test (beqb (igt (nlen (len a3270.Vals)) 100) false) false, .test (beqb (igt (nlen (len a3270.Vals)) 100) false) false, .test (beqb (igt (nlen (len a3270.Vals)) 100) false) false, .test (igt (nlen (len a3270.Vals)) 100) true, .test (beqb true false) false, .test (beqb true false) false, .test (beqb true false) false, .test (beqb true false) false, .test true true] := ⟨rfl, (beqb_ft (igt_eq h3271)), (beqb_ft (igt_eq h3271)), (beqb_ft (igt_eq h3271)), (beqb_ft (igt_eq h3271)), (igt_eq h3271), (beqb_ft rfl), (beqb_ft rfl), (beqb_ft rfl), (beqb_ft rfl), rfl, trivial⟩
    exact fn_playC hn79 (f := 79) (ads := [.agg (eGPart a3270)]) (r := F79_res true) pz (by kernel_rfl) (by kernel_rfl)
  have pq3273 : ∀ {l : List Cond}, HoldAll E H hn79 l → HoldAll E H hn79 (.int (nlen (len a3270.Vals)) (nlen (len a3270.Vals)) :: .test (beqb (igt (nlen (len a3270.Vals)) 100) false) true :: .test (beqb (igt (nlen (len a3270.Vals)) 100) false) true :: .test (beqb (igt (nlen (len a3270.Vals)) 100) false) true :: .int (nlen (len a3270.Rest)) (nlen (len a3270.Rest)) :: .test (beqb (igt (nlen (len a3270.Vals)) 100) false) true :: .test (igt (nlen (len a3270.Vals)) 100) false :: l) := fun z => ⟨rfl, (beqb_ff (igt_eq h3271)), (beqb_ff (igt_eq h3271)), (beqb_ff (igt_eq h3271)), rfl, (beqb_ff (igt_eq h3271)), (igt_eq h3271), z⟩
  refine cond_some hF (fun h3272 hF => ?_) (fun h3272 hF => ?_)
  ·
    have hr := Option.some.inj hF
    subst hr
    have pz : HoldAll E H hn79 [.test (beqb (igt (nlen (len a3270.Rest)) 100) false) false, .test (beqb (igt (nlen (len a3270.Rest)) 100) false) false, .test (beqb (igt (nlen (len a3270.Rest)) 100) false) false, .test (beqb (igt (nlen (len a3270.Rest)) 100) false) false, .test (igt (nlen (len a3270.Rest)) 100) true] := ⟨(beqb_ft (igt_eq h3272)), (beqb_ft (igt_eq h3272)), (beqb_ft (igt_eq h3272)), (beqb_ft (igt_eq h3272)), (igt_eq h3272), trivial⟩
    exact fn_playC hn79 (f := 79) (ads := [.agg (eGPart a3270)]) (r := F79_res true) (pq3273 pz) (by kernel_rfl) (by kernel_rfl)
  have hr := Option.some.inj hF
  subst hr
  have pz : HoldAll E H hn79 [.test (beqb (igt (nlen (len a3270.Rest)) 100) false) true, .test (beqb (igt (nlen (len a3270.Rest)) 100) false) true, .test (beqb (igt (nlen (len a3270.Rest)) 100) false) true, .int (nlen (len a3270.In)) (nlen (len a3270.In)), .test (beqb (igt (nlen (len a3270.Rest)) 100) false) true, .test (igt (nlen (len a3270.Rest)) 100) false] := ⟨(beqb_ff (igt_eq h3272)), (beqb_ff (igt_eq h3272)), (beqb_ff (igt_eq h3272)), rfl, (beqb_ff (igt_eq h3272)), (igt_eq h3272), trivial⟩
  exact fn_playC hn79 (f := 79) (ads := [.agg (eGPart a3270)]) (r := F79_res (igt (nlen (len a3270.In)) 300)) (pq3273 pz) (by kernel_rfl) (by kernel_rfl)

/-! ### haywain/part.Right -/
noncomputable def hn80 : Hint := { H 80 with nt := 85, prot := 0 }
noncomputable def c80_0 : Code := loopOf E 80 0
def F80_res (r3325 : Bool) : Res := ⟨[(.one (.im (.lit (.bool r3325))))], []⟩
def F80_l0_0 (K : Nat) (a3278 : GGraph) (a3279 : GJob) (a3280 : GPart) : Nat → Int → Int → Option ((Unit) ⊕ (Unit))
  | 0, _, _ => none
  | k + 1, v3300, v3301 =>
    bif (ilt v3301 (nlen (len a3280.In))) then
      (bif (inr v3301 (len a3280.In)) then
      (elAt a3280.In v3301).bind fun x3304 =>
      bif (ile x3304.To v3300) then
        (some (.inl ()))
      else
      bif (ile a3278.N x3304.To) then
        (some (.inl ()))
      else
      bif (izero a3279.Parts) then none else
      bif (ieq (wrem x3304.To a3279.Parts) a3280.P) then
        (F80_l0_0 K a3278 a3279 a3280 k x3304.To (wadd .i64 v3301 1))
      else
      some (.inl ())
      else none)
    else
    some (.inr ())
def F80_l0_0_S (a3278 : GGraph) (a3279 : GJob) (a3280 : GPart) (v3300 : Int) (v3301 : Int) : TS := .on [192, 193, 194, 256, 257, 258, 259, 260, 320, 321, 322, 323, 324, 325, 512, 513, 3456, 3520, 3521, 3584, 3585, 3648, 3649] [(192, ⟨(.box 62 2), 0, nob⟩), (193, ⟨.im, 0, (.lit (.int .i64 a3278.N))⟩), (194, ⟨.im, 0, (.sl (len a3278.Edges) (flat eGEdge a3278.Edges))⟩), (256, ⟨(.box 64 4), 0, nob⟩), (257, ⟨.im, 0, (.lit (.int .i64 a3279.Prog))⟩), (258, ⟨.im, 0, (.lit (.int .i64 a3279.Source))⟩), (259, ⟨.im, 0, (.lit (.int .i64 a3279.Limit))⟩), (260, ⟨.im, 0, (.lit (.int .i64 a3279.Parts))⟩), (320, ⟨(.box 42 5), 0, nob⟩), (321, ⟨.im, 0, (.lit (.int .i64 a3280.P))⟩), (322, ⟨.im, 0, (.lit (.int .i64 a3280.Step))⟩), (323, ⟨.im, 0, (.sl (len a3280.Vals) (flat (eInt .i64) a3280.Vals))⟩), (324, ⟨.im, 0, (.sl (len a3280.Rest) (flat eBool a3280.Rest))⟩), (325, ⟨.im, 0, (.sl (len a3280.In) (flat eGMsg a3280.In))⟩), (512, ⟨.one, 0, nob⟩), (513, ⟨.im, 0, (.lit (.int .i64 v3300))⟩), (3456, ⟨(.ad 5 0 4), 0, nob⟩), (3520, ⟨.one, 0, nob⟩), (3521, ⟨.im, 0, (.sl (len a3280.In) (flat eGMsg a3280.In))⟩), (3584, ⟨.one, 0, nob⟩), (3585, ⟨.im, 0, (.lit (.int .i64 (nlen (len a3280.In))))⟩), (3648, ⟨.one, 0, nob⟩), (3649, ⟨.im, 0, (.lit (.int .i64 v3301))⟩)]
def F80_l0_0_X0 (a3278 : GGraph) (a3279 : GJob) (a3280 : GPart) (w3310 : Unit) : TS := .on [384, 385] [(384, ⟨.one, 0, nob⟩), (385, ⟨.im, 0, (.lit (.bool false))⟩)]
def F80_l0_0_X1 (a3278 : GGraph) (a3279 : GJob) (a3280 : GPart) (w3311 : Unit) : TS := .on [] []
theorem F80_l0_0_ok (K : Nat) (a3278 : GGraph) (a3279 : GJob) (a3280 : GPart) : ∀ (k : Nat) (v3300 : Int) (v3301 : Int) (r : (Unit) ⊕ (Unit)), F80_l0_0 K a3278 a3279 a3280 k v3300 v3301 = some r → (Sum.elim (fun w => LoopEv E H hn80 0 c80_0 (F80_l0_0_S a3278 a3279 a3280 v3300 v3301) .ret (F80_l0_0_X0 a3278 a3279 a3280 w)) (fun w => LoopEv E H hn80 0 c80_0 (F80_l0_0_S a3278 a3279 a3280 v3300 v3301) (.exit 0) (F80_l0_0_X1 a3278 a3279 a3280 w))) r := by
  intro k
  induction k with
  | zero => intro v3300 v3301 r hF; cases hF
  | succ k ih =>
    intro v3300 v3301 r hF
    rw [F80_l0_0] at hF
    refine cond_some hF (fun h3302 hF => ?_) (fun h3302 hF => ?_)
    ·
      refine cond_some hF (fun h3303 hF => ?_) (fun _ hF => nomatch hF)
      refine bind_some hF (fun x3304 h3305 hF => ?_)
      have pq3312 : ∀ {l : List Cond}, HoldAll E H hn80 l → HoldAll E H hn80 (.test (ilt v3301 (nlen (len a3280.In))) true :: .test (inr v3301 (len a3280.In)) true :: .sub (flat eGMsg a3280.In) (nidx v3301 2) 2 [(.lit (.int .i64 x3304.To)), (.lit (.int .i64 x3304.V))] :: l) := fun z => ⟨h3302, h3303, ⟨rfl, sub_flat0 eGMsg_len h3305 2 (by decide)⟩, z⟩
      refine cond_some hF (fun h3306 hF => ?_) (fun h3306 hF => ?_)
      ·
        have hr := Option.some.inj hF
        subst hr
        have pz : HoldAll E H hn80 [.test (beqb (ile x3304.To v3300) false) false, .test (beqb (ile x3304.To v3300) false) false, .test (beqb (ile x3304.To v3300) false) false, .test (beqb (ile x3304.To v3300) false) false, .test (beqb (ile x3304.To v3300) false) false, .test (ile x3304.To v3300) true, .test (beqb true false) false, .test (beqb true false) false, .test (beqb true false) false, .test (beqb true false) false, .test (beqb true false) false, .test (beqb true false) false, .test (beqb true false) false, .test (beqb true false) false, .test true true, .test true true] := ⟨(beqb_ft h3306), (beqb_ft h3306), (beqb_ft h3306), (beqb_ft h3306), (beqb_ft h3306), h3306, (beqb_ft rfl), (beqb_ft rfl), (beqb_ft rfl), (beqb_ft rfl), (beqb_ft rfl), (beqb_ft rfl), (beqb_ft rfl), (beqb_ft rfl), rfl, rfl, trivial⟩
        exact loop_endC (h := hn80) (l := 0) (c := c80_0) (ts := F80_l0_0_S a3278 a3279 a3280 v3300 v3301) (ts' := F80_l0_0_X0 a3278 a3279 a3280 ()) (ex := .ret) (pq3312 pz) (by kernel_rfl) trivial
      have pq3313 : ∀ {l : List Cond}, HoldAll E H hn80 l → HoldAll E H hn80 (.test (beqb (ile x3304.To v3300) false) true :: .test (beqb (ile x3304.To v3300) false) true :: .test (beqb (ile x3304.To v3300) false) true :: .test (beqb (ile x3304.To v3300) false) true :: .test (beqb (ile x3304.To v3300) false) true :: .test (ile x3304.To v3300) false :: l) := fun z => ⟨(beqb_ff h3306), (beqb_ff h3306), (beqb_ff h3306), (beqb_ff h3306), (beqb_ff h3306), h3306, z⟩
      refine cond_some hF (fun h3307 hF => ?_) (fun h3307 hF => ?_)
      ·
        have hr := Option.some.inj hF
        subst hr
        have pz : HoldAll E H hn80 [.test (beqb (ige x3304.To a3278.N) false) false, .test (beqb (ige x3304.To a3278.N) false) false, .test (beqb (ige x3304.To a3278.N) false) false, .test (beqb (ige x3304.To a3278.N) false) false, .test (beqb (ige x3304.To a3278.N) false) false, .test (beqb (ige x3304.To a3278.N) false) false, .test (beqb (ige x3304.To a3278.N) false) false, .test (beqb (ige x3304.To a3278.N) false) false, .test (ige x3304.To a3278.N) true, .test true true] := ⟨(beqb_ft (ige_eq h3307)), (beqb_ft (ige_eq h3307)), (beqb_ft (ige_eq h3307)), (beqb_ft (ige_eq h3307)), (beqb_ft (ige_eq h3307)), (beqb_ft (ige_eq h3307)), (beqb_ft (ige_eq h3307)), (beqb_ft (ige_eq h3307)), (ige_eq h3307), rfl, trivial⟩
        exact loop_endC (h := hn80) (l := 0) (c := c80_0) (ts := F80_l0_0_S a3278 a3279 a3280 v3300 v3301) (ts' := F80_l0_0_X0 a3278 a3279 a3280 ()) (ex := .ret) (pq3312 (pq3313 pz)) (by kernel_rfl) trivial
      refine cond_some hF (fun _ hF => nomatch hF) (fun h3308 hF => ?_)
      have pq3314 : ∀ {l : List Cond}, HoldAll E H hn80 l → HoldAll E H hn80 (.test (beqb (ige x3304.To a3278.N) false) true :: .test (beqb (ige x3304.To a3278.N) false) true :: .test (beqb (ige x3304.To a3278.N) false) true :: .test (beqb (ige x3304.To a3278.N) false) true :: .test (beqb (ige x3304.To a3278.N) false) true :: .test (izero a3279.Parts) false :: .int (wrem x3304.To a3279.Parts) (wrem x3304.To a3279.Parts) :: .test (beqb (ige x3304.To a3278.N) false) true :: .test (beqb (ige x3304.To a3278.N) false) true :: .test (beqb (ige x3304.To a3278.N) false) true :: .test (ige x3304.To a3278.N) false :: l) := fun z => ⟨(beqb_ff (ige_eq h3307)), (beqb_ff (ige_eq h3307)), (beqb_ff (ige_eq h3307)), (beqb_ff (ige_eq h3307)), (beqb_ff (ige_eq h3307)), h3308, rfl, (beqb_ff (ige_eq h3307)), (beqb_ff (ige_eq h3307)), (beqb_ff (ige_eq h3307)), (ige_eq h3307), z⟩
      refine cond_some hF (fun h3309 hF => ?_) (fun h3309 hF => ?_)
      ·
        have pz : HoldAll E H hn80 [.test (ine (wrem x3304.To a3279.Parts) a3280.P) false, .int (wadd .i64 v3301 1) (wadd .i64 v3301 1)] := ⟨(ine_t h3309), rfl, trivial⟩
        have h0 := ih _ _ _ hF
        have hn := fun ex ts' => loop_nextC (h := hn80) (l := 0) (c := c80_0) (ts := F80_l0_0_S a3278 a3279 a3280 v3300 v3301) (ts1 := (F80_l0_0_S a3278 a3279 a3280 x3304.To (wadd .i64 v3301 1))) (ex := ex) (ts' := ts') (pq3312 (pq3313 (pq3314 pz))) (by kernel_rfl)
        cases r with
        | inl w => exact hn _ _ h0
        | inr w => exact hn _ _ h0
      have hr := Option.some.inj hF
      subst hr
      have pz : HoldAll E H hn80 [.test (ine (wrem x3304.To a3279.Parts) a3280.P) true] := ⟨(ine_f h3309), trivial⟩
      exact loop_endC (h := hn80) (l := 0) (c := c80_0) (ts := F80_l0_0_S a3278 a3279 a3280 v3300 v3301) (ts' := F80_l0_0_X0 a3278 a3279 a3280 ()) (ex := .ret) (pq3312 (pq3313 (pq3314 pz))) (by kernel_rfl) trivial
    have hr := Option.some.inj hF
    subst hr
    have pz : HoldAll E H hn80 [.test (ilt v3301 (nlen (len a3280.In))) false] := ⟨h3302, trivial⟩
    exact loop_endC (h := hn80) (l := 0) (c := c80_0) (ts := F80_l0_0_S a3278 a3279 a3280 v3300 v3301) (ts' := F80_l0_0_X1 a3278 a3279 a3280 ()) (ex := (.exit 0)) pz (by kernel_rfl) trivial

def F80 (K : Nat) (a3278 : GGraph) (a3279 : GJob) (a3280 : GPart) : Option (Bool) :=
  (F94 K a3278 a3279).bind fun r3281 =>
  bif (ieq r3281 0) then
    (bif (ilt a3280.P 0) then
      (some false)
    else
    bif (ile a3279.Parts a3280.P) then
      (some false)
    else
    bif (ilt a3280.Step 0) then
      (some false)
    else
    bif (ilt 40 a3280.Step) then
      (some false)
    else
    (F77 K a3278 a3279 a3280.P).bind fun r3288 =>
    bif (ieq (nlen (len a3280.Vals)) r3288) then
      (bif (ieq (nlen (len a3280.Rest)) r3288) then
        ((F80_l0_0 K a3278 a3279 a3280 K (-1) 0).bind fun y3316 =>
        Sum.elim (fun w3317 =>
          some false)
          (fun w3318 =>
          some true) y3316)
      else
      some false)
    else
    some false)
  else
  some false
theorem F80_ok (K : Nat) (a3278 : GGraph) (a3279 : GJob) (a3280 : GPart) (r : Bool) (hF : F80 K a3278 a3279 a3280 = some r) : Evt E H 80 [.agg (eGGraph a3278), .agg (eGJob a3279), .agg (eGPart a3280)] (F80_res r) := by
  rw [F80] at hF
  refine bind_some hF (fun r3281 h3282 hF => ?_)
  refine cond_some hF (fun h3283 hF => ?_) (fun h3283 hF => ?_)
  ·
    have pq3319 : ∀ {l : List Cond}, HoldAll E H hn80 l → HoldAll E H hn80 (.call 94 [.agg (eGGraph a3278), .agg (eGJob a3279)] (F94_res r3281) :: .test (leadsAny (Res.mk [(.one (.im (.lit (.int .i64 r3281))))] [])) false :: .test (beqb (ine r3281 0) false) true :: .test (beqb (ine r3281 0) false) true :: .test (beqb (ine r3281 0) false) true :: .test (ine r3281 0) false :: l) := fun z => ⟨(F94_ok K a3278 a3279 _ h3282), (leads_ok (by simp only [leadsAny, List.any_cons, List.any_nil, RV.leads, RC.leads, leadsT, hasSl_lit, Bool.or_false, flat_ns (eInt_ns _), flat_ns eBool_ns, flat_ns eStr_ns, flat_ns eGJob_ns, flat_ns eGEdge_ns, flat_ns eGAsked_ns, flat_ns eGMsg_ns, flat_ns eGrule_ns, flat_ns eGA199_ns, flat_ns eGA202_ns])), (beqb_ff (ine_t h3283)), (beqb_ff (ine_t h3283)), (beqb_ff (ine_t h3283)), (ine_t h3283), z⟩
    refine cond_some hF (fun h3284 hF => ?_) (fun h3284 hF => ?_)
    ·
      have hr := Option.some.inj hF
      subst hr
      have pz : HoldAll E H hn80 [.test (beqb (ilt a3280.P 0) false) false, .test (beqb (ilt a3280.P 0) false) false, .test (beqb (ilt a3280.P 0) false) false, .test (beqb (ilt a3280.P 0) false) false, .test (beqb (ilt a3280.P 0) false) false, .test (ilt a3280.P 0) true, .test (beqb true false) false, .test (beqb true false) false, .test (beqb true false) false, .test true true, .test (beqb true false) false, .test (beqb true false) false, .test (beqb true false) false, .test true true, .test true true] := ⟨(beqb_ft h3284), (beqb_ft h3284), (beqb_ft h3284), (beqb_ft h3284), (beqb_ft h3284), h3284, (beqb_ft rfl), (beqb_ft rfl), (beqb_ft rfl), rfl, (beqb_ft rfl), (beqb_ft rfl), (beqb_ft rfl), rfl, rfl, trivial⟩
      exact fn_playC hn80 (f := 80) (ads := [.agg (eGGraph a3278), .agg (eGJob a3279), .agg (eGPart a3280)]) (r := F80_res false) (pq3319 pz) (by kernel_rfl) (by kernel_rfl)
    have pq3320 : ∀ {l : List Cond}, HoldAll E H hn80 l → HoldAll E H hn80 (.test (beqb (ilt a3280.P 0) false) true :: .test (beqb (ilt a3280.P 0) false) true :: .test (beqb (ilt a3280.P 0) false) true :: .test (beqb (ilt a3280.P 0) false) true :: .test (beqb (ilt a3280.P 0) false) true :: .test (ilt a3280.P 0) false :: l) := fun z => ⟨(beqb_ff h3284), (beqb_ff h3284), (beqb_ff h3284), (beqb_ff h3284), (beqb_ff h3284), h3284, z⟩
    refine cond_some hF (fun h3285 hF => ?_) (fun h3285 hF => ?_)
    ·
      have hr := Option.some.inj hF
      subst hr
      have pz : HoldAll E H hn80 [.test (beqb (ige a3280.P a3279.Parts) false) false, .test (beqb (ige a3280.P a3279.Parts) false) false, .test (beqb (ige a3280.P a3279.Parts) false) false, .test (ige a3280.P a3279.Parts) true, .test (beqb true false) false, .test (beqb true false) false, .test (beqb true false) false, .test true true, .test true true] := ⟨(beqb_ft (ige_eq h3285)), (beqb_ft (ige_eq h3285)), (beqb_ft (ige_eq h3285)), (ige_eq h3285), (beqb_ft rfl), (beqb_ft rfl), (beqb_ft rfl), rfl, rfl, trivial⟩
      exact fn_playC hn80 (f := 80) (ads := [.agg (eGGraph a3278), .agg (eGJob a3279), .agg (eGPart a3280)]) (r := F80_res false) (pq3319 (pq3320 pz)) (by kernel_rfl) (by kernel_rfl)
    have pq3321 : ∀ {l : List Cond}, HoldAll E H hn80 l → HoldAll E H hn80 (.test (beqb (ige a3280.P a3279.Parts) false) true :: .test (beqb (ige a3280.P a3279.Parts) false) true :: .test (beqb (ige a3280.P a3279.Parts) false) true :: .test (ige a3280.P a3279.Parts) false :: l) := fun z => ⟨(beqb_ff (ige_eq h3285)), (beqb_ff (ige_eq h3285)), (beqb_ff (ige_eq h3285)), (ige_eq h3285), z⟩
    refine cond_some hF (fun h3286 hF => ?_) (fun h3286 hF => ?_)
    ·
      have hr := Option.some.inj hF
      subst hr
      have pz : HoldAll E H hn80 [.test (beqb (ilt a3280.Step 0) false) false, .test (beqb (ilt a3280.Step 0) false) false, .test (beqb (ilt a3280.Step 0) false) false, .test (ilt a3280.Step 0) true, .test true true] := ⟨(beqb_ft h3286), (beqb_ft h3286), (beqb_ft h3286), h3286, rfl, trivial⟩
      exact fn_playC hn80 (f := 80) (ads := [.agg (eGGraph a3278), .agg (eGJob a3279), .agg (eGPart a3280)]) (r := F80_res false) (pq3319 (pq3320 (pq3321 pz))) (by kernel_rfl) (by kernel_rfl)
    have pq3322 : ∀ {l : List Cond}, HoldAll E H hn80 l → HoldAll E H hn80 (.test (beqb (ilt a3280.Step 0) false) true :: .test (beqb (ilt a3280.Step 0) false) true :: .test (beqb (ilt a3280.Step 0) false) true :: .test (ilt a3280.Step 0) false :: l) := fun z => ⟨(beqb_ff h3286), (beqb_ff h3286), (beqb_ff h3286), h3286, z⟩
    refine cond_some hF (fun h3287 hF => ?_) (fun h3287 hF => ?_)
    ·
      have hr := Option.some.inj hF
      subst hr
      have pz : HoldAll E H hn80 [.test (igt a3280.Step 40) true] := ⟨(igt_eq h3287), trivial⟩
      exact fn_playC hn80 (f := 80) (ads := [.agg (eGGraph a3278), .agg (eGJob a3279), .agg (eGPart a3280)]) (r := F80_res false) (pq3319 (pq3320 (pq3321 (pq3322 pz)))) (by kernel_rfl) (by kernel_rfl)
    refine bind_some hF (fun r3288 h3289 hF => ?_)
    have pq3323 : ∀ {l : List Cond}, HoldAll E H hn80 l → HoldAll E H hn80 (.test (igt a3280.Step 40) false :: .call 77 [.agg (eGGraph a3278), .agg (eGJob a3279), .one (.lit (.int .i64 a3280.P))] (F77_res r3288) :: .test (leadsAny (Res.mk [(.one (.im (.lit (.int .i64 r3288))))] [])) false :: .int (nlen (len a3280.Vals)) (nlen (len a3280.Vals)) :: l) := fun z => ⟨(igt_eq h3287), (F77_ok K a3278 a3279 a3280.P _ h3289), (leads_ok (by simp only [leadsAny, List.any_cons, List.any_nil, RV.leads, RC.leads, leadsT, hasSl_lit, Bool.or_false, flat_ns (eInt_ns _), flat_ns eBool_ns, flat_ns eStr_ns, flat_ns eGJob_ns, flat_ns eGEdge_ns, flat_ns eGAsked_ns, flat_ns eGMsg_ns, flat_ns eGrule_ns, flat_ns eGA199_ns, flat_ns eGA202_ns])), rfl, z⟩
    refine cond_some hF (fun h3290 hF => ?_) (fun h3290 hF => ?_)
    ·
      have pq3324 : ∀ {l : List Cond}, HoldAll E H hn80 l → HoldAll E H hn80 (.test (beqb (ine (nlen (len a3280.Vals)) r3288) false) true :: .test (beqb (ine (nlen (len a3280.Vals)) r3288) false) true :: .test (beqb (ine (nlen (len a3280.Vals)) r3288) false) true :: .int (nlen (len a3280.Rest)) (nlen (len a3280.Rest)) :: .test (beqb (ine (nlen (len a3280.Vals)) r3288) false) true :: .test (beqb (ine (nlen (len a3280.Vals)) r3288) false) true :: .test (ine (nlen (len a3280.Vals)) r3288) false :: l) := fun z => ⟨(beqb_ff (ine_t h3290)), (beqb_ff (ine_t h3290)), (beqb_ff (ine_t h3290)), rfl, (beqb_ff (ine_t h3290)), (beqb_ff (ine_t h3290)), (ine_t h3290), z⟩
      refine cond_some hF (fun h3291 hF => ?_) (fun h3291 hF => ?_)
      ·
        refine bind_some hF (fun y3316 h3315 hF => ?_)
        refine sum_some hF (fun w3317 hx hF => ?_) (fun w3318 hx hF => ?_)
        ·
          subst hx
          have hr := Option.some.inj hF
          subst hr
          have pz : HoldAll E H hn80 [.test (ine (nlen (len a3280.Rest)) r3288) false, .int (nlen (len a3280.In)) (nlen (len a3280.In)), .loop 0 c80_0 (F80_l0_0_S a3278 a3279 a3280 (-1) 0) .ret (F80_l0_0_X0 a3278 a3279 a3280 w3317)] := ⟨(ine_t h3291), rfl, (F80_l0_0_ok K a3278 a3279 a3280 K (-1) 0 _ h3315), trivial⟩
          exact fn_playC hn80 (f := 80) (ads := [.agg (eGGraph a3278), .agg (eGJob a3279), .agg (eGPart a3280)]) (r := F80_res false) (pq3319 (pq3320 (pq3321 (pq3322 (pq3323 (pq3324 pz)))))) (by kernel_rfl) (by kernel_rfl)
        subst hx
        have hr := Option.some.inj hF
        subst hr
        have pz : HoldAll E H hn80 [.test (ine (nlen (len a3280.Rest)) r3288) false, .int (nlen (len a3280.In)) (nlen (len a3280.In)), .loop 0 c80_0 (F80_l0_0_S a3278 a3279 a3280 (-1) 0) (.exit 0) (F80_l0_0_X1 a3278 a3279 a3280 w3318)] := ⟨(ine_t h3291), rfl, (F80_l0_0_ok K a3278 a3279 a3280 K (-1) 0 _ h3315), trivial⟩
        exact fn_playC hn80 (f := 80) (ads := [.agg (eGGraph a3278), .agg (eGJob a3279), .agg (eGPart a3280)]) (r := F80_res true) (pq3319 (pq3320 (pq3321 (pq3322 (pq3323 (pq3324 pz)))))) (by kernel_rfl) (by kernel_rfl)
      have hr := Option.some.inj hF
      subst hr
      have pz : HoldAll E H hn80 [.test (ine (nlen (len a3280.Rest)) r3288) true] := ⟨(ine_f h3291), trivial⟩
      exact fn_playC hn80 (f := 80) (ads := [.agg (eGGraph a3278), .agg (eGJob a3279), .agg (eGPart a3280)]) (r := F80_res false) (pq3319 (pq3320 (pq3321 (pq3322 (pq3323 (pq3324 pz)))))) (by kernel_rfl) (by kernel_rfl)
    have hr := Option.some.inj hF
    subst hr
    have pz : HoldAll E H hn80 [.test (beqb (ine (nlen (len a3280.Vals)) r3288) false) false, .test (beqb (ine (nlen (len a3280.Vals)) r3288) false) false, .test (beqb (ine (nlen (len a3280.Vals)) r3288) false) false, .test (beqb (ine (nlen (len a3280.Vals)) r3288) false) false, .test (beqb (ine (nlen (len a3280.Vals)) r3288) false) false, .test (ine (nlen (len a3280.Vals)) r3288) true, .test true true] := ⟨(beqb_ft (ine_f h3290)), (beqb_ft (ine_f h3290)), (beqb_ft (ine_f h3290)), (beqb_ft (ine_f h3290)), (beqb_ft (ine_f h3290)), (ine_f h3290), rfl, trivial⟩
    exact fn_playC hn80 (f := 80) (ads := [.agg (eGGraph a3278), .agg (eGJob a3279), .agg (eGPart a3280)]) (r := F80_res false) (pq3319 (pq3320 (pq3321 (pq3322 (pq3323 pz))))) (by kernel_rfl) (by kernel_rfl)
  have hr := Option.some.inj hF
  subst hr
  have pz : HoldAll E H hn80 [.call 94 [.agg (eGGraph a3278), .agg (eGJob a3279)] (F94_res r3281), .test (leadsAny (Res.mk [(.one (.im (.lit (.int .i64 r3281))))] [])) false, .test (beqb (ine r3281 0) false) false, .test (beqb (ine r3281 0) false) false, .test (beqb (ine r3281 0) false) false, .test (ine r3281 0) true, .test (beqb true false) false, .test (beqb true false) false, .test (beqb true false) false, .test (beqb true false) false, .test (beqb true false) false, .test true true, .test (beqb true false) false, .test (beqb true false) false, .test (beqb true false) false, .test true true, .test (beqb true false) false, .test (beqb true false) false, .test (beqb true false) false, .test true true, .test true true] := ⟨(F94_ok K a3278 a3279 _ h3282), (leads_ok (by simp only [leadsAny, List.any_cons, List.any_nil, RV.leads, RC.leads, leadsT, hasSl_lit, Bool.or_false, flat_ns (eInt_ns _), flat_ns eBool_ns, flat_ns eStr_ns, flat_ns eGJob_ns, flat_ns eGEdge_ns, flat_ns eGAsked_ns, flat_ns eGMsg_ns, flat_ns eGrule_ns, flat_ns eGA199_ns, flat_ns eGA202_ns])), (beqb_ft (ine_f h3283)), (beqb_ft (ine_f h3283)), (beqb_ft (ine_f h3283)), (ine_f h3283), (beqb_ft rfl), (beqb_ft rfl), (beqb_ft rfl), (beqb_ft rfl), (beqb_ft rfl), rfl, (beqb_ft rfl), (beqb_ft rfl), (beqb_ft rfl), rfl, (beqb_ft rfl), (beqb_ft rfl), (beqb_ft rfl), rfl, rfl, trivial⟩
  exact fn_playC hn80 (f := 80) (ads := [.agg (eGGraph a3278), .agg (eGJob a3279), .agg (eGPart a3280)]) (r := F80_res false) pz (by kernel_rfl) (by kernel_rfl)

/-! ### haywain/haywainref07.Right -/
noncomputable def hn81 : Hint := { H 81 with nt := 102, prot := 0 }
noncomputable def c81_0 : Code := loopOf E 81 0
noncomputable def c81_1 : Code := loopOf E 81 1
def F81_res (r3407 : Bool) : Res := ⟨[(.one (.im (.lit (.bool r3407))))], []⟩
def F81_l1_1 (K : Nat) (a3330 : GPart) (r3338 : List Int) (v3364 : Int) (x3367 : GMsg) : Nat → Bool → Int → Option (Bool)
  | 0, _, _ => none
  | k + 1, v3373, v3374 =>
    bif (ilt v3374 (nlen (len r3338))) then
      (bif v3373 then
        (F81_l1_1 K a3330 r3338 v3364 x3367 k true (wadd .i64 v3374 1))
      else
      bif (inr v3374 (len r3338)) then
      (elAt r3338 v3374).bind fun x3378 =>
      F81_l1_1 K a3330 r3338 v3364 x3367 k (ieq x3378 x3367.To) (wadd .i64 v3374 1)
      else none)
    else
    some v3373
def F81_l1_1_S (a3330 : GPart) (r3338 : List Int) (v3364 : Int) (x3367 : GMsg) (v3373 : Bool) (v3374 : Int) : TS := .on [320, 321, 322, 323, 324, 325, 448, 449, 512, 513, 576, 577, 640, 641, 704, 705] [(320, ⟨(.box 42 5), 0, nob⟩), (321, ⟨.im, 0, (.lit (.int .i64 a3330.P))⟩), (322, ⟨.im, 0, (.lit (.int .i64 a3330.Step))⟩), (323, ⟨.im, 0, (.sl (len a3330.Vals) (flat (eInt .i64) a3330.Vals))⟩), (324, ⟨.im, 0, (.sl (len a3330.Rest) (flat eBool a3330.Rest))⟩), (325, ⟨.im, 0, (.sl (len a3330.In) (flat eGMsg a3330.In))⟩), (448, ⟨.one, 0, nob⟩), (449, ⟨(.own 3), 0, (.sl (len r3338) (flat (eInt .i64) r3338))⟩), (512, ⟨.one, 0, nob⟩), (513, ⟨.im, 0, (.lit (.int .i64 v3364))⟩), (576, ⟨.one, 0, nob⟩), (577, ⟨.im, 0, (.lit (.int .i64 x3367.To))⟩), (640, ⟨.one, 0, nob⟩), (641, ⟨.im, 0, (.lit (.bool v3373))⟩), (704, ⟨.one, 0, nob⟩), (705, ⟨.im, 0, (.lit (.int .i64 v3374))⟩)]
def F81_l1_1_X0 (a3330 : GPart) (r3338 : List Int) (v3364 : Int) (x3367 : GMsg) (w3380 : Bool) : TS := .on [320, 321, 322, 323, 324, 325, 448, 449, 512, 513, 576, 577, 640, 641] [(320, ⟨(.box 42 5), 0, nob⟩), (321, ⟨.im, 0, (.lit (.int .i64 a3330.P))⟩), (322, ⟨.im, 0, (.lit (.int .i64 a3330.Step))⟩), (323, ⟨.im, 0, (.sl (len a3330.Vals) (flat (eInt .i64) a3330.Vals))⟩), (324, ⟨.im, 0, (.sl (len a3330.Rest) (flat eBool a3330.Rest))⟩), (325, ⟨.im, 0, (.sl (len a3330.In) (flat eGMsg a3330.In))⟩), (448, ⟨.one, 0, nob⟩), (449, ⟨(.own 3), 0, (.sl (len r3338) (flat (eInt .i64) r3338))⟩), (512, ⟨.one, 0, nob⟩), (513, ⟨.im, 0, (.lit (.int .i64 v3364))⟩), (576, ⟨.one, 0, nob⟩), (577, ⟨.im, 0, (.lit (.int .i64 x3367.To))⟩), (640, ⟨.one, 0, nob⟩), (641, ⟨.im, 0, (.lit (.bool w3380))⟩)]
theorem F81_l1_1_ok (K : Nat) (a3330 : GPart) (r3338 : List Int) (v3364 : Int) (x3367 : GMsg) : ∀ (k : Nat) (v3373 : Bool) (v3374 : Int) (r : Bool), F81_l1_1 K a3330 r3338 v3364 x3367 k v3373 v3374 = some r → LoopEv E H hn81 2 c81_1 (F81_l1_1_S a3330 r3338 v3364 x3367 v3373 v3374) (.exit 2) (F81_l1_1_X0 a3330 r3338 v3364 x3367 r) := by
  intro k
  induction k with
  | zero => intro v3373 v3374 r hF; cases hF
  | succ k ih =>
    intro v3373 v3374 r hF
    rw [F81_l1_1] at hF
    refine cond_some hF (fun h3375 hF => ?_) (fun h3375 hF => ?_)
    ·
      refine cond_some hF (fun h3376 hF => ?_) (fun h3376 hF => ?_)
      ·
        have pz : HoldAll E H hn81 [.int (nlen (len r3338)) (nlen (len r3338)), .test (ilt v3374 (nlen (len r3338))) true, .test (beqb v3373 false) false, .test (beqb v3373 false) false, .test (beqb v3373 false) false, .test (beqb v3373 false) false, .test (beqb v3373 false) false, .test (beqb v3373 false) false, .test v3373 true, .int (wadd .i64 v3374 1) (wadd .i64 v3374 1)] := ⟨rfl, h3375, (beqb_ft h3376), (beqb_ft h3376), (beqb_ft h3376), (beqb_ft h3376), (beqb_ft h3376), (beqb_ft h3376), h3376, rfl, trivial⟩
        have h0 := ih _ _ _ hF
        have hn := fun ex ts' => loop_nextC (h := hn81) (l := 2) (c := c81_1) (ts := F81_l1_1_S a3330 r3338 v3364 x3367 v3373 v3374) (ts1 := (F81_l1_1_S a3330 r3338 v3364 x3367 true (wadd .i64 v3374 1))) (ex := ex) (ts' := ts') pz (by kernel_rfl)
        exact hn _ _ h0
      refine cond_some hF (fun h3377 hF => ?_) (fun _ hF => nomatch hF)
      refine bind_some hF (fun x3378 h3379 hF => ?_)
      have pz : HoldAll E H hn81 [.int (nlen (len r3338)) (nlen (len r3338)), .test (ilt v3374 (nlen (len r3338))) true, .test (beqb v3373 false) true, .test (beqb v3373 false) true, .test (beqb v3373 false) true, .test (inr v3374 (len r3338)) true, .test (beqb v3373 false) true, .sub (flat (eInt .i64) r3338) (nidx v3374 1) 1 [(.lit (.int .i64 x3378))], .test (beqb v3373 false) true, .test (beqb v3373 false) true, .test v3373 false, .int (wadd .i64 v3374 1) (wadd .i64 v3374 1)] := ⟨rfl, h3375, (beqb_ff h3376), (beqb_ff h3376), (beqb_ff h3376), h3377, (beqb_ff h3376), ⟨rfl, sub_flat0 (eInt_len _) h3379 1 (by decide)⟩, (beqb_ff h3376), (beqb_ff h3376), h3376, rfl, trivial⟩
      have h0 := ih _ _ _ hF
      have hn := fun ex ts' => loop_nextC (h := hn81) (l := 2) (c := c81_1) (ts := F81_l1_1_S a3330 r3338 v3364 x3367 v3373 v3374) (ts1 := (F81_l1_1_S a3330 r3338 v3364 x3367 (ieq x3378 x3367.To) (wadd .i64 v3374 1))) (ex := ex) (ts' := ts') pz (by kernel_rfl)
      exact hn _ _ h0
    have hr := Option.some.inj hF
    subst hr
    have pz : HoldAll E H hn81 [.int (nlen (len r3338)) (nlen (len r3338)), .test (ilt v3374 (nlen (len r3338))) false] := ⟨rfl, h3375, trivial⟩
    exact loop_endC (h := hn81) (l := 2) (c := c81_1) (ts := F81_l1_1_S a3330 r3338 v3364 x3367 v3373 v3374) (ts' := F81_l1_1_X0 a3330 r3338 v3364 x3367 v3373) (ex := (.exit 2)) pz (by kernel_rfl) trivial

def F81_l0_0 (K : Nat) (a3330 : GPart) (r3338 : List Int) : Nat → Int → Option ((Unit) ⊕ (Unit))
  | 0, _ => none
  | k + 1, v3364 =>
    bif (ilt v3364 (nlen (len a3330.In))) then
      (bif (inr v3364 (len a3330.In)) then
      (elAt a3330.In v3364).bind fun x3367 =>
      (F81_l1_1 K a3330 r3338 v3364 x3367 K false 0).bind fun w3384 =>
      bif w3384 then
        (bif (ilt 0 v3364) then
          (bif (inr (wsub .i64 v3364 1) (len a3330.In)) then
          (elAt a3330.In (wsub .i64 v3364 1)).bind fun x3389 =>
          bif (ile x3367.To x3389.To) then
            (some (.inl ()))
          else
          F81_l0_0 K a3330 r3338 k (wadd .i64 v3364 1)
          else none)
        else
        F81_l0_0 K a3330 r3338 k (wadd .i64 v3364 1))
      else
      some (.inl ())
      else none)
    else
    some (.inr ())
def F81_l0_0_S (a3330 : GPart) (r3338 : List Int) (v3364 : Int) : TS := .on [320, 321, 322, 323, 324, 325, 448, 449, 512, 513] [(320, ⟨(.box 42 5), 0, nob⟩), (321, ⟨.im, 0, (.lit (.int .i64 a3330.P))⟩), (322, ⟨.im, 0, (.lit (.int .i64 a3330.Step))⟩), (323, ⟨.im, 0, (.sl (len a3330.Vals) (flat (eInt .i64) a3330.Vals))⟩), (324, ⟨.im, 0, (.sl (len a3330.Rest) (flat eBool a3330.Rest))⟩), (325, ⟨.im, 0, (.sl (len a3330.In) (flat eGMsg a3330.In))⟩), (448, ⟨.one, 0, nob⟩), (449, ⟨(.own 3), 0, (.sl (len r3338) (flat (eInt .i64) r3338))⟩), (512, ⟨.one, 0, nob⟩), (513, ⟨.im, 0, (.lit (.int .i64 v3364))⟩)]
def F81_l0_0_X0 (a3330 : GPart) (r3338 : List Int) (w3392 : Unit) : TS := .on [384, 385] [(384, ⟨.one, 0, nob⟩), (385, ⟨.im, 0, (.lit (.bool false))⟩)]
def F81_l0_0_X1 (a3330 : GPart) (r3338 : List Int) (w3393 : Unit) : TS := .on [] []
theorem F81_l0_0_ok (K : Nat) (a3330 : GPart) (r3338 : List Int) : ∀ (k : Nat) (v3364 : Int) (r : (Unit) ⊕ (Unit)), F81_l0_0 K a3330 r3338 k v3364 = some r → (Sum.elim (fun w => LoopEv E H hn81 0 c81_0 (F81_l0_0_S a3330 r3338 v3364) .ret (F81_l0_0_X0 a3330 r3338 w)) (fun w => LoopEv E H hn81 0 c81_0 (F81_l0_0_S a3330 r3338 v3364) (.exit 0) (F81_l0_0_X1 a3330 r3338 w))) r := by
  intro k
  induction k with
  | zero => intro v3364 r hF; cases hF
  | succ k ih =>
    intro v3364 r hF
    rw [F81_l0_0] at hF
    refine cond_some hF (fun h3365 hF => ?_) (fun h3365 hF => ?_)
    ·
      refine cond_some hF (fun h3366 hF => ?_) (fun _ hF => nomatch hF)
      refine bind_some hF (fun x3367 h3368 hF => ?_)
      refine bind_some hF (fun w3384 h3382 hF => ?_)
      have pq3394 : ∀ {l : List Cond}, HoldAll E H hn81 l → HoldAll E H hn81 (.int (nlen (len a3330.In)) (nlen (len a3330.In)) :: .test (ilt v3364 (nlen (len a3330.In))) true :: .test (inr v3364 (len a3330.In)) true :: .sub (flat eGMsg a3330.In) (nadd (nidx v3364 2) 0) 1 [(.lit (.int .i64 x3367.To))] :: .loop 2 c81_1 (F81_l1_1_S a3330 r3338 v3364 x3367 false 0) (.exit 2) (F81_l1_1_X0 a3330 r3338 v3364 x3367 w3384) :: l) := fun z => ⟨rfl, h3365, h3366, ⟨rfl, sub_flat eGMsg_len h3368 0 1 (by decide)⟩, (F81_l1_1_ok K a3330 r3338 v3364 x3367 K false 0 _ h3382), z⟩
      refine cond_some hF (fun h3386 hF => ?_) (fun h3386 hF => ?_)
      ·
        have pq3395 : ∀ {l : List Cond}, HoldAll E H hn81 l → HoldAll E H hn81 (.test (beqb (bnot w3384) false) true :: .test (beqb (bnot w3384) false) true :: .test (beqb (bnot w3384) false) true :: l) := fun z => ⟨(beqb_ff (bnot_t h3386)), (beqb_ff (bnot_t h3386)), (beqb_ff (bnot_t h3386)), z⟩
        refine cond_some hF (fun h3387 hF => ?_) (fun h3387 hF => ?_)
        ·
          refine cond_some hF (fun h3388 hF => ?_) (fun _ hF => nomatch hF)
          refine bind_some hF (fun x3389 h3390 hF => ?_)
          have pq3396 : ∀ {l : List Cond}, HoldAll E H hn81 l → HoldAll E H hn81 (.test (beqb (igt v3364 0) true) true :: .test (beqb (igt v3364 0) true) true :: .test (beqb (igt v3364 0) true) true :: .test (beqb (igt v3364 0) true) true :: .int (wsub .i64 v3364 1) (wsub .i64 v3364 1) :: .test (beqb (igt v3364 0) true) true :: .test (inr (wsub .i64 v3364 1) (len a3330.In)) true :: .test (beqb (igt v3364 0) true) true :: .test (beqb (igt v3364 0) true) true :: .sub (flat eGMsg a3330.In) (nadd (nidx (wsub .i64 v3364 1) 2) 0) 1 [(.lit (.int .i64 x3389.To))] :: .test (beqb (igt v3364 0) true) true :: .test (beqb (igt v3364 0) true) true :: .test (beqb (bnot w3384) false) true :: .test (igt v3364 0) true :: .test (bnot w3384) false :: l) := fun z => ⟨(beqb_t (igt_eq h3387)), (beqb_t (igt_eq h3387)), (beqb_t (igt_eq h3387)), (beqb_t (igt_eq h3387)), rfl, (beqb_t (igt_eq h3387)), h3388, (beqb_t (igt_eq h3387)), (beqb_t (igt_eq h3387)), ⟨rfl, sub_flat eGMsg_len h3390 0 1 (by decide)⟩, (beqb_t (igt_eq h3387)), (beqb_t (igt_eq h3387)), (beqb_ff (bnot_t h3386)), (igt_eq h3387), (bnot_t h3386), z⟩
          refine cond_some hF (fun h3391 hF => ?_) (fun h3391 hF => ?_)
          ·
            have hr := Option.some.inj hF
            subst hr
            have pz : HoldAll E H hn81 [.test (ige x3389.To x3367.To) true] := ⟨(ige_eq h3391), trivial⟩
            exact loop_endC (h := hn81) (l := 0) (c := c81_0) (ts := F81_l0_0_S a3330 r3338 v3364) (ts' := F81_l0_0_X0 a3330 r3338 ()) (ex := .ret) (pq3394 (pq3395 (pq3396 pz))) (by kernel_rfl) trivial
          have pz : HoldAll E H hn81 [.test (ige x3389.To x3367.To) false, .int (wadd .i64 v3364 1) (wadd .i64 v3364 1)] := ⟨(ige_eq h3391), rfl, trivial⟩
          have h0 := ih _ _ hF
          have hn := fun ex ts' => loop_nextC (h := hn81) (l := 0) (c := c81_0) (ts := F81_l0_0_S a3330 r3338 v3364) (ts1 := (F81_l0_0_S a3330 r3338 (wadd .i64 v3364 1))) (ex := ex) (ts' := ts') (pq3394 (pq3395 (pq3396 pz))) (by kernel_rfl)
          cases r with
          | inl w => exact hn _ _ h0
          | inr w => exact hn _ _ h0
        have pz : HoldAll E H hn81 [.test (beqb (igt v3364 0) true) false, .test (beqb (igt v3364 0) true) false, .test (beqb (igt v3364 0) true) false, .test (beqb (igt v3364 0) true) false, .test (beqb (igt v3364 0) true) false, .test (beqb (igt v3364 0) true) false, .test (beqb (igt v3364 0) true) false, .test (beqb (igt v3364 0) true) false, .test (beqb (igt v3364 0) true) false, .test (beqb (bnot w3384) false) true, .test (igt v3364 0) false, .test (bnot w3384) false, .test false false, .int (wadd .i64 v3364 1) (wadd .i64 v3364 1)] := ⟨(beqb_t (igt_eq h3387)), (beqb_t (igt_eq h3387)), (beqb_t (igt_eq h3387)), (beqb_t (igt_eq h3387)), (beqb_t (igt_eq h3387)), (beqb_t (igt_eq h3387)), (beqb_t (igt_eq h3387)), (beqb_t (igt_eq h3387)), (beqb_t (igt_eq h3387)), (beqb_ff (bnot_t h3386)), (igt_eq h3387), (bnot_t h3386), rfl, rfl, trivial⟩
        have h0 := ih _ _ hF
        have hn := fun ex ts' => loop_nextC (h := hn81) (l := 0) (c := c81_0) (ts := F81_l0_0_S a3330 r3338 v3364) (ts1 := (F81_l0_0_S a3330 r3338 (wadd .i64 v3364 1))) (ex := ex) (ts' := ts') (pq3394 (pq3395 pz)) (by kernel_rfl)
        cases r with
        | inl w => exact hn _ _ h0
        | inr w => exact hn _ _ h0
      have hr := Option.some.inj hF
      subst hr
      have pz : HoldAll E H hn81 [.test (beqb (bnot w3384) false) false, .test (beqb (bnot w3384) false) false, .test (beqb (bnot w3384) false) false, .test (beqb (bnot w3384) false) false, .test (bnot w3384) true, .test true true] := ⟨(beqb_ft (bnot_f h3386)), (beqb_ft (bnot_f h3386)), (beqb_ft (bnot_f h3386)), (beqb_ft (bnot_f h3386)), (bnot_f h3386), rfl, trivial⟩
      exact loop_endC (h := hn81) (l := 0) (c := c81_0) (ts := F81_l0_0_S a3330 r3338 v3364) (ts' := F81_l0_0_X0 a3330 r3338 ()) (ex := .ret) (pq3394 pz) (by kernel_rfl) trivial
    have hr := Option.some.inj hF
    subst hr
    have pz : HoldAll E H hn81 [.int (nlen (len a3330.In)) (nlen (len a3330.In)), .test (ilt v3364 (nlen (len a3330.In))) false] := ⟨rfl, h3365, trivial⟩
    exact loop_endC (h := hn81) (l := 0) (c := c81_0) (ts := F81_l0_0_S a3330 r3338 v3364) (ts' := F81_l0_0_X1 a3330 r3338 ()) (ex := (.exit 0)) pz (by kernel_rfl) trivial

def F81 (K : Nat) (a3328 : GGraph) (a3329 : GJob) (a3330 : GPart) : Option (Bool) :=
  (F59 K a3328 a3329).bind fun r3331 =>
  bif (ieq r3331 0) then
    (bif (ilt a3330.P 0) then
      (some false)
    else
    bif (ile a3329.Parts a3330.P) then
      (some false)
    else
    bif (ilt a3330.Step 0) then
      (some false)
    else
    bif (ilt 40 a3330.Step) then
      (some false)
    else
    (F139 K a3328 a3329 a3330.P).bind fun r3338 =>
    bif (ieq (nlen (len a3330.Vals)) (nlen (len r3338))) then
      (bif (ieq (nlen (len a3330.Rest)) (nlen (len r3338))) then
        ((F81_l0_0 K a3330 r3338 K 0).bind fun y3398 =>
        Sum.elim (fun w3399 =>
          some false)
          (fun w3400 =>
          some true) y3398)
      else
      some false)
    else
    some false)
  else
  some false
theorem F81_ok (K : Nat) (a3328 : GGraph) (a3329 : GJob) (a3330 : GPart) (r : Bool) (hF : F81 K a3328 a3329 a3330 = some r) : Evt E H 81 [.agg (eGGraph a3328), .agg (eGJob a3329), .agg (eGPart a3330)] (F81_res r) := by
  rw [F81] at hF
  refine bind_some hF (fun r3331 h3332 hF => ?_)
  refine cond_some hF (fun h3333 hF => ?_) (fun h3333 hF => ?_)
  ·
    have pq3401 : ∀ {l : List Cond}, HoldAll E H hn81 l → HoldAll E H hn81 (.call 59 [.agg (eGGraph a3328), .agg (eGJob a3329)] (F59_res r3331) :: .test (leadsAny (Res.mk [(.one (.im (.lit (.int .i64 r3331))))] [])) false :: .test (beqb (ine r3331 0) false) true :: .test (beqb (ine r3331 0) false) true :: .test (beqb (ine r3331 0) false) true :: .test (ine r3331 0) false :: l) := fun z => ⟨(F59_ok K a3328 a3329 _ h3332), (leads_ok (by simp only [leadsAny, List.any_cons, List.any_nil, RV.leads, RC.leads, leadsT, hasSl_lit, Bool.or_false, flat_ns (eInt_ns _), flat_ns eBool_ns, flat_ns eStr_ns, flat_ns eGJob_ns, flat_ns eGEdge_ns, flat_ns eGAsked_ns, flat_ns eGMsg_ns, flat_ns eGrule_ns, flat_ns eGA199_ns, flat_ns eGA202_ns])), (beqb_ff (ine_t h3333)), (beqb_ff (ine_t h3333)), (beqb_ff (ine_t h3333)), (ine_t h3333), z⟩
    refine cond_some hF (fun h3334 hF => ?_) (fun h3334 hF => ?_)
    ·
      have hr := Option.some.inj hF
      subst hr
      have pz : HoldAll E H hn81 [.test (beqb (ilt a3330.P 0) false) false, .test (beqb (ilt a3330.P 0) false) false, .test (beqb (ilt a3330.P 0) false) false, .test (beqb (ilt a3330.P 0) false) false, .test (beqb (ilt a3330.P 0) false) false, .test (ilt a3330.P 0) true, .test (beqb true false) false, .test (beqb true false) false, .test (beqb true false) false, .test true true, .test (beqb true false) false, .test (beqb true false) false, .test (beqb true false) false, .test true true, .test true true] := ⟨(beqb_ft h3334), (beqb_ft h3334), (beqb_ft h3334), (beqb_ft h3334), (beqb_ft h3334), h3334, (beqb_ft rfl), (beqb_ft rfl), (beqb_ft rfl), rfl, (beqb_ft rfl), (beqb_ft rfl), (beqb_ft rfl), rfl, rfl, trivial⟩
      exact fn_playC hn81 (f := 81) (ads := [.agg (eGGraph a3328), .agg (eGJob a3329), .agg (eGPart a3330)]) (r := F81_res false) (pq3401 pz) (by kernel_rfl) (by kernel_rfl)
    have pq3402 : ∀ {l : List Cond}, HoldAll E H hn81 l → HoldAll E H hn81 (.test (beqb (ilt a3330.P 0) false) true :: .test (beqb (ilt a3330.P 0) false) true :: .test (beqb (ilt a3330.P 0) false) true :: .test (beqb (ilt a3330.P 0) false) true :: .test (beqb (ilt a3330.P 0) false) true :: .test (ilt a3330.P 0) false :: l) := fun z => ⟨(beqb_ff h3334), (beqb_ff h3334), (beqb_ff h3334), (beqb_ff h3334), (beqb_ff h3334), h3334, z⟩
    refine cond_some hF (fun h3335 hF => ?_) (fun h3335 hF => ?_)
    ·
      have hr := Option.some.inj hF
      subst hr
      have pz : HoldAll E H hn81 [.test (beqb (ige a3330.P a3329.Parts) false) false, .test (beqb (ige a3330.P a3329.Parts) false) false, .test (beqb (ige a3330.P a3329.Parts) false) false, .test (ige a3330.P a3329.Parts) true, .test (beqb true false) false, .test (beqb true false) false, .test (beqb true false) false, .test true true, .test true true] := ⟨(beqb_ft (ige_eq h3335)), (beqb_ft (ige_eq h3335)), (beqb_ft (ige_eq h3335)), (ige_eq h3335), (beqb_ft rfl), (beqb_ft rfl), (beqb_ft rfl), rfl, rfl, trivial⟩
      exact fn_playC hn81 (f := 81) (ads := [.agg (eGGraph a3328), .agg (eGJob a3329), .agg (eGPart a3330)]) (r := F81_res false) (pq3401 (pq3402 pz)) (by kernel_rfl) (by kernel_rfl)
    have pq3403 : ∀ {l : List Cond}, HoldAll E H hn81 l → HoldAll E H hn81 (.test (beqb (ige a3330.P a3329.Parts) false) true :: .test (beqb (ige a3330.P a3329.Parts) false) true :: .test (beqb (ige a3330.P a3329.Parts) false) true :: .test (ige a3330.P a3329.Parts) false :: l) := fun z => ⟨(beqb_ff (ige_eq h3335)), (beqb_ff (ige_eq h3335)), (beqb_ff (ige_eq h3335)), (ige_eq h3335), z⟩
    refine cond_some hF (fun h3336 hF => ?_) (fun h3336 hF => ?_)
    ·
      have hr := Option.some.inj hF
      subst hr
      have pz : HoldAll E H hn81 [.test (beqb (ilt a3330.Step 0) false) false, .test (beqb (ilt a3330.Step 0) false) false, .test (beqb (ilt a3330.Step 0) false) false, .test (ilt a3330.Step 0) true, .test true true] := ⟨(beqb_ft h3336), (beqb_ft h3336), (beqb_ft h3336), h3336, rfl, trivial⟩
      exact fn_playC hn81 (f := 81) (ads := [.agg (eGGraph a3328), .agg (eGJob a3329), .agg (eGPart a3330)]) (r := F81_res false) (pq3401 (pq3402 (pq3403 pz))) (by kernel_rfl) (by kernel_rfl)
    have pq3404 : ∀ {l : List Cond}, HoldAll E H hn81 l → HoldAll E H hn81 (.test (beqb (ilt a3330.Step 0) false) true :: .test (beqb (ilt a3330.Step 0) false) true :: .test (beqb (ilt a3330.Step 0) false) true :: .test (ilt a3330.Step 0) false :: l) := fun z => ⟨(beqb_ff h3336), (beqb_ff h3336), (beqb_ff h3336), h3336, z⟩
    refine cond_some hF (fun h3337 hF => ?_) (fun h3337 hF => ?_)
    ·
      have hr := Option.some.inj hF
      subst hr
      have pz : HoldAll E H hn81 [.test (igt a3330.Step 40) true] := ⟨(igt_eq h3337), trivial⟩
      exact fn_playC hn81 (f := 81) (ads := [.agg (eGGraph a3328), .agg (eGJob a3329), .agg (eGPart a3330)]) (r := F81_res false) (pq3401 (pq3402 (pq3403 (pq3404 pz)))) (by kernel_rfl) (by kernel_rfl)
    refine bind_some hF (fun r3338 h3339 hF => ?_)
    have pq3405 : ∀ {l : List Cond}, HoldAll E H hn81 l → HoldAll E H hn81 (.test (igt a3330.Step 40) false :: .call 139 [.agg (eGGraph a3328), .agg (eGJob a3329), .one (.lit (.int .i64 a3330.P))] (F139_res r3338) :: .test (leadsAny (Res.mk [(.one (.own 3 (.sl (len r3338) (flat (eInt .i64) r3338))))] [])) false :: .int (nlen (len a3330.Vals)) (nlen (len a3330.Vals)) :: .int (nlen (len r3338)) (nlen (len r3338)) :: l) := fun z => ⟨(igt_eq h3337), (F139_ok K a3328 a3329 a3330.P _ h3339), (leads_ok (by simp only [leadsAny, List.any_cons, List.any_nil, RV.leads, RC.leads, leadsT, hasSl_lit, Bool.or_false, flat_ns (eInt_ns _), flat_ns eBool_ns, flat_ns eStr_ns, flat_ns eGJob_ns, flat_ns eGEdge_ns, flat_ns eGAsked_ns, flat_ns eGMsg_ns, flat_ns eGrule_ns, flat_ns eGA199_ns, flat_ns eGA202_ns])), rfl, rfl, z⟩
    refine cond_some hF (fun h3340 hF => ?_) (fun h3340 hF => ?_)
    ·
      have pq3406 : ∀ {l : List Cond}, HoldAll E H hn81 l → HoldAll E H hn81 (.test (beqb (ine (nlen (len a3330.Vals)) (nlen (len r3338))) false) true :: .test (beqb (ine (nlen (len a3330.Vals)) (nlen (len r3338))) false) true :: .test (beqb (ine (nlen (len a3330.Vals)) (nlen (len r3338))) false) true :: .int (nlen (len a3330.Rest)) (nlen (len a3330.Rest)) :: .test (beqb (ine (nlen (len a3330.Vals)) (nlen (len r3338))) false) true :: .test (beqb (ine (nlen (len a3330.Vals)) (nlen (len r3338))) false) true :: .int (nlen (len r3338)) (nlen (len r3338)) :: .test (beqb (ine (nlen (len a3330.Vals)) (nlen (len r3338))) false) true :: .test (ine (nlen (len a3330.Vals)) (nlen (len r3338))) false :: l) := fun z => ⟨(beqb_ff (ine_t h3340)), (beqb_ff (ine_t h3340)), (beqb_ff (ine_t h3340)), rfl, (beqb_ff (ine_t h3340)), (beqb_ff (ine_t h3340)), rfl, (beqb_ff (ine_t h3340)), (ine_t h3340), z⟩
      refine cond_some hF (fun h3341 hF => ?_) (fun h3341 hF => ?_)
      ·
        refine bind_some hF (fun y3398 h3397 hF => ?_)
        refine sum_some hF (fun w3399 hx hF => ?_) (fun w3400 hx hF => ?_)
        ·
          subst hx
          have hr := Option.some.inj hF
          subst hr
          have pz : HoldAll E H hn81 [.test (ine (nlen (len a3330.Rest)) (nlen (len r3338))) false, .loop 0 c81_0 (F81_l0_0_S a3330 r3338 0) .ret (F81_l0_0_X0 a3330 r3338 w3399)] := ⟨(ine_t h3341), (F81_l0_0_ok K a3330 r3338 K 0 _ h3397), trivial⟩
          exact fn_playC hn81 (f := 81) (ads := [.agg (eGGraph a3328), .agg (eGJob a3329), .agg (eGPart a3330)]) (r := F81_res false) (pq3401 (pq3402 (pq3403 (pq3404 (pq3405 (pq3406 pz)))))) (by kernel_rfl) (by kernel_rfl)
        subst hx
        have hr := Option.some.inj hF
        subst hr
        have pz : HoldAll E H hn81 [.test (ine (nlen (len a3330.Rest)) (nlen (len r3338))) false, .loop 0 c81_0 (F81_l0_0_S a3330 r3338 0) (.exit 0) (F81_l0_0_X1 a3330 r3338 w3400)] := ⟨(ine_t h3341), (F81_l0_0_ok K a3330 r3338 K 0 _ h3397), trivial⟩
        exact fn_playC hn81 (f := 81) (ads := [.agg (eGGraph a3328), .agg (eGJob a3329), .agg (eGPart a3330)]) (r := F81_res true) (pq3401 (pq3402 (pq3403 (pq3404 (pq3405 (pq3406 pz)))))) (by kernel_rfl) (by kernel_rfl)
      have hr := Option.some.inj hF
      subst hr
      have pz : HoldAll E H hn81 [.test (ine (nlen (len a3330.Rest)) (nlen (len r3338))) true] := ⟨(ine_f h3341), trivial⟩
      exact fn_playC hn81 (f := 81) (ads := [.agg (eGGraph a3328), .agg (eGJob a3329), .agg (eGPart a3330)]) (r := F81_res false) (pq3401 (pq3402 (pq3403 (pq3404 (pq3405 (pq3406 pz)))))) (by kernel_rfl) (by kernel_rfl)
    have hr := Option.some.inj hF
    subst hr
    have pz : HoldAll E H hn81 [.test (beqb (ine (nlen (len a3330.Vals)) (nlen (len r3338))) false) false, .test (beqb (ine (nlen (len a3330.Vals)) (nlen (len r3338))) false) false, .test (beqb (ine (nlen (len a3330.Vals)) (nlen (len r3338))) false) false, .test (beqb (ine (nlen (len a3330.Vals)) (nlen (len r3338))) false) false, .test (beqb (ine (nlen (len a3330.Vals)) (nlen (len r3338))) false) false, .test (beqb (ine (nlen (len a3330.Vals)) (nlen (len r3338))) false) false, .test (ine (nlen (len a3330.Vals)) (nlen (len r3338))) true, .test true true] := ⟨(beqb_ft (ine_f h3340)), (beqb_ft (ine_f h3340)), (beqb_ft (ine_f h3340)), (beqb_ft (ine_f h3340)), (beqb_ft (ine_f h3340)), (beqb_ft (ine_f h3340)), (ine_f h3340), rfl, trivial⟩
    exact fn_playC hn81 (f := 81) (ads := [.agg (eGGraph a3328), .agg (eGJob a3329), .agg (eGPart a3330)]) (r := F81_res false) (pq3401 (pq3402 (pq3403 (pq3404 (pq3405 pz))))) (by kernel_rfl) (by kernel_rfl)
  have hr := Option.some.inj hF
  subst hr
  have pz : HoldAll E H hn81 [.call 59 [.agg (eGGraph a3328), .agg (eGJob a3329)] (F59_res r3331), .test (leadsAny (Res.mk [(.one (.im (.lit (.int .i64 r3331))))] [])) false, .test (beqb (ine r3331 0) false) false, .test (beqb (ine r3331 0) false) false, .test (beqb (ine r3331 0) false) false, .test (ine r3331 0) true, .test (beqb true false) false, .test (beqb true false) false, .test (beqb true false) false, .test (beqb true false) false, .test (beqb true false) false, .test true true, .test (beqb true false) false, .test (beqb true false) false, .test (beqb true false) false, .test true true, .test (beqb true false) false, .test (beqb true false) false, .test (beqb true false) false, .test true true, .test true true] := ⟨(F59_ok K a3328 a3329 _ h3332), (leads_ok (by simp only [leadsAny, List.any_cons, List.any_nil, RV.leads, RC.leads, leadsT, hasSl_lit, Bool.or_false, flat_ns (eInt_ns _), flat_ns eBool_ns, flat_ns eStr_ns, flat_ns eGJob_ns, flat_ns eGEdge_ns, flat_ns eGAsked_ns, flat_ns eGMsg_ns, flat_ns eGrule_ns, flat_ns eGA199_ns, flat_ns eGA202_ns])), (beqb_ft (ine_f h3333)), (beqb_ft (ine_f h3333)), (beqb_ft (ine_f h3333)), (ine_f h3333), (beqb_ft rfl), (beqb_ft rfl), (beqb_ft rfl), (beqb_ft rfl), (beqb_ft rfl), rfl, (beqb_ft rfl), (beqb_ft rfl), (beqb_ft rfl), rfl, (beqb_ft rfl), (beqb_ft rfl), (beqb_ft rfl), rfl, rfl, trivial⟩
  exact fn_playC hn81 (f := 81) (ads := [.agg (eGGraph a3328), .agg (eGJob a3329), .agg (eGPart a3330)]) (r := F81_res false) pz (by kernel_rfl) (by kernel_rfl)

/-! ### haywain/haywainlaw07.wide -/
noncomputable def hn82 : Hint := { H 82 with nt := 19, prot := 0 }
def F82_res (r3424 : Bool) : Res := ⟨[(.one (.im (.lit (.bool r3424))))], []⟩
def F82 (K : Nat) (a3420 : GState) : Option (Bool) :=
  bif (ilt 100 (nlen (len a3420.Vals))) then
    (some true)
  else
  bif (ilt 100 (nlen (len a3420.Rest))) then
    (some true)
  else
  some (igt (nlen (len a3420.In)) 300)
theorem F82_ok (K : Nat) (a3420 : GState) (r : Bool) (hF : F82 K a3420 = some r) : Evt E H 82 [.agg (eGState a3420)] (F82_res r) := by
  rw [F82] at hF
  refine cond_some hF (fun h3421 hF => ?_) (fun h3421 hF => ?_)
  ·
    have hr := Option.some.inj hF
    subst hr
    have pz : HoldAll E H hn82 [.int (nlen (len a3420.Vals)) (nlen (len a3420.Vals)), .test (beqb (igt (nlen (len a3420.Vals)) 100) false) false, .test (beqb (igt (nlen (len a3420.Vals)) 100) false) false, .test (beqb (igt (nlen (len a3420.Vals)) 100) false) false, .test (beqb (igt (nlen (len a3420.Vals)) 100) false) false, .test (igt (nlen (len a3420.Vals)) 100) true, .test (beqb true false) false, .test (beqb true false) false, .test (beqb true false) false, .test (beqb true false) false, .test true true] := ⟨rfl, (beqb_ft (igt_eq h3421)), (beqb_ft (igt_eq h3421)), (beqb_ft (igt_eq h3421)), (beqb_ft (igt_eq h3421)), (igt_eq h3421), (beqb_ft rfl), (beqb_ft rfl), (beqb_ft rfl), (beqb_ft rfl), rfl, trivial⟩
    exact fn_playC hn82 (f := 82) (ads := [.agg (eGState a3420)]) (r := F82_res true) pz (by kernel_rfl) (by kernel_rfl)
  have pq3423 : ∀ {l : List Cond}, HoldAll E H hn82 l → HoldAll E H hn82 (.int (nlen (len a3420.Vals)) (nlen (len a3420.Vals)) :: .test (beqb (igt (nlen (len a3420.Vals)) 100) false) true :: .test (beqb (igt (nlen (len a3420.Vals)) 100) false) true :: .test (beqb (igt (nlen (len a3420.Vals)) 100) false) true :: .int (nlen (len a3420.Rest)) (nlen (len a3420.Rest)) :: .test (beqb (igt (nlen (len a3420.Vals)) 100) false) true :: .test (igt (nlen (len a3420.Vals)) 100) false :: l) := fun z => ⟨rfl, (beqb_ff (igt_eq h3421)), (beqb_ff (igt_eq h3421)), (beqb_ff (igt_eq h3421)), rfl, (beqb_ff (igt_eq h3421)), (igt_eq h3421), z⟩
  refine cond_some hF (fun h3422 hF => ?_) (fun h3422 hF => ?_)
  ·
    have hr := Option.some.inj hF
    subst hr
    have pz : HoldAll E H hn82 [.test (beqb (igt (nlen (len a3420.Rest)) 100) false) false, .test (beqb (igt (nlen (len a3420.Rest)) 100) false) false, .test (beqb (igt (nlen (len a3420.Rest)) 100) false) false, .test (beqb (igt (nlen (len a3420.Rest)) 100) false) false, .test (igt (nlen (len a3420.Rest)) 100) true] := ⟨(beqb_ft (igt_eq h3422)), (beqb_ft (igt_eq h3422)), (beqb_ft (igt_eq h3422)), (beqb_ft (igt_eq h3422)), (igt_eq h3422), trivial⟩
    exact fn_playC hn82 (f := 82) (ads := [.agg (eGState a3420)]) (r := F82_res true) (pq3423 pz) (by kernel_rfl) (by kernel_rfl)
  have hr := Option.some.inj hF
  subst hr
  have pz : HoldAll E H hn82 [.test (beqb (igt (nlen (len a3420.Rest)) 100) false) true, .test (beqb (igt (nlen (len a3420.Rest)) 100) false) true, .test (beqb (igt (nlen (len a3420.Rest)) 100) false) true, .int (nlen (len a3420.In)) (nlen (len a3420.In)), .test (beqb (igt (nlen (len a3420.Rest)) 100) false) true, .test (igt (nlen (len a3420.Rest)) 100) false] := ⟨(beqb_ff (igt_eq h3422)), (beqb_ff (igt_eq h3422)), (beqb_ff (igt_eq h3422)), rfl, (beqb_ff (igt_eq h3422)), (igt_eq h3422), trivial⟩
  exact fn_playC hn82 (f := 82) (ads := [.agg (eGState a3420)]) (r := F82_res (igt (nlen (len a3420.In)) 300)) (pq3423 pz) (by kernel_rfl) (by kernel_rfl)

/-! ### haywain/part.Split -/
noncomputable def hn83 : Hint := { H 83 with nt := 91, prot := 0 }
noncomputable def c83_0 : Code := loopOf E 83 0
noncomputable def c83_1 : Code := loopOf E 83 1
noncomputable def c83_2 : Code := loopOf E 83 2
def F83_res (r3591 : List GPart × Int) : Res := ⟨[(.one (.own 42 (.sl (len r3591.1) (flat eGPart r3591.1)))), (.one (.im (.lit (.int .i64 r3591.2))))], []⟩
def F83_l1_1 (K : Nat) (a3428 : GGraph) (a3429 : GJob) (a3430 : GState) (v3528 : List GPart) (v3529 : Int) : Nat → List Int → List Bool → Int → Option (List Int × List Bool)
  | 0, _, _, _ => none
  | k + 1, v3540, v3541, v3542 =>
    bif (ilt v3542 a3428.N) then
      (bif (inr v3542 (len a3430.Vals)) then
      (elAt a3430.Vals v3542).bind fun x3545 =>
      bif (apok (len v3540) 1 8) then
      bif (inr v3542 (len a3430.Rest)) then
      (elAt a3430.Rest v3542).bind fun x3549 =>
      bif (apok (len v3541) 1 1) then
      F83_l1_1 K a3428 a3429 a3430 v3528 v3529 k (appL v3540 [x3545]) (appL v3541 [x3549]) (wadd .i64 v3542 a3429.Parts)
      else none
      else none
      else none
      else none)
    else
    some (v3540, v3541)
def F83_l1_1_S (a3428 : GGraph) (a3429 : GJob) (a3430 : GState) (v3528 : List GPart) (v3529 : Int) (v3540 : List Int) (v3541 : List Bool) (v3542 : Int) : TS := .on [192, 193, 194, 256, 257, 258, 259, 260, 320, 321, 322, 323, 324, 576, 577, 640, 641, 704, 705, 706, 707, 708, 709, 768, 769, 1728, 1729, 1792, 1793] [(192, ⟨(.box 62 2), 0, nob⟩), (193, ⟨.im, 0, (.lit (.int .i64 a3428.N))⟩), (194, ⟨.im, 0, (.sl (len a3428.Edges) (flat eGEdge a3428.Edges))⟩), (256, ⟨(.box 64 4), 0, nob⟩), (257, ⟨.im, 0, (.lit (.int .i64 a3429.Prog))⟩), (258, ⟨.im, 0, (.lit (.int .i64 a3429.Source))⟩), (259, ⟨.im, 0, (.lit (.int .i64 a3429.Limit))⟩), (260, ⟨.im, 0, (.lit (.int .i64 a3429.Parts))⟩), (320, ⟨(.box 74 4), 0, nob⟩), (321, ⟨.im, 0, (.lit (.int .i64 a3430.Step))⟩), (322, ⟨.im, 0, (.sl (len a3430.Vals) (flat (eInt .i64) a3430.Vals))⟩), (323, ⟨.im, 0, (.sl (len a3430.Rest) (flat eBool a3430.Rest))⟩), (324, ⟨.im, 0, (.sl (len a3430.In) (flat eGMsg a3430.In))⟩), (576, ⟨.one, 0, nob⟩), (577, ⟨(.own 42), 0, (.sl (len v3528) (flat eGPart v3528))⟩), (640, ⟨.one, 0, nob⟩), (641, ⟨.im, 0, (.lit (.int .i64 v3529))⟩), (704, ⟨(.box 42 5), 0, nob⟩), (705, ⟨.im, 0, (.lit (.int .i64 v3529))⟩), (706, ⟨.im, 0, (.lit (.int .i64 a3430.Step))⟩), (707, ⟨(.own 2), 0, (.sl (len v3540) (flat (eInt .i64) v3540))⟩), (708, ⟨(.own 4), 0, (.sl (len v3541) (flat eBool v3541))⟩), (709, ⟨(.own 130), 0, (.sl 0 [])⟩), (768, ⟨.one, 0, nob⟩), (769, ⟨.im, 0, (.lit (.int .i64 v3542))⟩), (1728, ⟨.one, 0, nob⟩), (1729, ⟨.im, 0, (.lit (.int .i64 a3429.Parts))⟩), (1792, ⟨.one, 0, nob⟩), (1793, ⟨.im, 0, (.lit (.int .i64 v3529))⟩)]
def F83_l1_1_X0 (a3428 : GGraph) (a3429 : GJob) (a3430 : GState) (v3528 : List GPart) (v3529 : Int) (w3552 : List Int × List Bool) : TS := .on [192, 193, 194, 256, 257, 258, 259, 260, 320, 321, 322, 323, 324, 576, 577, 640, 641, 704, 705, 706, 707, 708, 709, 1728, 1729, 1792, 1793] [(192, ⟨(.box 62 2), 0, nob⟩), (193, ⟨.im, 0, (.lit (.int .i64 a3428.N))⟩), (194, ⟨.im, 0, (.sl (len a3428.Edges) (flat eGEdge a3428.Edges))⟩), (256, ⟨(.box 64 4), 0, nob⟩), (257, ⟨.im, 0, (.lit (.int .i64 a3429.Prog))⟩), (258, ⟨.im, 0, (.lit (.int .i64 a3429.Source))⟩), (259, ⟨.im, 0, (.lit (.int .i64 a3429.Limit))⟩), (260, ⟨.im, 0, (.lit (.int .i64 a3429.Parts))⟩), (320, ⟨(.box 74 4), 0, nob⟩), (321, ⟨.im, 0, (.lit (.int .i64 a3430.Step))⟩), (322, ⟨.im, 0, (.sl (len a3430.Vals) (flat (eInt .i64) a3430.Vals))⟩), (323, ⟨.im, 0, (.sl (len a3430.Rest) (flat eBool a3430.Rest))⟩), (324, ⟨.im, 0, (.sl (len a3430.In) (flat eGMsg a3430.In))⟩), (576, ⟨.one, 0, nob⟩), (577, ⟨(.own 42), 0, (.sl (len v3528) (flat eGPart v3528))⟩), (640, ⟨.one, 0, nob⟩), (641, ⟨.im, 0, (.lit (.int .i64 v3529))⟩), (704, ⟨(.box 42 5), 0, nob⟩), (705, ⟨.im, 0, (.lit (.int .i64 v3529))⟩), (706, ⟨.im, 0, (.lit (.int .i64 a3430.Step))⟩), (707, ⟨(.own 2), 0, (.sl (len w3552.1) (flat (eInt .i64) w3552.1))⟩), (708, ⟨(.own 4), 0, (.sl (len w3552.2) (flat eBool w3552.2))⟩), (709, ⟨(.own 130), 0, (.sl 0 [])⟩), (1728, ⟨.one, 0, nob⟩), (1729, ⟨.im, 0, (.lit (.int .i64 a3429.Parts))⟩), (1792, ⟨.one, 0, nob⟩), (1793, ⟨.im, 0, (.lit (.int .i64 v3529))⟩)]
theorem F83_l1_1_ok (K : Nat) (a3428 : GGraph) (a3429 : GJob) (a3430 : GState) (v3528 : List GPart) (v3529 : Int) : ∀ (k : Nat) (v3540 : List Int) (v3541 : List Bool) (v3542 : Int) (r : List Int × List Bool), F83_l1_1 K a3428 a3429 a3430 v3528 v3529 k v3540 v3541 v3542 = some r → LoopEv E H hn83 2 c83_1 (F83_l1_1_S a3428 a3429 a3430 v3528 v3529 v3540 v3541 v3542) (.exit 2) (F83_l1_1_X0 a3428 a3429 a3430 v3528 v3529 r) := by
  intro k
  induction k with
  | zero => intro v3540 v3541 v3542 r hF; cases hF
  | succ k ih =>
    intro v3540 v3541 v3542 r hF
    rw [F83_l1_1] at hF
    refine cond_some hF (fun h3543 hF => ?_) (fun h3543 hF => ?_)
    ·
      refine cond_some hF (fun h3544 hF => ?_) (fun _ hF => nomatch hF)
      refine bind_some hF (fun x3545 h3546 hF => ?_)
      refine cond_some hF (fun h3547 hF => ?_) (fun _ hF => nomatch hF)
      refine cond_some hF (fun h3548 hF => ?_) (fun _ hF => nomatch hF)
      refine bind_some hF (fun x3549 h3550 hF => ?_)
      refine cond_some hF (fun h3551 hF => ?_) (fun _ hF => nomatch hF)
      have pz : HoldAll E H hn83 [.test (ilt v3542 a3428.N) true, .test (inr v3542 (len a3430.Vals)) true, .sub (flat (eInt .i64) a3430.Vals) (nidx v3542 1) 1 [(.lit (.int .i64 x3545))], .test (leqm [(.lit (.int .i64 x3545))] 1 1) true, .test (apok (len v3540) 1 8) true, .sl (nadd (len v3540) 1) (lapp (flat (eInt .i64) v3540) [(.lit (.int .i64 x3545))]) (len (α := Int) (appL v3540 [x3545])) (flat (eInt .i64) (appL v3540 [x3545])), .test (inr v3542 (len a3430.Rest)) true, .sub (flat eBool a3430.Rest) (nidx v3542 1) 1 [(.lit (.bool x3549))], .test (leqm [(.lit (.bool x3549))] 1 1) true, .test (apok (len v3541) 1 1) true, .sl (nadd (len v3541) 1) (lapp (flat eBool v3541) [(.lit (.bool x3549))]) (len (α := Bool) (appL v3541 [x3549])) (flat eBool (appL v3541 [x3549])), .int (wadd .i64 v3542 a3429.Parts) (wadd .i64 v3542 a3429.Parts)] := ⟨h3543, h3544, ⟨rfl, sub_flat0 (eInt_len _) h3546 1 (by decide)⟩, rfl, h3547, (app_ok (enc := (eInt .i64)) (v3540 : List Int) [x3545]), h3548, ⟨rfl, sub_flat0 eBool_len h3550 1 (by decide)⟩, rfl, h3551, (app_ok (enc := eBool) (v3541 : List Bool) [x3549]), rfl, trivial⟩
      have h0 := ih _ _ _ _ hF
      have hn := fun ex ts' => loop_nextC (h := hn83) (l := 2) (c := c83_1) (ts := F83_l1_1_S a3428 a3429 a3430 v3528 v3529 v3540 v3541 v3542) (ts1 := (F83_l1_1_S a3428 a3429 a3430 v3528 v3529 (appL v3540 [x3545]) (appL v3541 [x3549]) (wadd .i64 v3542 a3429.Parts))) (ex := ex) (ts' := ts') pz (by kernel_rfl)
      exact hn _ _ h0
    have hr := Option.some.inj hF
    subst hr
    have pz : HoldAll E H hn83 [.test (ilt v3542 a3428.N) false] := ⟨h3543, trivial⟩
    exact loop_endC (h := hn83) (l := 2) (c := c83_1) (ts := F83_l1_1_S a3428 a3429 a3430 v3528 v3529 v3540 v3541 v3542) (ts' := F83_l1_1_X0 a3428 a3429 a3430 v3528 v3529 (v3540, v3541)) (ex := (.exit 2)) pz (by kernel_rfl) trivial

def F83_l2_2 (K : Nat) (a3428 : GGraph) (a3429 : GJob) (a3430 : GState) (v3528 : List GPart) (v3529 : Int) (w3557 : List Int × List Bool) : Nat → List GMsg → Int → Option (List GMsg)
  | 0, _, _ => none
  | k + 1, v3567, v3568 =>
    bif (ilt v3568 (nlen (len a3430.In))) then
      (bif (inr v3568 (len a3430.In)) then
      (elAt a3430.In v3568).bind fun x3571 =>
      bif (izero a3429.Parts) then none else
      bif (ieq (wrem x3571.To a3429.Parts) v3529) then
        (bif (apok (len v3567) 1 16) then
        F83_l2_2 K a3428 a3429 a3430 v3528 v3529 w3557 k (appL v3567 [x3571]) (wadd .i64 v3568 1)
        else none)
      else
      F83_l2_2 K a3428 a3429 a3430 v3528 v3529 w3557 k v3567 (wadd .i64 v3568 1)
      else none)
    else
    some v3567
def F83_l2_2_S (a3428 : GGraph) (a3429 : GJob) (a3430 : GState) (v3528 : List GPart) (v3529 : Int) (w3557 : List Int × List Bool) (v3567 : List GMsg) (v3568 : Int) : TS := .on [192, 193, 194, 256, 257, 258, 259, 260, 320, 321, 322, 323, 324, 576, 577, 640, 641, 704, 705, 706, 707, 708, 709, 1728, 1729, 1792, 1793, 4096, 4160, 4161, 4224, 4225, 4288, 4289] [(192, ⟨(.box 62 2), 0, nob⟩), (193, ⟨.im, 0, (.lit (.int .i64 a3428.N))⟩), (194, ⟨.im, 0, (.sl (len a3428.Edges) (flat eGEdge a3428.Edges))⟩), (256, ⟨(.box 64 4), 0, nob⟩), (257, ⟨.im, 0, (.lit (.int .i64 a3429.Prog))⟩), (258, ⟨.im, 0, (.lit (.int .i64 a3429.Source))⟩), (259, ⟨.im, 0, (.lit (.int .i64 a3429.Limit))⟩), (260, ⟨.im, 0, (.lit (.int .i64 a3429.Parts))⟩), (320, ⟨(.box 74 4), 0, nob⟩), (321, ⟨.im, 0, (.lit (.int .i64 a3430.Step))⟩), (322, ⟨.im, 0, (.sl (len a3430.Vals) (flat (eInt .i64) a3430.Vals))⟩), (323, ⟨.im, 0, (.sl (len a3430.Rest) (flat eBool a3430.Rest))⟩), (324, ⟨.im, 0, (.sl (len a3430.In) (flat eGMsg a3430.In))⟩), (576, ⟨.one, 0, nob⟩), (577, ⟨(.own 42), 0, (.sl (len v3528) (flat eGPart v3528))⟩), (640, ⟨.one, 0, nob⟩), (641, ⟨.im, 0, (.lit (.int .i64 v3529))⟩), (704, ⟨(.box 42 5), 0, nob⟩), (705, ⟨.im, 0, (.lit (.int .i64 v3529))⟩), (706, ⟨.im, 0, (.lit (.int .i64 a3430.Step))⟩), (707, ⟨(.own 2), 0, (.sl (len w3557.1) (flat (eInt .i64) w3557.1))⟩), (708, ⟨(.own 4), 0, (.sl (len w3557.2) (flat eBool w3557.2))⟩), (709, ⟨(.own 130), 0, (.sl (len v3567) (flat eGMsg v3567))⟩), (1728, ⟨.one, 0, nob⟩), (1729, ⟨.im, 0, (.lit (.int .i64 a3429.Parts))⟩), (1792, ⟨.one, 0, nob⟩), (1793, ⟨.im, 0, (.lit (.int .i64 v3529))⟩), (4096, ⟨(.ad 5 0 3), 0, nob⟩), (4160, ⟨.one, 0, nob⟩), (4161, ⟨.im, 0, (.sl (len a3430.In) (flat eGMsg a3430.In))⟩), (4224, ⟨.one, 0, nob⟩), (4225, ⟨.im, 0, (.lit (.int .i64 (nlen (len a3430.In))))⟩), (4288, ⟨.one, 0, nob⟩), (4289, ⟨.im, 0, (.lit (.int .i64 v3568))⟩)]
def F83_l2_2_X0 (a3428 : GGraph) (a3429 : GJob) (a3430 : GState) (v3528 : List GPart) (v3529 : Int) (w3557 : List Int × List Bool) (w3576 : List GMsg) : TS := .on [192, 193, 194, 256, 257, 258, 259, 260, 320, 321, 322, 323, 324, 576, 577, 704, 705, 706, 707, 708, 709, 1728, 1729, 1792, 1793] [(192, ⟨(.box 62 2), 0, nob⟩), (193, ⟨.im, 0, (.lit (.int .i64 a3428.N))⟩), (194, ⟨.im, 0, (.sl (len a3428.Edges) (flat eGEdge a3428.Edges))⟩), (256, ⟨(.box 64 4), 0, nob⟩), (257, ⟨.im, 0, (.lit (.int .i64 a3429.Prog))⟩), (258, ⟨.im, 0, (.lit (.int .i64 a3429.Source))⟩), (259, ⟨.im, 0, (.lit (.int .i64 a3429.Limit))⟩), (260, ⟨.im, 0, (.lit (.int .i64 a3429.Parts))⟩), (320, ⟨(.box 74 4), 0, nob⟩), (321, ⟨.im, 0, (.lit (.int .i64 a3430.Step))⟩), (322, ⟨.im, 0, (.sl (len a3430.Vals) (flat (eInt .i64) a3430.Vals))⟩), (323, ⟨.im, 0, (.sl (len a3430.Rest) (flat eBool a3430.Rest))⟩), (324, ⟨.im, 0, (.sl (len a3430.In) (flat eGMsg a3430.In))⟩), (576, ⟨.one, 0, nob⟩), (577, ⟨(.own 42), 0, (.sl (len v3528) (flat eGPart v3528))⟩), (704, ⟨(.box 42 5), 0, nob⟩), (705, ⟨.im, 0, (.lit (.int .i64 v3529))⟩), (706, ⟨.im, 0, (.lit (.int .i64 a3430.Step))⟩), (707, ⟨(.own 2), 0, (.sl (len w3557.1) (flat (eInt .i64) w3557.1))⟩), (708, ⟨(.own 4), 0, (.sl (len w3557.2) (flat eBool w3557.2))⟩), (709, ⟨(.own 130), 0, (.sl (len w3576) (flat eGMsg w3576))⟩), (1728, ⟨.one, 0, nob⟩), (1729, ⟨.im, 0, (.lit (.int .i64 a3429.Parts))⟩), (1792, ⟨.one, 0, nob⟩), (1793, ⟨.im, 0, (.lit (.int .i64 v3529))⟩)]
theorem F83_l2_2_ok (K : Nat) (a3428 : GGraph) (a3429 : GJob) (a3430 : GState) (v3528 : List GPart) (v3529 : Int) (w3557 : List Int × List Bool) : ∀ (k : Nat) (v3567 : List GMsg) (v3568 : Int) (r : List GMsg), F83_l2_2 K a3428 a3429 a3430 v3528 v3529 w3557 k v3567 v3568 = some r → LoopEv E H hn83 4 c83_2 (F83_l2_2_S a3428 a3429 a3430 v3528 v3529 w3557 v3567 v3568) (.exit 4) (F83_l2_2_X0 a3428 a3429 a3430 v3528 v3529 w3557 r) := by
  intro k
  induction k with
  | zero => intro v3567 v3568 r hF; cases hF
  | succ k ih =>
    intro v3567 v3568 r hF
    rw [F83_l2_2] at hF
    refine cond_some hF (fun h3569 hF => ?_) (fun h3569 hF => ?_)
    ·
      refine cond_some hF (fun h3570 hF => ?_) (fun _ hF => nomatch hF)
      refine bind_some hF (fun x3571 h3572 hF => ?_)
      refine cond_some hF (fun _ hF => nomatch hF) (fun h3573 hF => ?_)
      have pq3578 : ∀ {l : List Cond}, HoldAll E H hn83 l → HoldAll E H hn83 (.test (ilt v3568 (nlen (len a3430.In))) true :: .test (inr v3568 (len a3430.In)) true :: .sub (flat eGMsg a3430.In) (nidx v3568 2) 2 [(.lit (.int .i64 x3571.To)), (.lit (.int .i64 x3571.V))] :: .test (izero a3429.Parts) false :: .int (wrem x3571.To a3429.Parts) (wrem x3571.To a3429.Parts) :: l) := fun z => ⟨h3569, h3570, ⟨rfl, sub_flat0 eGMsg_len h3572 2 (by decide)⟩, h3573, rfl, z⟩
      refine cond_some hF (fun h3574 hF => ?_) (fun h3574 hF => ?_)
      ·
        refine cond_some hF (fun h3575 hF => ?_) (fun _ hF => nomatch hF)
        have pz : HoldAll E H hn83 [.test (ieq (wrem x3571.To a3429.Parts) v3529) true, .test (leqm [(.lit (.int .i64 x3571.To)), (.lit (.int .i64 x3571.V))] 1 2) true, .test (apok (len v3567) 1 16) true, .sl (nadd (len v3567) 1) (lapp (flat eGMsg v3567) [(.lit (.int .i64 x3571.To)), (.lit (.int .i64 x3571.V))]) (len (α := GMsg) (appL v3567 [x3571])) (flat eGMsg (appL v3567 [x3571])), .int (wadd .i64 v3568 1) (wadd .i64 v3568 1)] := ⟨h3574, rfl, h3575, (app_ok (enc := eGMsg) (v3567 : List GMsg) [x3571]), rfl, trivial⟩
        have h0 := ih _ _ _ hF
        have hn := fun ex ts' => loop_nextC (h := hn83) (l := 4) (c := c83_2) (ts := F83_l2_2_S a3428 a3429 a3430 v3528 v3529 w3557 v3567 v3568) (ts1 := (F83_l2_2_S a3428 a3429 a3430 v3528 v3529 w3557 (appL v3567 [x3571]) (wadd .i64 v3568 1))) (ex := ex) (ts' := ts') (pq3578 pz) (by kernel_rfl)
        exact hn _ _ h0
      have pz : HoldAll E H hn83 [.test (ieq (wrem x3571.To a3429.Parts) v3529) false, .int (wadd .i64 v3568 1) (wadd .i64 v3568 1)] := ⟨h3574, rfl, trivial⟩
      have h0 := ih _ _ _ hF
      have hn := fun ex ts' => loop_nextC (h := hn83) (l := 4) (c := c83_2) (ts := F83_l2_2_S a3428 a3429 a3430 v3528 v3529 w3557 v3567 v3568) (ts1 := (F83_l2_2_S a3428 a3429 a3430 v3528 v3529 w3557 v3567 (wadd .i64 v3568 1))) (ex := ex) (ts' := ts') (pq3578 pz) (by kernel_rfl)
      exact hn _ _ h0
    have hr := Option.some.inj hF
    subst hr
    have pz : HoldAll E H hn83 [.test (ilt v3568 (nlen (len a3430.In))) false] := ⟨h3569, trivial⟩
    exact loop_endC (h := hn83) (l := 4) (c := c83_2) (ts := F83_l2_2_S a3428 a3429 a3430 v3528 v3529 w3557 v3567 v3568) (ts' := F83_l2_2_X0 a3428 a3429 a3430 v3528 v3529 w3557 v3567) (ex := (.exit 4)) pz (by kernel_rfl) trivial

def F83_l0_0 (K : Nat) (a3428 : GGraph) (a3429 : GJob) (a3430 : GState) : Nat → List GPart → Int → Option (List GPart)
  | 0, _, _ => none
  | k + 1, v3528, v3529 =>
    bif (ilt v3529 a3429.Parts) then
      ((F83_l1_1 K a3428 a3429 a3430 v3528 v3529 K [] [] v3529).bind fun w3557 =>
      (F83_l2_2 K a3428 a3429 a3430 v3528 v3529 w3557 K [] 0).bind fun w3581 =>
      bif (apok (len v3528) 1 88) then
      F83_l0_0 K a3428 a3429 a3430 k (appL v3528 [(GPart.mk v3529 a3430.Step w3557.1 w3557.2 w3581)]) (wadd .i64 v3529 1)
      else none)
    else
    some v3528
def F83_l0_0_S (a3428 : GGraph) (a3429 : GJob) (a3430 : GState) (v3528 : List GPart) (v3529 : Int) : TS := .on [192, 193, 194, 256, 257, 258, 259, 260, 320, 321, 322, 323, 324, 576, 577, 1728, 1729, 1792, 1793] [(192, ⟨(.box 62 2), 0, nob⟩), (193, ⟨.im, 0, (.lit (.int .i64 a3428.N))⟩), (194, ⟨.im, 0, (.sl (len a3428.Edges) (flat eGEdge a3428.Edges))⟩), (256, ⟨(.box 64 4), 0, nob⟩), (257, ⟨.im, 0, (.lit (.int .i64 a3429.Prog))⟩), (258, ⟨.im, 0, (.lit (.int .i64 a3429.Source))⟩), (259, ⟨.im, 0, (.lit (.int .i64 a3429.Limit))⟩), (260, ⟨.im, 0, (.lit (.int .i64 a3429.Parts))⟩), (320, ⟨(.box 74 4), 0, nob⟩), (321, ⟨.im, 0, (.lit (.int .i64 a3430.Step))⟩), (322, ⟨.im, 0, (.sl (len a3430.Vals) (flat (eInt .i64) a3430.Vals))⟩), (323, ⟨.im, 0, (.sl (len a3430.Rest) (flat eBool a3430.Rest))⟩), (324, ⟨.im, 0, (.sl (len a3430.In) (flat eGMsg a3430.In))⟩), (576, ⟨.one, 0, nob⟩), (577, ⟨(.own 42), 0, (.sl (len v3528) (flat eGPart v3528))⟩), (1728, ⟨.one, 0, nob⟩), (1729, ⟨.im, 0, (.lit (.int .i64 a3429.Parts))⟩), (1792, ⟨.one, 0, nob⟩), (1793, ⟨.im, 0, (.lit (.int .i64 v3529))⟩)]
def F83_l0_0_X0 (a3428 : GGraph) (a3429 : GJob) (a3430 : GState) (w3584 : List GPart) : TS := .on [576, 577] [(576, ⟨.one, 0, nob⟩), (577, ⟨(.own 42), 0, (.sl (len w3584) (flat eGPart w3584))⟩)]
theorem F83_l0_0_ok (K : Nat) (a3428 : GGraph) (a3429 : GJob) (a3430 : GState) : ∀ (k : Nat) (v3528 : List GPart) (v3529 : Int) (r : List GPart), F83_l0_0 K a3428 a3429 a3430 k v3528 v3529 = some r → LoopEv E H hn83 0 c83_0 (F83_l0_0_S a3428 a3429 a3430 v3528 v3529) (.exit 0) (F83_l0_0_X0 a3428 a3429 a3430 r) := by
  intro k
  induction k with
  | zero => intro v3528 v3529 r hF; cases hF
  | succ k ih =>
    intro v3528 v3529 r hF
    rw [F83_l0_0] at hF
    refine cond_some hF (fun h3530 hF => ?_) (fun h3530 hF => ?_)
    ·
      refine bind_some hF (fun w3557 h3555 hF => ?_)
      refine bind_some hF (fun w3581 h3579 hF => ?_)
      refine cond_some hF (fun h3583 hF => ?_) (fun _ hF => nomatch hF)
      have pz : HoldAll E H hn83 [.test (ilt v3529 a3429.Parts) true, .loop 2 c83_1 (F83_l1_1_S a3428 a3429 a3430 v3528 v3529 [] [] v3529) (.exit 2) (F83_l1_1_X0 a3428 a3429 a3430 v3528 v3529 w3557), .int (nlen (len a3430.In)) (nlen (len a3430.In)), .loop 4 c83_2 (F83_l2_2_S a3428 a3429 a3430 v3528 v3529 w3557 [] 0) (.exit 4) (F83_l2_2_X0 a3428 a3429 a3430 v3528 v3529 w3557 w3581), .test (leqm [(.lit (.int .i64 v3529)), (.lit (.int .i64 a3430.Step)), (.sl (len w3557.1) (flat (eInt .i64) w3557.1)), (.sl (len w3557.2) (flat eBool w3557.2)), (.sl (len w3581) (flat eGMsg w3581))] 1 5) true, .test (apok (len v3528) 1 88) true, .sl (nadd (len v3528) 1) (lapp (flat eGPart v3528) [(.lit (.int .i64 v3529)), (.lit (.int .i64 a3430.Step)), (.sl (len w3557.1) (flat (eInt .i64) w3557.1)), (.sl (len w3557.2) (flat eBool w3557.2)), (.sl (len w3581) (flat eGMsg w3581))]) (len (α := GPart) (appL v3528 [(GPart.mk v3529 a3430.Step w3557.1 w3557.2 w3581)])) (flat eGPart (appL v3528 [(GPart.mk v3529 a3430.Step w3557.1 w3557.2 w3581)])), .int (wadd .i64 v3529 1) (wadd .i64 v3529 1)] := ⟨h3530, (F83_l1_1_ok K a3428 a3429 a3430 v3528 v3529 K [] [] v3529 _ h3555), rfl, (F83_l2_2_ok K a3428 a3429 a3430 v3528 v3529 w3557 K [] 0 _ h3579), rfl, h3583, (app_ok (enc := eGPart) (v3528 : List GPart) [(GPart.mk v3529 a3430.Step w3557.1 w3557.2 w3581)]), rfl, trivial⟩
      have h0 := ih _ _ _ hF
      have hn := fun ex ts' => loop_nextC (h := hn83) (l := 0) (c := c83_0) (ts := F83_l0_0_S a3428 a3429 a3430 v3528 v3529) (ts1 := (F83_l0_0_S a3428 a3429 a3430 (appL v3528 [(GPart.mk v3529 a3430.Step w3557.1 w3557.2 w3581)]) (wadd .i64 v3529 1))) (ex := ex) (ts' := ts') pz (by kernel_rfl)
      exact hn _ _ h0
    have hr := Option.some.inj hF
    subst hr
    have pz : HoldAll E H hn83 [.test (ilt v3529 a3429.Parts) false] := ⟨h3530, trivial⟩
    exact loop_endC (h := hn83) (l := 0) (c := c83_0) (ts := F83_l0_0_S a3428 a3429 a3430 v3528 v3529) (ts' := F83_l0_0_X0 a3428 a3429 a3430 v3528) (ex := (.exit 0)) pz (by kernel_rfl) trivial

def F83 (K : Nat) (a3428 : GGraph) (a3429 : GJob) (a3430 : GState) : Option (List GPart × Int) :=
  (F94 K a3428 a3429).bind fun r3431 =>
  bif (ieq r3431 0) then
    ((F104 K a3428 a3429 a3430).bind fun r3471 =>
    bif r3471 then
      ((F83_l0_0 K a3428 a3429 a3430 K [] 0).bind fun w3588 =>
      some (w3588, 0))
    else
    some ([], 1))
  else
  some ([], r3431)
theorem F83_ok (K : Nat) (a3428 : GGraph) (a3429 : GJob) (a3430 : GState) (r : List GPart × Int) (hF : F83 K a3428 a3429 a3430 = some r) : Evt E H 83 [.agg (eGGraph a3428), .agg (eGJob a3429), .agg (eGState a3430)] (F83_res r) := by
  rw [F83] at hF
  refine bind_some hF (fun r3431 h3432 hF => ?_)
  refine cond_some hF (fun h3433 hF => ?_) (fun h3433 hF => ?_)
  ·
    refine bind_some hF (fun r3471 h3472 hF => ?_)
    have pq3590 : ∀ {l : List Cond}, HoldAll E H hn83 l → HoldAll E H hn83 (.call 94 [.agg (eGGraph a3428), .agg (eGJob a3429)] (F94_res r3431) :: .test (leadsAny (Res.mk [(.one (.im (.lit (.int .i64 r3431))))] [])) false :: .test (ine r3431 0) false :: .call 104 [.agg (eGGraph a3428), .agg (eGJob a3429), .agg (eGState a3430)] (F104_res r3471) :: .test (leadsAny (Res.mk [(.one (.im (.lit (.bool r3471))))] [])) false :: l) := fun z => ⟨(F94_ok K a3428 a3429 _ h3432), (leads_ok (by simp only [leadsAny, List.any_cons, List.any_nil, RV.leads, RC.leads, leadsT, hasSl_lit, Bool.or_false, flat_ns (eInt_ns _), flat_ns eBool_ns, flat_ns eStr_ns, flat_ns eGJob_ns, flat_ns eGEdge_ns, flat_ns eGAsked_ns, flat_ns eGMsg_ns, flat_ns eGrule_ns, flat_ns eGA199_ns, flat_ns eGA202_ns])), (ine_t h3433), (F104_ok K a3428 a3429 a3430 _ h3472), (leads_ok (by simp only [leadsAny, List.any_cons, List.any_nil, RV.leads, RC.leads, leadsT, hasSl_lit, Bool.or_false, flat_ns (eInt_ns _), flat_ns eBool_ns, flat_ns eStr_ns, flat_ns eGJob_ns, flat_ns eGEdge_ns, flat_ns eGAsked_ns, flat_ns eGMsg_ns, flat_ns eGrule_ns, flat_ns eGA199_ns, flat_ns eGA202_ns])), z⟩
    refine cond_some hF (fun h3473 hF => ?_) (fun h3473 hF => ?_)
    ·
      refine bind_some hF (fun w3588 h3586 hF => ?_)
      have hr := Option.some.inj hF
      subst hr
      have pz : HoldAll E H hn83 [.test (bnot r3471) false, .loop 0 c83_0 (F83_l0_0_S a3428 a3429 a3430 [] 0) (.exit 0) (F83_l0_0_X0 a3428 a3429 a3430 w3588)] := ⟨(bnot_t h3473), (F83_l0_0_ok K a3428 a3429 a3430 K [] 0 _ h3586), trivial⟩
      exact fn_playC hn83 (f := 83) (ads := [.agg (eGGraph a3428), .agg (eGJob a3429), .agg (eGState a3430)]) (r := F83_res (w3588, 0)) (pq3590 pz) (by kernel_rfl) (by kernel_rfl)
    have hr := Option.some.inj hF
    subst hr
    have pz : HoldAll E H hn83 [.test (bnot r3471) true] := ⟨(bnot_f h3473), trivial⟩
    exact fn_playC hn83 (f := 83) (ads := [.agg (eGGraph a3428), .agg (eGJob a3429), .agg (eGState a3430)]) (r := F83_res ([], 1)) (pq3590 pz) (by kernel_rfl) (by kernel_rfl)
  have hr := Option.some.inj hF
  subst hr
  have pz : HoldAll E H hn83 [.call 94 [.agg (eGGraph a3428), .agg (eGJob a3429)] (F94_res r3431), .test (leadsAny (Res.mk [(.one (.im (.lit (.int .i64 r3431))))] [])) false, .test (ine r3431 0) true] := ⟨(F94_ok K a3428 a3429 _ h3432), (leads_ok (by simp only [leadsAny, List.any_cons, List.any_nil, RV.leads, RC.leads, leadsT, hasSl_lit, Bool.or_false, flat_ns (eInt_ns _), flat_ns eBool_ns, flat_ns eStr_ns, flat_ns eGJob_ns, flat_ns eGEdge_ns, flat_ns eGAsked_ns, flat_ns eGMsg_ns, flat_ns eGrule_ns, flat_ns eGA199_ns, flat_ns eGA202_ns])), (ine_f h3433), trivial⟩
  exact fn_playC hn83 (f := 83) (ads := [.agg (eGGraph a3428), .agg (eGJob a3429), .agg (eGState a3430)]) (r := F83_res ([], r3431)) pz (by kernel_rfl) (by kernel_rfl)

/-! ### haywain/part.Join -/
noncomputable def hn85 : Hint := { H 85 with nt := 143, prot := 0 }
noncomputable def c85_0 : Code := loopOf E 85 0
noncomputable def c85_1 : Code := loopOf E 85 1
def F85_res (r3737 : GState × Int) : Res := ⟨[(.agg [(.im (.lit (.int .i64 r3737.1.Step))), (.own 2 (.sl (len r3737.1.Vals) (flat (eInt .i64) r3737.1.Vals))), (.own 4 (.sl (len r3737.1.Rest) (flat eBool r3737.1.Rest))), (.own 130 (.sl (len r3737.1.In) (flat eGMsg r3737.1.In)))]), (.one (.im (.lit (.int .i64 r3737.2))))], []⟩
def F85_l0_0 (K : Nat) (a3633 : GGraph) (a3634 : GJob) (a3635 : List GPart) : Nat → Int → Option ((Unit) ⊕ (Unit))
  | 0, _ => none
  | k + 1, v3649 =>
    bif (ilt v3649 (nlen (len a3635))) then
      (bif (inr v3649 (len a3635)) then
      (elAt a3635 v3649).bind fun x3652 =>
      bif (ieq x3652.P v3649) then
        (bif (inr 0 (len a3635)) then
        (elAt a3635 0).bind fun x3656 =>
        bif (ieq x3652.Step x3656.Step) then
          ((F80 K a3633 a3634 x3652).bind fun r3659 =>
          bif r3659 then
            (F85_l0_0 K a3633 a3634 a3635 k (wadd .i64 v3649 1))
          else
          some (.inl ()))
        else
        some (.inl ())
        else none)
      else
      some (.inl ())
      else none)
    else
    some (.inr ())
def F85_l0_0_S (a3633 : GGraph) (a3634 : GJob) (a3635 : List GPart) (v3649 : Int) : TS := .on [128, 129, 192, 193, 194, 256, 257, 258, 259, 260, 384, 385, 386, 387, 388, 1856, 1857, 1920, 1921, 1984, 1985] [(128, ⟨.one, 0, nob⟩), (129, ⟨.im, 0, (.sl (len a3635) (flat eGPart a3635))⟩), (192, ⟨(.box 62 2), 0, nob⟩), (193, ⟨.im, 0, (.lit (.int .i64 a3633.N))⟩), (194, ⟨.im, 0, (.sl (len a3633.Edges) (flat eGEdge a3633.Edges))⟩), (256, ⟨(.box 64 4), 0, nob⟩), (257, ⟨.im, 0, (.lit (.int .i64 a3634.Prog))⟩), (258, ⟨.im, 0, (.lit (.int .i64 a3634.Source))⟩), (259, ⟨.im, 0, (.lit (.int .i64 a3634.Limit))⟩), (260, ⟨.im, 0, (.lit (.int .i64 a3634.Parts))⟩), (384, ⟨(.box 74 4), 0, nob⟩), (385, ⟨.im, 0, (.lit (.int .i64 0))⟩), (386, ⟨(.own 2), 0, (.sl 0 [])⟩), (387, ⟨(.own 4), 0, (.sl 0 [])⟩), (388, ⟨(.own 130), 0, (.sl 0 [])⟩), (1856, ⟨.one, 0, nob⟩), (1857, ⟨.im, 0, (.sl (len a3635) (flat eGPart a3635))⟩), (1920, ⟨.one, 0, nob⟩), (1921, ⟨.im, 0, (.lit (.int .i64 (nlen (len a3635))))⟩), (1984, ⟨.one, 0, nob⟩), (1985, ⟨.im, 0, (.lit (.int .i64 v3649))⟩)]
def F85_l0_0_X0 (a3633 : GGraph) (a3634 : GJob) (a3635 : List GPart) (w3662 : Unit) : TS := .on [384, 385, 386, 387, 388, 448, 449] [(384, ⟨(.box 74 4), 0, nob⟩), (385, ⟨.im, 0, (.lit (.int .i64 0))⟩), (386, ⟨(.own 2), 0, (.sl 0 [])⟩), (387, ⟨(.own 4), 0, (.sl 0 [])⟩), (388, ⟨(.own 130), 0, (.sl 0 [])⟩), (448, ⟨.one, 0, nob⟩), (449, ⟨.im, 0, (.lit (.int .i64 1))⟩)]
def F85_l0_0_X1 (a3633 : GGraph) (a3634 : GJob) (a3635 : List GPart) (w3663 : Unit) : TS := .on [128, 129, 192, 193, 194, 256, 257, 258, 259, 260, 384, 385, 386, 387, 388] [(128, ⟨.one, 0, nob⟩), (129, ⟨.im, 0, (.sl (len a3635) (flat eGPart a3635))⟩), (192, ⟨(.box 62 2), 0, nob⟩), (193, ⟨.im, 0, (.lit (.int .i64 a3633.N))⟩), (194, ⟨.im, 0, (.sl (len a3633.Edges) (flat eGEdge a3633.Edges))⟩), (256, ⟨(.box 64 4), 0, nob⟩), (257, ⟨.im, 0, (.lit (.int .i64 a3634.Prog))⟩), (258, ⟨.im, 0, (.lit (.int .i64 a3634.Source))⟩), (259, ⟨.im, 0, (.lit (.int .i64 a3634.Limit))⟩), (260, ⟨.im, 0, (.lit (.int .i64 a3634.Parts))⟩), (384, ⟨(.box 74 4), 0, nob⟩), (385, ⟨.im, 0, (.lit (.int .i64 0))⟩), (386, ⟨(.own 2), 0, (.sl 0 [])⟩), (387, ⟨(.own 4), 0, (.sl 0 [])⟩), (388, ⟨(.own 130), 0, (.sl 0 [])⟩)]
theorem F85_l0_0_ok (K : Nat) (a3633 : GGraph) (a3634 : GJob) (a3635 : List GPart) : ∀ (k : Nat) (v3649 : Int) (r : (Unit) ⊕ (Unit)), F85_l0_0 K a3633 a3634 a3635 k v3649 = some r → (Sum.elim (fun w => LoopEv E H hn85 0 c85_0 (F85_l0_0_S a3633 a3634 a3635 v3649) .ret (F85_l0_0_X0 a3633 a3634 a3635 w)) (fun w => LoopEv E H hn85 0 c85_0 (F85_l0_0_S a3633 a3634 a3635 v3649) (.exit 0) (F85_l0_0_X1 a3633 a3634 a3635 w))) r := by
  intro k
  induction k with
  | zero => intro v3649 r hF; cases hF
  | succ k ih =>
    intro v3649 r hF
    rw [F85_l0_0] at hF
    refine cond_some hF (fun h3650 hF => ?_) (fun h3650 hF => ?_)
    ·
      refine cond_some hF (fun h3651 hF => ?_) (fun _ hF => nomatch hF)
      refine bind_some hF (fun x3652 h3653 hF => ?_)
      have pq3664 : ∀ {l : List Cond}, HoldAll E H hn85 l → HoldAll E H hn85 (.test (ilt v3649 (nlen (len a3635))) true :: .test (inr v3649 (len a3635)) true :: .sub (flat eGPart a3635) (nidx v3649 5) 5 [(.lit (.int .i64 x3652.P)), (.lit (.int .i64 x3652.Step)), (.sl (len x3652.Vals) (flat (eInt .i64) x3652.Vals)), (.sl (len x3652.Rest) (flat eBool x3652.Rest)), (.sl (len x3652.In) (flat eGMsg x3652.In))] :: l) := fun z => ⟨h3650, h3651, ⟨rfl, sub_flat0 eGPart_len h3653 5 (by decide)⟩, z⟩
      refine cond_some hF (fun h3654 hF => ?_) (fun h3654 hF => ?_)
      ·
        refine cond_some hF (fun h3655 hF => ?_) (fun _ hF => nomatch hF)
        refine bind_some hF (fun x3656 h3657 hF => ?_)
        have pq3665 : ∀ {l : List Cond}, HoldAll E H hn85 l → HoldAll E H hn85 (.test (beqb (ine x3652.P v3649) false) true :: .test (beqb (ine x3652.P v3649) false) true :: .test (beqb (ine x3652.P v3649) false) true :: .test (beqb (ine x3652.P v3649) false) true :: .test (inr 0 (len a3635)) true :: .test (beqb (ine x3652.P v3649) false) true :: .test (beqb (ine x3652.P v3649) false) true :: .sub (flat eGPart a3635) (nadd (nidx 0 5) 1) 1 [(.lit (.int .i64 x3656.Step))] :: .test (beqb (ine x3652.P v3649) false) true :: .test (ine x3652.P v3649) false :: l) := fun z => ⟨(beqb_ff (ine_t h3654)), (beqb_ff (ine_t h3654)), (beqb_ff (ine_t h3654)), (beqb_ff (ine_t h3654)), h3655, (beqb_ff (ine_t h3654)), (beqb_ff (ine_t h3654)), ⟨rfl, sub_flat eGPart_len h3657 1 1 (by decide)⟩, (beqb_ff (ine_t h3654)), (ine_t h3654), z⟩
        refine cond_some hF (fun h3658 hF => ?_) (fun h3658 hF => ?_)
        ·
          refine bind_some hF (fun r3659 h3660 hF => ?_)
          have pq3666 : ∀ {l : List Cond}, HoldAll E H hn85 l → HoldAll E H hn85 (.test (beqb (ine x3652.Step x3656.Step) false) true :: .test (beqb (ine x3652.Step x3656.Step) false) true :: .test (beqb (ine x3652.Step x3656.Step) false) true :: .test (beqb (ine x3652.Step x3656.Step) false) true :: .call 80 [.agg (eGGraph a3633), .agg (eGJob a3634), .agg (eGPart x3652)] (F80_res r3659) :: .test (leadsAny (Res.mk [(.one (.im (.lit (.bool r3659))))] [])) false :: .test (beqb (ine x3652.Step x3656.Step) false) true :: .test (ine x3652.Step x3656.Step) false :: l) := fun z => ⟨(beqb_ff (ine_t h3658)), (beqb_ff (ine_t h3658)), (beqb_ff (ine_t h3658)), (beqb_ff (ine_t h3658)), (F80_ok K a3633 a3634 x3652 _ h3660), (leads_ok (by simp only [leadsAny, List.any_cons, List.any_nil, RV.leads, RC.leads, leadsT, hasSl_lit, Bool.or_false, flat_ns (eInt_ns _), flat_ns eBool_ns, flat_ns eStr_ns, flat_ns eGJob_ns, flat_ns eGEdge_ns, flat_ns eGAsked_ns, flat_ns eGMsg_ns, flat_ns eGrule_ns, flat_ns eGA199_ns, flat_ns eGA202_ns])), (beqb_ff (ine_t h3658)), (ine_t h3658), z⟩
          refine cond_some hF (fun h3661 hF => ?_) (fun h3661 hF => ?_)
          ·
            have pz : HoldAll E H hn85 [.test (bnot r3659) false, .int (wadd .i64 v3649 1) (wadd .i64 v3649 1)] := ⟨(bnot_t h3661), rfl, trivial⟩
            have h0 := ih _ _ hF
            have hn := fun ex ts' => loop_nextC (h := hn85) (l := 0) (c := c85_0) (ts := F85_l0_0_S a3633 a3634 a3635 v3649) (ts1 := (F85_l0_0_S a3633 a3634 a3635 (wadd .i64 v3649 1))) (ex := ex) (ts' := ts') (pq3664 (pq3665 (pq3666 pz))) (by kernel_rfl)
            cases r with
            | inl w => exact hn _ _ h0
            | inr w => exact hn _ _ h0
          have hr := Option.some.inj hF
          subst hr
          have pz : HoldAll E H hn85 [.test (bnot r3659) true] := ⟨(bnot_f h3661), trivial⟩
          exact loop_endC (h := hn85) (l := 0) (c := c85_0) (ts := F85_l0_0_S a3633 a3634 a3635 v3649) (ts' := F85_l0_0_X0 a3633 a3634 a3635 ()) (ex := .ret) (pq3664 (pq3665 (pq3666 pz))) (by kernel_rfl) trivial
        have hr := Option.some.inj hF
        subst hr
        have pz : HoldAll E H hn85 [.test (beqb (ine x3652.Step x3656.Step) false) false, .test (beqb (ine x3652.Step x3656.Step) false) false, .test (beqb (ine x3652.Step x3656.Step) false) false, .test (beqb (ine x3652.Step x3656.Step) false) false, .test (beqb (ine x3652.Step x3656.Step) false) false, .test (ine x3652.Step x3656.Step) true, .test true true] := ⟨(beqb_ft (ine_f h3658)), (beqb_ft (ine_f h3658)), (beqb_ft (ine_f h3658)), (beqb_ft (ine_f h3658)), (beqb_ft (ine_f h3658)), (ine_f h3658), rfl, trivial⟩
        exact loop_endC (h := hn85) (l := 0) (c := c85_0) (ts := F85_l0_0_S a3633 a3634 a3635 v3649) (ts' := F85_l0_0_X0 a3633 a3634 a3635 ()) (ex := .ret) (pq3664 (pq3665 pz)) (by kernel_rfl) trivial
      have hr := Option.some.inj hF
      subst hr
      have pz : HoldAll E H hn85 [.test (beqb (ine x3652.P v3649) false) false, .test (beqb (ine x3652.P v3649) false) false, .test (beqb (ine x3652.P v3649) false) false, .test (beqb (ine x3652.P v3649) false) false, .test (beqb (ine x3652.P v3649) false) false, .test (beqb (ine x3652.P v3649) false) false, .test (beqb (ine x3652.P v3649) false) false, .test (ine x3652.P v3649) true, .test (beqb true false) false, .test (beqb true false) false, .test (beqb true false) false, .test (beqb true false) false, .test (beqb true false) false, .test true true, .test true true] := ⟨(beqb_ft (ine_f h3654)), (beqb_ft (ine_f h3654)), (beqb_ft (ine_f h3654)), (beqb_ft (ine_f h3654)), (beqb_ft (ine_f h3654)), (beqb_ft (ine_f h3654)), (beqb_ft (ine_f h3654)), (ine_f h3654), (beqb_ft rfl), (beqb_ft rfl), (beqb_ft rfl), (beqb_ft rfl), (beqb_ft rfl), rfl, rfl, trivial⟩
      exact loop_endC (h := hn85) (l := 0) (c := c85_0) (ts := F85_l0_0_S a3633 a3634 a3635 v3649) (ts' := F85_l0_0_X0 a3633 a3634 a3635 ()) (ex := .ret) (pq3664 pz) (by kernel_rfl) trivial
    have hr := Option.some.inj hF
    subst hr
    have pz : HoldAll E H hn85 [.test (ilt v3649 (nlen (len a3635))) false] := ⟨h3650, trivial⟩
    exact loop_endC (h := hn85) (l := 0) (c := c85_0) (ts := F85_l0_0_S a3633 a3634 a3635 v3649) (ts' := F85_l0_0_X1 a3633 a3634 a3635 ()) (ex := (.exit 0)) pz (by kernel_rfl) trivial

def F85_l1_1 (K : Nat) (a3633 : GGraph) (a3634 : GJob) (a3635 : List GPart) (x3672 : GPart) : Nat → List Int → List Bool → List GMsg → List Int → Int → Option (List Int × List Bool × List GMsg)
  | 0, _, _, _, _, _ => none
  | k + 1, v3697, v3698, v3699, v3700, v3701 =>
    bif (ilt v3701 a3633.N) then
      (bif (izero a3634.Parts) then none else
      bif (inr (wrem v3701 a3634.Parts) (len a3635)) then
      (elAt a3635 (wrem v3701 a3634.Parts)).bind fun x3705 =>
      bif (inr (wquo .i64 v3701 a3634.Parts) (len x3705.Vals)) then
      (elAt x3705.Vals (wquo .i64 v3701 a3634.Parts)).bind fun x3708 =>
      bif (apok (len v3697) 1 8) then
      bif (inr (wquo .i64 v3701 a3634.Parts) (len x3705.Rest)) then
      (elAt x3705.Rest (wquo .i64 v3701 a3634.Parts)).bind fun x3712 =>
      bif (apok (len v3698) 1 1) then
      bif (inr x3705.P (len v3700)) then
      (elAt v3700 x3705.P).bind fun x3716 =>
      bif (ilt x3716 (nlen (len x3705.In))) then
        (bif (inr x3716 (len x3705.In)) then
        (elAt x3705.In x3716).bind fun x3720 =>
        bif (ieq x3720.To v3701) then
          (bif (apok (len v3699) 1 16) then
          F85_l1_1 K a3633 a3634 a3635 x3672 k (appL v3697 [x3708]) (appL v3698 [x3712]) (appL v3699 [x3720]) (putAt v3700 x3705.P (wadd .i64 x3716 1)) (wadd .i64 v3701 1)
          else none)
        else
        F85_l1_1 K a3633 a3634 a3635 x3672 k (appL v3697 [x3708]) (appL v3698 [x3712]) v3699 v3700 (wadd .i64 v3701 1)
        else none)
      else
      F85_l1_1 K a3633 a3634 a3635 x3672 k (appL v3697 [x3708]) (appL v3698 [x3712]) v3699 v3700 (wadd .i64 v3701 1)
      else none
      else none
      else none
      else none
      else none
      else none)
    else
    some (v3697, (v3698, v3699))
def F85_l1_1_S (a3633 : GGraph) (a3634 : GJob) (a3635 : List GPart) (x3672 : GPart) (v3697 : List Int) (v3698 : List Bool) (v3699 : List GMsg) (v3700 : List Int) (v3701 : Int) : TS := .on [128, 129, 256, 257, 258, 259, 260, 384, 385, 386, 387, 388, 704, 705, 706, 707, 708, 768, 769, 4288, 4289, 4352, 4353] [(128, ⟨.one, 0, nob⟩), (129, ⟨.im, 0, (.sl (len a3635) (flat eGPart a3635))⟩), (256, ⟨(.box 64 4), 0, nob⟩), (257, ⟨.im, 0, (.lit (.int .i64 a3634.Prog))⟩), (258, ⟨.im, 0, (.lit (.int .i64 a3634.Source))⟩), (259, ⟨.im, 0, (.lit (.int .i64 a3634.Limit))⟩), (260, ⟨.im, 0, (.lit (.int .i64 a3634.Parts))⟩), (384, ⟨(.box 74 4), 0, nob⟩), (385, ⟨.im, 0, (.lit (.int .i64 0))⟩), (386, ⟨(.own 2), 0, (.sl 0 [])⟩), (387, ⟨(.own 4), 0, (.sl 0 [])⟩), (388, ⟨(.own 130), 0, (.sl 0 [])⟩), (704, ⟨(.box 74 4), 0, nob⟩), (705, ⟨.im, 0, (.lit (.int .i64 x3672.Step))⟩), (706, ⟨(.own 2), 0, (.sl (len v3697) (flat (eInt .i64) v3697))⟩), (707, ⟨(.own 4), 0, (.sl (len v3698) (flat eBool v3698))⟩), (708, ⟨(.own 130), 0, (.sl (len v3699) (flat eGMsg v3699))⟩), (768, ⟨.one, 0, nob⟩), (769, ⟨(.own 3), 0, (.sl (len v3700) (flat (eInt .i64) v3700))⟩), (4288, ⟨.one, 0, nob⟩), (4289, ⟨.im, 0, (.lit (.int .i64 a3633.N))⟩), (4352, ⟨.one, 0, nob⟩), (4353, ⟨.im, 0, (.lit (.int .i64 v3701))⟩)]
def F85_l1_1_X0 (a3633 : GGraph) (a3634 : GJob) (a3635 : List GPart) (x3672 : GPart) (w3724 : List Int × List Bool × List GMsg) : TS := .on [384, 385, 386, 387, 388, 704, 705, 706, 707, 708] [(384, ⟨(.box 74 4), 0, nob⟩), (385, ⟨.im, 0, (.lit (.int .i64 0))⟩), (386, ⟨(.own 2), 0, (.sl 0 [])⟩), (387, ⟨(.own 4), 0, (.sl 0 [])⟩), (388, ⟨(.own 130), 0, (.sl 0 [])⟩), (704, ⟨(.box 74 4), 0, nob⟩), (705, ⟨.im, 0, (.lit (.int .i64 x3672.Step))⟩), (706, ⟨(.own 2), 0, (.sl (len w3724.1) (flat (eInt .i64) w3724.1))⟩), (707, ⟨(.own 4), 0, (.sl (len w3724.2.1) (flat eBool w3724.2.1))⟩), (708, ⟨(.own 130), 0, (.sl (len w3724.2.2) (flat eGMsg w3724.2.2))⟩)]
theorem F85_l1_1_ok (K : Nat) (a3633 : GGraph) (a3634 : GJob) (a3635 : List GPart) (x3672 : GPart) : ∀ (k : Nat) (v3697 : List Int) (v3698 : List Bool) (v3699 : List GMsg) (v3700 : List Int) (v3701 : Int) (r : List Int × List Bool × List GMsg), F85_l1_1 K a3633 a3634 a3635 x3672 k v3697 v3698 v3699 v3700 v3701 = some r → LoopEv E H hn85 2 c85_1 (F85_l1_1_S a3633 a3634 a3635 x3672 v3697 v3698 v3699 v3700 v3701) (.exit 2) (F85_l1_1_X0 a3633 a3634 a3635 x3672 r) := by
  intro k
  induction k with
  | zero => intro v3697 v3698 v3699 v3700 v3701 r hF; cases hF
  | succ k ih =>
    intro v3697 v3698 v3699 v3700 v3701 r hF
    rw [F85_l1_1] at hF
    refine cond_some hF (fun h3702 hF => ?_) (fun h3702 hF => ?_)
    ·
      refine cond_some hF (fun _ hF => nomatch hF) (fun h3703 hF => ?_)
      refine cond_some hF (fun h3704 hF => ?_) (fun _ hF => nomatch hF)
      refine bind_some hF (fun x3705 h3706 hF => ?_)
      refine cond_some hF (fun h3707 hF => ?_) (fun _ hF => nomatch hF)
      refine bind_some hF (fun x3708 h3709 hF => ?_)
      refine cond_some hF (fun h3710 hF => ?_) (fun _ hF => nomatch hF)
      refine cond_some hF (fun h3711 hF => ?_) (fun _ hF => nomatch hF)
      refine bind_some hF (fun x3712 h3713 hF => ?_)
      refine cond_some hF (fun h3714 hF => ?_) (fun _ hF => nomatch hF)
      refine cond_some hF (fun h3715 hF => ?_) (fun _ hF => nomatch hF)
      refine bind_some hF (fun x3716 h3717 hF => ?_)
      have pq3728 : ∀ {l : List Cond}, HoldAll E H hn85 l → HoldAll E H hn85 (.test (ilt v3701 a3633.N) true :: .test (izero a3634.Parts) false :: .int (wrem v3701 a3634.Parts) (wrem v3701 a3634.Parts) :: .test (inr (wrem v3701 a3634.Parts) (len a3635)) true :: .sub (flat eGPart a3635) (nidx (wrem v3701 a3634.Parts) 5) 5 [(.lit (.int .i64 x3705.P)), (.lit (.int .i64 x3705.Step)), (.sl (len x3705.Vals) (flat (eInt .i64) x3705.Vals)), (.sl (len x3705.Rest) (flat eBool x3705.Rest)), (.sl (len x3705.In) (flat eGMsg x3705.In))] :: .test (izero a3634.Parts) false :: .int (wquo .i64 v3701 a3634.Parts) (wquo .i64 v3701 a3634.Parts) :: .test (inr (wquo .i64 v3701 a3634.Parts) (len x3705.Vals)) true :: .sub (flat (eInt .i64) x3705.Vals) (nidx (wquo .i64 v3701 a3634.Parts) 1) 1 [(.lit (.int .i64 x3708))] :: .test (leqm [(.lit (.int .i64 x3708))] 1 1) true :: .test (apok (len v3697) 1 8) true :: .sl (nadd (len v3697) 1) (lapp (flat (eInt .i64) v3697) [(.lit (.int .i64 x3708))]) (len (α := Int) (appL v3697 [x3708])) (flat (eInt .i64) (appL v3697 [x3708])) :: .test (izero a3634.Parts) false :: .int (wquo .i64 v3701 a3634.Parts) (wquo .i64 v3701 a3634.Parts) :: .test (inr (wquo .i64 v3701 a3634.Parts) (len x3705.Rest)) true :: .sub (flat eBool x3705.Rest) (nidx (wquo .i64 v3701 a3634.Parts) 1) 1 [(.lit (.bool x3712))] :: .test (leqm [(.lit (.bool x3712))] 1 1) true :: .test (apok (len v3698) 1 1) true :: .sl (nadd (len v3698) 1) (lapp (flat eBool v3698) [(.lit (.bool x3712))]) (len (α := Bool) (appL v3698 [x3712])) (flat eBool (appL v3698 [x3712])) :: .test (inr x3705.P (len v3700)) true :: .sub (flat (eInt .i64) v3700) (nidx x3705.P 1) 1 [(.lit (.int .i64 x3716))] :: .int (nlen (len x3705.In)) (nlen (len x3705.In)) :: l) := fun z => ⟨h3702, h3703, rfl, h3704, ⟨rfl, sub_flat0 eGPart_len h3706 5 (by decide)⟩, h3703, rfl, h3707, ⟨rfl, sub_flat0 (eInt_len _) h3709 1 (by decide)⟩, rfl, h3710, (app_ok (enc := (eInt .i64)) (v3697 : List Int) [x3708]), h3703, rfl, h3711, ⟨rfl, sub_flat0 eBool_len h3713 1 (by decide)⟩, rfl, h3714, (app_ok (enc := eBool) (v3698 : List Bool) [x3712]), h3715, ⟨rfl, sub_flat0 (eInt_len _) h3717 1 (by decide)⟩, rfl, z⟩
      refine cond_some hF (fun h3718 hF => ?_) (fun h3718 hF => ?_)
      ·
        refine cond_some hF (fun h3719 hF => ?_) (fun _ hF => nomatch hF)
        refine bind_some hF (fun x3720 h3721 hF => ?_)
        have pq3729 : ∀ {l : List Cond}, HoldAll E H hn85 l → HoldAll E H hn85 (.test (beqb (ilt x3716 (nlen (len x3705.In))) true) true :: .test (beqb (ilt x3716 (nlen (len x3705.In))) true) true :: .test (beqb (ilt x3716 (nlen (len x3705.In))) true) true :: .test (beqb (ilt x3716 (nlen (len x3705.In))) true) true :: .test (inr x3716 (len x3705.In)) true :: .test (beqb (ilt x3716 (nlen (len x3705.In))) true) true :: .test (beqb (ilt x3716 (nlen (len x3705.In))) true) true :: .sub (flat eGMsg x3705.In) (nadd (nidx x3716 2) 0) 1 [(.lit (.int .i64 x3720.To))] :: .test (beqb (ilt x3716 (nlen (len x3705.In))) true) true :: .test (beqb (ilt x3716 (nlen (len x3705.In))) true) true :: .test (ilt x3716 (nlen (len x3705.In))) true :: l) := fun z => ⟨(beqb_t h3718), (beqb_t h3718), (beqb_t h3718), (beqb_t h3718), h3719, (beqb_t h3718), (beqb_t h3718), ⟨rfl, sub_flat eGMsg_len h3721 0 1 (by decide)⟩, (beqb_t h3718), (beqb_t h3718), h3718, z⟩
        refine cond_some hF (fun h3722 hF => ?_) (fun h3722 hF => ?_)
        ·
          refine cond_some hF (fun h3723 hF => ?_) (fun _ hF => nomatch hF)
          have pz : HoldAll E H hn85 [.test (ieq x3720.To v3701) true, .test (inr x3716 (len x3705.In)) true, .sub (flat eGMsg x3705.In) (nidx x3716 2) 2 [(.lit (.int .i64 x3720.To)), (.lit (.int .i64 x3720.V))], .test (leqm [(.lit (.int .i64 x3720.To)), (.lit (.int .i64 x3720.V))] 1 2) true, .test (apok (len v3699) 1 16) true, .sl (nadd (len v3699) 1) (lapp (flat eGMsg v3699) [(.lit (.int .i64 x3720.To)), (.lit (.int .i64 x3720.V))]) (len (α := GMsg) (appL v3699 [x3720])) (flat eGMsg (appL v3699 [x3720])), .test (inr x3705.P (len v3700)) true, .sub (flat (eInt .i64) v3700) (nidx x3705.P 1) 1 [(.lit (.int .i64 x3716))], .int (wadd .i64 x3716 1) (wadd .i64 x3716 1), .test (inr x3705.P (len v3700)) true, .test (lfits (nidx x3705.P 1) 1 (flat (eInt .i64) v3700)) true, .sl (len v3700) (lset (flat (eInt .i64) v3700) (nidx x3705.P 1) [(.lit (.int .i64 (wadd .i64 x3716 1)))]) (len (α := Int) (putAt v3700 x3705.P (wadd .i64 x3716 1))) (flat (eInt .i64) (putAt v3700 x3705.P (wadd .i64 x3716 1))), .int (wadd .i64 v3701 1) (wadd .i64 v3701 1)] := ⟨h3722, h3719, ⟨rfl, sub_flat0 eGMsg_len h3721 2 (by decide)⟩, rfl, h3723, (app_ok (enc := eGMsg) (v3699 : List GMsg) [x3720]), h3715, ⟨rfl, sub_flat0 (eInt_len _) h3717 1 (by decide)⟩, rfl, h3715, (lfits_flat0 (eInt_len _) h3717 _ (by decide)), (set_ok0 (eInt_len _) h3717 _ (by simp) rfl), rfl, trivial⟩
          have h0 := ih _ _ _ _ _ _ hF
          have hn := fun ex ts' => loop_nextC (h := hn85) (l := 2) (c := c85_1) (ts := F85_l1_1_S a3633 a3634 a3635 x3672 v3697 v3698 v3699 v3700 v3701) (ts1 := (F85_l1_1_S a3633 a3634 a3635 x3672 (appL v3697 [x3708]) (appL v3698 [x3712]) (appL v3699 [x3720]) (putAt v3700 x3705.P (wadd .i64 x3716 1)) (wadd .i64 v3701 1))) (ex := ex) (ts' := ts') (pq3728 (pq3729 pz)) (by kernel_rfl)
          exact hn _ _ h0
        have pz : HoldAll E H hn85 [.test (ieq x3720.To v3701) false, .int (wadd .i64 v3701 1) (wadd .i64 v3701 1)] := ⟨h3722, rfl, trivial⟩
        have h0 := ih _ _ _ _ _ _ hF
        have hn := fun ex ts' => loop_nextC (h := hn85) (l := 2) (c := c85_1) (ts := F85_l1_1_S a3633 a3634 a3635 x3672 v3697 v3698 v3699 v3700 v3701) (ts1 := (F85_l1_1_S a3633 a3634 a3635 x3672 (appL v3697 [x3708]) (appL v3698 [x3712]) v3699 v3700 (wadd .i64 v3701 1))) (ex := ex) (ts' := ts') (pq3728 (pq3729 pz)) (by kernel_rfl)
        exact hn _ _ h0
      have pz : HoldAll E H hn85 [.test (beqb (ilt x3716 (nlen (len x3705.In))) true) false, .test (beqb (ilt x3716 (nlen (len x3705.In))) true) false, .test (beqb (ilt x3716 (nlen (len x3705.In))) true) false, .test (beqb (ilt x3716 (nlen (len x3705.In))) true) false, .test (beqb (ilt x3716 (nlen (len x3705.In))) true) false, .test (beqb (ilt x3716 (nlen (len x3705.In))) true) false, .test (beqb (ilt x3716 (nlen (len x3705.In))) true) false, .test (beqb (ilt x3716 (nlen (len x3705.In))) true) false, .test (ilt x3716 (nlen (len x3705.In))) false, .test false false, .int (wadd .i64 v3701 1) (wadd .i64 v3701 1)] := ⟨(beqb_t h3718), (beqb_t h3718), (beqb_t h3718), (beqb_t h3718), (beqb_t h3718), (beqb_t h3718), (beqb_t h3718), (beqb_t h3718), h3718, rfl, rfl, trivial⟩
      have h0 := ih _ _ _ _ _ _ hF
      have hn := fun ex ts' => loop_nextC (h := hn85) (l := 2) (c := c85_1) (ts := F85_l1_1_S a3633 a3634 a3635 x3672 v3697 v3698 v3699 v3700 v3701) (ts1 := (F85_l1_1_S a3633 a3634 a3635 x3672 (appL v3697 [x3708]) (appL v3698 [x3712]) v3699 v3700 (wadd .i64 v3701 1))) (ex := ex) (ts' := ts') (pq3728 pz) (by kernel_rfl)
      exact hn _ _ h0
    have hr := Option.some.inj hF
    subst hr
    have pz : HoldAll E H hn85 [.test (ilt v3701 a3633.N) false] := ⟨h3702, trivial⟩
    exact loop_endC (h := hn85) (l := 2) (c := c85_1) (ts := F85_l1_1_S a3633 a3634 a3635 x3672 v3697 v3698 v3699 v3700 v3701) (ts' := F85_l1_1_X0 a3633 a3634 a3635 x3672 (v3697, (v3698, v3699))) (ex := (.exit 2)) pz (by kernel_rfl) trivial

def F85 (K : Nat) (a3633 : GGraph) (a3634 : GJob) (a3635 : List GPart) : Option (GState × Int) :=
  (F94 K a3633 a3634).bind fun r3636 =>
  bif (ieq r3636 0) then
    (bif (ieq (nlen (len a3635)) a3634.Parts) then
      ((F85_l0_0 K a3633 a3634 a3635 K 0).bind fun y3668 =>
      Sum.elim (fun w3669 =>
        some ((GState.mk 0 [] [] []), 1))
        (fun w3670 =>
        bif (inr 0 (len a3635)) then
        (elAt a3635 0).bind fun x3672 =>
        bif (mkok a3634.Parts a3634.Parts 8) then
        (F85_l1_1 K a3633 a3634 a3635 x3672 K [] [] [] (repL (α := Int) a3634.Parts 0) 0).bind fun w3732 =>
        some ((GState.mk x3672.Step w3732.1 w3732.2.1 w3732.2.2), 0)
        else none
        else none) y3668)
    else
    some ((GState.mk 0 [] [] []), 1))
  else
  some ((GState.mk 0 [] [] []), r3636)
theorem F85_ok (K : Nat) (a3633 : GGraph) (a3634 : GJob) (a3635 : List GPart) (r : GState × Int) (hF : F85 K a3633 a3634 a3635 = some r) : Evt E H 85 [.agg (eGGraph a3633), .agg (eGJob a3634), .one (.sl (len a3635) (flat eGPart a3635))] (F85_res r) := by
  rw [F85] at hF
  refine bind_some hF (fun r3636 h3637 hF => ?_)
  refine cond_some hF (fun h3638 hF => ?_) (fun h3638 hF => ?_)
  ·
    have pq3736 : ∀ {l : List Cond}, HoldAll E H hn85 l → HoldAll E H hn85 (.call 94 [.agg (eGGraph a3633), .agg (eGJob a3634)] (F94_res r3636) :: .test (leadsAny (Res.mk [(.one (.im (.lit (.int .i64 r3636))))] [])) false :: .test (ine r3636 0) false :: .int (nlen (len a3635)) (nlen (len a3635)) :: l) := fun z => ⟨(F94_ok K a3633 a3634 _ h3637), (leads_ok (by simp only [leadsAny, List.any_cons, List.any_nil, RV.leads, RC.leads, leadsT, hasSl_lit, Bool.or_false, flat_ns (eInt_ns _), flat_ns eBool_ns, flat_ns eStr_ns, flat_ns eGJob_ns, flat_ns eGEdge_ns, flat_ns eGAsked_ns, flat_ns eGMsg_ns, flat_ns eGrule_ns, flat_ns eGA199_ns, flat_ns eGA202_ns])), (ine_t h3638), rfl, z⟩
    refine cond_some hF (fun h3639 hF => ?_) (fun h3639 hF => ?_)
    ·
      refine bind_some hF (fun y3668 h3667 hF => ?_)
      refine sum_some hF (fun w3669 hx hF => ?_) (fun w3670 hx hF => ?_)
      ·
        subst hx
        have hr := Option.some.inj hF
        subst hr
        have pz : HoldAll E H hn85 [.test (ine (nlen (len a3635)) a3634.Parts) false, .int (nlen (len a3635)) (nlen (len a3635)), .loop 0 c85_0 (F85_l0_0_S a3633 a3634 a3635 0) .ret (F85_l0_0_X0 a3633 a3634 a3635 w3669)] := ⟨(ine_t h3639), rfl, (F85_l0_0_ok K a3633 a3634 a3635 K 0 _ h3667), trivial⟩
        exact fn_playC hn85 (f := 85) (ads := [.agg (eGGraph a3633), .agg (eGJob a3634), .one (.sl (len a3635) (flat eGPart a3635))]) (r := F85_res ((GState.mk 0 [] [] []), 1)) (pq3736 pz) (by kernel_rfl) (by kernel_rfl)
      subst hx
      refine cond_some hF (fun h3671 hF => ?_) (fun _ hF => nomatch hF)
      refine bind_some hF (fun x3672 h3673 hF => ?_)
      refine cond_some hF (fun h3674 hF => ?_) (fun _ hF => nomatch hF)
      refine bind_some hF (fun w3732 h3730 hF => ?_)
      have hr := Option.some.inj hF
      subst hr
      have pz : HoldAll E H hn85 [.test (ine (nlen (len a3635)) a3634.Parts) false, .int (nlen (len a3635)) (nlen (len a3635)), .loop 0 c85_0 (F85_l0_0_S a3633 a3634 a3635 0) (.exit 0) (F85_l0_0_X1 a3633 a3634 a3635 w3670), .test (inr 0 (len a3635)) true, .sub (flat eGPart a3635) (nadd (nidx 0 5) 1) 1 [(.lit (.int .i64 x3672.Step))], .test (mkok a3634.Parts a3634.Parts 8) true, .sl (nint a3634.Parts) (lrep a3634.Parts [(.lit (.int .i64 0))]) (len (α := Int) (repL (α := Int) a3634.Parts 0)) (flat (eInt .i64) (repL (α := Int) a3634.Parts 0)), .loop 2 c85_1 (F85_l1_1_S a3633 a3634 a3635 x3672 [] [] [] (repL (α := Int) a3634.Parts 0) 0) (.exit 2) (F85_l1_1_X0 a3633 a3634 a3635 x3672 w3732)] := ⟨(ine_t h3639), rfl, (F85_l0_0_ok K a3633 a3634 a3635 K 0 _ h3667), h3671, ⟨rfl, sub_flat eGPart_len h3673 1 1 (by decide)⟩, h3674, (rep_okC (enc := (eInt .i64)) (n := a3634.Parts) (x := 0) rfl), (F85_l1_1_ok K a3633 a3634 a3635 x3672 K [] [] [] (repL (α := Int) a3634.Parts 0) 0 _ h3730), trivial⟩
      exact fn_playC hn85 (f := 85) (ads := [.agg (eGGraph a3633), .agg (eGJob a3634), .one (.sl (len a3635) (flat eGPart a3635))]) (r := F85_res ((GState.mk x3672.Step w3732.1 w3732.2.1 w3732.2.2), 0)) (pq3736 pz) (by kernel_rfl) (by kernel_rfl)
    have hr := Option.some.inj hF
    subst hr
    have pz : HoldAll E H hn85 [.test (ine (nlen (len a3635)) a3634.Parts) true] := ⟨(ine_f h3639), trivial⟩
    exact fn_playC hn85 (f := 85) (ads := [.agg (eGGraph a3633), .agg (eGJob a3634), .one (.sl (len a3635) (flat eGPart a3635))]) (r := F85_res ((GState.mk 0 [] [] []), 1)) (pq3736 pz) (by kernel_rfl) (by kernel_rfl)
  have hr := Option.some.inj hF
  subst hr
  have pz : HoldAll E H hn85 [.call 94 [.agg (eGGraph a3633), .agg (eGJob a3634)] (F94_res r3636), .test (leadsAny (Res.mk [(.one (.im (.lit (.int .i64 r3636))))] [])) false, .test (ine r3636 0) true] := ⟨(F94_ok K a3633 a3634 _ h3637), (leads_ok (by simp only [leadsAny, List.any_cons, List.any_nil, RV.leads, RC.leads, leadsT, hasSl_lit, Bool.or_false, flat_ns (eInt_ns _), flat_ns eBool_ns, flat_ns eStr_ns, flat_ns eGJob_ns, flat_ns eGEdge_ns, flat_ns eGAsked_ns, flat_ns eGMsg_ns, flat_ns eGrule_ns, flat_ns eGA199_ns, flat_ns eGA202_ns])), (ine_f h3638), trivial⟩
  exact fn_playC hn85 (f := 85) (ads := [.agg (eGGraph a3633), .agg (eGJob a3634), .one (.sl (len a3635) (flat eGPart a3635))]) (r := F85_res ((GState.mk 0 [] [] []), r3636)) pz (by kernel_rfl) (by kernel_rfl)

/-! ### haywain/haywainref07.Join -/
noncomputable def hn86 : Hint := { H 86 with nt := 133, prot := 0 }
noncomputable def c86_0 : Code := loopOf E 86 0
noncomputable def c86_1 : Code := loopOf E 86 1
noncomputable def c86_2 : Code := loopOf E 86 2
def F86_res (r3864 : GState × Int) : Res := ⟨[(.agg [(.im (.lit (.int .i64 r3864.1.Step))), (.own 2 (.sl (len r3864.1.Vals) (flat (eInt .i64) r3864.1.Vals))), (.own 4 (.sl (len r3864.1.Rest) (flat eBool r3864.1.Rest))), (.own 130 (.sl (len r3864.1.In) (flat eGMsg r3864.1.In)))]), (.one (.im (.lit (.int .i64 r3864.2))))], []⟩
def F86_l0_0 (K : Nat) (a3740 : GGraph) (a3741 : GJob) (a3742 : List GPart) : Nat → Int → Option ((Unit) ⊕ (Unit))
  | 0, _ => none
  | k + 1, v3756 =>
    bif (ilt v3756 (nlen (len a3742))) then
      (bif (inr v3756 (len a3742)) then
      (elAt a3742 v3756).bind fun x3759 =>
      bif (ieq x3759.P v3756) then
        (bif (inr 0 (len a3742)) then
        (elAt a3742 0).bind fun x3763 =>
        bif (ieq x3759.Step x3763.Step) then
          ((F81 K a3740 a3741 x3759).bind fun r3766 =>
          bif r3766 then
            (F86_l0_0 K a3740 a3741 a3742 k (wadd .i64 v3756 1))
          else
          some (.inl ()))
        else
        some (.inl ())
        else none)
      else
      some (.inl ())
      else none)
    else
    some (.inr ())
def F86_l0_0_S (a3740 : GGraph) (a3741 : GJob) (a3742 : List GPart) (v3756 : Int) : TS := .on [128, 129, 192, 193, 194, 256, 257, 258, 259, 260, 384, 385, 386, 387, 388, 576, 577] [(128, ⟨.one, 0, nob⟩), (129, ⟨.im, 0, (.sl (len a3742) (flat eGPart a3742))⟩), (192, ⟨(.box 62 2), 0, nob⟩), (193, ⟨.im, 0, (.lit (.int .i64 a3740.N))⟩), (194, ⟨.im, 0, (.sl (len a3740.Edges) (flat eGEdge a3740.Edges))⟩), (256, ⟨(.box 64 4), 0, nob⟩), (257, ⟨.im, 0, (.lit (.int .i64 a3741.Prog))⟩), (258, ⟨.im, 0, (.lit (.int .i64 a3741.Source))⟩), (259, ⟨.im, 0, (.lit (.int .i64 a3741.Limit))⟩), (260, ⟨.im, 0, (.lit (.int .i64 a3741.Parts))⟩), (384, ⟨(.box 74 4), 0, nob⟩), (385, ⟨.im, 0, (.lit (.int .i64 0))⟩), (386, ⟨(.own 2), 0, (.sl 0 [])⟩), (387, ⟨(.own 4), 0, (.sl 0 [])⟩), (388, ⟨(.own 130), 0, (.sl 0 [])⟩), (576, ⟨.one, 0, nob⟩), (577, ⟨.im, 0, (.lit (.int .i64 v3756))⟩)]
def F86_l0_0_X0 (a3740 : GGraph) (a3741 : GJob) (a3742 : List GPart) (w3769 : Unit) : TS := .on [384, 385, 386, 387, 388, 448, 449] [(384, ⟨(.box 74 4), 0, nob⟩), (385, ⟨.im, 0, (.lit (.int .i64 0))⟩), (386, ⟨(.own 2), 0, (.sl 0 [])⟩), (387, ⟨(.own 4), 0, (.sl 0 [])⟩), (388, ⟨(.own 130), 0, (.sl 0 [])⟩), (448, ⟨.one, 0, nob⟩), (449, ⟨.im, 0, (.lit (.int .i64 1))⟩)]
def F86_l0_0_X1 (a3740 : GGraph) (a3741 : GJob) (a3742 : List GPart) (w3770 : Unit) : TS := .on [128, 129, 192, 193, 194, 256, 257, 258, 259, 260, 384, 385, 386, 387, 388] [(128, ⟨.one, 0, nob⟩), (129, ⟨.im, 0, (.sl (len a3742) (flat eGPart a3742))⟩), (192, ⟨(.box 62 2), 0, nob⟩), (193, ⟨.im, 0, (.lit (.int .i64 a3740.N))⟩), (194, ⟨.im, 0, (.sl (len a3740.Edges) (flat eGEdge a3740.Edges))⟩), (256, ⟨(.box 64 4), 0, nob⟩), (257, ⟨.im, 0, (.lit (.int .i64 a3741.Prog))⟩), (258, ⟨.im, 0, (.lit (.int .i64 a3741.Source))⟩), (259, ⟨.im, 0, (.lit (.int .i64 a3741.Limit))⟩), (260, ⟨.im, 0, (.lit (.int .i64 a3741.Parts))⟩), (384, ⟨(.box 74 4), 0, nob⟩), (385, ⟨.im, 0, (.lit (.int .i64 0))⟩), (386, ⟨(.own 2), 0, (.sl 0 [])⟩), (387, ⟨(.own 4), 0, (.sl 0 [])⟩), (388, ⟨(.own 130), 0, (.sl 0 [])⟩)]
theorem F86_l0_0_ok (K : Nat) (a3740 : GGraph) (a3741 : GJob) (a3742 : List GPart) : ∀ (k : Nat) (v3756 : Int) (r : (Unit) ⊕ (Unit)), F86_l0_0 K a3740 a3741 a3742 k v3756 = some r → (Sum.elim (fun w => LoopEv E H hn86 0 c86_0 (F86_l0_0_S a3740 a3741 a3742 v3756) .ret (F86_l0_0_X0 a3740 a3741 a3742 w)) (fun w => LoopEv E H hn86 0 c86_0 (F86_l0_0_S a3740 a3741 a3742 v3756) (.exit 0) (F86_l0_0_X1 a3740 a3741 a3742 w))) r := by
  intro k
  induction k with
  | zero => intro v3756 r hF; cases hF
  | succ k ih =>
    intro v3756 r hF
    rw [F86_l0_0] at hF
    refine cond_some hF (fun h3757 hF => ?_) (fun h3757 hF => ?_)
    ·
      refine cond_some hF (fun h3758 hF => ?_) (fun _ hF => nomatch hF)
      refine bind_some hF (fun x3759 h3760 hF => ?_)
      have pq3771 : ∀ {l : List Cond}, HoldAll E H hn86 l → HoldAll E H hn86 (.int (nlen (len a3742)) (nlen (len a3742)) :: .test (ilt v3756 (nlen (len a3742))) true :: .test (inr v3756 (len a3742)) true :: .sub (flat eGPart a3742) (nadd (nidx v3756 5) 0) 1 [(.lit (.int .i64 x3759.P))] :: l) := fun z => ⟨rfl, h3757, h3758, ⟨rfl, sub_flat eGPart_len h3760 0 1 (by decide)⟩, z⟩
      refine cond_some hF (fun h3761 hF => ?_) (fun h3761 hF => ?_)
      ·
        refine cond_some hF (fun h3762 hF => ?_) (fun _ hF => nomatch hF)
        refine bind_some hF (fun x3763 h3764 hF => ?_)
        have pq3772 : ∀ {l : List Cond}, HoldAll E H hn86 l → HoldAll E H hn86 (.test (beqb (ine x3759.P v3756) false) true :: .test (beqb (ine x3759.P v3756) false) true :: .test (beqb (ine x3759.P v3756) false) true :: .test (inr v3756 (len a3742)) true :: .test (beqb (ine x3759.P v3756) false) true :: .test (beqb (ine x3759.P v3756) false) true :: .sub (flat eGPart a3742) (nadd (nidx v3756 5) 1) 1 [(.lit (.int .i64 x3759.Step))] :: .test (beqb (ine x3759.P v3756) false) true :: .test (beqb (ine x3759.P v3756) false) true :: .test (inr 0 (len a3742)) true :: .test (beqb (ine x3759.P v3756) false) true :: .test (beqb (ine x3759.P v3756) false) true :: .sub (flat eGPart a3742) (nadd (nidx 0 5) 1) 1 [(.lit (.int .i64 x3763.Step))] :: .test (beqb (ine x3759.P v3756) false) true :: .test (ine x3759.P v3756) false :: l) := fun z => ⟨(beqb_ff (ine_t h3761)), (beqb_ff (ine_t h3761)), (beqb_ff (ine_t h3761)), h3758, (beqb_ff (ine_t h3761)), (beqb_ff (ine_t h3761)), ⟨rfl, sub_flat eGPart_len h3760 1 1 (by decide)⟩, (beqb_ff (ine_t h3761)), (beqb_ff (ine_t h3761)), h3762, (beqb_ff (ine_t h3761)), (beqb_ff (ine_t h3761)), ⟨rfl, sub_flat eGPart_len h3764 1 1 (by decide)⟩, (beqb_ff (ine_t h3761)), (ine_t h3761), z⟩
        refine cond_some hF (fun h3765 hF => ?_) (fun h3765 hF => ?_)
        ·
          refine bind_some hF (fun r3766 h3767 hF => ?_)
          have pq3773 : ∀ {l : List Cond}, HoldAll E H hn86 l → HoldAll E H hn86 (.test (beqb (ine x3759.Step x3763.Step) false) true :: .test (beqb (ine x3759.Step x3763.Step) false) true :: .test (beqb (ine x3759.Step x3763.Step) false) true :: .test (beqb (ine x3759.Step x3763.Step) false) true :: .test (beqb (ine x3759.Step x3763.Step) false) true :: .test (inr v3756 (len a3742)) true :: .test (beqb (ine x3759.Step x3763.Step) false) true :: .sub (flat eGPart a3742) (nidx v3756 5) 5 [(.lit (.int .i64 x3759.P)), (.lit (.int .i64 x3759.Step)), (.sl (len x3759.Vals) (flat (eInt .i64) x3759.Vals)), (.sl (len x3759.Rest) (flat eBool x3759.Rest)), (.sl (len x3759.In) (flat eGMsg x3759.In))] :: .test (beqb (ine x3759.Step x3763.Step) false) true :: .call 81 [.agg (eGGraph a3740), .agg (eGJob a3741), .agg (eGPart x3759)] (F81_res r3766) :: .test (leadsAny (Res.mk [(.one (.im (.lit (.bool r3766))))] [])) false :: .test (beqb (ine x3759.Step x3763.Step) false) true :: .test (ine x3759.Step x3763.Step) false :: l) := fun z => ⟨(beqb_ff (ine_t h3765)), (beqb_ff (ine_t h3765)), (beqb_ff (ine_t h3765)), (beqb_ff (ine_t h3765)), (beqb_ff (ine_t h3765)), h3758, (beqb_ff (ine_t h3765)), ⟨rfl, sub_flat0 eGPart_len h3760 5 (by decide)⟩, (beqb_ff (ine_t h3765)), (F81_ok K a3740 a3741 x3759 _ h3767), (leads_ok (by simp only [leadsAny, List.any_cons, List.any_nil, RV.leads, RC.leads, leadsT, hasSl_lit, Bool.or_false, flat_ns (eInt_ns _), flat_ns eBool_ns, flat_ns eStr_ns, flat_ns eGJob_ns, flat_ns eGEdge_ns, flat_ns eGAsked_ns, flat_ns eGMsg_ns, flat_ns eGrule_ns, flat_ns eGA199_ns, flat_ns eGA202_ns])), (beqb_ff (ine_t h3765)), (ine_t h3765), z⟩
          refine cond_some hF (fun h3768 hF => ?_) (fun h3768 hF => ?_)
          ·
            have pz : HoldAll E H hn86 [.test (bnot r3766) false, .int (wadd .i64 v3756 1) (wadd .i64 v3756 1)] := ⟨(bnot_t h3768), rfl, trivial⟩
            have h0 := ih _ _ hF
            have hn := fun ex ts' => loop_nextC (h := hn86) (l := 0) (c := c86_0) (ts := F86_l0_0_S a3740 a3741 a3742 v3756) (ts1 := (F86_l0_0_S a3740 a3741 a3742 (wadd .i64 v3756 1))) (ex := ex) (ts' := ts') (pq3771 (pq3772 (pq3773 pz))) (by kernel_rfl)
            cases r with
            | inl w => exact hn _ _ h0
            | inr w => exact hn _ _ h0
          have hr := Option.some.inj hF
          subst hr
          have pz : HoldAll E H hn86 [.test (bnot r3766) true] := ⟨(bnot_f h3768), trivial⟩
          exact loop_endC (h := hn86) (l := 0) (c := c86_0) (ts := F86_l0_0_S a3740 a3741 a3742 v3756) (ts' := F86_l0_0_X0 a3740 a3741 a3742 ()) (ex := .ret) (pq3771 (pq3772 (pq3773 pz))) (by kernel_rfl) trivial
        have hr := Option.some.inj hF
        subst hr
        have pz : HoldAll E H hn86 [.test (beqb (ine x3759.Step x3763.Step) false) false, .test (beqb (ine x3759.Step x3763.Step) false) false, .test (beqb (ine x3759.Step x3763.Step) false) false, .test (beqb (ine x3759.Step x3763.Step) false) false, .test (beqb (ine x3759.Step x3763.Step) false) false, .test (beqb (ine x3759.Step x3763.Step) false) false, .test (beqb (ine x3759.Step x3763.Step) false) false, .test (beqb (ine x3759.Step x3763.Step) false) false, .test (ine x3759.Step x3763.Step) true, .test true true] := ⟨(beqb_ft (ine_f h3765)), (beqb_ft (ine_f h3765)), (beqb_ft (ine_f h3765)), (beqb_ft (ine_f h3765)), (beqb_ft (ine_f h3765)), (beqb_ft (ine_f h3765)), (beqb_ft (ine_f h3765)), (beqb_ft (ine_f h3765)), (ine_f h3765), rfl, trivial⟩
        exact loop_endC (h := hn86) (l := 0) (c := c86_0) (ts := F86_l0_0_S a3740 a3741 a3742 v3756) (ts' := F86_l0_0_X0 a3740 a3741 a3742 ()) (ex := .ret) (pq3771 (pq3772 pz)) (by kernel_rfl) trivial
      have hr := Option.some.inj hF
      subst hr
      have pz : HoldAll E H hn86 [.test (beqb (ine x3759.P v3756) false) false, .test (beqb (ine x3759.P v3756) false) false, .test (beqb (ine x3759.P v3756) false) false, .test (beqb (ine x3759.P v3756) false) false, .test (beqb (ine x3759.P v3756) false) false, .test (beqb (ine x3759.P v3756) false) false, .test (beqb (ine x3759.P v3756) false) false, .test (beqb (ine x3759.P v3756) false) false, .test (beqb (ine x3759.P v3756) false) false, .test (beqb (ine x3759.P v3756) false) false, .test (ine x3759.P v3756) true, .test (beqb true false) false, .test (beqb true false) false, .test (beqb true false) false, .test (beqb true false) false, .test (beqb true false) false, .test (beqb true false) false, .test (beqb true false) false, .test (beqb true false) false, .test true true, .test true true] := ⟨(beqb_ft (ine_f h3761)), (beqb_ft (ine_f h3761)), (beqb_ft (ine_f h3761)), (beqb_ft (ine_f h3761)), (beqb_ft (ine_f h3761)), (beqb_ft (ine_f h3761)), (beqb_ft (ine_f h3761)), (beqb_ft (ine_f h3761)), (beqb_ft (ine_f h3761)), (beqb_ft (ine_f h3761)), (ine_f h3761), (beqb_ft rfl), (beqb_ft rfl), (beqb_ft rfl), (beqb_ft rfl), (beqb_ft rfl), (beqb_ft rfl), (beqb_ft rfl), (beqb_ft rfl), rfl, rfl, trivial⟩
      exact loop_endC (h := hn86) (l := 0) (c := c86_0) (ts := F86_l0_0_S a3740 a3741 a3742 v3756) (ts' := F86_l0_0_X0 a3740 a3741 a3742 ()) (ex := .ret) (pq3771 pz) (by kernel_rfl) trivial
    have hr := Option.some.inj hF
    subst hr
    have pz : HoldAll E H hn86 [.int (nlen (len a3742)) (nlen (len a3742)), .test (ilt v3756 (nlen (len a3742))) false] := ⟨rfl, h3757, trivial⟩
    exact loop_endC (h := hn86) (l := 0) (c := c86_0) (ts := F86_l0_0_S a3740 a3741 a3742 v3756) (ts' := F86_l0_0_X1 a3740 a3741 a3742 ()) (ex := (.exit 0)) pz (by kernel_rfl) trivial

def F86_l2_2 (K : Nat) (a3740 : GGraph) (a3741 : GJob) (a3742 : List GPart) (x3779 : GPart) (v3815 : List Int) (v3816 : List Bool) (v3818 : Int) (x3822 : GPart) (x3825 : Int) (x3829 : Bool) : Nat → List GMsg → Int → Option (List GMsg)
  | 0, _, _ => none
  | k + 1, v3838, v3839 =>
    bif (ilt v3839 (nlen (len x3822.In))) then
      (bif (inr v3839 (len x3822.In)) then
      (elAt x3822.In v3839).bind fun x3842 =>
      bif (ieq x3842.To v3818) then
        (bif (apok (len v3838) 1 16) then
        F86_l2_2 K a3740 a3741 a3742 x3779 v3815 v3816 v3818 x3822 x3825 x3829 k (appL v3838 [x3842]) (wadd .i64 v3839 1)
        else none)
      else
      F86_l2_2 K a3740 a3741 a3742 x3779 v3815 v3816 v3818 x3822 x3825 x3829 k v3838 (wadd .i64 v3839 1)
      else none)
    else
    some v3838
def F86_l2_2_S (a3740 : GGraph) (a3741 : GJob) (a3742 : List GPart) (x3779 : GPart) (v3815 : List Int) (v3816 : List Bool) (v3818 : Int) (x3822 : GPart) (x3825 : Int) (x3829 : Bool) (v3838 : List GMsg) (v3839 : Int) : TS := .on [128, 129, 192, 193, 194, 256, 257, 258, 259, 260, 384, 385, 386, 387, 388, 640, 641, 642, 643, 644, 704, 705, 768, 769, 770, 771, 772, 773, 832, 833] [(128, ⟨.one, 0, nob⟩), (129, ⟨.im, 0, (.sl (len a3742) (flat eGPart a3742))⟩), (192, ⟨(.box 62 2), 0, nob⟩), (193, ⟨.im, 0, (.lit (.int .i64 a3740.N))⟩), (194, ⟨.im, 0, (.sl (len a3740.Edges) (flat eGEdge a3740.Edges))⟩), (256, ⟨(.box 64 4), 0, nob⟩), (257, ⟨.im, 0, (.lit (.int .i64 a3741.Prog))⟩), (258, ⟨.im, 0, (.lit (.int .i64 a3741.Source))⟩), (259, ⟨.im, 0, (.lit (.int .i64 a3741.Limit))⟩), (260, ⟨.im, 0, (.lit (.int .i64 a3741.Parts))⟩), (384, ⟨(.box 74 4), 0, nob⟩), (385, ⟨.im, 0, (.lit (.int .i64 0))⟩), (386, ⟨(.own 2), 0, (.sl 0 [])⟩), (387, ⟨(.own 4), 0, (.sl 0 [])⟩), (388, ⟨(.own 130), 0, (.sl 0 [])⟩), (640, ⟨(.box 74 4), 0, nob⟩), (641, ⟨.im, 0, (.lit (.int .i64 x3779.Step))⟩), (642, ⟨(.own 2), 0, (.sl (len (α := Int) (appL v3815 [x3825])) (flat (eInt .i64) (appL v3815 [x3825])))⟩), (643, ⟨(.own 4), 0, (.sl (len (α := Bool) (appL v3816 [x3829])) (flat eBool (appL v3816 [x3829])))⟩), (644, ⟨(.own 130), 0, (.sl (len v3838) (flat eGMsg v3838))⟩), (704, ⟨.one, 0, nob⟩), (705, ⟨.im, 0, (.lit (.int .i64 v3818))⟩), (768, ⟨(.box 42 5), 0, nob⟩), (769, ⟨.im, 0, (.lit (.int .i64 x3822.P))⟩), (770, ⟨.im, 0, (.lit (.int .i64 x3822.Step))⟩), (771, ⟨.im, 0, (.sl (len x3822.Vals) (flat (eInt .i64) x3822.Vals))⟩), (772, ⟨.im, 0, (.sl (len x3822.Rest) (flat eBool x3822.Rest))⟩), (773, ⟨.im, 0, (.sl (len x3822.In) (flat eGMsg x3822.In))⟩), (832, ⟨.one, 0, nob⟩), (833, ⟨.im, 0, (.lit (.int .i64 v3839))⟩)]
def F86_l2_2_X0 (a3740 : GGraph) (a3741 : GJob) (a3742 : List GPart) (x3779 : GPart) (v3815 : List Int) (v3816 : List Bool) (v3818 : Int) (x3822 : GPart) (x3825 : Int) (x3829 : Bool) (w3846 : List GMsg) : TS := .on [128, 129, 192, 193, 194, 256, 257, 258, 259, 260, 384, 385, 386, 387, 388, 640, 641, 642, 643, 644, 704, 705] [(128, ⟨.one, 0, nob⟩), (129, ⟨.im, 0, (.sl (len a3742) (flat eGPart a3742))⟩), (192, ⟨(.box 62 2), 0, nob⟩), (193, ⟨.im, 0, (.lit (.int .i64 a3740.N))⟩), (194, ⟨.im, 0, (.sl (len a3740.Edges) (flat eGEdge a3740.Edges))⟩), (256, ⟨(.box 64 4), 0, nob⟩), (257, ⟨.im, 0, (.lit (.int .i64 a3741.Prog))⟩), (258, ⟨.im, 0, (.lit (.int .i64 a3741.Source))⟩), (259, ⟨.im, 0, (.lit (.int .i64 a3741.Limit))⟩), (260, ⟨.im, 0, (.lit (.int .i64 a3741.Parts))⟩), (384, ⟨(.box 74 4), 0, nob⟩), (385, ⟨.im, 0, (.lit (.int .i64 0))⟩), (386, ⟨(.own 2), 0, (.sl 0 [])⟩), (387, ⟨(.own 4), 0, (.sl 0 [])⟩), (388, ⟨(.own 130), 0, (.sl 0 [])⟩), (640, ⟨(.box 74 4), 0, nob⟩), (641, ⟨.im, 0, (.lit (.int .i64 x3779.Step))⟩), (642, ⟨(.own 2), 0, (.sl (len (α := Int) (appL v3815 [x3825])) (flat (eInt .i64) (appL v3815 [x3825])))⟩), (643, ⟨(.own 4), 0, (.sl (len (α := Bool) (appL v3816 [x3829])) (flat eBool (appL v3816 [x3829])))⟩), (644, ⟨(.own 130), 0, (.sl (len w3846) (flat eGMsg w3846))⟩), (704, ⟨.one, 0, nob⟩), (705, ⟨.im, 0, (.lit (.int .i64 v3818))⟩)]
theorem F86_l2_2_ok (K : Nat) (a3740 : GGraph) (a3741 : GJob) (a3742 : List GPart) (x3779 : GPart) (v3815 : List Int) (v3816 : List Bool) (v3818 : Int) (x3822 : GPart) (x3825 : Int) (x3829 : Bool) : ∀ (k : Nat) (v3838 : List GMsg) (v3839 : Int) (r : List GMsg), F86_l2_2 K a3740 a3741 a3742 x3779 v3815 v3816 v3818 x3822 x3825 x3829 k v3838 v3839 = some r → LoopEv E H hn86 4 c86_2 (F86_l2_2_S a3740 a3741 a3742 x3779 v3815 v3816 v3818 x3822 x3825 x3829 v3838 v3839) (.exit 4) (F86_l2_2_X0 a3740 a3741 a3742 x3779 v3815 v3816 v3818 x3822 x3825 x3829 r) := by
  intro k
  induction k with
  | zero => intro v3838 v3839 r hF; cases hF
  | succ k ih =>
    intro v3838 v3839 r hF
    rw [F86_l2_2] at hF
    refine cond_some hF (fun h3840 hF => ?_) (fun h3840 hF => ?_)
    ·
      refine cond_some hF (fun h3841 hF => ?_) (fun _ hF => nomatch hF)
      refine bind_some hF (fun x3842 h3843 hF => ?_)
      have pq3848 : ∀ {l : List Cond}, HoldAll E H hn86 l → HoldAll E H hn86 (.int (nlen (len x3822.In)) (nlen (len x3822.In)) :: .test (ilt v3839 (nlen (len x3822.In))) true :: .test (inr v3839 (len x3822.In)) true :: .sub (flat eGMsg x3822.In) (nadd (nidx v3839 2) 0) 1 [(.lit (.int .i64 x3842.To))] :: l) := fun z => ⟨rfl, h3840, h3841, ⟨rfl, sub_flat eGMsg_len h3843 0 1 (by decide)⟩, z⟩
      refine cond_some hF (fun h3844 hF => ?_) (fun h3844 hF => ?_)
      ·
        refine cond_some hF (fun h3845 hF => ?_) (fun _ hF => nomatch hF)
        have pz : HoldAll E H hn86 [.test (ieq x3842.To v3818) true, .test (inr v3839 (len x3822.In)) true, .sub (flat eGMsg x3822.In) (nidx v3839 2) 2 [(.lit (.int .i64 x3842.To)), (.lit (.int .i64 x3842.V))], .test (leqm [(.lit (.int .i64 x3842.To)), (.lit (.int .i64 x3842.V))] 1 2) true, .test (apok (len v3838) 1 16) true, .sl (nadd (len v3838) 1) (lapp (flat eGMsg v3838) [(.lit (.int .i64 x3842.To)), (.lit (.int .i64 x3842.V))]) (len (α := GMsg) (appL v3838 [x3842])) (flat eGMsg (appL v3838 [x3842])), .int (wadd .i64 v3839 1) (wadd .i64 v3839 1)] := ⟨h3844, h3841, ⟨rfl, sub_flat0 eGMsg_len h3843 2 (by decide)⟩, rfl, h3845, (app_ok (enc := eGMsg) (v3838 : List GMsg) [x3842]), rfl, trivial⟩
        have h0 := ih _ _ _ hF
        have hn := fun ex ts' => loop_nextC (h := hn86) (l := 4) (c := c86_2) (ts := F86_l2_2_S a3740 a3741 a3742 x3779 v3815 v3816 v3818 x3822 x3825 x3829 v3838 v3839) (ts1 := (F86_l2_2_S a3740 a3741 a3742 x3779 v3815 v3816 v3818 x3822 x3825 x3829 (appL v3838 [x3842]) (wadd .i64 v3839 1))) (ex := ex) (ts' := ts') (pq3848 pz) (by kernel_rfl)
        exact hn _ _ h0
      have pz : HoldAll E H hn86 [.test (ieq x3842.To v3818) false, .int (wadd .i64 v3839 1) (wadd .i64 v3839 1)] := ⟨h3844, rfl, trivial⟩
      have h0 := ih _ _ _ hF
      have hn := fun ex ts' => loop_nextC (h := hn86) (l := 4) (c := c86_2) (ts := F86_l2_2_S a3740 a3741 a3742 x3779 v3815 v3816 v3818 x3822 x3825 x3829 v3838 v3839) (ts1 := (F86_l2_2_S a3740 a3741 a3742 x3779 v3815 v3816 v3818 x3822 x3825 x3829 v3838 (wadd .i64 v3839 1))) (ex := ex) (ts' := ts') (pq3848 pz) (by kernel_rfl)
      exact hn _ _ h0
    have hr := Option.some.inj hF
    subst hr
    have pz : HoldAll E H hn86 [.int (nlen (len x3822.In)) (nlen (len x3822.In)), .test (ilt v3839 (nlen (len x3822.In))) false] := ⟨rfl, h3840, trivial⟩
    exact loop_endC (h := hn86) (l := 4) (c := c86_2) (ts := F86_l2_2_S a3740 a3741 a3742 x3779 v3815 v3816 v3818 x3822 x3825 x3829 v3838 v3839) (ts' := F86_l2_2_X0 a3740 a3741 a3742 x3779 v3815 v3816 v3818 x3822 x3825 x3829 v3838) (ex := (.exit 4)) pz (by kernel_rfl) trivial

def F86_l1_1 (K : Nat) (a3740 : GGraph) (a3741 : GJob) (a3742 : List GPart) (x3779 : GPart) : Nat → List Int → List Bool → List GMsg → Int → Option (List Int × List Bool × List GMsg)
  | 0, _, _, _, _ => none
  | k + 1, v3815, v3816, v3817, v3818 =>
    bif (ilt v3818 a3740.N) then
      (bif (izero a3741.Parts) then none else
      bif (inr (wrem v3818 a3741.Parts) (len a3742)) then
      (elAt a3742 (wrem v3818 a3741.Parts)).bind fun x3822 =>
      bif (inr (wquo .i64 v3818 a3741.Parts) (len x3822.Vals)) then
      (elAt x3822.Vals (wquo .i64 v3818 a3741.Parts)).bind fun x3825 =>
      bif (apok (len v3815) 1 8) then
      bif (inr (wquo .i64 v3818 a3741.Parts) (len x3822.Rest)) then
      (elAt x3822.Rest (wquo .i64 v3818 a3741.Parts)).bind fun x3829 =>
      bif (apok (len v3816) 1 1) then
      (F86_l2_2 K a3740 a3741 a3742 x3779 v3815 v3816 v3818 x3822 x3825 x3829 K v3817 0).bind fun w3851 =>
      F86_l1_1 K a3740 a3741 a3742 x3779 k (appL v3815 [x3825]) (appL v3816 [x3829]) w3851 (wadd .i64 v3818 1)
      else none
      else none
      else none
      else none
      else none)
    else
    some (v3815, (v3816, v3817))
def F86_l1_1_S (a3740 : GGraph) (a3741 : GJob) (a3742 : List GPart) (x3779 : GPart) (v3815 : List Int) (v3816 : List Bool) (v3817 : List GMsg) (v3818 : Int) : TS := .on [128, 129, 192, 193, 194, 256, 257, 258, 259, 260, 384, 385, 386, 387, 388, 640, 641, 642, 643, 644, 704, 705] [(128, ⟨.one, 0, nob⟩), (129, ⟨.im, 0, (.sl (len a3742) (flat eGPart a3742))⟩), (192, ⟨(.box 62 2), 0, nob⟩), (193, ⟨.im, 0, (.lit (.int .i64 a3740.N))⟩), (194, ⟨.im, 0, (.sl (len a3740.Edges) (flat eGEdge a3740.Edges))⟩), (256, ⟨(.box 64 4), 0, nob⟩), (257, ⟨.im, 0, (.lit (.int .i64 a3741.Prog))⟩), (258, ⟨.im, 0, (.lit (.int .i64 a3741.Source))⟩), (259, ⟨.im, 0, (.lit (.int .i64 a3741.Limit))⟩), (260, ⟨.im, 0, (.lit (.int .i64 a3741.Parts))⟩), (384, ⟨(.box 74 4), 0, nob⟩), (385, ⟨.im, 0, (.lit (.int .i64 0))⟩), (386, ⟨(.own 2), 0, (.sl 0 [])⟩), (387, ⟨(.own 4), 0, (.sl 0 [])⟩), (388, ⟨(.own 130), 0, (.sl 0 [])⟩), (640, ⟨(.box 74 4), 0, nob⟩), (641, ⟨.im, 0, (.lit (.int .i64 x3779.Step))⟩), (642, ⟨(.own 2), 0, (.sl (len v3815) (flat (eInt .i64) v3815))⟩), (643, ⟨(.own 4), 0, (.sl (len v3816) (flat eBool v3816))⟩), (644, ⟨(.own 130), 0, (.sl (len v3817) (flat eGMsg v3817))⟩), (704, ⟨.one, 0, nob⟩), (705, ⟨.im, 0, (.lit (.int .i64 v3818))⟩)]
def F86_l1_1_X0 (a3740 : GGraph) (a3741 : GJob) (a3742 : List GPart) (x3779 : GPart) (w3853 : List Int × List Bool × List GMsg) : TS := .on [384, 385, 386, 387, 388, 640, 641, 642, 643, 644] [(384, ⟨(.box 74 4), 0, nob⟩), (385, ⟨.im, 0, (.lit (.int .i64 0))⟩), (386, ⟨(.own 2), 0, (.sl 0 [])⟩), (387, ⟨(.own 4), 0, (.sl 0 [])⟩), (388, ⟨(.own 130), 0, (.sl 0 [])⟩), (640, ⟨(.box 74 4), 0, nob⟩), (641, ⟨.im, 0, (.lit (.int .i64 x3779.Step))⟩), (642, ⟨(.own 2), 0, (.sl (len w3853.1) (flat (eInt .i64) w3853.1))⟩), (643, ⟨(.own 4), 0, (.sl (len w3853.2.1) (flat eBool w3853.2.1))⟩), (644, ⟨(.own 130), 0, (.sl (len w3853.2.2) (flat eGMsg w3853.2.2))⟩)]
theorem F86_l1_1_ok (K : Nat) (a3740 : GGraph) (a3741 : GJob) (a3742 : List GPart) (x3779 : GPart) : ∀ (k : Nat) (v3815 : List Int) (v3816 : List Bool) (v3817 : List GMsg) (v3818 : Int) (r : List Int × List Bool × List GMsg), F86_l1_1 K a3740 a3741 a3742 x3779 k v3815 v3816 v3817 v3818 = some r → LoopEv E H hn86 2 c86_1 (F86_l1_1_S a3740 a3741 a3742 x3779 v3815 v3816 v3817 v3818) (.exit 2) (F86_l1_1_X0 a3740 a3741 a3742 x3779 r) := by
  intro k
  induction k with
  | zero => intro v3815 v3816 v3817 v3818 r hF; cases hF
  | succ k ih =>
    intro v3815 v3816 v3817 v3818 r hF
    rw [F86_l1_1] at hF
    refine cond_some hF (fun h3819 hF => ?_) (fun h3819 hF => ?_)
    ·
      refine cond_some hF (fun _ hF => nomatch hF) (fun h3820 hF => ?_)
      refine cond_some hF (fun h3821 hF => ?_) (fun _ hF => nomatch hF)
      refine bind_some hF (fun x3822 h3823 hF => ?_)
      refine cond_some hF (fun h3824 hF => ?_) (fun _ hF => nomatch hF)
      refine bind_some hF (fun x3825 h3826 hF => ?_)
      refine cond_some hF (fun h3827 hF => ?_) (fun _ hF => nomatch hF)
      refine cond_some hF (fun h3828 hF => ?_) (fun _ hF => nomatch hF)
      refine bind_some hF (fun x3829 h3830 hF => ?_)
      refine cond_some hF (fun h3831 hF => ?_) (fun _ hF => nomatch hF)
      refine bind_some hF (fun w3851 h3849 hF => ?_)
      have pz : HoldAll E H hn86 [.test (ilt v3818 a3740.N) true, .test (izero a3741.Parts) false, .int (wrem v3818 a3741.Parts) (wrem v3818 a3741.Parts), .test (inr (wrem v3818 a3741.Parts) (len a3742)) true, .sub (flat eGPart a3742) (nidx (wrem v3818 a3741.Parts) 5) 5 [(.lit (.int .i64 x3822.P)), (.lit (.int .i64 x3822.Step)), (.sl (len x3822.Vals) (flat (eInt .i64) x3822.Vals)), (.sl (len x3822.Rest) (flat eBool x3822.Rest)), (.sl (len x3822.In) (flat eGMsg x3822.In))], .test (izero a3741.Parts) false, .int (wquo .i64 v3818 a3741.Parts) (wquo .i64 v3818 a3741.Parts), .test (inr (wquo .i64 v3818 a3741.Parts) (len x3822.Vals)) true, .sub (flat (eInt .i64) x3822.Vals) (nidx (wquo .i64 v3818 a3741.Parts) 1) 1 [(.lit (.int .i64 x3825))], .test (leqm [(.lit (.int .i64 x3825))] 1 1) true, .test (apok (len v3815) 1 8) true, .sl (nadd (len v3815) 1) (lapp (flat (eInt .i64) v3815) [(.lit (.int .i64 x3825))]) (len (α := Int) (appL v3815 [x3825])) (flat (eInt .i64) (appL v3815 [x3825])), .test (izero a3741.Parts) false, .int (wquo .i64 v3818 a3741.Parts) (wquo .i64 v3818 a3741.Parts), .test (inr (wquo .i64 v3818 a3741.Parts) (len x3822.Rest)) true, .sub (flat eBool x3822.Rest) (nidx (wquo .i64 v3818 a3741.Parts) 1) 1 [(.lit (.bool x3829))], .test (leqm [(.lit (.bool x3829))] 1 1) true, .test (apok (len v3816) 1 1) true, .sl (nadd (len v3816) 1) (lapp (flat eBool v3816) [(.lit (.bool x3829))]) (len (α := Bool) (appL v3816 [x3829])) (flat eBool (appL v3816 [x3829])), .loop 4 c86_2 (F86_l2_2_S a3740 a3741 a3742 x3779 v3815 v3816 v3818 x3822 x3825 x3829 v3817 0) (.exit 4) (F86_l2_2_X0 a3740 a3741 a3742 x3779 v3815 v3816 v3818 x3822 x3825 x3829 w3851), .int (wadd .i64 v3818 1) (wadd .i64 v3818 1)] := ⟨h3819, h3820, rfl, h3821, ⟨rfl, sub_flat0 eGPart_len h3823 5 (by decide)⟩, h3820, rfl, h3824, ⟨rfl, sub_flat0 (eInt_len _) h3826 1 (by decide)⟩, rfl, h3827, (app_ok (enc := (eInt .i64)) (v3815 : List Int) [x3825]), h3820, rfl, h3828, ⟨rfl, sub_flat0 eBool_len h3830 1 (by decide)⟩, rfl, h3831, (app_ok (enc := eBool) (v3816 : List Bool) [x3829]), (F86_l2_2_ok K a3740 a3741 a3742 x3779 v3815 v3816 v3818 x3822 x3825 x3829 K v3817 0 _ h3849), rfl, trivial⟩
      have h0 := ih _ _ _ _ _ hF
      have hn := fun ex ts' => loop_nextC (h := hn86) (l := 2) (c := c86_1) (ts := F86_l1_1_S a3740 a3741 a3742 x3779 v3815 v3816 v3817 v3818) (ts1 := (F86_l1_1_S a3740 a3741 a3742 x3779 (appL v3815 [x3825]) (appL v3816 [x3829]) w3851 (wadd .i64 v3818 1))) (ex := ex) (ts' := ts') pz (by kernel_rfl)
      exact hn _ _ h0
    have hr := Option.some.inj hF
    subst hr
    have pz : HoldAll E H hn86 [.test (ilt v3818 a3740.N) false] := ⟨h3819, trivial⟩
    exact loop_endC (h := hn86) (l := 2) (c := c86_1) (ts := F86_l1_1_S a3740 a3741 a3742 x3779 v3815 v3816 v3817 v3818) (ts' := F86_l1_1_X0 a3740 a3741 a3742 x3779 (v3815, (v3816, v3817))) (ex := (.exit 2)) pz (by kernel_rfl) trivial

def F86 (K : Nat) (a3740 : GGraph) (a3741 : GJob) (a3742 : List GPart) : Option (GState × Int) :=
  (F59 K a3740 a3741).bind fun r3743 =>
  bif (ieq r3743 0) then
    (bif (ieq (nlen (len a3742)) a3741.Parts) then
      ((F86_l0_0 K a3740 a3741 a3742 K 0).bind fun y3775 =>
      Sum.elim (fun w3776 =>
        some ((GState.mk 0 [] [] []), 1))
        (fun w3777 =>
        bif (inr 0 (len a3742)) then
        (elAt a3742 0).bind fun x3779 =>
        (F86_l1_1 K a3740 a3741 a3742 x3779 K [] [] [] 0).bind fun w3859 =>
        some ((GState.mk x3779.Step w3859.1 w3859.2.1 w3859.2.2), 0)
        else none) y3775)
    else
    some ((GState.mk 0 [] [] []), 1))
  else
  some ((GState.mk 0 [] [] []), r3743)
theorem F86_ok (K : Nat) (a3740 : GGraph) (a3741 : GJob) (a3742 : List GPart) (r : GState × Int) (hF : F86 K a3740 a3741 a3742 = some r) : Evt E H 86 [.agg (eGGraph a3740), .agg (eGJob a3741), .one (.sl (len a3742) (flat eGPart a3742))] (F86_res r) := by
  rw [F86] at hF
  refine bind_some hF (fun r3743 h3744 hF => ?_)
  refine cond_some hF (fun h3745 hF => ?_) (fun h3745 hF => ?_)
  ·
    have pq3863 : ∀ {l : List Cond}, HoldAll E H hn86 l → HoldAll E H hn86 (.call 59 [.agg (eGGraph a3740), .agg (eGJob a3741)] (F59_res r3743) :: .test (leadsAny (Res.mk [(.one (.im (.lit (.int .i64 r3743))))] [])) false :: .test (ine r3743 0) false :: .int (nlen (len a3742)) (nlen (len a3742)) :: l) := fun z => ⟨(F59_ok K a3740 a3741 _ h3744), (leads_ok (by simp only [leadsAny, List.any_cons, List.any_nil, RV.leads, RC.leads, leadsT, hasSl_lit, Bool.or_false, flat_ns (eInt_ns _), flat_ns eBool_ns, flat_ns eStr_ns, flat_ns eGJob_ns, flat_ns eGEdge_ns, flat_ns eGAsked_ns, flat_ns eGMsg_ns, flat_ns eGrule_ns, flat_ns eGA199_ns, flat_ns eGA202_ns])), (ine_t h3745), rfl, z⟩
    refine cond_some hF (fun h3746 hF => ?_) (fun h3746 hF => ?_)
    ·
      refine bind_some hF (fun y3775 h3774 hF => ?_)
      refine sum_some hF (fun w3776 hx hF => ?_) (fun w3777 hx hF => ?_)
      ·
        subst hx
        have hr := Option.some.inj hF
        subst hr
        have pz : HoldAll E H hn86 [.test (ine (nlen (len a3742)) a3741.Parts) false, .loop 0 c86_0 (F86_l0_0_S a3740 a3741 a3742 0) .ret (F86_l0_0_X0 a3740 a3741 a3742 w3776)] := ⟨(ine_t h3746), (F86_l0_0_ok K a3740 a3741 a3742 K 0 _ h3774), trivial⟩
        exact fn_playC hn86 (f := 86) (ads := [.agg (eGGraph a3740), .agg (eGJob a3741), .one (.sl (len a3742) (flat eGPart a3742))]) (r := F86_res ((GState.mk 0 [] [] []), 1)) (pq3863 pz) (by kernel_rfl) (by kernel_rfl)
      subst hx
      refine cond_some hF (fun h3778 hF => ?_) (fun _ hF => nomatch hF)
      refine bind_some hF (fun x3779 h3780 hF => ?_)
      refine bind_some hF (fun w3859 h3857 hF => ?_)
      have hr := Option.some.inj hF
      subst hr
      have pz : HoldAll E H hn86 [.test (ine (nlen (len a3742)) a3741.Parts) false, .loop 0 c86_0 (F86_l0_0_S a3740 a3741 a3742 0) (.exit 0) (F86_l0_0_X1 a3740 a3741 a3742 w3777), .test (inr 0 (len a3742)) true, .sub (flat eGPart a3742) (nadd (nidx 0 5) 1) 1 [(.lit (.int .i64 x3779.Step))], .loop 2 c86_1 (F86_l1_1_S a3740 a3741 a3742 x3779 [] [] [] 0) (.exit 2) (F86_l1_1_X0 a3740 a3741 a3742 x3779 w3859)] := ⟨(ine_t h3746), (F86_l0_0_ok K a3740 a3741 a3742 K 0 _ h3774), h3778, ⟨rfl, sub_flat eGPart_len h3780 1 1 (by decide)⟩, (F86_l1_1_ok K a3740 a3741 a3742 x3779 K [] [] [] 0 _ h3857), trivial⟩
      exact fn_playC hn86 (f := 86) (ads := [.agg (eGGraph a3740), .agg (eGJob a3741), .one (.sl (len a3742) (flat eGPart a3742))]) (r := F86_res ((GState.mk x3779.Step w3859.1 w3859.2.1 w3859.2.2), 0)) (pq3863 pz) (by kernel_rfl) (by kernel_rfl)
    have hr := Option.some.inj hF
    subst hr
    have pz : HoldAll E H hn86 [.test (ine (nlen (len a3742)) a3741.Parts) true] := ⟨(ine_f h3746), trivial⟩
    exact fn_playC hn86 (f := 86) (ads := [.agg (eGGraph a3740), .agg (eGJob a3741), .one (.sl (len a3742) (flat eGPart a3742))]) (r := F86_res ((GState.mk 0 [] [] []), 1)) (pq3863 pz) (by kernel_rfl) (by kernel_rfl)
  have hr := Option.some.inj hF
  subst hr
  have pz : HoldAll E H hn86 [.call 59 [.agg (eGGraph a3740), .agg (eGJob a3741)] (F59_res r3743), .test (leadsAny (Res.mk [(.one (.im (.lit (.int .i64 r3743))))] [])) false, .test (ine r3743 0) true] := ⟨(F59_ok K a3740 a3741 _ h3744), (leads_ok (by simp only [leadsAny, List.any_cons, List.any_nil, RV.leads, RC.leads, leadsT, hasSl_lit, Bool.or_false, flat_ns (eInt_ns _), flat_ns eBool_ns, flat_ns eStr_ns, flat_ns eGJob_ns, flat_ns eGEdge_ns, flat_ns eGAsked_ns, flat_ns eGMsg_ns, flat_ns eGrule_ns, flat_ns eGA199_ns, flat_ns eGA202_ns])), (ine_f h3745), trivial⟩
  exact fn_playC hn86 (f := 86) (ads := [.agg (eGGraph a3740), .agg (eGJob a3741), .one (.sl (len a3742) (flat eGPart a3742))]) (r := F86_res ((GState.mk 0 [] [] []), r3743)) pz (by kernel_rfl) (by kernel_rfl)

/-! ### haywain/haywainref06.Same -/
noncomputable def hn87 : Hint := { H 87 with nt := 31, prot := 0 }
def F87_res (r3880 : Bool) : Res := ⟨[(.one (.im (.lit (.bool r3880))))], []⟩
def F87 (K : Nat) (a3867 : GState) (a3868 : GState) : Option (Bool) :=
  bif (ieq a3867.Step a3868.Step) then
    ((F140 K a3867.Vals a3868.Vals).bind fun r3870 =>
    bif r3870 then
      ((F141 K a3867.Rest a3868.Rest).bind fun r3873 =>
      bif r3873 then
        ((F89 K a3867.In a3868.In).bind fun r3876 =>
        some r3876)
      else
      some false)
    else
    some false)
  else
  some false
theorem F87_ok (K : Nat) (a3867 : GState) (a3868 : GState) (r : Bool) (hF : F87 K a3867 a3868 = some r) : Evt E H 87 [.agg (eGState a3867), .agg (eGState a3868)] (F87_res r) := by
  rw [F87] at hF
  refine cond_some hF (fun h3869 hF => ?_) (fun h3869 hF => ?_)
  ·
    refine bind_some hF (fun r3870 h3871 hF => ?_)
    have pq3878 : ∀ {l : List Cond}, HoldAll E H hn87 l → HoldAll E H hn87 (.test (beqb (ieq a3867.Step a3868.Step) true) true :: .test (beqb (ieq a3867.Step a3868.Step) true) true :: .test (beqb (ieq a3867.Step a3868.Step) true) true :: .test (beqb (ieq a3867.Step a3868.Step) true) true :: .test (beqb (ieq a3867.Step a3868.Step) true) true :: .call 140 [.one (.sl (len a3867.Vals) (flat (eInt .i64) a3867.Vals)), .one (.sl (len a3868.Vals) (flat (eInt .i64) a3868.Vals))] (F140_res r3870) :: .test (leadsAny (Res.mk [(.one (.im (.lit (.bool r3870))))] [])) false :: .test (ieq a3867.Step a3868.Step) true :: l) := fun z => ⟨(beqb_t h3869), (beqb_t h3869), (beqb_t h3869), (beqb_t h3869), (beqb_t h3869), (F140_ok K a3867.Vals a3868.Vals _ h3871), (leads_ok (by simp only [leadsAny, List.any_cons, List.any_nil, RV.leads, RC.leads, leadsT, hasSl_lit, Bool.or_false, flat_ns (eInt_ns _), flat_ns eBool_ns, flat_ns eStr_ns, flat_ns eGJob_ns, flat_ns eGEdge_ns, flat_ns eGAsked_ns, flat_ns eGMsg_ns, flat_ns eGrule_ns, flat_ns eGA199_ns, flat_ns eGA202_ns])), h3869, z⟩
    refine cond_some hF (fun h3872 hF => ?_) (fun h3872 hF => ?_)
    ·
      refine bind_some hF (fun r3873 h3874 hF => ?_)
      have pq3879 : ∀ {l : List Cond}, HoldAll E H hn87 l → HoldAll E H hn87 (.test (beqb r3870 true) true :: .test (beqb r3870 true) true :: .test (beqb r3870 true) true :: .test (beqb r3870 true) true :: .test (beqb r3870 true) true :: .call 141 [.one (.sl (len a3867.Rest) (flat eBool a3867.Rest)), .one (.sl (len a3868.Rest) (flat eBool a3868.Rest))] (F141_res r3873) :: .test (leadsAny (Res.mk [(.one (.im (.lit (.bool r3873))))] [])) false :: .test r3870 true :: l) := fun z => ⟨(beqb_t h3872), (beqb_t h3872), (beqb_t h3872), (beqb_t h3872), (beqb_t h3872), (F141_ok K a3867.Rest a3868.Rest _ h3874), (leads_ok (by simp only [leadsAny, List.any_cons, List.any_nil, RV.leads, RC.leads, leadsT, hasSl_lit, Bool.or_false, flat_ns (eInt_ns _), flat_ns eBool_ns, flat_ns eStr_ns, flat_ns eGJob_ns, flat_ns eGEdge_ns, flat_ns eGAsked_ns, flat_ns eGMsg_ns, flat_ns eGrule_ns, flat_ns eGA199_ns, flat_ns eGA202_ns])), h3872, z⟩
      refine cond_some hF (fun h3875 hF => ?_) (fun h3875 hF => ?_)
      ·
        refine bind_some hF (fun r3876 h3877 hF => ?_)
        have hr := Option.some.inj hF
        subst hr
        have pz : HoldAll E H hn87 [.test (beqb r3873 true) true, .test (beqb r3873 true) true, .test (beqb r3873 true) true, .test (beqb r3873 true) true, .test (beqb r3873 true) true, .call 89 [.one (.sl (len a3867.In) (flat eGMsg a3867.In)), .one (.sl (len a3868.In) (flat eGMsg a3868.In))] (F89_res r3876), .test (leadsAny (Res.mk [(.one (.im (.lit (.bool r3876))))] [])) false, .test r3873 true] := ⟨(beqb_t h3875), (beqb_t h3875), (beqb_t h3875), (beqb_t h3875), (beqb_t h3875), (F89_ok K a3867.In a3868.In _ h3877), (leads_ok (by simp only [leadsAny, List.any_cons, List.any_nil, RV.leads, RC.leads, leadsT, hasSl_lit, Bool.or_false, flat_ns (eInt_ns _), flat_ns eBool_ns, flat_ns eStr_ns, flat_ns eGJob_ns, flat_ns eGEdge_ns, flat_ns eGAsked_ns, flat_ns eGMsg_ns, flat_ns eGrule_ns, flat_ns eGA199_ns, flat_ns eGA202_ns])), h3875, trivial⟩
        exact fn_playC hn87 (f := 87) (ads := [.agg (eGState a3867), .agg (eGState a3868)]) (r := F87_res r3876) (pq3878 (pq3879 pz)) (by kernel_rfl) (by kernel_rfl)
      have hr := Option.some.inj hF
      subst hr
      have pz : HoldAll E H hn87 [.test (beqb r3873 true) false, .test (beqb r3873 true) false, .test (beqb r3873 true) false, .test (beqb r3873 true) false, .test (beqb r3873 true) false, .test r3873 false] := ⟨(beqb_t h3875), (beqb_t h3875), (beqb_t h3875), (beqb_t h3875), (beqb_t h3875), h3875, trivial⟩
      exact fn_playC hn87 (f := 87) (ads := [.agg (eGState a3867), .agg (eGState a3868)]) (r := F87_res false) (pq3878 (pq3879 pz)) (by kernel_rfl) (by kernel_rfl)
    have hr := Option.some.inj hF
    subst hr
    have pz : HoldAll E H hn87 [.test (beqb r3870 true) false, .test (beqb r3870 true) false, .test (beqb r3870 true) false, .test (beqb r3870 true) false, .test (beqb r3870 true) false, .test r3870 false, .test (beqb false true) false, .test (beqb false true) false, .test (beqb false true) false, .test (beqb false true) false, .test (beqb false true) false, .test false false] := ⟨(beqb_t h3872), (beqb_t h3872), (beqb_t h3872), (beqb_t h3872), (beqb_t h3872), h3872, (beqb_t rfl), (beqb_t rfl), (beqb_t rfl), (beqb_t rfl), (beqb_t rfl), rfl, trivial⟩
    exact fn_playC hn87 (f := 87) (ads := [.agg (eGState a3867), .agg (eGState a3868)]) (r := F87_res false) (pq3878 pz) (by kernel_rfl) (by kernel_rfl)
  have hr := Option.some.inj hF
  subst hr
  have pz : HoldAll E H hn87 [.test (beqb (ieq a3867.Step a3868.Step) true) false, .test (beqb (ieq a3867.Step a3868.Step) true) false, .test (beqb (ieq a3867.Step a3868.Step) true) false, .test (beqb (ieq a3867.Step a3868.Step) true) false, .test (beqb (ieq a3867.Step a3868.Step) true) false, .test (ieq a3867.Step a3868.Step) false, .test (beqb false true) false, .test (beqb false true) false, .test (beqb false true) false, .test (beqb false true) false, .test (beqb false true) false, .test false false, .test (beqb false true) false, .test (beqb false true) false, .test (beqb false true) false, .test (beqb false true) false, .test (beqb false true) false, .test false false] := ⟨(beqb_t h3869), (beqb_t h3869), (beqb_t h3869), (beqb_t h3869), (beqb_t h3869), h3869, (beqb_t rfl), (beqb_t rfl), (beqb_t rfl), (beqb_t rfl), (beqb_t rfl), rfl, (beqb_t rfl), (beqb_t rfl), (beqb_t rfl), (beqb_t rfl), (beqb_t rfl), rfl, trivial⟩
  exact fn_playC hn87 (f := 87) (ads := [.agg (eGState a3867), .agg (eGState a3868)]) (r := F87_res false) pz (by kernel_rfl) (by kernel_rfl)

end Go.Proofs.Ytnjanliihnadjaa.Tm

/- Printed by program: what each function computes, and that the machine answers so. Conditions: none. -/
import Derived.Test.YtnjanliihnadjaaTy
import Derived.Test.YtnjanliihnadjaaTab
import Derived.Test.YtnjanliihnadjaaKn
import Derived.Test.YtnjanliihnadjaaFP
import Derived.KernelRfl
set_option linter.unusedVariables false
set_option linter.unusedSimpArgs false
namespace Go.Proofs.Ytnjanliihnadjaa.Tm
open Go
/-! ### haywain/haywainref07.Verts -/
noncomputable def hn139 : Hint := { H 139 with nt := 26, prot := 0 }
noncomputable def c139_0 : Code := loopOf E 139 0
def F139_res (r2195 : List Int) : Res := ⟨[(.one (.own 3 (.sl (len r2195) (flat (eInt .i64) r2195))))], []⟩
def F139_l0_0 (K : Nat) (a2175 : GGraph) (a2176 : GJob) (a2177 : Int) : Nat → List Int → Int → Option (List Int)
  | 0, _, _ => none
  | k + 1, v2182, v2183 =>
    bif (ilt v2183 a2175.N) then
      (bif (izero a2176.Parts) then none else
      bif (ieq (wrem v2183 a2176.Parts) a2177) then
        (bif (apok (len v2182) 1 8) then
        F139_l0_0 K a2175 a2176 a2177 k (appL v2182 [v2183]) (wadd .i64 v2183 1)
        else none)
      else
      F139_l0_0 K a2175 a2176 a2177 k v2182 (wadd .i64 v2183 1))
    else
    some v2182
def F139_l0_0_S (a2175 : GGraph) (a2176 : GJob) (a2177 : Int) (v2182 : List Int) (v2183 : Int) : TS := .on [128, 129, 192, 193, 194, 256, 257, 258, 259, 260, 448, 449, 512, 513] [(128, ⟨.one, 0, nob⟩), (129, ⟨.im, 0, (.lit (.int .i64 a2177))⟩), (192, ⟨(.box 62 2), 0, nob⟩), (193, ⟨.im, 0, (.lit (.int .i64 a2175.N))⟩), (194, ⟨.im, 0, (.sl (len a2175.Edges) (flat eGEdge a2175.Edges))⟩), (256, ⟨(.box 64 4), 0, nob⟩), (257, ⟨.im, 0, (.lit (.int .i64 a2176.Prog))⟩), (258, ⟨.im, 0, (.lit (.int .i64 a2176.Source))⟩), (259, ⟨.im, 0, (.lit (.int .i64 a2176.Limit))⟩), (260, ⟨.im, 0, (.lit (.int .i64 a2176.Parts))⟩), (448, ⟨.one, 0, nob⟩), (449, ⟨(.own 3), 0, (.sl (len v2182) (flat (eInt .i64) v2182))⟩), (512, ⟨.one, 0, nob⟩), (513, ⟨.im, 0, (.lit (.int .i64 v2183))⟩)]
def F139_l0_0_X0 (a2175 : GGraph) (a2176 : GJob) (a2177 : Int) (w2188 : List Int) : TS := .on [448, 449] [(448, ⟨.one, 0, nob⟩), (449, ⟨(.own 3), 0, (.sl (len w2188) (flat (eInt .i64) w2188))⟩)]
theorem F139_l0_0_ok (K : Nat) (a2175 : GGraph) (a2176 : GJob) (a2177 : Int) : ∀ (k : Nat) (v2182 : List Int) (v2183 : Int) (r : List Int), F139_l0_0 K a2175 a2176 a2177 k v2182 v2183 = some r → LoopEv E H hn139 0 c139_0 (F139_l0_0_S a2175 a2176 a2177 v2182 v2183) (.exit 0) (F139_l0_0_X0 a2175 a2176 a2177 r) := by
  intro k
  induction k with
  | zero => intro v2182 v2183 r hF; cases hF
  | succ k ih =>
    intro v2182 v2183 r hF
    rw [F139_l0_0] at hF
    refine cond_some hF (fun h2184 hF => ?_) (fun h2184 hF => ?_)
    ·
      refine cond_some hF (fun _ hF => nomatch hF) (fun h2185 hF => ?_)
      have pq2190 : ∀ {l : List Cond}, HoldAll E H hn139 l → HoldAll E H hn139 (.test (ilt v2183 a2175.N) true :: .test (izero a2176.Parts) false :: .int (wrem v2183 a2176.Parts) (wrem v2183 a2176.Parts) :: l) := fun z => ⟨h2184, h2185, rfl, z⟩
      refine cond_some hF (fun h2186 hF => ?_) (fun h2186 hF => ?_)
      ·
        refine cond_some hF (fun h2187 hF => ?_) (fun _ hF => nomatch hF)
        have pz : HoldAll E H hn139 [.test (ieq (wrem v2183 a2176.Parts) a2177) true, .test (leqm [(.lit (.int .i64 v2183))] 1 1) true, .test (apok (len v2182) 1 8) true, .sl (nadd (len v2182) 1) (lapp (flat (eInt .i64) v2182) [(.lit (.int .i64 v2183))]) (len (α := Int) (appL v2182 [v2183])) (flat (eInt .i64) (appL v2182 [v2183])), .int (wadd .i64 v2183 1) (wadd .i64 v2183 1)] := ⟨h2186, rfl, h2187, (app_ok (enc := (eInt .i64)) (v2182 : List Int) [v2183]), rfl, trivial⟩
        have h0 := ih _ _ _ hF
        have hn := fun ex ts' => loop_nextC (h := hn139) (l := 0) (c := c139_0) (ts := F139_l0_0_S a2175 a2176 a2177 v2182 v2183) (ts1 := (F139_l0_0_S a2175 a2176 a2177 (appL v2182 [v2183]) (wadd .i64 v2183 1))) (ex := ex) (ts' := ts') (pq2190 pz) (by kernel_rfl)
        exact hn _ _ h0
      have pz : HoldAll E H hn139 [.test (ieq (wrem v2183 a2176.Parts) a2177) false, .int (wadd .i64 v2183 1) (wadd .i64 v2183 1)] := ⟨h2186, rfl, trivial⟩
      have h0 := ih _ _ _ hF
      have hn := fun ex ts' => loop_nextC (h := hn139) (l := 0) (c := c139_0) (ts := F139_l0_0_S a2175 a2176 a2177 v2182 v2183) (ts1 := (F139_l0_0_S a2175 a2176 a2177 v2182 (wadd .i64 v2183 1))) (ex := ex) (ts' := ts') (pq2190 pz) (by kernel_rfl)
      exact hn _ _ h0
    have hr := Option.some.inj hF
    subst hr
    have pz : HoldAll E H hn139 [.test (ilt v2183 a2175.N) false] := ⟨h2184, trivial⟩
    exact loop_endC (h := hn139) (l := 0) (c := c139_0) (ts := F139_l0_0_S a2175 a2176 a2177 v2182 v2183) (ts' := F139_l0_0_X0 a2175 a2176 a2177 v2182) (ex := (.exit 0)) pz (by kernel_rfl) trivial

def F139 (K : Nat) (a2175 : GGraph) (a2176 : GJob) (a2177 : Int) : Option (List Int) :=
  (F139_l0_0 K a2175 a2176 a2177 K [] 0).bind fun w2193 =>
  some w2193
theorem F139_ok (K : Nat) (a2175 : GGraph) (a2176 : GJob) (a2177 : Int) (r : List Int) (hF : F139 K a2175 a2176 a2177 = some r) : Evt E H 139 [.agg (eGGraph a2175), .agg (eGJob a2176), .one (.lit (.int .i64 a2177))] (F139_res r) := by
  rw [F139] at hF
  refine bind_some hF (fun w2193 h2191 hF => ?_)
  have hr := Option.some.inj hF
  subst hr
  have pz : HoldAll E H hn139 [.loop 0 c139_0 (F139_l0_0_S a2175 a2176 a2177 [] 0) (.exit 0) (F139_l0_0_X0 a2175 a2176 a2177 w2193)] := ⟨(F139_l0_0_ok K a2175 a2176 a2177 K [] 0 _ h2191), trivial⟩
  exact fn_playC hn139 (f := 139) (ads := [.agg (eGGraph a2175), .agg (eGJob a2176), .one (.lit (.int .i64 a2177))]) (r := F139_res w2193) pz (by kernel_rfl) (by kernel_rfl)

/-! ### haywain/haywainlaw07.great -/
noncomputable def hn73 : Hint := { H 73 with nt := 7, prot := 0 }
def F73_res (r3100 : Bool) : Res := ⟨[(.one (.im (.lit (.bool r3100))))], []⟩
def F73 (K : Nat) (a3099 : GGraph) : Option (Bool) :=
  some (igt (nlen (len a3099.Edges)) 200)
theorem F73_ok (K : Nat) (a3099 : GGraph) (r : Bool) (hF : F73 K a3099 = some r) : Evt E H 73 [.agg (eGGraph a3099)] (F73_res r) := by
  rw [F73] at hF
  have hr := Option.some.inj hF
  subst hr
  have pz : HoldAll E H hn73 [.int (nlen (len a3099.Edges)) (nlen (len a3099.Edges))] := ⟨rfl, trivial⟩
  exact fn_playC hn73 (f := 73) (ads := [.agg (eGGraph a3099)]) (r := F73_res (igt (nlen (len a3099.Edges)) 200)) pz (by kernel_rfl) (by kernel_rfl)

/-! ### haywain/part.Home -/
noncomputable def hn75 : Hint := { H 75 with nt := 21, prot := 0 }
def F75_res (r3112 : Int) : Res := ⟨[(.one (.im (.lit (.int .i64 r3112))))], []⟩
def F75 (K : Nat) (a3104 : GJob) (a3105 : Int) : Option (Int) :=
  bif (ilt a3105 0) then
    (some (-1))
  else
  bif (ilt a3104.Parts 1) then
    (some (-1))
  else
  bif (ilt 6 a3104.Parts) then
    (some (-1))
  else
  bif (izero a3104.Parts) then none else
  some (wrem a3105 a3104.Parts)
theorem F75_ok (K : Nat) (a3104 : GJob) (a3105 : Int) (r : Int) (hF : F75 K a3104 a3105 = some r) : Evt E H 75 [.agg (eGJob a3104), .one (.lit (.int .i64 a3105))] (F75_res r) := by
  rw [F75] at hF
  refine cond_some hF (fun h3106 hF => ?_) (fun h3106 hF => ?_)
  ·
    have hr := Option.some.inj hF
    subst hr
    have pz : HoldAll E H hn75 [.test (beqb (ilt a3105 0) false) false, .test (beqb (ilt a3105 0) false) false, .test (beqb (ilt a3105 0) false) false, .test (ilt a3105 0) true, .test (beqb true false) false, .test (beqb true false) false, .test (beqb true false) false, .test true true, .test true true] := ⟨(beqb_ft h3106), (beqb_ft h3106), (beqb_ft h3106), h3106, (beqb_ft rfl), (beqb_ft rfl), (beqb_ft rfl), rfl, rfl, trivial⟩
    exact fn_playC hn75 (f := 75) (ads := [.agg (eGJob a3104), .one (.lit (.int .i64 a3105))]) (r := F75_res (-1)) pz (by kernel_rfl) (by kernel_rfl)
  have pq3110 : ∀ {l : List Cond}, HoldAll E H hn75 l → HoldAll E H hn75 (.test (beqb (ilt a3105 0) false) true :: .test (beqb (ilt a3105 0) false) true :: .test (beqb (ilt a3105 0) false) true :: .test (ilt a3105 0) false :: l) := fun z => ⟨(beqb_ff h3106), (beqb_ff h3106), (beqb_ff h3106), h3106, z⟩
  refine cond_some hF (fun h3107 hF => ?_) (fun h3107 hF => ?_)
  ·
    have hr := Option.some.inj hF
    subst hr
    have pz : HoldAll E H hn75 [.test (beqb (ilt a3104.Parts 1) false) false, .test (beqb (ilt a3104.Parts 1) false) false, .test (beqb (ilt a3104.Parts 1) false) false, .test (ilt a3104.Parts 1) true, .test true true] := ⟨(beqb_ft h3107), (beqb_ft h3107), (beqb_ft h3107), h3107, rfl, trivial⟩
    exact fn_playC hn75 (f := 75) (ads := [.agg (eGJob a3104), .one (.lit (.int .i64 a3105))]) (r := F75_res (-1)) (pq3110 pz) (by kernel_rfl) (by kernel_rfl)
  have pq3111 : ∀ {l : List Cond}, HoldAll E H hn75 l → HoldAll E H hn75 (.test (beqb (ilt a3104.Parts 1) false) true :: .test (beqb (ilt a3104.Parts 1) false) true :: .test (beqb (ilt a3104.Parts 1) false) true :: .test (ilt a3104.Parts 1) false :: l) := fun z => ⟨(beqb_ff h3107), (beqb_ff h3107), (beqb_ff h3107), h3107, z⟩
  refine cond_some hF (fun h3108 hF => ?_) (fun h3108 hF => ?_)
  ·
    have hr := Option.some.inj hF
    subst hr
    have pz : HoldAll E H hn75 [.test (igt a3104.Parts 6) true] := ⟨(igt_eq h3108), trivial⟩
    exact fn_playC hn75 (f := 75) (ads := [.agg (eGJob a3104), .one (.lit (.int .i64 a3105))]) (r := F75_res (-1)) (pq3110 (pq3111 pz)) (by kernel_rfl) (by kernel_rfl)
  refine cond_some hF (fun _ hF => nomatch hF) (fun h3109 hF => ?_)
  have hr := Option.some.inj hF
  subst hr
  have pz : HoldAll E H hn75 [.test (igt a3104.Parts 6) false, .test (izero a3104.Parts) false, .int (wrem a3105 a3104.Parts) (wrem a3105 a3104.Parts)] := ⟨(igt_eq h3108), h3109, rfl, trivial⟩
  exact fn_playC hn75 (f := 75) (ads := [.agg (eGJob a3104), .one (.lit (.int .i64 a3105))]) (r := F75_res (wrem a3105 a3104.Parts)) (pq3110 (pq3111 pz)) (by kernel_rfl) (by kernel_rfl)

/-! ### haywain/haywainref07.Home -/
noncomputable def hn76 : Hint := { H 76 with nt := 26, prot := 0 }
def F76_res (r3123 : Int) : Res := ⟨[(.one (.im (.lit (.int .i64 r3123))))], []⟩
def F76 (K : Nat) (a3115 : GJob) (a3116 : Int) : Option (Int) :=
  bif (ilt a3116 0) then
    (some (-1))
  else
  bif (ilt a3115.Parts 1) then
    (some (-1))
  else
  bif (ilt 6 a3115.Parts) then
    (some (-1))
  else
  bif (izero a3115.Parts) then none else
  some (wsub .i64 a3116 (wmul .i64 (wquo .i64 a3116 a3115.Parts) a3115.Parts))
theorem F76_ok (K : Nat) (a3115 : GJob) (a3116 : Int) (r : Int) (hF : F76 K a3115 a3116 = some r) : Evt E H 76 [.agg (eGJob a3115), .one (.lit (.int .i64 a3116))] (F76_res r) := by
  rw [F76] at hF
  refine cond_some hF (fun h3117 hF => ?_) (fun h3117 hF => ?_)
  ·
    have hr := Option.some.inj hF
    subst hr
    have pz : HoldAll E H hn76 [.test (beqb (ilt a3116 0) false) false, .test (beqb (ilt a3116 0) false) false, .test (beqb (ilt a3116 0) false) false, .test (ilt a3116 0) true, .test (beqb true false) false, .test (beqb true false) false, .test (beqb true false) false, .test true true, .test true true] := ⟨(beqb_ft h3117), (beqb_ft h3117), (beqb_ft h3117), h3117, (beqb_ft rfl), (beqb_ft rfl), (beqb_ft rfl), rfl, rfl, trivial⟩
    exact fn_playC hn76 (f := 76) (ads := [.agg (eGJob a3115), .one (.lit (.int .i64 a3116))]) (r := F76_res (-1)) pz (by kernel_rfl) (by kernel_rfl)
  have pq3121 : ∀ {l : List Cond}, HoldAll E H hn76 l → HoldAll E H hn76 (.test (beqb (ilt a3116 0) false) true :: .test (beqb (ilt a3116 0) false) true :: .test (beqb (ilt a3116 0) false) true :: .test (ilt a3116 0) false :: l) := fun z => ⟨(beqb_ff h3117), (beqb_ff h3117), (beqb_ff h3117), h3117, z⟩
  refine cond_some hF (fun h3118 hF => ?_) (fun h3118 hF => ?_)
  ·
    have hr := Option.some.inj hF
    subst hr
    have pz : HoldAll E H hn76 [.test (beqb (ilt a3115.Parts 1) false) false, .test (beqb (ilt a3115.Parts 1) false) false, .test (beqb (ilt a3115.Parts 1) false) false, .test (ilt a3115.Parts 1) true, .test true true] := ⟨(beqb_ft h3118), (beqb_ft h3118), (beqb_ft h3118), h3118, rfl, trivial⟩
    exact fn_playC hn76 (f := 76) (ads := [.agg (eGJob a3115), .one (.lit (.int .i64 a3116))]) (r := F76_res (-1)) (pq3121 pz) (by kernel_rfl) (by kernel_rfl)
  have pq3122 : ∀ {l : List Cond}, HoldAll E H hn76 l → HoldAll E H hn76 (.test (beqb (ilt a3115.Parts 1) false) true :: .test (beqb (ilt a3115.Parts 1) false) true :: .test (beqb (ilt a3115.Parts 1) false) true :: .test (ilt a3115.Parts 1) false :: l) := fun z => ⟨(beqb_ff h3118), (beqb_ff h3118), (beqb_ff h3118), h3118, z⟩
  refine cond_some hF (fun h3119 hF => ?_) (fun h3119 hF => ?_)
  ·
    have hr := Option.some.inj hF
    subst hr
    have pz : HoldAll E H hn76 [.test (igt a3115.Parts 6) true] := ⟨(igt_eq h3119), trivial⟩
    exact fn_playC hn76 (f := 76) (ads := [.agg (eGJob a3115), .one (.lit (.int .i64 a3116))]) (r := F76_res (-1)) (pq3121 (pq3122 pz)) (by kernel_rfl) (by kernel_rfl)
  refine cond_some hF (fun _ hF => nomatch hF) (fun h3120 hF => ?_)
  have hr := Option.some.inj hF
  subst hr
  have pz : HoldAll E H hn76 [.test (igt a3115.Parts 6) false, .test (izero a3115.Parts) false, .int (wquo .i64 a3116 a3115.Parts) (wquo .i64 a3116 a3115.Parts), .int (wmul .i64 (wquo .i64 a3116 a3115.Parts) a3115.Parts) (wmul .i64 (wquo .i64 a3116 a3115.Parts) a3115.Parts), .int (wsub .i64 a3116 (wmul .i64 (wquo .i64 a3116 a3115.Parts) a3115.Parts)) (wsub .i64 a3116 (wmul .i64 (wquo .i64 a3116 a3115.Parts) a3115.Parts))] := ⟨(igt_eq h3119), h3120, rfl, rfl, rfl, trivial⟩
  exact fn_playC hn76 (f := 76) (ads := [.agg (eGJob a3115), .one (.lit (.int .i64 a3116))]) (r := F76_res (wsub .i64 a3116 (wmul .i64 (wquo .i64 a3116 a3115.Parts) a3115.Parts))) (pq3121 (pq3122 pz)) (by kernel_rfl) (by kernel_rfl)

/-! ### haywain/part.count -/
noncomputable def hn138 : Hint := { H 138 with nt := 22, prot := 0 }
def F138_res (r3241 : Int) : Res := ⟨[(.one (.im (.lit (.int .i64 r3241))))], []⟩
def F138 (K : Nat) (a3234 : Int) (a3235 : Int) (a3236 : Int) : Option (Int) :=
  bif (ilt a3236 0) then
    (some 0)
  else
  bif (ile a3235 a3236) then
    (some 0)
  else
  bif (izero a3235) then none else
  some (wquo .i64 (wsub .i64 (wadd .i64 (wsub .i64 a3234 a3236) a3235) 1) a3235)
theorem F138_ok (K : Nat) (a3234 : Int) (a3235 : Int) (a3236 : Int) (r : Int) (hF : F138 K a3234 a3235 a3236 = some r) : Evt E H 138 [.one (.lit (.int .i64 a3234)), .one (.lit (.int .i64 a3235)), .one (.lit (.int .i64 a3236))] (F138_res r) := by
  rw [F138] at hF
  refine cond_some hF (fun h3237 hF => ?_) (fun h3237 hF => ?_)
  ·
    have hr := Option.some.inj hF
    subst hr
    have pz : HoldAll E H hn138 [.test (beqb (ilt a3236 0) false) false, .test (beqb (ilt a3236 0) false) false, .test (beqb (ilt a3236 0) false) false, .test (ilt a3236 0) true, .test true true] := ⟨(beqb_ft h3237), (beqb_ft h3237), (beqb_ft h3237), h3237, rfl, trivial⟩
    exact fn_playC hn138 (f := 138) (ads := [.one (.lit (.int .i64 a3234)), .one (.lit (.int .i64 a3235)), .one (.lit (.int .i64 a3236))]) (r := F138_res 0) pz (by kernel_rfl) (by kernel_rfl)
  have pq3240 : ∀ {l : List Cond}, HoldAll E H hn138 l → HoldAll E H hn138 (.test (beqb (ilt a3236 0) false) true :: .test (beqb (ilt a3236 0) false) true :: .test (beqb (ilt a3236 0) false) true :: .test (ilt a3236 0) false :: l) := fun z => ⟨(beqb_ff h3237), (beqb_ff h3237), (beqb_ff h3237), h3237, z⟩
  refine cond_some hF (fun h3238 hF => ?_) (fun h3238 hF => ?_)
  ·
    have hr := Option.some.inj hF
    subst hr
    have pz : HoldAll E H hn138 [.test (ige a3236 a3235) true] := ⟨(ige_eq h3238), trivial⟩
    exact fn_playC hn138 (f := 138) (ads := [.one (.lit (.int .i64 a3234)), .one (.lit (.int .i64 a3235)), .one (.lit (.int .i64 a3236))]) (r := F138_res 0) (pq3240 pz) (by kernel_rfl) (by kernel_rfl)
  refine cond_some hF (fun _ hF => nomatch hF) (fun h3239 hF => ?_)
  have hr := Option.some.inj hF
  subst hr
  have pz : HoldAll E H hn138 [.test (ige a3236 a3235) false, .int (wsub .i64 a3234 a3236) (wsub .i64 a3234 a3236), .int (wadd .i64 (wsub .i64 a3234 a3236) a3235) (wadd .i64 (wsub .i64 a3234 a3236) a3235), .int (wsub .i64 (wadd .i64 (wsub .i64 a3234 a3236) a3235) 1) (wsub .i64 (wadd .i64 (wsub .i64 a3234 a3236) a3235) 1), .test (izero a3235) false, .int (wquo .i64 (wsub .i64 (wadd .i64 (wsub .i64 a3234 a3236) a3235) 1) a3235) (wquo .i64 (wsub .i64 (wadd .i64 (wsub .i64 a3234 a3236) a3235) 1) a3235)] := ⟨(ige_eq h3238), rfl, rfl, rfl, h3239, rfl, trivial⟩
  exact fn_playC hn138 (f := 138) (ads := [.one (.lit (.int .i64 a3234)), .one (.lit (.int .i64 a3235)), .one (.lit (.int .i64 a3236))]) (r := F138_res (wquo .i64 (wsub .i64 (wadd .i64 (wsub .i64 a3234 a3236) a3235) 1) a3235)) (pq3240 pz) (by kernel_rfl) (by kernel_rfl)

/-! ### haywain/part.Count -/
noncomputable def hn77 : Hint := { H 77 with nt := 18, prot := 0 }
def F77_res (r3246 : Int) : Res := ⟨[(.one (.im (.lit (.int .i64 r3246))))], []⟩
def F77 (K : Nat) (a3127 : GGraph) (a3128 : GJob) (a3129 : Int) : Option (Int) :=
  (F94 K a3127 a3128).bind fun r3231 =>
  bif (ieq r3231 0) then
    ((F138 K a3127.N a3128.Parts a3129).bind fun r3242 =>
    bif (ilt 0 r3242) then
      (some r3242)
    else
    some 0)
  else
  some 0
theorem F77_ok (K : Nat) (a3127 : GGraph) (a3128 : GJob) (a3129 : Int) (r : Int) (hF : F77 K a3127 a3128 a3129 = some r) : Evt E H 77 [.agg (eGGraph a3127), .agg (eGJob a3128), .one (.lit (.int .i64 a3129))] (F77_res r) := by
  rw [F77] at hF
  refine bind_some hF (fun r3231 h3232 hF => ?_)
  refine cond_some hF (fun h3233 hF => ?_) (fun h3233 hF => ?_)
  ·
    refine bind_some hF (fun r3242 h3243 hF => ?_)
    have pq3245 : ∀ {l : List Cond}, HoldAll E H hn77 l → HoldAll E H hn77 (.call 94 [.agg (eGGraph a3127), .agg (eGJob a3128)] (F94_res r3231) :: .test (leadsAny (Res.mk [(.one (.im (.lit (.int .i64 r3231))))] [])) false :: .test (ine r3231 0) false :: .call 138 [.one (.lit (.int .i64 a3127.N)), .one (.lit (.int .i64 a3128.Parts)), .one (.lit (.int .i64 a3129))] (F138_res r3242) :: .test (leadsAny (Res.mk [(.one (.im (.lit (.int .i64 r3242))))] [])) false :: l) := fun z => ⟨(F94_ok K a3127 a3128 _ h3232), (leads_ok (by simp only [leadsAny, List.any_cons, List.any_nil, RV.leads, RC.leads, leadsT, hasSl_lit, Bool.or_false, flat_ns (eInt_ns _), flat_ns eBool_ns, flat_ns eStr_ns, flat_ns eGJob_ns, flat_ns eGEdge_ns, flat_ns eGAsked_ns, flat_ns eGMsg_ns, flat_ns eGrule_ns, flat_ns eGA199_ns, flat_ns eGA202_ns])), (ine_t h3233), (F138_ok K a3127.N a3128.Parts a3129 _ h3243), (leads_ok (by simp only [leadsAny, List.any_cons, List.any_nil, RV.leads, RC.leads, leadsT, hasSl_lit, Bool.or_false, flat_ns (eInt_ns _), flat_ns eBool_ns, flat_ns eStr_ns, flat_ns eGJob_ns, flat_ns eGEdge_ns, flat_ns eGAsked_ns, flat_ns eGMsg_ns, flat_ns eGrule_ns, flat_ns eGA199_ns, flat_ns eGA202_ns])), z⟩
    refine cond_some hF (fun h3244 hF => ?_) (fun h3244 hF => ?_)
    ·
      have hr := Option.some.inj hF
      subst hr
      have pz : HoldAll E H hn77 [.test (igt r3242 0) true] := ⟨(igt_eq h3244), trivial⟩
      exact fn_playC hn77 (f := 77) (ads := [.agg (eGGraph a3127), .agg (eGJob a3128), .one (.lit (.int .i64 a3129))]) (r := F77_res r3242) (pq3245 pz) (by kernel_rfl) (by kernel_rfl)
    have hr := Option.some.inj hF
    subst hr
    have pz : HoldAll E H hn77 [.test (igt r3242 0) false] := ⟨(igt_eq h3244), trivial⟩
    exact fn_playC hn77 (f := 77) (ads := [.agg (eGGraph a3127), .agg (eGJob a3128), .one (.lit (.int .i64 a3129))]) (r := F77_res 0) (pq3245 pz) (by kernel_rfl) (by kernel_rfl)
  have hr := Option.some.inj hF
  subst hr
  have pz : HoldAll E H hn77 [.call 94 [.agg (eGGraph a3127), .agg (eGJob a3128)] (F94_res r3231), .test (leadsAny (Res.mk [(.one (.im (.lit (.int .i64 r3231))))] [])) false, .test (ine r3231 0) true] := ⟨(F94_ok K a3127 a3128 _ h3232), (leads_ok (by simp only [leadsAny, List.any_cons, List.any_nil, RV.leads, RC.leads, leadsT, hasSl_lit, Bool.or_false, flat_ns (eInt_ns _), flat_ns eBool_ns, flat_ns eStr_ns, flat_ns eGJob_ns, flat_ns eGEdge_ns, flat_ns eGAsked_ns, flat_ns eGMsg_ns, flat_ns eGrule_ns, flat_ns eGA199_ns, flat_ns eGA202_ns])), (ine_f h3233), trivial⟩
  exact fn_playC hn77 (f := 77) (ads := [.agg (eGGraph a3127), .agg (eGJob a3128), .one (.lit (.int .i64 a3129))]) (r := F77_res 0) pz (by kernel_rfl) (by kernel_rfl)

/-! ### haywain/haywainref07.Count -/
noncomputable def hn78 : Hint := { H 78 with nt := 16, prot := 0 }
def F78_res (r3257 : Int) : Res := ⟨[(.one (.im (.lit (.int .i64 r3257))))], []⟩
def F78 (K : Nat) (a3249 : GGraph) (a3250 : GJob) (a3251 : Int) : Option (Int) :=
  (F59 K a3249 a3250).bind fun r3252 =>
  bif (ieq r3252 0) then
    ((F139 K a3249 a3250 a3251).bind fun r3255 =>
    some (nlen (len r3255)))
  else
  some 0
theorem F78_ok (K : Nat) (a3249 : GGraph) (a3250 : GJob) (a3251 : Int) (r : Int) (hF : F78 K a3249 a3250 a3251 = some r) : Evt E H 78 [.agg (eGGraph a3249), .agg (eGJob a3250), .one (.lit (.int .i64 a3251))] (F78_res r) := by
  rw [F78] at hF
  refine bind_some hF (fun r3252 h3253 hF => ?_)
  refine cond_some hF (fun h3254 hF => ?_) (fun h3254 hF => ?_)
  ·
    refine bind_some hF (fun r3255 h3256 hF => ?_)
    have hr := Option.some.inj hF
    subst hr
    have pz : HoldAll E H hn78 [.call 59 [.agg (eGGraph a3249), .agg (eGJob a3250)] (F59_res r3252), .test (leadsAny (Res.mk [(.one (.im (.lit (.int .i64 r3252))))] [])) false, .test (ine r3252 0) false, .call 139 [.agg (eGGraph a3249), .agg (eGJob a3250), .one (.lit (.int .i64 a3251))] (F139_res r3255), .test (leadsAny (Res.mk [(.one (.own 3 (.sl (len r3255) (flat (eInt .i64) r3255))))] [])) false, .int (nlen (len r3255)) (nlen (len r3255))] := ⟨(F59_ok K a3249 a3250 _ h3253), (leads_ok (by simp only [leadsAny, List.any_cons, List.any_nil, RV.leads, RC.leads, leadsT, hasSl_lit, Bool.or_false, flat_ns (eInt_ns _), flat_ns eBool_ns, flat_ns eStr_ns, flat_ns eGJob_ns, flat_ns eGEdge_ns, flat_ns eGAsked_ns, flat_ns eGMsg_ns, flat_ns eGrule_ns, flat_ns eGA199_ns, flat_ns eGA202_ns])), (ine_t h3254), (F139_ok K a3249 a3250 a3251 _ h3256), (leads_ok (by simp only [leadsAny, List.any_cons, List.any_nil, RV.leads, RC.leads, leadsT, hasSl_lit, Bool.or_false, flat_ns (eInt_ns _), flat_ns eBool_ns, flat_ns eStr_ns, flat_ns eGJob_ns, flat_ns eGEdge_ns, flat_ns eGAsked_ns, flat_ns eGMsg_ns, flat_ns eGrule_ns, flat_ns eGA199_ns, flat_ns eGA202_ns])), rfl, trivial⟩
    exact fn_playC hn78 (f := 78) (ads := [.agg (eGGraph a3249), .agg (eGJob a3250), .one (.lit (.int .i64 a3251))]) (r := F78_res (nlen (len r3255))) pz (by kernel_rfl) (by kernel_rfl)
  have hr := Option.some.inj hF
  subst hr
  have pz : HoldAll E H hn78 [.call 59 [.agg (eGGraph a3249), .agg (eGJob a3250)] (F59_res r3252), .test (leadsAny (Res.mk [(.one (.im (.lit (.int .i64 r3252))))] [])) false, .test (ine r3252 0) true] := ⟨(F59_ok K a3249 a3250 _ h3253), (leads_ok (by simp only [leadsAny, List.any_cons, List.any_nil, RV.leads, RC.leads, leadsT, hasSl_lit, Bool.or_false, flat_ns (eInt_ns _), flat_ns eBool_ns, flat_ns eStr_ns, flat_ns eGJob_ns, flat_ns eGEdge_ns, flat_ns eGAsked_ns, flat_ns eGMsg_ns, flat_ns eGrule_ns, flat_ns eGA199_ns, flat_ns eGA202_ns])), (ine_f h3254), trivial⟩
  exact fn_playC hn78 (f := 78) (ads := [.agg (eGGraph a3249), .agg (eGJob a3250), .one (.lit (.int .i64 a3251))]) (r := F78_res 0) pz (by kernel_rfl) (by kernel_rfl)

end Go.Proofs.Ytnjanliihnadjaa.Tm

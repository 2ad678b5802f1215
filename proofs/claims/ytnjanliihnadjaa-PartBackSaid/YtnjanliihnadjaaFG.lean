/- Printed by program: what each function computes, and that the machine answers so. Conditions: none. -/
import Derived.Test.YtnjanliihnadjaaTy
import Derived.Test.YtnjanliihnadjaaTab
import Derived.Test.YtnjanliihnadjaaKn
import Derived.KernelRfl
set_option linter.unusedVariables false
set_option linter.unusedSimpArgs false
namespace Go.Proofs.Ytnjanliihnadjaa.Tm
open Go
/-! ### haywain/haywainref03.Check -/
noncomputable def hn65 : Hint := { H 65 with nt := 99, prot := 0 }
noncomputable def c65_0 : Code := loopOf E 65 0
def F65_res (r1106 : Int) : Res := ⟨[(.one (.im (.lit (.int .i64 r1106))))], []⟩
def F65_l0_0 (K : Nat) (a1053 : GGraph) : Nat → Int → Option ((Int) ⊕ (Unit))
  | 0, _ => none
  | k + 1, v1067 =>
    bif (ilt v1067 (nlen (len a1053.Edges))) then
      (bif (inr v1067 (len a1053.Edges)) then
      (elAt a1053.Edges v1067).bind fun x1070 =>
      bif (ilt x1070.From 0) then
        (some (.inl 4))
      else
      bif (ilt x1070.To 0) then
        (some (.inl 4))
      else
      bif (ile a1053.N x1070.From) then
        (some (.inl 4))
      else
      bif (ile a1053.N x1070.To) then
        (some (.inl 4))
      else
      bif (ilt x1070.W 0) then
        (some (.inl 1))
      else
      bif (ilt 4611686018427387904 x1070.W) then
        (some (.inl 1))
      else
      bif (ilt 0 v1067) then
        (bif (inr (wsub .i64 v1067 1) (len a1053.Edges)) then
        (elAt a1053.Edges (wsub .i64 v1067 1)).bind fun x1080 =>
        bif (ieq x1080.From x1070.From) then
          (bif (ieq x1080.To x1070.To) then
            (some (.inl 5))
          else
          bif (ilt x1070.From x1080.From) then
            (some (.inl 6))
          else
          bif (ilt x1070.To x1080.To) then
            (some (.inl 6))
          else
          F65_l0_0 K a1053 k (wadd .i64 v1067 1))
        else
        bif (ilt x1070.From x1080.From) then
          (some (.inl 6))
        else
        F65_l0_0 K a1053 k (wadd .i64 v1067 1)
        else none)
      else
      F65_l0_0 K a1053 k (wadd .i64 v1067 1)
      else none)
    else
    some (.inr ())
def F65_l0_0_S (a1053 : GGraph) (v1067 : Int) : TS := .on [64, 65, 66, 192, 193] [(64, ⟨(.box 62 2), 0, nob⟩), (65, ⟨.im, 0, (.lit (.int .i64 a1053.N))⟩), (66, ⟨.im, 0, (.sl (len a1053.Edges) (flat eGEdge a1053.Edges))⟩), (192, ⟨.one, 0, nob⟩), (193, ⟨.im, 0, (.lit (.int .i64 v1067))⟩)]
def F65_l0_0_X0 (a1053 : GGraph) (w1087 : Int) : TS := .on [128, 129] [(128, ⟨.one, 0, nob⟩), (129, ⟨.im, 0, (.lit (.int .i64 w1087))⟩)]
def F65_l0_0_X1 (a1053 : GGraph) (w1089 : Unit) : TS := .on [] []
theorem F65_l0_0_ok (K : Nat) (a1053 : GGraph) : ∀ (k : Nat) (v1067 : Int) (r : (Int) ⊕ (Unit)), F65_l0_0 K a1053 k v1067 = some r → (Sum.elim (fun w => LoopEv E H hn65 0 c65_0 (F65_l0_0_S a1053 v1067) .ret (F65_l0_0_X0 a1053 w)) (fun w => LoopEv E H hn65 0 c65_0 (F65_l0_0_S a1053 v1067) (.exit 0) (F65_l0_0_X1 a1053 w))) r := by
  intro k
  induction k with
  | zero => intro v1067 r hF; cases hF
  | succ k ih =>
    intro v1067 r hF
    rw [F65_l0_0] at hF
    refine cond_some hF (fun h1068 hF => ?_) (fun h1068 hF => ?_)
    ·
      refine cond_some hF (fun h1069 hF => ?_) (fun _ hF => nomatch hF)
      refine bind_some hF (fun x1070 h1071 hF => ?_)
      have pq1090 : ∀ {l : List Cond}, HoldAll E H hn65 l → HoldAll E H hn65 (.int (nlen (len a1053.Edges)) (nlen (len a1053.Edges)) :: .test (ilt v1067 (nlen (len a1053.Edges))) true :: .test (inr v1067 (len a1053.Edges)) true :: .sub (flat eGEdge a1053.Edges) (nidx v1067 3) 3 [(.lit (.int .i64 x1070.From)), (.lit (.int .i64 x1070.To)), (.lit (.int .i64 x1070.W))] :: l) := fun z => ⟨rfl, h1068, h1069, ⟨rfl, sub_flat0 eGEdge_len h1071 3 (by decide)⟩, z⟩
      refine cond_some hF (fun h1072 hF => ?_) (fun h1072 hF => ?_)
      ·
        have hr := Option.some.inj hF
        subst hr
        have pz : HoldAll E H hn65 [.test (beqb (ilt x1070.From 0) false) false, .test (beqb (ilt x1070.From 0) false) false, .test (beqb (ilt x1070.From 0) false) false, .test (ilt x1070.From 0) true, .test (beqb true false) false, .test (beqb true false) false, .test (beqb true false) false, .test (beqb true false) false, .test (beqb true false) false, .test true true, .test (beqb true false) false, .test (beqb true false) false, .test (beqb true false) false, .test (beqb true false) false, .test (beqb true false) false, .test true true, .test true true] := ⟨(beqb_ft h1072), (beqb_ft h1072), (beqb_ft h1072), h1072, (beqb_ft rfl), (beqb_ft rfl), (beqb_ft rfl), (beqb_ft rfl), (beqb_ft rfl), rfl, (beqb_ft rfl), (beqb_ft rfl), (beqb_ft rfl), (beqb_ft rfl), (beqb_ft rfl), rfl, rfl, trivial⟩
        exact loop_endC (h := hn65) (l := 0) (c := c65_0) (ts := F65_l0_0_S a1053 v1067) (ts' := F65_l0_0_X0 a1053 4) (ex := .ret) (pq1090 pz) (by kernel_rfl) trivial
      have pq1091 : ∀ {l : List Cond}, HoldAll E H hn65 l → HoldAll E H hn65 (.test (beqb (ilt x1070.From 0) false) true :: .test (beqb (ilt x1070.From 0) false) true :: .test (beqb (ilt x1070.From 0) false) true :: .test (ilt x1070.From 0) false :: l) := fun z => ⟨(beqb_ff h1072), (beqb_ff h1072), (beqb_ff h1072), h1072, z⟩
      refine cond_some hF (fun h1073 hF => ?_) (fun h1073 hF => ?_)
      ·
        have hr := Option.some.inj hF
        subst hr
        have pz : HoldAll E H hn65 [.test (beqb (ilt x1070.To 0) false) false, .test (beqb (ilt x1070.To 0) false) false, .test (beqb (ilt x1070.To 0) false) false, .test (beqb (ilt x1070.To 0) false) false, .test (beqb (ilt x1070.To 0) false) false, .test (ilt x1070.To 0) true, .test (beqb true false) false, .test (beqb true false) false, .test (beqb true false) false, .test (beqb true false) false, .test (beqb true false) false, .test true true, .test true true] := ⟨(beqb_ft h1073), (beqb_ft h1073), (beqb_ft h1073), (beqb_ft h1073), (beqb_ft h1073), h1073, (beqb_ft rfl), (beqb_ft rfl), (beqb_ft rfl), (beqb_ft rfl), (beqb_ft rfl), rfl, rfl, trivial⟩
        exact loop_endC (h := hn65) (l := 0) (c := c65_0) (ts := F65_l0_0_S a1053 v1067) (ts' := F65_l0_0_X0 a1053 4) (ex := .ret) (pq1090 (pq1091 pz)) (by kernel_rfl) trivial
      have pq1092 : ∀ {l : List Cond}, HoldAll E H hn65 l → HoldAll E H hn65 (.test (beqb (ilt x1070.To 0) false) true :: .test (beqb (ilt x1070.To 0) false) true :: .test (beqb (ilt x1070.To 0) false) true :: .test (beqb (ilt x1070.To 0) false) true :: .test (beqb (ilt x1070.To 0) false) true :: .test (ilt x1070.To 0) false :: l) := fun z => ⟨(beqb_ff h1073), (beqb_ff h1073), (beqb_ff h1073), (beqb_ff h1073), (beqb_ff h1073), h1073, z⟩
      refine cond_some hF (fun h1074 hF => ?_) (fun h1074 hF => ?_)
      ·
        have hr := Option.some.inj hF
        subst hr
        have pz : HoldAll E H hn65 [.test (beqb (ige x1070.From a1053.N) false) false, .test (beqb (ige x1070.From a1053.N) false) false, .test (beqb (ige x1070.From a1053.N) false) false, .test (beqb (ige x1070.From a1053.N) false) false, .test (beqb (ige x1070.From a1053.N) false) false, .test (ige x1070.From a1053.N) true, .test true true] := ⟨(beqb_ft (ige_eq h1074)), (beqb_ft (ige_eq h1074)), (beqb_ft (ige_eq h1074)), (beqb_ft (ige_eq h1074)), (beqb_ft (ige_eq h1074)), (ige_eq h1074), rfl, trivial⟩
        exact loop_endC (h := hn65) (l := 0) (c := c65_0) (ts := F65_l0_0_S a1053 v1067) (ts' := F65_l0_0_X0 a1053 4) (ex := .ret) (pq1090 (pq1091 (pq1092 pz))) (by kernel_rfl) trivial
      have pq1093 : ∀ {l : List Cond}, HoldAll E H hn65 l → HoldAll E H hn65 (.test (beqb (ige x1070.From a1053.N) false) true :: .test (beqb (ige x1070.From a1053.N) false) true :: .test (beqb (ige x1070.From a1053.N) false) true :: .test (beqb (ige x1070.From a1053.N) false) true :: .test (beqb (ige x1070.From a1053.N) false) true :: .test (ige x1070.From a1053.N) false :: l) := fun z => ⟨(beqb_ff (ige_eq h1074)), (beqb_ff (ige_eq h1074)), (beqb_ff (ige_eq h1074)), (beqb_ff (ige_eq h1074)), (beqb_ff (ige_eq h1074)), (ige_eq h1074), z⟩
      refine cond_some hF (fun h1075 hF => ?_) (fun h1075 hF => ?_)
      ·
        have hr := Option.some.inj hF
        subst hr
        have pz : HoldAll E H hn65 [.test (ige x1070.To a1053.N) true] := ⟨(ige_eq h1075), trivial⟩
        exact loop_endC (h := hn65) (l := 0) (c := c65_0) (ts := F65_l0_0_S a1053 v1067) (ts' := F65_l0_0_X0 a1053 4) (ex := .ret) (pq1090 (pq1091 (pq1092 (pq1093 pz)))) (by kernel_rfl) trivial
      refine cond_some hF (fun h1076 hF => ?_) (fun h1076 hF => ?_)
      ·
        have hr := Option.some.inj hF
        subst hr
        have pz : HoldAll E H hn65 [.test (ige x1070.To a1053.N) false, .test (beqb (ilt x1070.W 0) false) false, .test (beqb (ilt x1070.W 0) false) false, .test (beqb (ilt x1070.W 0) false) false, .test (ilt x1070.W 0) true, .test true true] := ⟨(ige_eq h1075), (beqb_ft h1076), (beqb_ft h1076), (beqb_ft h1076), h1076, rfl, trivial⟩
        exact loop_endC (h := hn65) (l := 0) (c := c65_0) (ts := F65_l0_0_S a1053 v1067) (ts' := F65_l0_0_X0 a1053 1) (ex := .ret) (pq1090 (pq1091 (pq1092 (pq1093 pz)))) (by kernel_rfl) trivial
      have pq1094 : ∀ {l : List Cond}, HoldAll E H hn65 l → HoldAll E H hn65 (.test (ige x1070.To a1053.N) false :: .test (beqb (ilt x1070.W 0) false) true :: .test (beqb (ilt x1070.W 0) false) true :: .test (beqb (ilt x1070.W 0) false) true :: .test (ilt x1070.W 0) false :: l) := fun z => ⟨(ige_eq h1075), (beqb_ff h1076), (beqb_ff h1076), (beqb_ff h1076), h1076, z⟩
      refine cond_some hF (fun h1077 hF => ?_) (fun h1077 hF => ?_)
      ·
        have hr := Option.some.inj hF
        subst hr
        have pz : HoldAll E H hn65 [.test (igt x1070.W 4611686018427387904) true] := ⟨(igt_eq h1077), trivial⟩
        exact loop_endC (h := hn65) (l := 0) (c := c65_0) (ts := F65_l0_0_S a1053 v1067) (ts' := F65_l0_0_X0 a1053 1) (ex := .ret) (pq1090 (pq1091 (pq1092 (pq1093 (pq1094 pz))))) (by kernel_rfl) trivial
      refine cond_some hF (fun h1078 hF => ?_) (fun h1078 hF => ?_)
      ·
        refine cond_some hF (fun h1079 hF => ?_) (fun _ hF => nomatch hF)
        refine bind_some hF (fun x1080 h1081 hF => ?_)
        have pq1095 : ∀ {l : List Cond}, HoldAll E H hn65 l → HoldAll E H hn65 (.test (igt x1070.W 4611686018427387904) false :: .test (igt v1067 0) true :: .int (wsub .i64 v1067 1) (wsub .i64 v1067 1) :: .test (inr (wsub .i64 v1067 1) (len a1053.Edges)) true :: .sub (flat eGEdge a1053.Edges) (nidx (wsub .i64 v1067 1) 3) 3 [(.lit (.int .i64 x1080.From)), (.lit (.int .i64 x1080.To)), (.lit (.int .i64 x1080.W))] :: l) := fun z => ⟨(igt_eq h1077), (igt_eq h1078), rfl, h1079, ⟨rfl, sub_flat0 eGEdge_len h1081 3 (by decide)⟩, z⟩
        refine cond_some hF (fun h1082 hF => ?_) (fun h1082 hF => ?_)
        ·
          have pq1096 : ∀ {l : List Cond}, HoldAll E H hn65 l → HoldAll E H hn65 (.test (beqb (ieq x1080.From x1070.From) true) true :: .test (beqb (ieq x1080.From x1070.From) true) true :: .test (beqb (ieq x1080.From x1070.From) true) true :: .test (beqb (ieq x1080.From x1070.From) true) true :: .test (beqb (ieq x1080.From x1070.From) true) true :: .test (ieq x1080.From x1070.From) true :: l) := fun z => ⟨(beqb_t h1082), (beqb_t h1082), (beqb_t h1082), (beqb_t h1082), (beqb_t h1082), h1082, z⟩
          refine cond_some hF (fun h1083 hF => ?_) (fun h1083 hF => ?_)
          ·
            have hr := Option.some.inj hF
            subst hr
            have pz : HoldAll E H hn65 [.test (ieq x1080.To x1070.To) true] := ⟨h1083, trivial⟩
            exact loop_endC (h := hn65) (l := 0) (c := c65_0) (ts := F65_l0_0_S a1053 v1067) (ts' := F65_l0_0_X0 a1053 5) (ex := .ret) (pq1090 (pq1091 (pq1092 (pq1093 (pq1094 (pq1095 (pq1096 pz))))))) (by kernel_rfl) trivial
          refine cond_some hF (fun h1084 hF => ?_) (fun h1084 hF => ?_)
          ·
            have hr := Option.some.inj hF
            subst hr
            have pz : HoldAll E H hn65 [.test (ieq x1080.To x1070.To) false, .test (beqb (igt x1080.From x1070.From) false) false, .test (beqb (igt x1080.From x1070.From) false) false, .test (beqb (igt x1080.From x1070.From) false) false, .test (beqb (igt x1080.From x1070.From) false) false, .test (beqb (igt x1080.From x1070.From) false) false, .test (beqb (igt x1080.From x1070.From) false) false, .test (beqb (igt x1080.From x1070.From) false) false, .test (igt x1080.From x1070.From) true, .test true true] := ⟨h1083, (beqb_ft (igt_eq h1084)), (beqb_ft (igt_eq h1084)), (beqb_ft (igt_eq h1084)), (beqb_ft (igt_eq h1084)), (beqb_ft (igt_eq h1084)), (beqb_ft (igt_eq h1084)), (beqb_ft (igt_eq h1084)), (igt_eq h1084), rfl, trivial⟩
            exact loop_endC (h := hn65) (l := 0) (c := c65_0) (ts := F65_l0_0_S a1053 v1067) (ts' := F65_l0_0_X0 a1053 6) (ex := .ret) (pq1090 (pq1091 (pq1092 (pq1093 (pq1094 (pq1095 (pq1096 pz))))))) (by kernel_rfl) trivial
          have pq1097 : ∀ {l : List Cond}, HoldAll E H hn65 l → HoldAll E H hn65 (.test (ieq x1080.To x1070.To) false :: .test (beqb (igt x1080.From x1070.From) false) true :: .test (beqb (igt x1080.From x1070.From) false) true :: .test (beqb (igt x1080.From x1070.From) false) true :: .test (beqb (igt x1080.From x1070.From) false) true :: .test (beqb (igt x1080.From x1070.From) false) true :: .test (beqb (igt x1080.From x1070.From) false) true :: .test (beqb (ieq x1080.From x1070.From) true) true :: .test (beqb (ieq x1080.From x1070.From) true) true :: .test (beqb (ieq x1080.From x1070.From) true) true :: .test (beqb (ieq x1080.From x1070.From) true) true :: .test (beqb (ieq x1080.From x1070.From) true) true :: .test (beqb (igt x1080.From x1070.From) false) true :: .test (ieq x1080.From x1070.From) true :: .test (igt x1080.From x1070.From) false :: l) := fun z => ⟨h1083, (beqb_ff (igt_eq h1084)), (beqb_ff (igt_eq h1084)), (beqb_ff (igt_eq h1084)), (beqb_ff (igt_eq h1084)), (beqb_ff (igt_eq h1084)), (beqb_ff (igt_eq h1084)), (beqb_t h1082), (beqb_t h1082), (beqb_t h1082), (beqb_t h1082), (beqb_t h1082), (beqb_ff (igt_eq h1084)), h1082, (igt_eq h1084), z⟩
          refine cond_some hF (fun h1085 hF => ?_) (fun h1085 hF => ?_)
          ·
            have hr := Option.some.inj hF
            subst hr
            have pz : HoldAll E H hn65 [.test (igt x1080.To x1070.To) true] := ⟨(igt_eq h1085), trivial⟩
            exact loop_endC (h := hn65) (l := 0) (c := c65_0) (ts := F65_l0_0_S a1053 v1067) (ts' := F65_l0_0_X0 a1053 6) (ex := .ret) (pq1090 (pq1091 (pq1092 (pq1093 (pq1094 (pq1095 (pq1096 (pq1097 pz)))))))) (by kernel_rfl) trivial
          have pz : HoldAll E H hn65 [.test (igt x1080.To x1070.To) false, .int (wadd .i64 v1067 1) (wadd .i64 v1067 1)] := ⟨(igt_eq h1085), rfl, trivial⟩
          have h0 := ih _ _ hF
          have hn := fun ex ts' => loop_nextC (h := hn65) (l := 0) (c := c65_0) (ts := F65_l0_0_S a1053 v1067) (ts1 := (F65_l0_0_S a1053 (wadd .i64 v1067 1))) (ex := ex) (ts' := ts') (pq1090 (pq1091 (pq1092 (pq1093 (pq1094 (pq1095 (pq1096 (pq1097 pz)))))))) (by kernel_rfl)
          cases r with
          | inl w => exact hn _ _ h0
          | inr w => exact hn _ _ h0
        have pq1098 : ∀ {l : List Cond}, HoldAll E H hn65 l → HoldAll E H hn65 (.test (beqb (ieq x1080.From x1070.From) true) false :: .test (beqb (ieq x1080.From x1070.From) true) false :: .test (beqb (ieq x1080.From x1070.From) true) false :: .test (beqb (ieq x1080.From x1070.From) true) false :: .test (beqb (ieq x1080.From x1070.From) true) false :: .test (ieq x1080.From x1070.From) false :: .test false false :: l) := fun z => ⟨(beqb_t h1082), (beqb_t h1082), (beqb_t h1082), (beqb_t h1082), (beqb_t h1082), h1082, rfl, z⟩
        refine cond_some hF (fun h1086 hF => ?_) (fun h1086 hF => ?_)
        ·
          have hr := Option.some.inj hF
          subst hr
          have pz : HoldAll E H hn65 [.test (beqb (igt x1080.From x1070.From) false) false, .test (beqb (igt x1080.From x1070.From) false) false, .test (beqb (igt x1080.From x1070.From) false) false, .test (beqb (igt x1080.From x1070.From) false) false, .test (beqb (igt x1080.From x1070.From) false) false, .test (beqb (igt x1080.From x1070.From) false) false, .test (beqb (igt x1080.From x1070.From) false) false, .test (igt x1080.From x1070.From) true, .test true true] := ⟨(beqb_ft (igt_eq h1086)), (beqb_ft (igt_eq h1086)), (beqb_ft (igt_eq h1086)), (beqb_ft (igt_eq h1086)), (beqb_ft (igt_eq h1086)), (beqb_ft (igt_eq h1086)), (beqb_ft (igt_eq h1086)), (igt_eq h1086), rfl, trivial⟩
          exact loop_endC (h := hn65) (l := 0) (c := c65_0) (ts := F65_l0_0_S a1053 v1067) (ts' := F65_l0_0_X0 a1053 6) (ex := .ret) (pq1090 (pq1091 (pq1092 (pq1093 (pq1094 (pq1095 (pq1098 pz))))))) (by kernel_rfl) trivial
        have pz : HoldAll E H hn65 [.test (beqb (igt x1080.From x1070.From) false) true, .test (beqb (igt x1080.From x1070.From) false) true, .test (beqb (igt x1080.From x1070.From) false) true, .test (beqb (igt x1080.From x1070.From) false) true, .test (beqb (igt x1080.From x1070.From) false) true, .test (beqb (igt x1080.From x1070.From) false) true, .test (beqb (ieq x1080.From x1070.From) true) false, .test (beqb (ieq x1080.From x1070.From) true) false, .test (beqb (ieq x1080.From x1070.From) true) false, .test (beqb (ieq x1080.From x1070.From) true) false, .test (beqb (ieq x1080.From x1070.From) true) false, .test (beqb (igt x1080.From x1070.From) false) true, .test (ieq x1080.From x1070.From) false, .test (igt x1080.From x1070.From) false, .test false false, .int (wadd .i64 v1067 1) (wadd .i64 v1067 1)] := ⟨(beqb_ff (igt_eq h1086)), (beqb_ff (igt_eq h1086)), (beqb_ff (igt_eq h1086)), (beqb_ff (igt_eq h1086)), (beqb_ff (igt_eq h1086)), (beqb_ff (igt_eq h1086)), (beqb_t h1082), (beqb_t h1082), (beqb_t h1082), (beqb_t h1082), (beqb_t h1082), (beqb_ff (igt_eq h1086)), h1082, (igt_eq h1086), rfl, rfl, trivial⟩
        have h0 := ih _ _ hF
        have hn := fun ex ts' => loop_nextC (h := hn65) (l := 0) (c := c65_0) (ts := F65_l0_0_S a1053 v1067) (ts1 := (F65_l0_0_S a1053 (wadd .i64 v1067 1))) (ex := ex) (ts' := ts') (pq1090 (pq1091 (pq1092 (pq1093 (pq1094 (pq1095 (pq1098 pz))))))) (by kernel_rfl)
        cases r with
        | inl w => exact hn _ _ h0
        | inr w => exact hn _ _ h0
      have pz : HoldAll E H hn65 [.test (igt x1070.W 4611686018427387904) false, .test (igt v1067 0) false, .int (wadd .i64 v1067 1) (wadd .i64 v1067 1)] := ⟨(igt_eq h1077), (igt_eq h1078), rfl, trivial⟩
      have h0 := ih _ _ hF
      have hn := fun ex ts' => loop_nextC (h := hn65) (l := 0) (c := c65_0) (ts := F65_l0_0_S a1053 v1067) (ts1 := (F65_l0_0_S a1053 (wadd .i64 v1067 1))) (ex := ex) (ts' := ts') (pq1090 (pq1091 (pq1092 (pq1093 (pq1094 pz))))) (by kernel_rfl)
      cases r with
      | inl w => exact hn _ _ h0
      | inr w => exact hn _ _ h0
    have hr := Option.some.inj hF
    subst hr
    have pz : HoldAll E H hn65 [.int (nlen (len a1053.Edges)) (nlen (len a1053.Edges)), .test (ilt v1067 (nlen (len a1053.Edges))) false] := ⟨rfl, h1068, trivial⟩
    exact loop_endC (h := hn65) (l := 0) (c := c65_0) (ts := F65_l0_0_S a1053 v1067) (ts' := F65_l0_0_X1 a1053 ()) (ex := (.exit 0)) pz (by kernel_rfl) trivial

def F65 (K : Nat) (a1053 : GGraph) : Option (Int) :=
  bif (ilt a1053.N 1) then
    (some 1)
  else
  bif (ilt 24 a1053.N) then
    (some 1)
  else
  bif (ilt 80 (nlen (len a1053.Edges))) then
    (some 3)
  else
  (F65_l0_0 K a1053 K 0).bind fun y1100 =>
  Sum.elim (fun w1101 =>
    some w1101)
    (fun w1103 =>
    some 0) y1100
theorem F65_ok (K : Nat) (a1053 : GGraph) (r : Int) (hF : F65 K a1053 = some r) : Evt E H 65 [.agg (eGGraph a1053)] (F65_res r) := by
  rw [F65] at hF
  refine cond_some hF (fun h1054 hF => ?_) (fun h1054 hF => ?_)
  ·
    have hr := Option.some.inj hF
    subst hr
    have pz : HoldAll E H hn65 [.test (beqb (ilt a1053.N 1) false) false, .test (beqb (ilt a1053.N 1) false) false, .test (beqb (ilt a1053.N 1) false) false, .test (ilt a1053.N 1) true, .test true true] := ⟨(beqb_ft h1054), (beqb_ft h1054), (beqb_ft h1054), h1054, rfl, trivial⟩
    exact fn_playC hn65 (f := 65) (ads := [.agg (eGGraph a1053)]) (r := F65_res 1) pz (by kernel_rfl) (by kernel_rfl)
  have pq1104 : ∀ {l : List Cond}, HoldAll E H hn65 l → HoldAll E H hn65 (.test (beqb (ilt a1053.N 1) false) true :: .test (beqb (ilt a1053.N 1) false) true :: .test (beqb (ilt a1053.N 1) false) true :: .test (ilt a1053.N 1) false :: l) := fun z => ⟨(beqb_ff h1054), (beqb_ff h1054), (beqb_ff h1054), h1054, z⟩
  refine cond_some hF (fun h1055 hF => ?_) (fun h1055 hF => ?_)
  ·
    have hr := Option.some.inj hF
    subst hr
    have pz : HoldAll E H hn65 [.test (igt a1053.N 24) true] := ⟨(igt_eq h1055), trivial⟩
    exact fn_playC hn65 (f := 65) (ads := [.agg (eGGraph a1053)]) (r := F65_res 1) (pq1104 pz) (by kernel_rfl) (by kernel_rfl)
  refine cond_some hF (fun h1056 hF => ?_) (fun h1056 hF => ?_)
  ·
    have hr := Option.some.inj hF
    subst hr
    have pz : HoldAll E H hn65 [.test (igt a1053.N 24) false, .int (nlen (len a1053.Edges)) (nlen (len a1053.Edges)), .test (igt (nlen (len a1053.Edges)) 80) true] := ⟨(igt_eq h1055), rfl, (igt_eq h1056), trivial⟩
    exact fn_playC hn65 (f := 65) (ads := [.agg (eGGraph a1053)]) (r := F65_res 3) (pq1104 pz) (by kernel_rfl) (by kernel_rfl)
  have pq1105 : ∀ {l : List Cond}, HoldAll E H hn65 l → HoldAll E H hn65 (.test (igt a1053.N 24) false :: .int (nlen (len a1053.Edges)) (nlen (len a1053.Edges)) :: .test (igt (nlen (len a1053.Edges)) 80) false :: l) := fun z => ⟨(igt_eq h1055), rfl, (igt_eq h1056), z⟩
  refine bind_some hF (fun y1100 h1099 hF => ?_)
  refine sum_some hF (fun w1101 hx hF => ?_) (fun w1103 hx hF => ?_)
  ·
    subst hx
    have hr := Option.some.inj hF
    subst hr
    have pz : HoldAll E H hn65 [.loop 0 c65_0 (F65_l0_0_S a1053 0) .ret (F65_l0_0_X0 a1053 w1101)] := ⟨(F65_l0_0_ok K a1053 K 0 _ h1099), trivial⟩
    exact fn_playC hn65 (f := 65) (ads := [.agg (eGGraph a1053)]) (r := F65_res w1101) (pq1104 (pq1105 pz)) (by kernel_rfl) (by kernel_rfl)
  subst hx
  have hr := Option.some.inj hF
  subst hr
  have pz : HoldAll E H hn65 [.loop 0 c65_0 (F65_l0_0_S a1053 0) (.exit 0) (F65_l0_0_X1 a1053 w1103)] := ⟨(F65_l0_0_ok K a1053 K 0 _ h1099), trivial⟩
  exact fn_playC hn65 (f := 65) (ads := [.agg (eGGraph a1053)]) (r := F65_res 0) (pq1104 (pq1105 pz)) (by kernel_rfl) (by kernel_rfl)

/-! ### haywain/haywainref03.Out -/
noncomputable def hn69 : Hint := { H 69 with nt := 35, prot := 0 }
noncomputable def c69_0 : Code := loopOf E 69 0
def F69_res (r1358 : List GEdge) : Res := ⟨[(.one (.own 89 (.sl (len r1358) (flat eGEdge r1358))))], []⟩
def F69_l0_0 (K : Nat) (a1332 : GGraph) (a1333 : Int) : Nat → List GEdge → Int → Option (List GEdge)
  | 0, _, _ => none
  | k + 1, v1343, v1344 =>
    bif (ilt v1344 (nlen (len a1332.Edges))) then
      (bif (inr v1344 (len a1332.Edges)) then
      (elAt a1332.Edges v1344).bind fun x1347 =>
      bif (ieq x1347.From a1333) then
        (bif (apok (len v1343) 1 24) then
        F69_l0_0 K a1332 a1333 k (appL v1343 [x1347]) (wadd .i64 v1344 1)
        else none)
      else
      F69_l0_0 K a1332 a1333 k v1343 (wadd .i64 v1344 1)
      else none)
    else
    some v1343
def F69_l0_0_S (a1332 : GGraph) (a1333 : Int) (v1343 : List GEdge) (v1344 : Int) : TS := .on [64, 65, 128, 129, 130, 320, 321, 384, 385] [(64, ⟨.one, 0, nob⟩), (65, ⟨.im, 0, (.lit (.int .i64 a1333))⟩), (128, ⟨(.box 62 2), 0, nob⟩), (129, ⟨.im, 0, (.lit (.int .i64 a1332.N))⟩), (130, ⟨.im, 0, (.sl (len a1332.Edges) (flat eGEdge a1332.Edges))⟩), (320, ⟨.one, 0, nob⟩), (321, ⟨(.own 89), 0, (.sl (len v1343) (flat eGEdge v1343))⟩), (384, ⟨.one, 0, nob⟩), (385, ⟨.im, 0, (.lit (.int .i64 v1344))⟩)]
def F69_l0_0_X0 (a1332 : GGraph) (a1333 : Int) (w1351 : List GEdge) : TS := .on [320, 321] [(320, ⟨.one, 0, nob⟩), (321, ⟨(.own 89), 0, (.sl (len w1351) (flat eGEdge w1351))⟩)]
theorem F69_l0_0_ok (K : Nat) (a1332 : GGraph) (a1333 : Int) : ∀ (k : Nat) (v1343 : List GEdge) (v1344 : Int) (r : List GEdge), F69_l0_0 K a1332 a1333 k v1343 v1344 = some r → LoopEv E H hn69 0 c69_0 (F69_l0_0_S a1332 a1333 v1343 v1344) (.exit 0) (F69_l0_0_X0 a1332 a1333 r) := by
  intro k
  induction k with
  | zero => intro v1343 v1344 r hF; cases hF
  | succ k ih =>
    intro v1343 v1344 r hF
    rw [F69_l0_0] at hF
    refine cond_some hF (fun h1345 hF => ?_) (fun h1345 hF => ?_)
    ·
      refine cond_some hF (fun h1346 hF => ?_) (fun _ hF => nomatch hF)
      refine bind_some hF (fun x1347 h1348 hF => ?_)
      have pq1353 : ∀ {l : List Cond}, HoldAll E H hn69 l → HoldAll E H hn69 (.int (nlen (len a1332.Edges)) (nlen (len a1332.Edges)) :: .test (ilt v1344 (nlen (len a1332.Edges))) true :: .test (inr v1344 (len a1332.Edges)) true :: .sub (flat eGEdge a1332.Edges) (nadd (nidx v1344 3) 0) 1 [(.lit (.int .i64 x1347.From))] :: l) := fun z => ⟨rfl, h1345, h1346, ⟨rfl, sub_flat eGEdge_len h1348 0 1 (by decide)⟩, z⟩
      refine cond_some hF (fun h1349 hF => ?_) (fun h1349 hF => ?_)
      ·
        refine cond_some hF (fun h1350 hF => ?_) (fun _ hF => nomatch hF)
        have pz : HoldAll E H hn69 [.test (ieq x1347.From a1333) true, .test (inr v1344 (len a1332.Edges)) true, .sub (flat eGEdge a1332.Edges) (nidx v1344 3) 3 [(.lit (.int .i64 x1347.From)), (.lit (.int .i64 x1347.To)), (.lit (.int .i64 x1347.W))], .test (leqm [(.lit (.int .i64 x1347.From)), (.lit (.int .i64 x1347.To)), (.lit (.int .i64 x1347.W))] 1 3) true, .test (apok (len v1343) 1 24) true, .sl (nadd (len v1343) 1) (lapp (flat eGEdge v1343) [(.lit (.int .i64 x1347.From)), (.lit (.int .i64 x1347.To)), (.lit (.int .i64 x1347.W))]) (len (α := GEdge) (appL v1343 [x1347])) (flat eGEdge (appL v1343 [x1347])), .int (wadd .i64 v1344 1) (wadd .i64 v1344 1)] := ⟨h1349, h1346, ⟨rfl, sub_flat0 eGEdge_len h1348 3 (by decide)⟩, rfl, h1350, (app_ok (enc := eGEdge) (v1343 : List GEdge) [x1347]), rfl, trivial⟩
        have h0 := ih _ _ _ hF
        have hn := fun ex ts' => loop_nextC (h := hn69) (l := 0) (c := c69_0) (ts := F69_l0_0_S a1332 a1333 v1343 v1344) (ts1 := (F69_l0_0_S a1332 a1333 (appL v1343 [x1347]) (wadd .i64 v1344 1))) (ex := ex) (ts' := ts') (pq1353 pz) (by kernel_rfl)
        exact hn _ _ h0
      have pz : HoldAll E H hn69 [.test (ieq x1347.From a1333) false, .int (wadd .i64 v1344 1) (wadd .i64 v1344 1)] := ⟨h1349, rfl, trivial⟩
      have h0 := ih _ _ _ hF
      have hn := fun ex ts' => loop_nextC (h := hn69) (l := 0) (c := c69_0) (ts := F69_l0_0_S a1332 a1333 v1343 v1344) (ts1 := (F69_l0_0_S a1332 a1333 v1343 (wadd .i64 v1344 1))) (ex := ex) (ts' := ts') (pq1353 pz) (by kernel_rfl)
      exact hn _ _ h0
    have hr := Option.some.inj hF
    subst hr
    have pz : HoldAll E H hn69 [.int (nlen (len a1332.Edges)) (nlen (len a1332.Edges)), .test (ilt v1344 (nlen (len a1332.Edges))) false] := ⟨rfl, h1345, trivial⟩
    exact loop_endC (h := hn69) (l := 0) (c := c69_0) (ts := F69_l0_0_S a1332 a1333 v1343 v1344) (ts' := F69_l0_0_X0 a1332 a1333 v1343) (ex := (.exit 0)) pz (by kernel_rfl) trivial

def F69 (K : Nat) (a1332 : GGraph) (a1333 : Int) : Option (List GEdge) :=
  (F65 K a1332).bind fun r1334 =>
  bif (ieq r1334 0) then
    ((F69_l0_0 K a1332 a1333 K [] 0).bind fun w1356 =>
    some w1356)
  else
  some []
theorem F69_ok (K : Nat) (a1332 : GGraph) (a1333 : Int) (r : List GEdge) (hF : F69 K a1332 a1333 = some r) : Evt E H 69 [.agg (eGGraph a1332), .one (.lit (.int .i64 a1333))] (F69_res r) := by
  rw [F69] at hF
  refine bind_some hF (fun r1334 h1335 hF => ?_)
  refine cond_some hF (fun h1336 hF => ?_) (fun h1336 hF => ?_)
  ·
    refine bind_some hF (fun w1356 h1354 hF => ?_)
    have hr := Option.some.inj hF
    subst hr
    have pz : HoldAll E H hn69 [.call 65 [.agg (eGGraph a1332)] (F65_res r1334), .test (leadsAny (Res.mk [(.one (.im (.lit (.int .i64 r1334))))] [])) false, .test (ine r1334 0) false, .loop 0 c69_0 (F69_l0_0_S a1332 a1333 [] 0) (.exit 0) (F69_l0_0_X0 a1332 a1333 w1356)] := ⟨(F65_ok K a1332 _ h1335), (leads_ok (by simp only [leadsAny, List.any_cons, List.any_nil, RV.leads, RC.leads, leadsT, hasSl_lit, Bool.or_false, flat_ns (eInt_ns _), flat_ns eBool_ns, flat_ns eStr_ns, flat_ns eGJob_ns, flat_ns eGEdge_ns, flat_ns eGAsked_ns, flat_ns eGMsg_ns, flat_ns eGrule_ns, flat_ns eGA199_ns, flat_ns eGA202_ns])), (ine_t h1336), (F69_l0_0_ok K a1332 a1333 K [] 0 _ h1354), trivial⟩
    exact fn_playC hn69 (f := 69) (ads := [.agg (eGGraph a1332), .one (.lit (.int .i64 a1333))]) (r := F69_res w1356) pz (by kernel_rfl) (by kernel_rfl)
  have hr := Option.some.inj hF
  subst hr
  have pz : HoldAll E H hn69 [.call 65 [.agg (eGGraph a1332)] (F65_res r1334), .test (leadsAny (Res.mk [(.one (.im (.lit (.int .i64 r1334))))] [])) false, .test (ine r1334 0) true] := ⟨(F65_ok K a1332 _ h1335), (leads_ok (by simp only [leadsAny, List.any_cons, List.any_nil, RV.leads, RC.leads, leadsT, hasSl_lit, Bool.or_false, flat_ns (eInt_ns _), flat_ns eBool_ns, flat_ns eStr_ns, flat_ns eGJob_ns, flat_ns eGEdge_ns, flat_ns eGAsked_ns, flat_ns eGMsg_ns, flat_ns eGrule_ns, flat_ns eGA199_ns, flat_ns eGA202_ns])), (ine_f h1336), trivial⟩
  exact fn_playC hn69 (f := 69) (ads := [.agg (eGGraph a1332), .one (.lit (.int .i64 a1333))]) (r := F69_res []) pz (by kernel_rfl) (by kernel_rfl)

/-! ### haywain/haywainlaw03.great -/
noncomputable def hn62 : Hint := { H 62 with nt := 7, prot := 0 }
def F62_res (r2380 : Bool) : Res := ⟨[(.one (.im (.lit (.bool r2380))))], []⟩
def F62 (K : Nat) (a2379 : GGraph) : Option (Bool) :=
  some (igt (nlen (len a2379.Edges)) 200)
theorem F62_ok (K : Nat) (a2379 : GGraph) (r : Bool) (hF : F62 K a2379 = some r) : Evt E H 62 [.agg (eGGraph a2379)] (F62_res r) := by
  rw [F62] at hF
  have hr := Option.some.inj hF
  subst hr
  have pz : HoldAll E H hn62 [.int (nlen (len a2379.Edges)) (nlen (len a2379.Edges))] := ⟨rfl, trivial⟩
  exact fn_playC hn62 (f := 62) (ads := [.agg (eGGraph a2379)]) (r := F62_res (igt (nlen (len a2379.Edges)) 200)) pz (by kernel_rfl) (by kernel_rfl)

/-! ### haywain/graph.fair -/
noncomputable def hn132 : Hint := { H 132 with nt := 35, prot := 0 }
def F132_res (r2404 : Int) : Res := ⟨[(.one (.im (.lit (.int .i64 r2404))))], []⟩
def F132 (K : Nat) (a2392 : GEdge) (a2393 : Int) : Option (Int) :=
  bif (ilt a2392.From 0) then
    (some 4)
  else
  bif (ile a2393 a2392.From) then
    (some 4)
  else
  bif (ilt a2392.To 0) then
    (some 4)
  else
  bif (ile a2393 a2392.To) then
    (some 4)
  else
  bif (ilt a2392.W 0) then
    (some 1)
  else
  bif (ilt 4611686018427387904 a2392.W) then
    (some 1)
  else
  some 0
theorem F132_ok (K : Nat) (a2392 : GEdge) (a2393 : Int) (r : Int) (hF : F132 K a2392 a2393 = some r) : Evt E H 132 [.agg (eGEdge a2392), .one (.lit (.int .i64 a2393))] (F132_res r) := by
  rw [F132] at hF
  refine cond_some hF (fun h2394 hF => ?_) (fun h2394 hF => ?_)
  ·
    have hr := Option.some.inj hF
    subst hr
    have pz : HoldAll E H hn132 [.test (beqb (ilt a2392.From 0) false) false, .test (beqb (ilt a2392.From 0) false) false, .test (beqb (ilt a2392.From 0) false) false, .test (beqb (ilt a2392.From 0) false) false, .test (ilt a2392.From 0) true, .test (beqb true false) false, .test (beqb true false) false, .test (beqb true false) false, .test true true, .test (beqb true false) false, .test (beqb true false) false, .test (beqb true false) false, .test (beqb true false) false, .test true true, .test true true] := ⟨(beqb_ft h2394), (beqb_ft h2394), (beqb_ft h2394), (beqb_ft h2394), h2394, (beqb_ft rfl), (beqb_ft rfl), (beqb_ft rfl), rfl, (beqb_ft rfl), (beqb_ft rfl), (beqb_ft rfl), (beqb_ft rfl), rfl, rfl, trivial⟩
    exact fn_playC hn132 (f := 132) (ads := [.agg (eGEdge a2392), .one (.lit (.int .i64 a2393))]) (r := F132_res 4) pz (by kernel_rfl) (by kernel_rfl)
  have pq2400 : ∀ {l : List Cond}, HoldAll E H hn132 l → HoldAll E H hn132 (.test (beqb (ilt a2392.From 0) false) true :: .test (beqb (ilt a2392.From 0) false) true :: .test (beqb (ilt a2392.From 0) false) true :: .test (beqb (ilt a2392.From 0) false) true :: .test (ilt a2392.From 0) false :: l) := fun z => ⟨(beqb_ff h2394), (beqb_ff h2394), (beqb_ff h2394), (beqb_ff h2394), h2394, z⟩
  refine cond_some hF (fun h2395 hF => ?_) (fun h2395 hF => ?_)
  ·
    have hr := Option.some.inj hF
    subst hr
    have pz : HoldAll E H hn132 [.test (beqb (ige a2392.From a2393) false) false, .test (beqb (ige a2392.From a2393) false) false, .test (beqb (ige a2392.From a2393) false) false, .test (ige a2392.From a2393) true, .test (beqb true false) false, .test (beqb true false) false, .test (beqb true false) false, .test (beqb true false) false, .test true true, .test true true] := ⟨(beqb_ft (ige_eq h2395)), (beqb_ft (ige_eq h2395)), (beqb_ft (ige_eq h2395)), (ige_eq h2395), (beqb_ft rfl), (beqb_ft rfl), (beqb_ft rfl), (beqb_ft rfl), rfl, rfl, trivial⟩
    exact fn_playC hn132 (f := 132) (ads := [.agg (eGEdge a2392), .one (.lit (.int .i64 a2393))]) (r := F132_res 4) (pq2400 pz) (by kernel_rfl) (by kernel_rfl)
  have pq2401 : ∀ {l : List Cond}, HoldAll E H hn132 l → HoldAll E H hn132 (.test (beqb (ige a2392.From a2393) false) true :: .test (beqb (ige a2392.From a2393) false) true :: .test (beqb (ige a2392.From a2393) false) true :: .test (ige a2392.From a2393) false :: l) := fun z => ⟨(beqb_ff (ige_eq h2395)), (beqb_ff (ige_eq h2395)), (beqb_ff (ige_eq h2395)), (ige_eq h2395), z⟩
  refine cond_some hF (fun h2396 hF => ?_) (fun h2396 hF => ?_)
  ·
    have hr := Option.some.inj hF
    subst hr
    have pz : HoldAll E H hn132 [.test (beqb (ilt a2392.To 0) false) false, .test (beqb (ilt a2392.To 0) false) false, .test (beqb (ilt a2392.To 0) false) false, .test (beqb (ilt a2392.To 0) false) false, .test (ilt a2392.To 0) true, .test true true] := ⟨(beqb_ft h2396), (beqb_ft h2396), (beqb_ft h2396), (beqb_ft h2396), h2396, rfl, trivial⟩
    exact fn_playC hn132 (f := 132) (ads := [.agg (eGEdge a2392), .one (.lit (.int .i64 a2393))]) (r := F132_res 4) (pq2400 (pq2401 pz)) (by kernel_rfl) (by kernel_rfl)
  have pq2402 : ∀ {l : List Cond}, HoldAll E H hn132 l → HoldAll E H hn132 (.test (beqb (ilt a2392.To 0) false) true :: .test (beqb (ilt a2392.To 0) false) true :: .test (beqb (ilt a2392.To 0) false) true :: .test (beqb (ilt a2392.To 0) false) true :: .test (ilt a2392.To 0) false :: l) := fun z => ⟨(beqb_ff h2396), (beqb_ff h2396), (beqb_ff h2396), (beqb_ff h2396), h2396, z⟩
  refine cond_some hF (fun h2397 hF => ?_) (fun h2397 hF => ?_)
  ·
    have hr := Option.some.inj hF
    subst hr
    have pz : HoldAll E H hn132 [.test (ige a2392.To a2393) true] := ⟨(ige_eq h2397), trivial⟩
    exact fn_playC hn132 (f := 132) (ads := [.agg (eGEdge a2392), .one (.lit (.int .i64 a2393))]) (r := F132_res 4) (pq2400 (pq2401 (pq2402 pz))) (by kernel_rfl) (by kernel_rfl)
  refine cond_some hF (fun h2398 hF => ?_) (fun h2398 hF => ?_)
  ·
    have hr := Option.some.inj hF
    subst hr
    have pz : HoldAll E H hn132 [.test (ige a2392.To a2393) false, .test (beqb (ilt a2392.W 0) false) false, .test (beqb (ilt a2392.W 0) false) false, .test (beqb (ilt a2392.W 0) false) false, .test (ilt a2392.W 0) true, .test true true] := ⟨(ige_eq h2397), (beqb_ft h2398), (beqb_ft h2398), (beqb_ft h2398), h2398, rfl, trivial⟩
    exact fn_playC hn132 (f := 132) (ads := [.agg (eGEdge a2392), .one (.lit (.int .i64 a2393))]) (r := F132_res 1) (pq2400 (pq2401 (pq2402 pz))) (by kernel_rfl) (by kernel_rfl)
  have pq2403 : ∀ {l : List Cond}, HoldAll E H hn132 l → HoldAll E H hn132 (.test (ige a2392.To a2393) false :: .test (beqb (ilt a2392.W 0) false) true :: .test (beqb (ilt a2392.W 0) false) true :: .test (beqb (ilt a2392.W 0) false) true :: .test (ilt a2392.W 0) false :: l) := fun z => ⟨(ige_eq h2397), (beqb_ff h2398), (beqb_ff h2398), (beqb_ff h2398), h2398, z⟩
  refine cond_some hF (fun h2399 hF => ?_) (fun h2399 hF => ?_)
  ·
    have hr := Option.some.inj hF
    subst hr
    have pz : HoldAll E H hn132 [.test (igt a2392.W 4611686018427387904) true] := ⟨(igt_eq h2399), trivial⟩
    exact fn_playC hn132 (f := 132) (ads := [.agg (eGEdge a2392), .one (.lit (.int .i64 a2393))]) (r := F132_res 1) (pq2400 (pq2401 (pq2402 (pq2403 pz)))) (by kernel_rfl) (by kernel_rfl)
  have hr := Option.some.inj hF
  subst hr
  have pz : HoldAll E H hn132 [.test (igt a2392.W 4611686018427387904) false] := ⟨(igt_eq h2399), trivial⟩
  exact fn_playC hn132 (f := 132) (ads := [.agg (eGEdge a2392), .one (.lit (.int .i64 a2393))]) (r := F132_res 0) (pq2400 (pq2401 (pq2402 (pq2403 pz)))) (by kernel_rfl) (by kernel_rfl)

/-! ### haywain/graph.order -/
noncomputable def hn133 : Hint := { H 133 with nt := 20, prot := 0 }
def F133_res (r2423 : Int) : Res := ⟨[(.one (.im (.lit (.int .i64 r2423))))], []⟩
def F133 (K : Nat) (a2420 : GEdge) (a2421 : GEdge) : Option (Int) :=
  bif (ieq a2420.From a2421.From) then
    (some (wsub .i64 a2420.To a2421.To))
  else
  some (wsub .i64 a2420.From a2421.From)
theorem F133_ok (K : Nat) (a2420 : GEdge) (a2421 : GEdge) (r : Int) (hF : F133 K a2420 a2421 = some r) : Evt E H 133 [.agg (eGEdge a2420), .agg (eGEdge a2421)] (F133_res r) := by
  rw [F133] at hF
  refine cond_some hF (fun h2422 hF => ?_) (fun h2422 hF => ?_)
  ·
    have hr := Option.some.inj hF
    subst hr
    have pz : HoldAll E H hn133 [.test (ine a2420.From a2421.From) false, .int (wsub .i64 a2420.To a2421.To) (wsub .i64 a2420.To a2421.To)] := ⟨(ine_t h2422), rfl, trivial⟩
    exact fn_playC hn133 (f := 133) (ads := [.agg (eGEdge a2420), .agg (eGEdge a2421)]) (r := F133_res (wsub .i64 a2420.To a2421.To)) pz (by kernel_rfl) (by kernel_rfl)
  have hr := Option.some.inj hF
  subst hr
  have pz : HoldAll E H hn133 [.test (ine a2420.From a2421.From) true, .int (wsub .i64 a2420.From a2421.From) (wsub .i64 a2420.From a2421.From)] := ⟨(ine_f h2422), rfl, trivial⟩
  exact fn_playC hn133 (f := 133) (ads := [.agg (eGEdge a2420), .agg (eGEdge a2421)]) (r := F133_res (wsub .i64 a2420.From a2421.From)) pz (by kernel_rfl) (by kernel_rfl)

/-! ### haywain/graph.Check -/
noncomputable def hn64 : Hint := { H 64 with nt := 51, prot := 0 }
noncomputable def c64_0 : Code := loopOf E 64 0
def F64_res (r2440 : Int) : Res := ⟨[(.one (.im (.lit (.int .i64 r2440))))], []⟩
def F64_l0_0 (K : Nat) (a2384 : GGraph) : Nat → Int → Option ((Int) ⊕ (Unit))
  | 0, _ => none
  | k + 1, v2408 =>
    bif (ilt v2408 (nlen (len a2384.Edges))) then
      (bif (inr v2408 (len a2384.Edges)) then
      (elAt a2384.Edges v2408).bind fun x2411 =>
      (F132 K x2411 a2384.N).bind fun r2413 =>
      bif (ieq r2413 0) then
        (bif (ieq v2408 0) then
          (F64_l0_0 K a2384 k (wadd .i64 v2408 1))
        else
        bif (inr (wsub .i64 v2408 1) (len a2384.Edges)) then
        (elAt a2384.Edges (wsub .i64 v2408 1)).bind fun x2418 =>
        (F133 K x2418 x2411).bind fun r2424 =>
        bif (ieq r2424 0) then
          (some (.inl 5))
        else
        bif (ilt 0 r2424) then
          (some (.inl 6))
        else
        F64_l0_0 K a2384 k (wadd .i64 v2408 1)
        else none)
      else
      some (.inl r2413)
      else none)
    else
    some (.inr ())
def F64_l0_0_S (a2384 : GGraph) (v2408 : Int) : TS := .on [64, 65, 66, 1216, 1280, 1281, 1344, 1345, 1408, 1409] [(64, ⟨(.box 62 2), 0, nob⟩), (65, ⟨.im, 0, (.lit (.int .i64 a2384.N))⟩), (66, ⟨.im, 0, (.sl (len a2384.Edges) (flat eGEdge a2384.Edges))⟩), (1216, ⟨(.ad 1 0 1), 0, nob⟩), (1280, ⟨.one, 0, nob⟩), (1281, ⟨.im, 0, (.sl (len a2384.Edges) (flat eGEdge a2384.Edges))⟩), (1344, ⟨.one, 0, nob⟩), (1345, ⟨.im, 0, (.lit (.int .i64 (nlen (len a2384.Edges))))⟩), (1408, ⟨.one, 0, nob⟩), (1409, ⟨.im, 0, (.lit (.int .i64 v2408))⟩)]
def F64_l0_0_X0 (a2384 : GGraph) (w2428 : Int) : TS := .on [128, 129] [(128, ⟨.one, 0, nob⟩), (129, ⟨.im, 0, (.lit (.int .i64 w2428))⟩)]
def F64_l0_0_X1 (a2384 : GGraph) (w2430 : Unit) : TS := .on [] []
theorem F64_l0_0_ok (K : Nat) (a2384 : GGraph) : ∀ (k : Nat) (v2408 : Int) (r : (Int) ⊕ (Unit)), F64_l0_0 K a2384 k v2408 = some r → (Sum.elim (fun w => LoopEv E H hn64 0 c64_0 (F64_l0_0_S a2384 v2408) .ret (F64_l0_0_X0 a2384 w)) (fun w => LoopEv E H hn64 0 c64_0 (F64_l0_0_S a2384 v2408) (.exit 0) (F64_l0_0_X1 a2384 w))) r := by
  intro k
  induction k with
  | zero => intro v2408 r hF; cases hF
  | succ k ih =>
    intro v2408 r hF
    rw [F64_l0_0] at hF
    refine cond_some hF (fun h2409 hF => ?_) (fun h2409 hF => ?_)
    ·
      refine cond_some hF (fun h2410 hF => ?_) (fun _ hF => nomatch hF)
      refine bind_some hF (fun x2411 h2412 hF => ?_)
      refine bind_some hF (fun r2413 h2414 hF => ?_)
      have pq2431 : ∀ {l : List Cond}, HoldAll E H hn64 l → HoldAll E H hn64 (.test (ilt v2408 (nlen (len a2384.Edges))) true :: .test (inr v2408 (len a2384.Edges)) true :: .sub (flat eGEdge a2384.Edges) (nidx v2408 3) 3 [(.lit (.int .i64 x2411.From)), (.lit (.int .i64 x2411.To)), (.lit (.int .i64 x2411.W))] :: .call 132 [.agg (eGEdge x2411), .one (.lit (.int .i64 a2384.N))] (F132_res r2413) :: .test (leadsAny (Res.mk [(.one (.im (.lit (.int .i64 r2413))))] [])) false :: l) := fun z => ⟨h2409, h2410, ⟨rfl, sub_flat0 eGEdge_len h2412 3 (by decide)⟩, (F132_ok K x2411 a2384.N _ h2414), (leads_ok (by simp only [leadsAny, List.any_cons, List.any_nil, RV.leads, RC.leads, leadsT, hasSl_lit, Bool.or_false, flat_ns (eInt_ns _), flat_ns eBool_ns, flat_ns eStr_ns, flat_ns eGJob_ns, flat_ns eGEdge_ns, flat_ns eGAsked_ns, flat_ns eGMsg_ns, flat_ns eGrule_ns, flat_ns eGA199_ns, flat_ns eGA202_ns])), z⟩
      refine cond_some hF (fun h2415 hF => ?_) (fun h2415 hF => ?_)
      ·
        refine cond_some hF (fun h2416 hF => ?_) (fun h2416 hF => ?_)
        ·
          have pz : HoldAll E H hn64 [.test (ine r2413 0) false, .test (ieq v2408 0) true, .int (wadd .i64 v2408 1) (wadd .i64 v2408 1)] := ⟨(ine_t h2415), h2416, rfl, trivial⟩
          have h0 := ih _ _ hF
          have hn := fun ex ts' => loop_nextC (h := hn64) (l := 0) (c := c64_0) (ts := F64_l0_0_S a2384 v2408) (ts1 := (F64_l0_0_S a2384 (wadd .i64 v2408 1))) (ex := ex) (ts' := ts') (pq2431 pz) (by kernel_rfl)
          cases r with
          | inl w => exact hn _ _ h0
          | inr w => exact hn _ _ h0
        refine cond_some hF (fun h2417 hF => ?_) (fun _ hF => nomatch hF)
        refine bind_some hF (fun x2418 h2419 hF => ?_)
        refine bind_some hF (fun r2424 h2425 hF => ?_)
        have pq2432 : ∀ {l : List Cond}, HoldAll E H hn64 l → HoldAll E H hn64 (.test (ine r2413 0) false :: .test (ieq v2408 0) false :: .int (wsub .i64 v2408 1) (wsub .i64 v2408 1) :: .test (inr (wsub .i64 v2408 1) (len a2384.Edges)) true :: .sub (flat eGEdge a2384.Edges) (nidx (wsub .i64 v2408 1) 3) 3 [(.lit (.int .i64 x2418.From)), (.lit (.int .i64 x2418.To)), (.lit (.int .i64 x2418.W))] :: .call 133 [.agg (eGEdge x2418), .agg (eGEdge x2411)] (F133_res r2424) :: .test (leadsAny (Res.mk [(.one (.im (.lit (.int .i64 r2424))))] [])) false :: l) := fun z => ⟨(ine_t h2415), h2416, rfl, h2417, ⟨rfl, sub_flat0 eGEdge_len h2419 3 (by decide)⟩, (F133_ok K x2418 x2411 _ h2425), (leads_ok (by simp only [leadsAny, List.any_cons, List.any_nil, RV.leads, RC.leads, leadsT, hasSl_lit, Bool.or_false, flat_ns (eInt_ns _), flat_ns eBool_ns, flat_ns eStr_ns, flat_ns eGJob_ns, flat_ns eGEdge_ns, flat_ns eGAsked_ns, flat_ns eGMsg_ns, flat_ns eGrule_ns, flat_ns eGA199_ns, flat_ns eGA202_ns])), z⟩
        refine cond_some hF (fun h2426 hF => ?_) (fun h2426 hF => ?_)
        ·
          have hr := Option.some.inj hF
          subst hr
          have pz : HoldAll E H hn64 [.test (ieq r2424 0) true] := ⟨h2426, trivial⟩
          exact loop_endC (h := hn64) (l := 0) (c := c64_0) (ts := F64_l0_0_S a2384 v2408) (ts' := F64_l0_0_X0 a2384 5) (ex := .ret) (pq2431 (pq2432 pz)) (by kernel_rfl) trivial
        refine cond_some hF (fun h2427 hF => ?_) (fun h2427 hF => ?_)
        ·
          have hr := Option.some.inj hF
          subst hr
          have pz : HoldAll E H hn64 [.test (ieq r2424 0) false, .test (igt r2424 0) true] := ⟨h2426, (igt_eq h2427), trivial⟩
          exact loop_endC (h := hn64) (l := 0) (c := c64_0) (ts := F64_l0_0_S a2384 v2408) (ts' := F64_l0_0_X0 a2384 6) (ex := .ret) (pq2431 (pq2432 pz)) (by kernel_rfl) trivial
        have pz : HoldAll E H hn64 [.test (ieq r2424 0) false, .test (igt r2424 0) false, .int (wadd .i64 v2408 1) (wadd .i64 v2408 1)] := ⟨h2426, (igt_eq h2427), rfl, trivial⟩
        have h0 := ih _ _ hF
        have hn := fun ex ts' => loop_nextC (h := hn64) (l := 0) (c := c64_0) (ts := F64_l0_0_S a2384 v2408) (ts1 := (F64_l0_0_S a2384 (wadd .i64 v2408 1))) (ex := ex) (ts' := ts') (pq2431 (pq2432 pz)) (by kernel_rfl)
        cases r with
        | inl w => exact hn _ _ h0
        | inr w => exact hn _ _ h0
      have hr := Option.some.inj hF
      subst hr
      have pz : HoldAll E H hn64 [.test (ine r2413 0) true] := ⟨(ine_f h2415), trivial⟩
      exact loop_endC (h := hn64) (l := 0) (c := c64_0) (ts := F64_l0_0_S a2384 v2408) (ts' := F64_l0_0_X0 a2384 r2413) (ex := .ret) (pq2431 pz) (by kernel_rfl) trivial
    have hr := Option.some.inj hF
    subst hr
    have pz : HoldAll E H hn64 [.test (ilt v2408 (nlen (len a2384.Edges))) false] := ⟨h2409, trivial⟩
    exact loop_endC (h := hn64) (l := 0) (c := c64_0) (ts := F64_l0_0_S a2384 v2408) (ts' := F64_l0_0_X1 a2384 ()) (ex := (.exit 0)) pz (by kernel_rfl) trivial

def F64 (K : Nat) (a2384 : GGraph) : Option (Int) :=
  bif (ilt a2384.N 1) then
    (some 1)
  else
  bif (ilt 24 a2384.N) then
    (some 1)
  else
  bif (ilt 80 (nlen (len a2384.Edges))) then
    (some 3)
  else
  (F64_l0_0 K a2384 K 0).bind fun y2434 =>
  Sum.elim (fun w2435 =>
    some w2435)
    (fun w2437 =>
    some 0) y2434
theorem F64_ok (K : Nat) (a2384 : GGraph) (r : Int) (hF : F64 K a2384 = some r) : Evt E H 64 [.agg (eGGraph a2384)] (F64_res r) := by
  rw [F64] at hF
  refine cond_some hF (fun h2385 hF => ?_) (fun h2385 hF => ?_)
  ·
    have hr := Option.some.inj hF
    subst hr
    have pz : HoldAll E H hn64 [.test (beqb (ilt a2384.N 1) false) false, .test (beqb (ilt a2384.N 1) false) false, .test (beqb (ilt a2384.N 1) false) false, .test (ilt a2384.N 1) true, .test true true] := ⟨(beqb_ft h2385), (beqb_ft h2385), (beqb_ft h2385), h2385, rfl, trivial⟩
    exact fn_playC hn64 (f := 64) (ads := [.agg (eGGraph a2384)]) (r := F64_res 1) pz (by kernel_rfl) (by kernel_rfl)
  have pq2438 : ∀ {l : List Cond}, HoldAll E H hn64 l → HoldAll E H hn64 (.test (beqb (ilt a2384.N 1) false) true :: .test (beqb (ilt a2384.N 1) false) true :: .test (beqb (ilt a2384.N 1) false) true :: .test (ilt a2384.N 1) false :: l) := fun z => ⟨(beqb_ff h2385), (beqb_ff h2385), (beqb_ff h2385), h2385, z⟩
  refine cond_some hF (fun h2386 hF => ?_) (fun h2386 hF => ?_)
  ·
    have hr := Option.some.inj hF
    subst hr
    have pz : HoldAll E H hn64 [.test (igt a2384.N 24) true] := ⟨(igt_eq h2386), trivial⟩
    exact fn_playC hn64 (f := 64) (ads := [.agg (eGGraph a2384)]) (r := F64_res 1) (pq2438 pz) (by kernel_rfl) (by kernel_rfl)
  refine cond_some hF (fun h2387 hF => ?_) (fun h2387 hF => ?_)
  ·
    have hr := Option.some.inj hF
    subst hr
    have pz : HoldAll E H hn64 [.test (igt a2384.N 24) false, .int (nlen (len a2384.Edges)) (nlen (len a2384.Edges)), .test (igt (nlen (len a2384.Edges)) 80) true] := ⟨(igt_eq h2386), rfl, (igt_eq h2387), trivial⟩
    exact fn_playC hn64 (f := 64) (ads := [.agg (eGGraph a2384)]) (r := F64_res 3) (pq2438 pz) (by kernel_rfl) (by kernel_rfl)
  have pq2439 : ∀ {l : List Cond}, HoldAll E H hn64 l → HoldAll E H hn64 (.test (igt a2384.N 24) false :: .int (nlen (len a2384.Edges)) (nlen (len a2384.Edges)) :: .test (igt (nlen (len a2384.Edges)) 80) false :: .int (nlen (len a2384.Edges)) (nlen (len a2384.Edges)) :: l) := fun z => ⟨(igt_eq h2386), rfl, (igt_eq h2387), rfl, z⟩
  refine bind_some hF (fun y2434 h2433 hF => ?_)
  refine sum_some hF (fun w2435 hx hF => ?_) (fun w2437 hx hF => ?_)
  ·
    subst hx
    have hr := Option.some.inj hF
    subst hr
    have pz : HoldAll E H hn64 [.loop 0 c64_0 (F64_l0_0_S a2384 0) .ret (F64_l0_0_X0 a2384 w2435)] := ⟨(F64_l0_0_ok K a2384 K 0 _ h2433), trivial⟩
    exact fn_playC hn64 (f := 64) (ads := [.agg (eGGraph a2384)]) (r := F64_res w2435) (pq2438 (pq2439 pz)) (by kernel_rfl) (by kernel_rfl)
  subst hx
  have hr := Option.some.inj hF
  subst hr
  have pz : HoldAll E H hn64 [.loop 0 c64_0 (F64_l0_0_S a2384 0) (.exit 0) (F64_l0_0_X1 a2384 w2437)] := ⟨(F64_l0_0_ok K a2384 K 0 _ h2433), trivial⟩
  exact fn_playC hn64 (f := 64) (ads := [.agg (eGGraph a2384)]) (r := F64_res 0) (pq2438 (pq2439 pz)) (by kernel_rfl) (by kernel_rfl)

/-! ### haywain/graph.digits -/
noncomputable def hn134 : Hint := { H 134 with nt := 20, prot := 0 }
def F134_res (r2461 : ByteArray) : Res := ⟨[(.one (.im (.lit (.string r2461))))], []⟩
def F134 (K : Nat) : Nat → Int → Option (ByteArray)
  | 0, _ => none
  | d + 1, a2456 =>
  bif (ilt a2456 10) then
    (some (bstr [(.lit (.int .u8 (wconv .u8 (wadd .i64 48 a2456))))]))
  else
  (F134 K d (wquo .i64 a2456 10)).bind fun r2458 =>
  bif (sbig r2458 (bstr [(.lit (.int .u8 (wconv .u8 (wadd .i64 48 (wrem a2456 10)))))])) then none else
  some (sapp r2458 (bstr [(.lit (.int .u8 (wconv .u8 (wadd .i64 48 (wrem a2456 10)))))]))
theorem F134_ok (K : Nat) : ∀ (d : Nat) (a2456 : Int) (r : ByteArray), F134 K d a2456 = some r → Evt E H 134 [.one (.lit (.int .i64 a2456))] (F134_res r) := by
  intro d
  induction d with
  | zero => intro a2456 r hF; cases hF
  | succ d ih =>
    intro a2456 r hF
    rw [F134] at hF
    refine cond_some hF (fun h2457 hF => ?_) (fun h2457 hF => ?_)
    ·
      have hr := Option.some.inj hF
      subst hr
      have pz : HoldAll E H hn134 [.test (ilt a2456 10) true, .int (wadd .i64 48 a2456) (wadd .i64 48 a2456), .int (wconv .u8 (wadd .i64 48 a2456)) (wconv .u8 (wadd .i64 48 a2456)), .test (isby [(.lit (.int .u8 (wconv .u8 (wadd .i64 48 a2456))))] 1) true] := ⟨h2457, rfl, rfl, rfl, trivial⟩
      exact fn_playC hn134 (f := 134) (ads := [.one (.lit (.int .i64 a2456))]) (r := F134_res (bstr [(.lit (.int .u8 (wconv .u8 (wadd .i64 48 a2456))))])) pz (by kernel_rfl) (by kernel_rfl)
    refine bind_some hF (fun r2458 h2459 hF => ?_)
    refine cond_some hF (fun _ hF => nomatch hF) (fun h2460 hF => ?_)
    have hr := Option.some.inj hF
    subst hr
    have pz : HoldAll E H hn134 [.test (ilt a2456 10) false, .test (izero 10) false, .int (wquo .i64 a2456 10) (wquo .i64 a2456 10), .call 134 [.one (.lit (.int .i64 (wquo .i64 a2456 10)))] (F134_res r2458), .test (leadsAny (Res.mk [(.one (.im (.lit (.string r2458))))] [])) false, .test (izero 10) false, .int (wrem a2456 10) (wrem a2456 10), .int (wadd .i64 48 (wrem a2456 10)) (wadd .i64 48 (wrem a2456 10)), .int (wconv .u8 (wadd .i64 48 (wrem a2456 10))) (wconv .u8 (wadd .i64 48 (wrem a2456 10))), .test (isby [(.lit (.int .u8 (wconv .u8 (wadd .i64 48 (wrem a2456 10)))))] 1) true, .test (sbig r2458 (bstr [(.lit (.int .u8 (wconv .u8 (wadd .i64 48 (wrem a2456 10)))))])) false] := ⟨h2457, (by first | exact rfl | (unfold Cond.Holds; decide)), rfl, (ih (wquo .i64 a2456 10) _ h2459), (leads_ok (by simp only [leadsAny, List.any_cons, List.any_nil, RV.leads, RC.leads, leadsT, hasSl_lit, Bool.or_false, flat_ns (eInt_ns _), flat_ns eBool_ns, flat_ns eStr_ns, flat_ns eGJob_ns, flat_ns eGEdge_ns, flat_ns eGAsked_ns, flat_ns eGMsg_ns, flat_ns eGrule_ns, flat_ns eGA199_ns, flat_ns eGA202_ns])), (by first | exact rfl | (unfold Cond.Holds; decide)), rfl, rfl, rfl, rfl, h2460, trivial⟩
    exact fn_playC hn134 (f := 134) (ads := [.one (.lit (.int .i64 a2456))]) (r := F134_res (sapp r2458 (bstr [(.lit (.int .u8 (wconv .u8 (wadd .i64 48 (wrem a2456 10)))))]))) pz (by kernel_rfl) (by kernel_rfl)

/-! ### haywain/graph.Print -/
noncomputable def hn66 : Hint := { H 66 with nt := 44, prot := 0 }
noncomputable def c66_0 : Code := loopOf E 66 0
def F66_res (r2508 : ByteArray × Int) : Res := ⟨[(.one (.im (.lit (.string r2508.1)))), (.one (.im (.lit (.int .i64 r2508.2))))], []⟩
def F66_l0_0 (K : Nat) (a2452 : GGraph) : Nat → ByteArray → Int → Option (ByteArray)
  | 0, _, _ => none
  | k + 1, v2483, v2484 =>
    bif (ilt v2484 (nlen (len a2452.Edges))) then
      (bif (inr v2484 (len a2452.Edges)) then
      (elAt a2452.Edges v2484).bind fun x2487 =>
      (F134 K K x2487.From).bind fun r2489 =>
      bif (sbig (bs [101, 100, 103, 101, 32]) r2489) then none else
      bif (sbig (sapp (bs [101, 100, 103, 101, 32]) r2489) (bs [32])) then none else
      (F134 K K x2487.To).bind fun r2493 =>
      bif (sbig (sapp (sapp (bs [101, 100, 103, 101, 32]) r2489) (bs [32])) r2493) then none else
      bif (sbig (sapp (sapp (sapp (bs [101, 100, 103, 101, 32]) r2489) (bs [32])) r2493) (bs [32])) then none else
      (F134 K K x2487.W).bind fun r2497 =>
      bif (sbig (sapp (sapp (sapp (sapp (bs [101, 100, 103, 101, 32]) r2489) (bs [32])) r2493) (bs [32])) r2497) then none else
      bif (sbig (sapp (sapp (sapp (sapp (sapp (bs [101, 100, 103, 101, 32]) r2489) (bs [32])) r2493) (bs [32])) r2497) (bs [10])) then none else
      bif (sbig v2483 (sapp (sapp (sapp (sapp (sapp (sapp (bs [101, 100, 103, 101, 32]) r2489) (bs [32])) r2493) (bs [32])) r2497) (bs [10]))) then none else
      F66_l0_0 K a2452 k (sapp v2483 (sapp (sapp (sapp (sapp (sapp (sapp (bs [101, 100, 103, 101, 32]) r2489) (bs [32])) r2493) (bs [32])) r2497) (bs [10]))) (wadd .i64 v2484 1)
      else none)
    else
    some v2483
def F66_l0_0_S (a2452 : GGraph) (v2483 : ByteArray) (v2484 : Int) : TS := .on [64, 65, 66, 320, 321, 1152, 1216, 1217, 1280, 1281, 1344, 1345] [(64, ⟨(.box 62 2), 0, nob⟩), (65, ⟨.im, 0, (.lit (.int .i64 a2452.N))⟩), (66, ⟨.im, 0, (.sl (len a2452.Edges) (flat eGEdge a2452.Edges))⟩), (320, ⟨.one, 0, nob⟩), (321, ⟨.im, 0, (.lit (.string v2483))⟩), (1152, ⟨(.ad 1 0 1), 0, nob⟩), (1216, ⟨.one, 0, nob⟩), (1217, ⟨.im, 0, (.sl (len a2452.Edges) (flat eGEdge a2452.Edges))⟩), (1280, ⟨.one, 0, nob⟩), (1281, ⟨.im, 0, (.lit (.int .i64 (nlen (len a2452.Edges))))⟩), (1344, ⟨.one, 0, nob⟩), (1345, ⟨.im, 0, (.lit (.int .i64 v2484))⟩)]
def F66_l0_0_X0 (a2452 : GGraph) (w2502 : ByteArray) : TS := .on [320, 321] [(320, ⟨.one, 0, nob⟩), (321, ⟨.im, 0, (.lit (.string w2502))⟩)]
theorem F66_l0_0_ok (K : Nat) (a2452 : GGraph) : ∀ (k : Nat) (v2483 : ByteArray) (v2484 : Int) (r : ByteArray), F66_l0_0 K a2452 k v2483 v2484 = some r → LoopEv E H hn66 0 c66_0 (F66_l0_0_S a2452 v2483 v2484) (.exit 0) (F66_l0_0_X0 a2452 r) := by
  intro k
  induction k with
  | zero => intro v2483 v2484 r hF; cases hF
  | succ k ih =>
    intro v2483 v2484 r hF
    rw [F66_l0_0] at hF
    refine cond_some hF (fun h2485 hF => ?_) (fun h2485 hF => ?_)
    ·
      refine cond_some hF (fun h2486 hF => ?_) (fun _ hF => nomatch hF)
      refine bind_some hF (fun x2487 h2488 hF => ?_)
      refine bind_some hF (fun r2489 h2490 hF => ?_)
      refine cond_some hF (fun _ hF => nomatch hF) (fun h2491 hF => ?_)
      refine cond_some hF (fun _ hF => nomatch hF) (fun h2492 hF => ?_)
      refine bind_some hF (fun r2493 h2494 hF => ?_)
      refine cond_some hF (fun _ hF => nomatch hF) (fun h2495 hF => ?_)
      refine cond_some hF (fun _ hF => nomatch hF) (fun h2496 hF => ?_)
      refine bind_some hF (fun r2497 h2498 hF => ?_)
      refine cond_some hF (fun _ hF => nomatch hF) (fun h2499 hF => ?_)
      refine cond_some hF (fun _ hF => nomatch hF) (fun h2500 hF => ?_)
      refine cond_some hF (fun _ hF => nomatch hF) (fun h2501 hF => ?_)
      have pz : HoldAll E H hn66 [.test (ilt v2484 (nlen (len a2452.Edges))) true, .test (inr v2484 (len a2452.Edges)) true, .sub (flat eGEdge a2452.Edges) (nidx v2484 3) 3 [(.lit (.int .i64 x2487.From)), (.lit (.int .i64 x2487.To)), (.lit (.int .i64 x2487.W))], .call 134 [.one (.lit (.int .i64 x2487.From))] (F134_res r2489), .test (leadsAny (Res.mk [(.one (.im (.lit (.string r2489))))] [])) false, .test (sbig (bs [101, 100, 103, 101, 32]) r2489) false, .test (sbig (sapp (bs [101, 100, 103, 101, 32]) r2489) (bs [32])) false, .call 134 [.one (.lit (.int .i64 x2487.To))] (F134_res r2493), .test (leadsAny (Res.mk [(.one (.im (.lit (.string r2493))))] [])) false, .test (sbig (sapp (sapp (bs [101, 100, 103, 101, 32]) r2489) (bs [32])) r2493) false, .test (sbig (sapp (sapp (sapp (bs [101, 100, 103, 101, 32]) r2489) (bs [32])) r2493) (bs [32])) false, .call 134 [.one (.lit (.int .i64 x2487.W))] (F134_res r2497), .test (leadsAny (Res.mk [(.one (.im (.lit (.string r2497))))] [])) false, .test (sbig (sapp (sapp (sapp (sapp (bs [101, 100, 103, 101, 32]) r2489) (bs [32])) r2493) (bs [32])) r2497) false, .test (sbig (sapp (sapp (sapp (sapp (sapp (bs [101, 100, 103, 101, 32]) r2489) (bs [32])) r2493) (bs [32])) r2497) (bs [10])) false, .test (sbig v2483 (sapp (sapp (sapp (sapp (sapp (sapp (bs [101, 100, 103, 101, 32]) r2489) (bs [32])) r2493) (bs [32])) r2497) (bs [10]))) false, .int (wadd .i64 v2484 1) (wadd .i64 v2484 1)] := ⟨h2485, h2486, ⟨rfl, sub_flat0 eGEdge_len h2488 3 (by decide)⟩, (F134_ok K K x2487.From _ h2490), (leads_ok (by simp only [leadsAny, List.any_cons, List.any_nil, RV.leads, RC.leads, leadsT, hasSl_lit, Bool.or_false, flat_ns (eInt_ns _), flat_ns eBool_ns, flat_ns eStr_ns, flat_ns eGJob_ns, flat_ns eGEdge_ns, flat_ns eGAsked_ns, flat_ns eGMsg_ns, flat_ns eGrule_ns, flat_ns eGA199_ns, flat_ns eGA202_ns])), h2491, h2492, (F134_ok K K x2487.To _ h2494), (leads_ok (by simp only [leadsAny, List.any_cons, List.any_nil, RV.leads, RC.leads, leadsT, hasSl_lit, Bool.or_false, flat_ns (eInt_ns _), flat_ns eBool_ns, flat_ns eStr_ns, flat_ns eGJob_ns, flat_ns eGEdge_ns, flat_ns eGAsked_ns, flat_ns eGMsg_ns, flat_ns eGrule_ns, flat_ns eGA199_ns, flat_ns eGA202_ns])), h2495, h2496, (F134_ok K K x2487.W _ h2498), (leads_ok (by simp only [leadsAny, List.any_cons, List.any_nil, RV.leads, RC.leads, leadsT, hasSl_lit, Bool.or_false, flat_ns (eInt_ns _), flat_ns eBool_ns, flat_ns eStr_ns, flat_ns eGJob_ns, flat_ns eGEdge_ns, flat_ns eGAsked_ns, flat_ns eGMsg_ns, flat_ns eGrule_ns, flat_ns eGA199_ns, flat_ns eGA202_ns])), h2499, h2500, h2501, rfl, trivial⟩
      have h0 := ih _ _ _ hF
      have hn := fun ex ts' => loop_nextC (h := hn66) (l := 0) (c := c66_0) (ts := F66_l0_0_S a2452 v2483 v2484) (ts1 := (F66_l0_0_S a2452 (sapp v2483 (sapp (sapp (sapp (sapp (sapp (sapp (bs [101, 100, 103, 101, 32]) r2489) (bs [32])) r2493) (bs [32])) r2497) (bs [10]))) (wadd .i64 v2484 1))) (ex := ex) (ts' := ts') pz (by kernel_rfl)
      exact hn _ _ h0
    have hr := Option.some.inj hF
    subst hr
    have pz : HoldAll E H hn66 [.test (ilt v2484 (nlen (len a2452.Edges))) false] := ⟨h2485, trivial⟩
    exact loop_endC (h := hn66) (l := 0) (c := c66_0) (ts := F66_l0_0_S a2452 v2483 v2484) (ts' := F66_l0_0_X0 a2452 v2483) (ex := (.exit 0)) pz (by kernel_rfl) trivial

def F66 (K : Nat) (a2452 : GGraph) : Option (ByteArray × Int) :=
  (F64 K a2452).bind fun r2453 =>
  bif (ieq r2453 0) then
    ((F134 K K a2452.N).bind fun r2462 =>
    bif (sbig (bs [103, 114, 97, 112, 104, 32]) r2462) then none else
    bif (sbig (sapp (bs [103, 114, 97, 112, 104, 32]) r2462) (bs [10])) then none else
    (F66_l0_0 K a2452 K (sapp (sapp (bs [103, 114, 97, 112, 104, 32]) r2462) (bs [10])) 0).bind fun w2506 =>
    some (w2506, 0))
  else
  some ((bs []), r2453)
theorem F66_ok (K : Nat) (a2452 : GGraph) (r : ByteArray × Int) (hF : F66 K a2452 = some r) : Evt E H 66 [.agg (eGGraph a2452)] (F66_res r) := by
  rw [F66] at hF
  refine bind_some hF (fun r2453 h2454 hF => ?_)
  refine cond_some hF (fun h2455 hF => ?_) (fun h2455 hF => ?_)
  ·
    refine bind_some hF (fun r2462 h2463 hF => ?_)
    refine cond_some hF (fun _ hF => nomatch hF) (fun h2464 hF => ?_)
    refine cond_some hF (fun _ hF => nomatch hF) (fun h2465 hF => ?_)
    refine bind_some hF (fun w2506 h2504 hF => ?_)
    have hr := Option.some.inj hF
    subst hr
    have pz : HoldAll E H hn66 [.call 64 [.agg (eGGraph a2452)] (F64_res r2453), .test (leadsAny (Res.mk [(.one (.im (.lit (.int .i64 r2453))))] [])) false, .test (ine r2453 0) false, .call 134 [.one (.lit (.int .i64 a2452.N))] (F134_res r2462), .test (leadsAny (Res.mk [(.one (.im (.lit (.string r2462))))] [])) false, .test (sbig (bs [103, 114, 97, 112, 104, 32]) r2462) false, .test (sbig (sapp (bs [103, 114, 97, 112, 104, 32]) r2462) (bs [10])) false, .int (nlen (len a2452.Edges)) (nlen (len a2452.Edges)), .loop 0 c66_0 (F66_l0_0_S a2452 (sapp (sapp (bs [103, 114, 97, 112, 104, 32]) r2462) (bs [10])) 0) (.exit 0) (F66_l0_0_X0 a2452 w2506)] := ⟨(F64_ok K a2452 _ h2454), (leads_ok (by simp only [leadsAny, List.any_cons, List.any_nil, RV.leads, RC.leads, leadsT, hasSl_lit, Bool.or_false, flat_ns (eInt_ns _), flat_ns eBool_ns, flat_ns eStr_ns, flat_ns eGJob_ns, flat_ns eGEdge_ns, flat_ns eGAsked_ns, flat_ns eGMsg_ns, flat_ns eGrule_ns, flat_ns eGA199_ns, flat_ns eGA202_ns])), (ine_t h2455), (F134_ok K K a2452.N _ h2463), (leads_ok (by simp only [leadsAny, List.any_cons, List.any_nil, RV.leads, RC.leads, leadsT, hasSl_lit, Bool.or_false, flat_ns (eInt_ns _), flat_ns eBool_ns, flat_ns eStr_ns, flat_ns eGJob_ns, flat_ns eGEdge_ns, flat_ns eGAsked_ns, flat_ns eGMsg_ns, flat_ns eGrule_ns, flat_ns eGA199_ns, flat_ns eGA202_ns])), h2464, h2465, rfl, (F66_l0_0_ok K a2452 K (sapp (sapp (bs [103, 114, 97, 112, 104, 32]) r2462) (bs [10])) 0 _ h2504), trivial⟩
    exact fn_playC hn66 (f := 66) (ads := [.agg (eGGraph a2452)]) (r := F66_res (w2506, 0)) pz (by kernel_rfl) (by kernel_rfl)
  have hr := Option.some.inj hF
  subst hr
  have pz : HoldAll E H hn66 [.call 64 [.agg (eGGraph a2452)] (F64_res r2453), .test (leadsAny (Res.mk [(.one (.im (.lit (.int .i64 r2453))))] [])) false, .test (ine r2453 0) true] := ⟨(F64_ok K a2452 _ h2454), (leads_ok (by simp only [leadsAny, List.any_cons, List.any_nil, RV.leads, RC.leads, leadsT, hasSl_lit, Bool.or_false, flat_ns (eInt_ns _), flat_ns eBool_ns, flat_ns eStr_ns, flat_ns eGJob_ns, flat_ns eGEdge_ns, flat_ns eGAsked_ns, flat_ns eGMsg_ns, flat_ns eGrule_ns, flat_ns eGA199_ns, flat_ns eGA202_ns])), (ine_f h2455), trivial⟩
  exact fn_playC hn66 (f := 66) (ads := [.agg (eGGraph a2452)]) (r := F66_res ((bs []), r2453)) pz (by kernel_rfl) (by kernel_rfl)

/-! ### haywain/haywainref03.Digits -/
noncomputable def hn72 : Hint := { H 72 with nt := 17, prot := 0 }
noncomputable def c72_0 : Code := loopOf E 72 0
def F72_res (r2529 : ByteArray) : Res := ⟨[(.one (.im (.lit (.string r2529))))], []⟩
def F72_l0_0 (K : Nat)  : Nat → Int → ByteArray → Option (ByteArray)
  | 0, _, _ => none
  | k + 1, v2518, v2519 =>
    bif (sbig (bstr [(.lit (.int .u8 (wconv .u8 (wadd .i64 48 (wrem v2518 10)))))]) v2519) then none else
    bif (ieq (wquo .i64 v2518 10) 0) then
      (some (sapp (bstr [(.lit (.int .u8 (wconv .u8 (wadd .i64 48 (wrem v2518 10)))))]) v2519))
    else
    F72_l0_0 K  k (wquo .i64 v2518 10) (sapp (bstr [(.lit (.int .u8 (wconv .u8 (wadd .i64 48 (wrem v2518 10)))))]) v2519)
def F72_l0_0_S  (v2518 : Int) (v2519 : ByteArray) : TS := .on [0, 1, 192, 193] [(0, ⟨.one, 0, nob⟩), (1, ⟨.im, 0, (.lit (.int .i64 v2518))⟩), (192, ⟨.one, 0, nob⟩), (193, ⟨.im, 0, (.lit (.string v2519))⟩)]
def F72_l0_0_X0  (w2522 : ByteArray) : TS := .on [128, 129] [(128, ⟨.one, 0, nob⟩), (129, ⟨.im, 0, (.lit (.string w2522))⟩)]
theorem F72_l0_0_ok (K : Nat)  : ∀ (k : Nat) (v2518 : Int) (v2519 : ByteArray) (r : ByteArray), F72_l0_0 K  k v2518 v2519 = some r → LoopEv E H hn72 0 c72_0 (F72_l0_0_S  v2518 v2519) .ret (F72_l0_0_X0  r) := by
  intro k
  induction k with
  | zero => intro v2518 v2519 r hF; cases hF
  | succ k ih =>
    intro v2518 v2519 r hF
    rw [F72_l0_0] at hF
    refine cond_some hF (fun _ hF => nomatch hF) (fun h2520 hF => ?_)
    have pq2524 : ∀ {l : List Cond}, HoldAll E H hn72 l → HoldAll E H hn72 (.test (izero 10) false :: .int (wrem v2518 10) (wrem v2518 10) :: .int (wadd .i64 48 (wrem v2518 10)) (wadd .i64 48 (wrem v2518 10)) :: .int (wconv .u8 (wadd .i64 48 (wrem v2518 10))) (wconv .u8 (wadd .i64 48 (wrem v2518 10))) :: .test (isby [(.lit (.int .u8 (wconv .u8 (wadd .i64 48 (wrem v2518 10)))))] 1) true :: .test (sbig (bstr [(.lit (.int .u8 (wconv .u8 (wadd .i64 48 (wrem v2518 10)))))]) v2519) false :: .test (izero 10) false :: .int (wquo .i64 v2518 10) (wquo .i64 v2518 10) :: l) := fun z => ⟨(by first | exact rfl | (unfold Cond.Holds; decide)), rfl, rfl, rfl, rfl, h2520, (by first | exact rfl | (unfold Cond.Holds; decide)), rfl, z⟩
    refine cond_some hF (fun h2521 hF => ?_) (fun h2521 hF => ?_)
    ·
      have hr := Option.some.inj hF
      subst hr
      have pz : HoldAll E H hn72 [.test (ieq (wquo .i64 v2518 10) 0) true] := ⟨h2521, trivial⟩
      exact loop_endC (h := hn72) (l := 0) (c := c72_0) (ts := F72_l0_0_S  v2518 v2519) (ts' := F72_l0_0_X0  (sapp (bstr [(.lit (.int .u8 (wconv .u8 (wadd .i64 48 (wrem v2518 10)))))]) v2519)) (ex := .ret) (pq2524 pz) (by kernel_rfl) trivial
    have pz : HoldAll E H hn72 [.test (ieq (wquo .i64 v2518 10) 0) false] := ⟨h2521, trivial⟩
    have h0 := ih _ _ _ hF
    have hn := fun ex ts' => loop_nextC (h := hn72) (l := 0) (c := c72_0) (ts := F72_l0_0_S  v2518 v2519) (ts1 := (F72_l0_0_S  (wquo .i64 v2518 10) (sapp (bstr [(.lit (.int .u8 (wconv .u8 (wadd .i64 48 (wrem v2518 10)))))]) v2519))) (ex := ex) (ts' := ts') (pq2524 pz) (by kernel_rfl)
    exact hn _ _ h0

def F72 (K : Nat) (a2515 : Int) : Option (ByteArray) :=
  (F72_l0_0 K  K a2515 (bs [])).bind fun w2527 =>
  some w2527
theorem F72_ok (K : Nat) (a2515 : Int) (r : ByteArray) (hF : F72 K a2515 = some r) : Evt E H 72 [.one (.lit (.int .i64 a2515))] (F72_res r) := by
  rw [F72] at hF
  refine bind_some hF (fun w2527 h2525 hF => ?_)
  have hr := Option.some.inj hF
  subst hr
  have pz : HoldAll E H hn72 [.loop 0 c72_0 (F72_l0_0_S  a2515 (bs [])) .ret (F72_l0_0_X0  w2527)] := ⟨(F72_l0_0_ok K  K a2515 (bs []) _ h2525), trivial⟩
  exact fn_playC hn72 (f := 72) (ads := [.one (.lit (.int .i64 a2515))]) (r := F72_res w2527) pz (by kernel_rfl) (by kernel_rfl)

/-! ### haywain/haywainref03.Print -/
noncomputable def hn67 : Hint := { H 67 with nt := 41, prot := 0 }
noncomputable def c67_0 : Code := loopOf E 67 0
def F67_res (r2576 : ByteArray) : Res := ⟨[(.one (.im (.lit (.string r2576))))], []⟩
def F67_l0_0 (K : Nat) (a2514 : GGraph) : Nat → ByteArray → Int → Option (ByteArray)
  | 0, _, _ => none
  | k + 1, v2551, v2552 =>
    bif (ilt v2552 (nlen (len a2514.Edges))) then
      (bif (inr v2552 (len a2514.Edges)) then
      (elAt a2514.Edges v2552).bind fun x2555 =>
      bif (sbig v2551 (bs [101, 100, 103, 101, 32])) then none else
      (F72 K x2555.From).bind fun r2558 =>
      bif (sbig (sapp v2551 (bs [101, 100, 103, 101, 32])) r2558) then none else
      bif (sbig (sapp (sapp v2551 (bs [101, 100, 103, 101, 32])) r2558) (bs [32])) then none else
      (F72 K x2555.To).bind fun r2562 =>
      bif (sbig (sapp (sapp (sapp v2551 (bs [101, 100, 103, 101, 32])) r2558) (bs [32])) r2562) then none else
      bif (sbig (sapp (sapp (sapp (sapp v2551 (bs [101, 100, 103, 101, 32])) r2558) (bs [32])) r2562) (bs [32])) then none else
      (F72 K x2555.W).bind fun r2566 =>
      bif (sbig (sapp (sapp (sapp (sapp (sapp v2551 (bs [101, 100, 103, 101, 32])) r2558) (bs [32])) r2562) (bs [32])) r2566) then none else
      bif (sbig (sapp (sapp (sapp (sapp (sapp (sapp v2551 (bs [101, 100, 103, 101, 32])) r2558) (bs [32])) r2562) (bs [32])) r2566) (bs [10])) then none else
      F67_l0_0 K a2514 k (sapp (sapp (sapp (sapp (sapp (sapp (sapp v2551 (bs [101, 100, 103, 101, 32])) r2558) (bs [32])) r2562) (bs [32])) r2566) (bs [10])) (wadd .i64 v2552 1)
      else none)
    else
    some v2551
def F67_l0_0_S (a2514 : GGraph) (v2551 : ByteArray) (v2552 : Int) : TS := .on [64, 65, 66, 192, 193, 256, 257] [(64, ⟨(.box 62 2), 0, nob⟩), (65, ⟨.im, 0, (.lit (.int .i64 a2514.N))⟩), (66, ⟨.im, 0, (.sl (len a2514.Edges) (flat eGEdge a2514.Edges))⟩), (192, ⟨.one, 0, nob⟩), (193, ⟨.im, 0, (.lit (.string v2551))⟩), (256, ⟨.one, 0, nob⟩), (257, ⟨.im, 0, (.lit (.int .i64 v2552))⟩)]
def F67_l0_0_X0 (a2514 : GGraph) (w2570 : ByteArray) : TS := .on [192, 193] [(192, ⟨.one, 0, nob⟩), (193, ⟨.im, 0, (.lit (.string w2570))⟩)]
theorem F67_l0_0_ok (K : Nat) (a2514 : GGraph) : ∀ (k : Nat) (v2551 : ByteArray) (v2552 : Int) (r : ByteArray), F67_l0_0 K a2514 k v2551 v2552 = some r → LoopEv E H hn67 0 c67_0 (F67_l0_0_S a2514 v2551 v2552) (.exit 0) (F67_l0_0_X0 a2514 r) := by
  intro k
  induction k with
  | zero => intro v2551 v2552 r hF; cases hF
  | succ k ih =>
    intro v2551 v2552 r hF
    rw [F67_l0_0] at hF
    refine cond_some hF (fun h2553 hF => ?_) (fun h2553 hF => ?_)
    ·
      refine cond_some hF (fun h2554 hF => ?_) (fun _ hF => nomatch hF)
      refine bind_some hF (fun x2555 h2556 hF => ?_)
      refine cond_some hF (fun _ hF => nomatch hF) (fun h2557 hF => ?_)
      refine bind_some hF (fun r2558 h2559 hF => ?_)
      refine cond_some hF (fun _ hF => nomatch hF) (fun h2560 hF => ?_)
      refine cond_some hF (fun _ hF => nomatch hF) (fun h2561 hF => ?_)
      refine bind_some hF (fun r2562 h2563 hF => ?_)
      refine cond_some hF (fun _ hF => nomatch hF) (fun h2564 hF => ?_)
      refine cond_some hF (fun _ hF => nomatch hF) (fun h2565 hF => ?_)
      refine bind_some hF (fun r2566 h2567 hF => ?_)
      refine cond_some hF (fun _ hF => nomatch hF) (fun h2568 hF => ?_)
      refine cond_some hF (fun _ hF => nomatch hF) (fun h2569 hF => ?_)
      have pz : HoldAll E H hn67 [.int (nlen (len a2514.Edges)) (nlen (len a2514.Edges)), .test (ilt v2552 (nlen (len a2514.Edges))) true, .test (inr v2552 (len a2514.Edges)) true, .sub (flat eGEdge a2514.Edges) (nidx v2552 3) 3 [(.lit (.int .i64 x2555.From)), (.lit (.int .i64 x2555.To)), (.lit (.int .i64 x2555.W))], .test (sbig v2551 (bs [101, 100, 103, 101, 32])) false, .call 72 [.one (.lit (.int .i64 x2555.From))] (F72_res r2558), .test (leadsAny (Res.mk [(.one (.im (.lit (.string r2558))))] [])) false, .test (sbig (sapp v2551 (bs [101, 100, 103, 101, 32])) r2558) false, .test (sbig (sapp (sapp v2551 (bs [101, 100, 103, 101, 32])) r2558) (bs [32])) false, .call 72 [.one (.lit (.int .i64 x2555.To))] (F72_res r2562), .test (leadsAny (Res.mk [(.one (.im (.lit (.string r2562))))] [])) false, .test (sbig (sapp (sapp (sapp v2551 (bs [101, 100, 103, 101, 32])) r2558) (bs [32])) r2562) false, .test (sbig (sapp (sapp (sapp (sapp v2551 (bs [101, 100, 103, 101, 32])) r2558) (bs [32])) r2562) (bs [32])) false, .call 72 [.one (.lit (.int .i64 x2555.W))] (F72_res r2566), .test (leadsAny (Res.mk [(.one (.im (.lit (.string r2566))))] [])) false, .test (sbig (sapp (sapp (sapp (sapp (sapp v2551 (bs [101, 100, 103, 101, 32])) r2558) (bs [32])) r2562) (bs [32])) r2566) false, .test (sbig (sapp (sapp (sapp (sapp (sapp (sapp v2551 (bs [101, 100, 103, 101, 32])) r2558) (bs [32])) r2562) (bs [32])) r2566) (bs [10])) false, .int (wadd .i64 v2552 1) (wadd .i64 v2552 1)] := ⟨rfl, h2553, h2554, ⟨rfl, sub_flat0 eGEdge_len h2556 3 (by decide)⟩, h2557, (F72_ok K x2555.From _ h2559), (leads_ok (by simp only [leadsAny, List.any_cons, List.any_nil, RV.leads, RC.leads, leadsT, hasSl_lit, Bool.or_false, flat_ns (eInt_ns _), flat_ns eBool_ns, flat_ns eStr_ns, flat_ns eGJob_ns, flat_ns eGEdge_ns, flat_ns eGAsked_ns, flat_ns eGMsg_ns, flat_ns eGrule_ns, flat_ns eGA199_ns, flat_ns eGA202_ns])), h2560, h2561, (F72_ok K x2555.To _ h2563), (leads_ok (by simp only [leadsAny, List.any_cons, List.any_nil, RV.leads, RC.leads, leadsT, hasSl_lit, Bool.or_false, flat_ns (eInt_ns _), flat_ns eBool_ns, flat_ns eStr_ns, flat_ns eGJob_ns, flat_ns eGEdge_ns, flat_ns eGAsked_ns, flat_ns eGMsg_ns, flat_ns eGrule_ns, flat_ns eGA199_ns, flat_ns eGA202_ns])), h2564, h2565, (F72_ok K x2555.W _ h2567), (leads_ok (by simp only [leadsAny, List.any_cons, List.any_nil, RV.leads, RC.leads, leadsT, hasSl_lit, Bool.or_false, flat_ns (eInt_ns _), flat_ns eBool_ns, flat_ns eStr_ns, flat_ns eGJob_ns, flat_ns eGEdge_ns, flat_ns eGAsked_ns, flat_ns eGMsg_ns, flat_ns eGrule_ns, flat_ns eGA199_ns, flat_ns eGA202_ns])), h2568, h2569, rfl, trivial⟩
      have h0 := ih _ _ _ hF
      have hn := fun ex ts' => loop_nextC (h := hn67) (l := 0) (c := c67_0) (ts := F67_l0_0_S a2514 v2551 v2552) (ts1 := (F67_l0_0_S a2514 (sapp (sapp (sapp (sapp (sapp (sapp (sapp v2551 (bs [101, 100, 103, 101, 32])) r2558) (bs [32])) r2562) (bs [32])) r2566) (bs [10])) (wadd .i64 v2552 1))) (ex := ex) (ts' := ts') pz (by kernel_rfl)
      exact hn _ _ h0
    have hr := Option.some.inj hF
    subst hr
    have pz : HoldAll E H hn67 [.int (nlen (len a2514.Edges)) (nlen (len a2514.Edges)), .test (ilt v2552 (nlen (len a2514.Edges))) false] := ⟨rfl, h2553, trivial⟩
    exact loop_endC (h := hn67) (l := 0) (c := c67_0) (ts := F67_l0_0_S a2514 v2551 v2552) (ts' := F67_l0_0_X0 a2514 v2551) (ex := (.exit 0)) pz (by kernel_rfl) trivial

def F67 (K : Nat) (a2514 : GGraph) : Option (ByteArray) :=
  (F72 K a2514.N).bind fun r2530 =>
  bif (sbig (bs [103, 114, 97, 112, 104, 32]) r2530) then none else
  bif (sbig (sapp (bs [103, 114, 97, 112, 104, 32]) r2530) (bs [10])) then none else
  (F67_l0_0 K a2514 K (sapp (sapp (bs [103, 114, 97, 112, 104, 32]) r2530) (bs [10])) 0).bind fun w2574 =>
  some w2574
theorem F67_ok (K : Nat) (a2514 : GGraph) (r : ByteArray) (hF : F67 K a2514 = some r) : Evt E H 67 [.agg (eGGraph a2514)] (F67_res r) := by
  rw [F67] at hF
  refine bind_some hF (fun r2530 h2531 hF => ?_)
  refine cond_some hF (fun _ hF => nomatch hF) (fun h2532 hF => ?_)
  refine cond_some hF (fun _ hF => nomatch hF) (fun h2533 hF => ?_)
  refine bind_some hF (fun w2574 h2572 hF => ?_)
  have hr := Option.some.inj hF
  subst hr
  have pz : HoldAll E H hn67 [.call 72 [.one (.lit (.int .i64 a2514.N))] (F72_res r2530), .test (leadsAny (Res.mk [(.one (.im (.lit (.string r2530))))] [])) false, .test (sbig (bs [103, 114, 97, 112, 104, 32]) r2530) false, .test (sbig (sapp (bs [103, 114, 97, 112, 104, 32]) r2530) (bs [10])) false, .loop 0 c67_0 (F67_l0_0_S a2514 (sapp (sapp (bs [103, 114, 97, 112, 104, 32]) r2530) (bs [10])) 0) (.exit 0) (F67_l0_0_X0 a2514 w2574)] := ⟨(F72_ok K a2514.N _ h2531), (leads_ok (by simp only [leadsAny, List.any_cons, List.any_nil, RV.leads, RC.leads, leadsT, hasSl_lit, Bool.or_false, flat_ns (eInt_ns _), flat_ns eBool_ns, flat_ns eStr_ns, flat_ns eGJob_ns, flat_ns eGEdge_ns, flat_ns eGAsked_ns, flat_ns eGMsg_ns, flat_ns eGrule_ns, flat_ns eGA199_ns, flat_ns eGA202_ns])), h2532, h2533, (F67_l0_0_ok K a2514 K (sapp (sapp (bs [103, 114, 97, 112, 104, 32]) r2530) (bs [10])) 0 _ h2572), trivial⟩
  exact fn_playC hn67 (f := 67) (ads := [.agg (eGGraph a2514)]) (r := F67_res w2574) pz (by kernel_rfl) (by kernel_rfl)

/-! ### haywain/graph.Out -/
noncomputable def hn68 : Hint := { H 68 with nt := 28, prot := 0 }
noncomputable def c68_0 : Code := loopOf E 68 0
def F68_res (r2619 : List GEdge) : Res := ⟨[(.one (.own 89 (.sl (len r2619) (flat eGEdge r2619))))], []⟩
def F68_l0_0 (K : Nat) (a2593 : GGraph) (a2594 : Int) : Nat → List GEdge → Int → Option (List GEdge)
  | 0, _, _ => none
  | k + 1, v2604, v2605 =>
    bif (ilt v2605 (nlen (len a2593.Edges))) then
      (bif (inr v2605 (len a2593.Edges)) then
      (elAt a2593.Edges v2605).bind fun x2608 =>
      bif (ieq x2608.From a2594) then
        (bif (apok (len v2604) 1 24) then
        F68_l0_0 K a2593 a2594 k (appL v2604 [x2608]) (wadd .i64 v2605 1)
        else none)
      else
      F68_l0_0 K a2593 a2594 k v2604 (wadd .i64 v2605 1)
      else none)
    else
    some v2604
def F68_l0_0_S (a2593 : GGraph) (a2594 : Int) (v2604 : List GEdge) (v2605 : Int) : TS := .on [64, 65, 128, 129, 130, 320, 321, 704, 768, 769, 832, 833, 896, 897] [(64, ⟨.one, 0, nob⟩), (65, ⟨.im, 0, (.lit (.int .i64 a2594))⟩), (128, ⟨(.box 62 2), 0, nob⟩), (129, ⟨.im, 0, (.lit (.int .i64 a2593.N))⟩), (130, ⟨.im, 0, (.sl (len a2593.Edges) (flat eGEdge a2593.Edges))⟩), (320, ⟨.one, 0, nob⟩), (321, ⟨(.own 89), 0, (.sl (len v2604) (flat eGEdge v2604))⟩), (704, ⟨(.ad 2 0 1), 0, nob⟩), (768, ⟨.one, 0, nob⟩), (769, ⟨.im, 0, (.sl (len a2593.Edges) (flat eGEdge a2593.Edges))⟩), (832, ⟨.one, 0, nob⟩), (833, ⟨.im, 0, (.lit (.int .i64 (nlen (len a2593.Edges))))⟩), (896, ⟨.one, 0, nob⟩), (897, ⟨.im, 0, (.lit (.int .i64 v2605))⟩)]
def F68_l0_0_X0 (a2593 : GGraph) (a2594 : Int) (w2612 : List GEdge) : TS := .on [320, 321] [(320, ⟨.one, 0, nob⟩), (321, ⟨(.own 89), 0, (.sl (len w2612) (flat eGEdge w2612))⟩)]
theorem F68_l0_0_ok (K : Nat) (a2593 : GGraph) (a2594 : Int) : ∀ (k : Nat) (v2604 : List GEdge) (v2605 : Int) (r : List GEdge), F68_l0_0 K a2593 a2594 k v2604 v2605 = some r → LoopEv E H hn68 0 c68_0 (F68_l0_0_S a2593 a2594 v2604 v2605) (.exit 0) (F68_l0_0_X0 a2593 a2594 r) := by
  intro k
  induction k with
  | zero => intro v2604 v2605 r hF; cases hF
  | succ k ih =>
    intro v2604 v2605 r hF
    rw [F68_l0_0] at hF
    refine cond_some hF (fun h2606 hF => ?_) (fun h2606 hF => ?_)
    ·
      refine cond_some hF (fun h2607 hF => ?_) (fun _ hF => nomatch hF)
      refine bind_some hF (fun x2608 h2609 hF => ?_)
      have pq2614 : ∀ {l : List Cond}, HoldAll E H hn68 l → HoldAll E H hn68 (.test (ilt v2605 (nlen (len a2593.Edges))) true :: .test (inr v2605 (len a2593.Edges)) true :: .sub (flat eGEdge a2593.Edges) (nidx v2605 3) 3 [(.lit (.int .i64 x2608.From)), (.lit (.int .i64 x2608.To)), (.lit (.int .i64 x2608.W))] :: l) := fun z => ⟨h2606, h2607, ⟨rfl, sub_flat0 eGEdge_len h2609 3 (by decide)⟩, z⟩
      refine cond_some hF (fun h2610 hF => ?_) (fun h2610 hF => ?_)
      ·
        refine cond_some hF (fun h2611 hF => ?_) (fun _ hF => nomatch hF)
        have pz : HoldAll E H hn68 [.test (ieq x2608.From a2594) true, .test (leqm [(.lit (.int .i64 x2608.From)), (.lit (.int .i64 x2608.To)), (.lit (.int .i64 x2608.W))] 1 3) true, .test (apok (len v2604) 1 24) true, .sl (nadd (len v2604) 1) (lapp (flat eGEdge v2604) [(.lit (.int .i64 x2608.From)), (.lit (.int .i64 x2608.To)), (.lit (.int .i64 x2608.W))]) (len (α := GEdge) (appL v2604 [x2608])) (flat eGEdge (appL v2604 [x2608])), .int (wadd .i64 v2605 1) (wadd .i64 v2605 1)] := ⟨h2610, rfl, h2611, (app_ok (enc := eGEdge) (v2604 : List GEdge) [x2608]), rfl, trivial⟩
        have h0 := ih _ _ _ hF
        have hn := fun ex ts' => loop_nextC (h := hn68) (l := 0) (c := c68_0) (ts := F68_l0_0_S a2593 a2594 v2604 v2605) (ts1 := (F68_l0_0_S a2593 a2594 (appL v2604 [x2608]) (wadd .i64 v2605 1))) (ex := ex) (ts' := ts') (pq2614 pz) (by kernel_rfl)
        exact hn _ _ h0
      have pz : HoldAll E H hn68 [.test (ieq x2608.From a2594) false, .int (wadd .i64 v2605 1) (wadd .i64 v2605 1)] := ⟨h2610, rfl, trivial⟩
      have h0 := ih _ _ _ hF
      have hn := fun ex ts' => loop_nextC (h := hn68) (l := 0) (c := c68_0) (ts := F68_l0_0_S a2593 a2594 v2604 v2605) (ts1 := (F68_l0_0_S a2593 a2594 v2604 (wadd .i64 v2605 1))) (ex := ex) (ts' := ts') (pq2614 pz) (by kernel_rfl)
      exact hn _ _ h0
    have hr := Option.some.inj hF
    subst hr
    have pz : HoldAll E H hn68 [.test (ilt v2605 (nlen (len a2593.Edges))) false] := ⟨h2606, trivial⟩
    exact loop_endC (h := hn68) (l := 0) (c := c68_0) (ts := F68_l0_0_S a2593 a2594 v2604 v2605) (ts' := F68_l0_0_X0 a2593 a2594 v2604) (ex := (.exit 0)) pz (by kernel_rfl) trivial

def F68 (K : Nat) (a2593 : GGraph) (a2594 : Int) : Option (List GEdge) :=
  (F64 K a2593).bind fun r2595 =>
  bif (ieq r2595 0) then
    ((F68_l0_0 K a2593 a2594 K [] 0).bind fun w2617 =>
    some w2617)
  else
  some []
theorem F68_ok (K : Nat) (a2593 : GGraph) (a2594 : Int) (r : List GEdge) (hF : F68 K a2593 a2594 = some r) : Evt E H 68 [.agg (eGGraph a2593), .one (.lit (.int .i64 a2594))] (F68_res r) := by
  rw [F68] at hF
  refine bind_some hF (fun r2595 h2596 hF => ?_)
  refine cond_some hF (fun h2597 hF => ?_) (fun h2597 hF => ?_)
  ·
    refine bind_some hF (fun w2617 h2615 hF => ?_)
    have hr := Option.some.inj hF
    subst hr
    have pz : HoldAll E H hn68 [.call 64 [.agg (eGGraph a2593)] (F64_res r2595), .test (leadsAny (Res.mk [(.one (.im (.lit (.int .i64 r2595))))] [])) false, .test (ine r2595 0) false, .int (nlen (len a2593.Edges)) (nlen (len a2593.Edges)), .loop 0 c68_0 (F68_l0_0_S a2593 a2594 [] 0) (.exit 0) (F68_l0_0_X0 a2593 a2594 w2617)] := ⟨(F64_ok K a2593 _ h2596), (leads_ok (by simp only [leadsAny, List.any_cons, List.any_nil, RV.leads, RC.leads, leadsT, hasSl_lit, Bool.or_false, flat_ns (eInt_ns _), flat_ns eBool_ns, flat_ns eStr_ns, flat_ns eGJob_ns, flat_ns eGEdge_ns, flat_ns eGAsked_ns, flat_ns eGMsg_ns, flat_ns eGrule_ns, flat_ns eGA199_ns, flat_ns eGA202_ns])), (ine_t h2597), rfl, (F68_l0_0_ok K a2593 a2594 K [] 0 _ h2615), trivial⟩
    exact fn_playC hn68 (f := 68) (ads := [.agg (eGGraph a2593), .one (.lit (.int .i64 a2594))]) (r := F68_res w2617) pz (by kernel_rfl) (by kernel_rfl)
  have hr := Option.some.inj hF
  subst hr
  have pz : HoldAll E H hn68 [.call 64 [.agg (eGGraph a2593)] (F64_res r2595), .test (leadsAny (Res.mk [(.one (.im (.lit (.int .i64 r2595))))] [])) false, .test (ine r2595 0) true] := ⟨(F64_ok K a2593 _ h2596), (leads_ok (by simp only [leadsAny, List.any_cons, List.any_nil, RV.leads, RC.leads, leadsT, hasSl_lit, Bool.or_false, flat_ns (eInt_ns _), flat_ns eBool_ns, flat_ns eStr_ns, flat_ns eGJob_ns, flat_ns eGEdge_ns, flat_ns eGAsked_ns, flat_ns eGMsg_ns, flat_ns eGrule_ns, flat_ns eGA199_ns, flat_ns eGA202_ns])), (ine_f h2597), trivial⟩
  exact fn_playC hn68 (f := 68) (ads := [.agg (eGGraph a2593), .one (.lit (.int .i64 a2594))]) (r := F68_res []) pz (by kernel_rfl) (by kernel_rfl)

/-! ### haywain/haywainref03.Same -/
noncomputable def hn70 : Hint := { H 70 with nt := 38, prot := 0 }
noncomputable def c70_0 : Code := loopOf E 70 0
def F70_res (r2657 : Bool) : Res := ⟨[(.one (.im (.lit (.bool r2657))))], []⟩
def F70_l0_0 (K : Nat) (a2624 : GGraph) (a2625 : GGraph) : Nat → Int → Option ((Unit) ⊕ (Unit))
  | 0, _ => none
  | k + 1, v2638 =>
    bif (ilt v2638 (nlen (len a2624.Edges))) then
      (bif (inr v2638 (len a2624.Edges)) then
      (elAt a2624.Edges v2638).bind fun x2641 =>
      bif (inr v2638 (len a2625.Edges)) then
      (elAt a2625.Edges v2638).bind fun x2644 =>
      bif (ieq x2641.From x2644.From) then
        (bif (ieq x2641.To x2644.To) then
          (bif (ieq x2641.W x2644.W) then
            (F70_l0_0 K a2624 a2625 k (wadd .i64 v2638 1))
          else
          some (.inl ()))
        else
        some (.inl ()))
      else
      some (.inl ())
      else none
      else none)
    else
    some (.inr ())
def F70_l0_0_S (a2624 : GGraph) (a2625 : GGraph) (v2638 : Int) : TS := .on [128, 129, 130, 192, 193, 194, 320, 321] [(128, ⟨(.box 62 2), 0, nob⟩), (129, ⟨.im, 0, (.lit (.int .i64 a2624.N))⟩), (130, ⟨.im, 0, (.sl (len a2624.Edges) (flat eGEdge a2624.Edges))⟩), (192, ⟨(.box 62 2), 0, nob⟩), (193, ⟨.im, 0, (.lit (.int .i64 a2625.N))⟩), (194, ⟨.im, 0, (.sl (len a2625.Edges) (flat eGEdge a2625.Edges))⟩), (320, ⟨.one, 0, nob⟩), (321, ⟨.im, 0, (.lit (.int .i64 v2638))⟩)]
def F70_l0_0_X0 (a2624 : GGraph) (a2625 : GGraph) (w2649 : Unit) : TS := .on [256, 257] [(256, ⟨.one, 0, nob⟩), (257, ⟨.im, 0, (.lit (.bool false))⟩)]
def F70_l0_0_X1 (a2624 : GGraph) (a2625 : GGraph) (w2650 : Unit) : TS := .on [] []
theorem F70_l0_0_ok (K : Nat) (a2624 : GGraph) (a2625 : GGraph) : ∀ (k : Nat) (v2638 : Int) (r : (Unit) ⊕ (Unit)), F70_l0_0 K a2624 a2625 k v2638 = some r → (Sum.elim (fun w => LoopEv E H hn70 0 c70_0 (F70_l0_0_S a2624 a2625 v2638) .ret (F70_l0_0_X0 a2624 a2625 w)) (fun w => LoopEv E H hn70 0 c70_0 (F70_l0_0_S a2624 a2625 v2638) (.exit 0) (F70_l0_0_X1 a2624 a2625 w))) r := by
  intro k
  induction k with
  | zero => intro v2638 r hF; cases hF
  | succ k ih =>
    intro v2638 r hF
    rw [F70_l0_0] at hF
    refine cond_some hF (fun h2639 hF => ?_) (fun h2639 hF => ?_)
    ·
      refine cond_some hF (fun h2640 hF => ?_) (fun _ hF => nomatch hF)
      refine bind_some hF (fun x2641 h2642 hF => ?_)
      refine cond_some hF (fun h2643 hF => ?_) (fun _ hF => nomatch hF)
      refine bind_some hF (fun x2644 h2645 hF => ?_)
      have pq2651 : ∀ {l : List Cond}, HoldAll E H hn70 l → HoldAll E H hn70 (.int (nlen (len a2624.Edges)) (nlen (len a2624.Edges)) :: .test (ilt v2638 (nlen (len a2624.Edges))) true :: .test (inr v2638 (len a2624.Edges)) true :: .sub (flat eGEdge a2624.Edges) (nidx v2638 3) 3 [(.lit (.int .i64 x2641.From)), (.lit (.int .i64 x2641.To)), (.lit (.int .i64 x2641.W))] :: .test (inr v2638 (len a2625.Edges)) true :: .sub (flat eGEdge a2625.Edges) (nidx v2638 3) 3 [(.lit (.int .i64 x2644.From)), (.lit (.int .i64 x2644.To)), (.lit (.int .i64 x2644.W))] :: l) := fun z => ⟨rfl, h2639, h2640, ⟨rfl, sub_flat0 eGEdge_len h2642 3 (by decide)⟩, h2643, ⟨rfl, sub_flat0 eGEdge_len h2645 3 (by decide)⟩, z⟩
      refine cond_some hF (fun h2646 hF => ?_) (fun h2646 hF => ?_)
      ·
        refine cond_some hF (fun h2647 hF => ?_) (fun h2647 hF => ?_)
        ·
          refine cond_some hF (fun h2648 hF => ?_) (fun h2648 hF => ?_)
          ·
            have pz : HoldAll E H hn70 [.test (bnot (band (ieq x2641.From x2644.From) (band (ieq x2641.To x2644.To) (band (ieq x2641.W x2644.W) true)))) false, .int (wadd .i64 v2638 1) (wadd .i64 v2638 1)] := ⟨(bnot_t (band_tt h2646 (band_tt h2647 (band_tt h2648 rfl)))), rfl, trivial⟩
            have h0 := ih _ _ hF
            have hn := fun ex ts' => loop_nextC (h := hn70) (l := 0) (c := c70_0) (ts := F70_l0_0_S a2624 a2625 v2638) (ts1 := (F70_l0_0_S a2624 a2625 (wadd .i64 v2638 1))) (ex := ex) (ts' := ts') (pq2651 pz) (by kernel_rfl)
            cases r with
            | inl w => exact hn _ _ h0
            | inr w => exact hn _ _ h0
          have hr := Option.some.inj hF
          subst hr
          have pz : HoldAll E H hn70 [.test (bnot (band (ieq x2641.From x2644.From) (band (ieq x2641.To x2644.To) (band (ieq x2641.W x2644.W) true)))) true] := ⟨(bnot_f (band_f2 h2646 (band_f2 h2647 (band_f1 h2648)))), trivial⟩
          exact loop_endC (h := hn70) (l := 0) (c := c70_0) (ts := F70_l0_0_S a2624 a2625 v2638) (ts' := F70_l0_0_X0 a2624 a2625 ()) (ex := .ret) (pq2651 pz) (by kernel_rfl) trivial
        have hr := Option.some.inj hF
        subst hr
        have pz : HoldAll E H hn70 [.test (bnot (band (ieq x2641.From x2644.From) (band (ieq x2641.To x2644.To) (band (ieq x2641.W x2644.W) true)))) true] := ⟨(bnot_f (band_f2 h2646 (band_f1 h2647))), trivial⟩
        exact loop_endC (h := hn70) (l := 0) (c := c70_0) (ts := F70_l0_0_S a2624 a2625 v2638) (ts' := F70_l0_0_X0 a2624 a2625 ()) (ex := .ret) (pq2651 pz) (by kernel_rfl) trivial
      have hr := Option.some.inj hF
      subst hr
      have pz : HoldAll E H hn70 [.test (bnot (band (ieq x2641.From x2644.From) (band (ieq x2641.To x2644.To) (band (ieq x2641.W x2644.W) true)))) true] := ⟨(bnot_f (band_f1 h2646)), trivial⟩
      exact loop_endC (h := hn70) (l := 0) (c := c70_0) (ts := F70_l0_0_S a2624 a2625 v2638) (ts' := F70_l0_0_X0 a2624 a2625 ()) (ex := .ret) (pq2651 pz) (by kernel_rfl) trivial
    have hr := Option.some.inj hF
    subst hr
    have pz : HoldAll E H hn70 [.int (nlen (len a2624.Edges)) (nlen (len a2624.Edges)), .test (ilt v2638 (nlen (len a2624.Edges))) false] := ⟨rfl, h2639, trivial⟩
    exact loop_endC (h := hn70) (l := 0) (c := c70_0) (ts := F70_l0_0_S a2624 a2625 v2638) (ts' := F70_l0_0_X1 a2624 a2625 ()) (ex := (.exit 0)) pz (by kernel_rfl) trivial

def F70 (K : Nat) (a2624 : GGraph) (a2625 : GGraph) : Option (Bool) :=
  bif (ieq a2624.N a2625.N) then
    (bif (ieq (nlen (len a2624.Edges)) (nlen (len a2625.Edges))) then
      ((F70_l0_0 K a2624 a2625 K 0).bind fun y2653 =>
      Sum.elim (fun w2654 =>
        some false)
        (fun w2655 =>
        some true) y2653)
    else
    some false)
  else
  some false
theorem F70_ok (K : Nat) (a2624 : GGraph) (a2625 : GGraph) (r : Bool) (hF : F70 K a2624 a2625 = some r) : Evt E H 70 [.agg (eGGraph a2624), .agg (eGGraph a2625)] (F70_res r) := by
  rw [F70] at hF
  refine cond_some hF (fun h2626 hF => ?_) (fun h2626 hF => ?_)
  ·
    have pq2656 : ∀ {l : List Cond}, HoldAll E H hn70 l → HoldAll E H hn70 (.test (beqb (ine a2624.N a2625.N) false) true :: .test (beqb (ine a2624.N a2625.N) false) true :: .test (beqb (ine a2624.N a2625.N) false) true :: .int (nlen (len a2624.Edges)) (nlen (len a2624.Edges)) :: .test (beqb (ine a2624.N a2625.N) false) true :: .test (beqb (ine a2624.N a2625.N) false) true :: .test (beqb (ine a2624.N a2625.N) false) true :: .int (nlen (len a2625.Edges)) (nlen (len a2625.Edges)) :: .test (beqb (ine a2624.N a2625.N) false) true :: .test (ine a2624.N a2625.N) false :: l) := fun z => ⟨(beqb_ff (ine_t h2626)), (beqb_ff (ine_t h2626)), (beqb_ff (ine_t h2626)), rfl, (beqb_ff (ine_t h2626)), (beqb_ff (ine_t h2626)), (beqb_ff (ine_t h2626)), rfl, (beqb_ff (ine_t h2626)), (ine_t h2626), z⟩
    refine cond_some hF (fun h2627 hF => ?_) (fun h2627 hF => ?_)
    ·
      refine bind_some hF (fun y2653 h2652 hF => ?_)
      refine sum_some hF (fun w2654 hx hF => ?_) (fun w2655 hx hF => ?_)
      ·
        subst hx
        have hr := Option.some.inj hF
        subst hr
        have pz : HoldAll E H hn70 [.test (ine (nlen (len a2624.Edges)) (nlen (len a2625.Edges))) false, .loop 0 c70_0 (F70_l0_0_S a2624 a2625 0) .ret (F70_l0_0_X0 a2624 a2625 w2654)] := ⟨(ine_t h2627), (F70_l0_0_ok K a2624 a2625 K 0 _ h2652), trivial⟩
        exact fn_playC hn70 (f := 70) (ads := [.agg (eGGraph a2624), .agg (eGGraph a2625)]) (r := F70_res false) (pq2656 pz) (by kernel_rfl) (by kernel_rfl)
      subst hx
      have hr := Option.some.inj hF
      subst hr
      have pz : HoldAll E H hn70 [.test (ine (nlen (len a2624.Edges)) (nlen (len a2625.Edges))) false, .loop 0 c70_0 (F70_l0_0_S a2624 a2625 0) (.exit 0) (F70_l0_0_X1 a2624 a2625 w2655)] := ⟨(ine_t h2627), (F70_l0_0_ok K a2624 a2625 K 0 _ h2652), trivial⟩
      exact fn_playC hn70 (f := 70) (ads := [.agg (eGGraph a2624), .agg (eGGraph a2625)]) (r := F70_res true) (pq2656 pz) (by kernel_rfl) (by kernel_rfl)
    have hr := Option.some.inj hF
    subst hr
    have pz : HoldAll E H hn70 [.test (ine (nlen (len a2624.Edges)) (nlen (len a2625.Edges))) true] := ⟨(ine_f h2627), trivial⟩
    exact fn_playC hn70 (f := 70) (ads := [.agg (eGGraph a2624), .agg (eGGraph a2625)]) (r := F70_res false) (pq2656 pz) (by kernel_rfl) (by kernel_rfl)
  have hr := Option.some.inj hF
  subst hr
  have pz : HoldAll E H hn70 [.test (beqb (ine a2624.N a2625.N) false) false, .test (beqb (ine a2624.N a2625.N) false) false, .test (beqb (ine a2624.N a2625.N) false) false, .test (beqb (ine a2624.N a2625.N) false) false, .test (beqb (ine a2624.N a2625.N) false) false, .test (beqb (ine a2624.N a2625.N) false) false, .test (beqb (ine a2624.N a2625.N) false) false, .test (ine a2624.N a2625.N) true, .test true true] := ⟨(beqb_ft (ine_f h2626)), (beqb_ft (ine_f h2626)), (beqb_ft (ine_f h2626)), (beqb_ft (ine_f h2626)), (beqb_ft (ine_f h2626)), (beqb_ft (ine_f h2626)), (beqb_ft (ine_f h2626)), (ine_f h2626), rfl, trivial⟩
  exact fn_playC hn70 (f := 70) (ads := [.agg (eGGraph a2624), .agg (eGGraph a2625)]) (r := F70_res false) pz (by kernel_rfl) (by kernel_rfl)

/-! ### haywain/graph.cut -/
noncomputable def hn135 : Hint := { H 135 with nt := 34, prot := 0 }
noncomputable def c135_0 : Code := loopOf E 135 0
noncomputable def c135_1 : Code := loopOf E 135 1
def F135_res (r2722 : List ByteArray) : Res := ⟨[(.one (.own 9 (.sl (len r2722) (flat eStr r2722))))], []⟩
def F135_l1_1 (K : Nat) (v2693 : ByteArray) (v2694 : List ByteArray) : Nat → Int → Option (Int)
  | 0, _ => none
  | k + 1, v2699 =>
    bif (ilt v2699 (slen v2693)) then
      (bif (sinr v2699 v2693) then
      bif (ieq (sget v2693 v2699) 10) then
        (some v2699)
      else
      F135_l1_1 K v2693 v2694 k (wadd .i64 v2699 1)
      else none)
    else
    some v2699
def F135_l1_1_S (v2693 : ByteArray) (v2694 : List ByteArray) (v2699 : Int) : TS := .on [0, 1, 192, 193, 256, 257] [(0, ⟨.one, 0, nob⟩), (1, ⟨.im, 0, (.lit (.string v2693))⟩), (192, ⟨.one, 0, nob⟩), (193, ⟨(.own 9), 0, (.sl (len v2694) (flat eStr v2694))⟩), (256, ⟨.one, 0, nob⟩), (257, ⟨.im, 0, (.lit (.int .i64 v2699))⟩)]
def F135_l1_1_X0 (v2693 : ByteArray) (v2694 : List ByteArray) (w2703 : Int) : TS := .on [0, 1, 192, 193, 256, 257] [(0, ⟨.one, 0, nob⟩), (1, ⟨.im, 0, (.lit (.string v2693))⟩), (192, ⟨.one, 0, nob⟩), (193, ⟨(.own 9), 0, (.sl (len v2694) (flat eStr v2694))⟩), (256, ⟨.one, 0, nob⟩), (257, ⟨.im, 0, (.lit (.int .i64 w2703))⟩)]
theorem F135_l1_1_ok (K : Nat) (v2693 : ByteArray) (v2694 : List ByteArray) : ∀ (k : Nat) (v2699 : Int) (r : Int), F135_l1_1 K v2693 v2694 k v2699 = some r → LoopEv E H hn135 2 c135_1 (F135_l1_1_S v2693 v2694 v2699) (.exit 2) (F135_l1_1_X0 v2693 v2694 r) := by
  intro k
  induction k with
  | zero => intro v2699 r hF; cases hF
  | succ k ih =>
    intro v2699 r hF
    rw [F135_l1_1] at hF
    refine cond_some hF (fun h2700 hF => ?_) (fun h2700 hF => ?_)
    ·
      refine cond_some hF (fun h2701 hF => ?_) (fun _ hF => nomatch hF)
      have pq2705 : ∀ {l : List Cond}, HoldAll E H hn135 l → HoldAll E H hn135 (.int (slen v2693) (slen v2693) :: .test (beqb (ilt v2699 (slen v2693)) true) true :: .test (beqb (ilt v2699 (slen v2693)) true) true :: .test (beqb (ilt v2699 (slen v2693)) true) true :: .test (sinr v2699 v2693) true :: .int (sget v2693 v2699) (sget v2693 v2699) :: .test (beqb (ilt v2699 (slen v2693)) true) true :: .test (ilt v2699 (slen v2693)) true :: l) := fun z => ⟨rfl, (beqb_t h2700), (beqb_t h2700), (beqb_t h2700), h2701, rfl, (beqb_t h2700), h2700, z⟩
      refine cond_some hF (fun h2702 hF => ?_) (fun h2702 hF => ?_)
      ·
        have hr := Option.some.inj hF
        subst hr
        have pz : HoldAll E H hn135 [.test (ine (sget v2693 v2699) 10) false] := ⟨(ine_t h2702), trivial⟩
        exact loop_endC (h := hn135) (l := 2) (c := c135_1) (ts := F135_l1_1_S v2693 v2694 v2699) (ts' := F135_l1_1_X0 v2693 v2694 v2699) (ex := (.exit 2)) (pq2705 pz) (by kernel_rfl) trivial
      have pz : HoldAll E H hn135 [.test (ine (sget v2693 v2699) 10) true, .int (wadd .i64 v2699 1) (wadd .i64 v2699 1)] := ⟨(ine_f h2702), rfl, trivial⟩
      have h0 := ih _ _ hF
      have hn := fun ex ts' => loop_nextC (h := hn135) (l := 2) (c := c135_1) (ts := F135_l1_1_S v2693 v2694 v2699) (ts1 := (F135_l1_1_S v2693 v2694 (wadd .i64 v2699 1))) (ex := ex) (ts' := ts') (pq2705 pz) (by kernel_rfl)
      exact hn _ _ h0
    have hr := Option.some.inj hF
    subst hr
    have pz : HoldAll E H hn135 [.int (slen v2693) (slen v2693), .test (beqb (ilt v2699 (slen v2693)) true) false, .test (beqb (ilt v2699 (slen v2693)) true) false, .test (beqb (ilt v2699 (slen v2693)) true) false, .test (beqb (ilt v2699 (slen v2693)) true) false, .test (ilt v2699 (slen v2693)) false, .test false false] := ⟨rfl, (beqb_t h2700), (beqb_t h2700), (beqb_t h2700), (beqb_t h2700), h2700, rfl, trivial⟩
    exact loop_endC (h := hn135) (l := 2) (c := c135_1) (ts := F135_l1_1_S v2693 v2694 v2699) (ts' := F135_l1_1_X0 v2693 v2694 v2699) (ex := (.exit 2)) pz (by kernel_rfl) trivial

def F135_l0_0 (K : Nat)  : Nat → ByteArray → List ByteArray → Option (List ByteArray)
  | 0, _, _ => none
  | k + 1, v2693, v2694 =>
    bif (ilt 0 (slen v2693)) then
      ((F135_l1_1 K v2693 v2694 K 0).bind fun w2708 =>
      bif (sbnd 0 w2708 v2693) then
      bif (apok (len v2694) 1 16) then
      bif (ilt (wadd .i64 w2708 1) (slen v2693)) then
        (bif (sbnd (wadd .i64 w2708 1) (slen v2693) v2693) then
        F135_l0_0 K  k (ssub v2693 (wadd .i64 w2708 1) (slen v2693)) (appL v2694 [(ssub v2693 0 w2708)])
        else none)
      else
      bif (sbnd (slen v2693) (slen v2693) v2693) then
      F135_l0_0 K  k (ssub v2693 (slen v2693) (slen v2693)) (appL v2694 [(ssub v2693 0 w2708)])
      else none
      else none
      else none)
    else
    some v2694
def F135_l0_0_S  (v2693 : ByteArray) (v2694 : List ByteArray) : TS := .on [0, 1, 192, 193] [(0, ⟨.one, 0, nob⟩), (1, ⟨.im, 0, (.lit (.string v2693))⟩), (192, ⟨.one, 0, nob⟩), (193, ⟨(.own 9), 0, (.sl (len v2694) (flat eStr v2694))⟩)]
def F135_l0_0_X0  (w2715 : List ByteArray) : TS := .on [192, 193] [(192, ⟨.one, 0, nob⟩), (193, ⟨(.own 9), 0, (.sl (len w2715) (flat eStr w2715))⟩)]
theorem F135_l0_0_ok (K : Nat)  : ∀ (k : Nat) (v2693 : ByteArray) (v2694 : List ByteArray) (r : List ByteArray), F135_l0_0 K  k v2693 v2694 = some r → LoopEv E H hn135 0 c135_0 (F135_l0_0_S  v2693 v2694) (.exit 0) (F135_l0_0_X0  r) := by
  intro k
  induction k with
  | zero => intro v2693 v2694 r hF; cases hF
  | succ k ih =>
    intro v2693 v2694 r hF
    rw [F135_l0_0] at hF
    refine cond_some hF (fun h2695 hF => ?_) (fun h2695 hF => ?_)
    ·
      refine bind_some hF (fun w2708 h2706 hF => ?_)
      refine cond_some hF (fun h2710 hF => ?_) (fun _ hF => nomatch hF)
      refine cond_some hF (fun h2711 hF => ?_) (fun _ hF => nomatch hF)
      have pq2717 : ∀ {l : List Cond}, HoldAll E H hn135 l → HoldAll E H hn135 (.int (slen v2693) (slen v2693) :: .test (igt (slen v2693) 0) true :: .loop 2 c135_1 (F135_l1_1_S v2693 v2694 0) (.exit 2) (F135_l1_1_X0 v2693 v2694 w2708) :: .test (sbnd 0 w2708 v2693) true :: .test (leqm [(.lit (.string (ssub v2693 0 w2708)))] 1 1) true :: .test (apok (len v2694) 1 16) true :: .sl (nadd (len v2694) 1) (lapp (flat eStr v2694) [(.lit (.string (ssub v2693 0 w2708)))]) (len (α := ByteArray) (appL v2694 [(ssub v2693 0 w2708)])) (flat eStr (appL v2694 [(ssub v2693 0 w2708)])) :: .int (slen v2693) (slen v2693) :: .int (wadd .i64 w2708 1) (wadd .i64 w2708 1) :: l) := fun z => ⟨rfl, (igt_eq h2695), (F135_l1_1_ok K v2693 v2694 K 0 _ h2706), h2710, rfl, h2711, (app_ok (enc := eStr) (v2694 : List ByteArray) [(ssub v2693 0 w2708)]), rfl, rfl, z⟩
      refine cond_some hF (fun h2712 hF => ?_) (fun h2712 hF => ?_)
      ·
        refine cond_some hF (fun h2713 hF => ?_) (fun _ hF => nomatch hF)
        have pz : HoldAll E H hn135 [.test (ilt (wadd .i64 w2708 1) (slen v2693)) true, .test (sbnd (wadd .i64 w2708 1) (slen v2693) v2693) true] := ⟨h2712, h2713, trivial⟩
        have h0 := ih _ _ _ hF
        have hn := fun ex ts' => loop_nextC (h := hn135) (l := 0) (c := c135_0) (ts := F135_l0_0_S  v2693 v2694) (ts1 := (F135_l0_0_S  (ssub v2693 (wadd .i64 w2708 1) (slen v2693)) (appL v2694 [(ssub v2693 0 w2708)]))) (ex := ex) (ts' := ts') (pq2717 pz) (by kernel_rfl)
        exact hn _ _ h0
      refine cond_some hF (fun h2714 hF => ?_) (fun _ hF => nomatch hF)
      have pz : HoldAll E H hn135 [.test (ilt (wadd .i64 w2708 1) (slen v2693)) false, .test (sbnd (slen v2693) (slen v2693) v2693) true] := ⟨h2712, h2714, trivial⟩
      have h0 := ih _ _ _ hF
      have hn := fun ex ts' => loop_nextC (h := hn135) (l := 0) (c := c135_0) (ts := F135_l0_0_S  v2693 v2694) (ts1 := (F135_l0_0_S  (ssub v2693 (slen v2693) (slen v2693)) (appL v2694 [(ssub v2693 0 w2708)]))) (ex := ex) (ts' := ts') (pq2717 pz) (by kernel_rfl)
      exact hn _ _ h0
    have hr := Option.some.inj hF
    subst hr
    have pz : HoldAll E H hn135 [.int (slen v2693) (slen v2693), .test (igt (slen v2693) 0) false] := ⟨rfl, (igt_eq h2695), trivial⟩
    exact loop_endC (h := hn135) (l := 0) (c := c135_0) (ts := F135_l0_0_S  v2693 v2694) (ts' := F135_l0_0_X0  v2694) (ex := (.exit 0)) pz (by kernel_rfl) trivial

def F135 (K : Nat) (a2672 : ByteArray) : Option (List ByteArray) :=
  (F135_l0_0 K  K a2672 []).bind fun w2720 =>
  some w2720
theorem F135_ok (K : Nat) (a2672 : ByteArray) (r : List ByteArray) (hF : F135 K a2672 = some r) : Evt E H 135 [.one (.lit (.string a2672))] (F135_res r) := by
  rw [F135] at hF
  refine bind_some hF (fun w2720 h2718 hF => ?_)
  have hr := Option.some.inj hF
  subst hr
  have pz : HoldAll E H hn135 [.loop 0 c135_0 (F135_l0_0_S  a2672 []) (.exit 0) (F135_l0_0_X0  w2720)] := ⟨(F135_l0_0_ok K  K a2672 [] _ h2718), trivial⟩
  exact fn_playC hn135 (f := 135) (ads := [.one (.lit (.string a2672))]) (r := F135_res w2720) pz (by kernel_rfl) (by kernel_rfl)

/-! ### haywain/graph.numbers -/
noncomputable def hn136 : Hint := { H 136 with nt := 105, prot := 0 }
noncomputable def c136_0 : Code := loopOf E 136 0
noncomputable def c136_1 : Code := loopOf E 136 1
def F136_res (r2825 : List Int × Bool) : Res := ⟨[(.one (.own 2 (.sl (len r2825.1) (flat (eInt .i64) r2825.1)))), (.one (.im (.lit (.bool r2825.2))))], []⟩
def F136_l1_1 (K : Nat) (a2729 : ByteArray) (a2731 : Int) (v2770 : Int) (v2771 : List Int) (v2772 : Int) : Nat → Int → Int → Option (Int × Int)
  | 0, _, _ => none
  | k + 1, v2782, v2783 =>
    bif (ilt v2782 (slen a2729)) then
      (bif (sinr v2782 a2729) then
      bif (ile 48 (sget a2729 v2782)) then
        (bif (ile (sget a2729 v2782) 57) then
          (bif (ilt (wsub .i64 v2782 (wadd .i64 v2770 1)) 19) then
            (F136_l1_1 K a2729 a2731 v2770 v2771 v2772 k (wadd .i64 v2782 1) (wadd .u64 (wmul .u64 v2783 10) (wconv .u64 (wsub .u8 (sget a2729 v2782) 48))))
          else
          some (v2782, v2783))
        else
        some (v2782, v2783))
      else
      some (v2782, v2783)
      else none)
    else
    some (v2782, v2783)
def F136_l1_1_S (a2729 : ByteArray) (a2731 : Int) (v2770 : Int) (v2771 : List Int) (v2772 : Int) (v2782 : Int) (v2783 : Int) : TS := .on [0, 1, 512, 513, 576, 577, 640, 641, 704, 705, 1728, 1729, 1792, 1793] [(0, ⟨.one, 0, nob⟩), (1, ⟨.im, 0, (.lit (.string a2729))⟩), (512, ⟨.one, 0, nob⟩), (513, ⟨.im, 0, (.lit (.int .i64 v2782))⟩), (576, ⟨.one, 0, nob⟩), (577, ⟨(.own 2), 0, (.sl (len v2771) (flat (eInt .i64) v2771))⟩), (640, ⟨.one, 0, nob⟩), (641, ⟨.im, 0, (.lit (.int .i64 (wadd .i64 v2770 1)))⟩), (704, ⟨.one, 0, nob⟩), (705, ⟨.im, 0, (.lit (.int .u64 v2783))⟩), (1728, ⟨.one, 0, nob⟩), (1729, ⟨.im, 0, (.lit (.int .i64 a2731))⟩), (1792, ⟨.one, 0, nob⟩), (1793, ⟨.im, 0, (.lit (.int .i64 v2772))⟩)]
def F136_l1_1_X0 (a2729 : ByteArray) (a2731 : Int) (v2770 : Int) (v2771 : List Int) (v2772 : Int) (w2789 : Int × Int) : TS := .on [0, 1, 512, 513, 576, 577, 640, 641, 704, 705, 1728, 1729, 1792, 1793] [(0, ⟨.one, 0, nob⟩), (1, ⟨.im, 0, (.lit (.string a2729))⟩), (512, ⟨.one, 0, nob⟩), (513, ⟨.im, 0, (.lit (.int .i64 w2789.1))⟩), (576, ⟨.one, 0, nob⟩), (577, ⟨(.own 2), 0, (.sl (len v2771) (flat (eInt .i64) v2771))⟩), (640, ⟨.one, 0, nob⟩), (641, ⟨.im, 0, (.lit (.int .i64 (wadd .i64 v2770 1)))⟩), (704, ⟨.one, 0, nob⟩), (705, ⟨.im, 0, (.lit (.int .u64 w2789.2))⟩), (1728, ⟨.one, 0, nob⟩), (1729, ⟨.im, 0, (.lit (.int .i64 a2731))⟩), (1792, ⟨.one, 0, nob⟩), (1793, ⟨.im, 0, (.lit (.int .i64 v2772))⟩)]
theorem F136_l1_1_ok (K : Nat) (a2729 : ByteArray) (a2731 : Int) (v2770 : Int) (v2771 : List Int) (v2772 : Int) : ∀ (k : Nat) (v2782 : Int) (v2783 : Int) (r : Int × Int), F136_l1_1 K a2729 a2731 v2770 v2771 v2772 k v2782 v2783 = some r → LoopEv E H hn136 2 c136_1 (F136_l1_1_S a2729 a2731 v2770 v2771 v2772 v2782 v2783) (.exit 2) (F136_l1_1_X0 a2729 a2731 v2770 v2771 v2772 r) := by
  intro k
  induction k with
  | zero => intro v2782 v2783 r hF; cases hF
  | succ k ih =>
    intro v2782 v2783 r hF
    rw [F136_l1_1] at hF
    refine cond_some hF (fun h2784 hF => ?_) (fun h2784 hF => ?_)
    ·
      refine cond_some hF (fun h2785 hF => ?_) (fun _ hF => nomatch hF)
      have pq2792 : ∀ {l : List Cond}, HoldAll E H hn136 l → HoldAll E H hn136 (.int (slen a2729) (slen a2729) :: .test (beqb (ilt v2782 (slen a2729)) true) true :: .test (beqb (ilt v2782 (slen a2729)) true) true :: .test (beqb (ilt v2782 (slen a2729)) true) true :: .test (sinr v2782 a2729) true :: .int (sget a2729 v2782) (sget a2729 v2782) :: .test (beqb (ilt v2782 (slen a2729)) true) true :: .test (ilt v2782 (slen a2729)) true :: l) := fun z => ⟨rfl, (beqb_t h2784), (beqb_t h2784), (beqb_t h2784), h2785, rfl, (beqb_t h2784), h2784, z⟩
      refine cond_some hF (fun h2786 hF => ?_) (fun h2786 hF => ?_)
      ·
        have pq2793 : ∀ {l : List Cond}, HoldAll E H hn136 l → HoldAll E H hn136 (.test (beqb (ige (sget a2729 v2782) 48) true) true :: .test (beqb (ige (sget a2729 v2782) 48) true) true :: .test (beqb (ige (sget a2729 v2782) 48) true) true :: .test (sinr v2782 a2729) true :: .int (sget a2729 v2782) (sget a2729 v2782) :: .test (beqb (ige (sget a2729 v2782) 48) true) true :: .test (ige (sget a2729 v2782) 48) true :: l) := fun z => ⟨(beqb_t (ige_eq h2786)), (beqb_t (ige_eq h2786)), (beqb_t (ige_eq h2786)), h2785, rfl, (beqb_t (ige_eq h2786)), (ige_eq h2786), z⟩
        refine cond_some hF (fun h2787 hF => ?_) (fun h2787 hF => ?_)
        ·
          have pq2794 : ∀ {l : List Cond}, HoldAll E H hn136 l → HoldAll E H hn136 (.test (beqb (ile (sget a2729 v2782) 57) true) true :: .test (beqb (ile (sget a2729 v2782) 57) true) true :: .test (beqb (ile (sget a2729 v2782) 57) true) true :: .int (wsub .i64 v2782 (wadd .i64 v2770 1)) (wsub .i64 v2782 (wadd .i64 v2770 1)) :: .test (beqb (ile (sget a2729 v2782) 57) true) true :: .test (ile (sget a2729 v2782) 57) true :: l) := fun z => ⟨(beqb_t h2787), (beqb_t h2787), (beqb_t h2787), rfl, (beqb_t h2787), h2787, z⟩
          refine cond_some hF (fun h2788 hF => ?_) (fun h2788 hF => ?_)
          ·
            have pz : HoldAll E H hn136 [.test (ilt (wsub .i64 v2782 (wadd .i64 v2770 1)) 19) true, .int (wmul .u64 v2783 10) (wmul .u64 v2783 10), .test (sinr v2782 a2729) true, .int (sget a2729 v2782) (sget a2729 v2782), .int (wsub .u8 (sget a2729 v2782) 48) (wsub .u8 (sget a2729 v2782) 48), .int (wconv .u64 (wsub .u8 (sget a2729 v2782) 48)) (wconv .u64 (wsub .u8 (sget a2729 v2782) 48)), .int (wadd .u64 (wmul .u64 v2783 10) (wconv .u64 (wsub .u8 (sget a2729 v2782) 48))) (wadd .u64 (wmul .u64 v2783 10) (wconv .u64 (wsub .u8 (sget a2729 v2782) 48))), .int (wadd .i64 v2782 1) (wadd .i64 v2782 1)] := ⟨h2788, rfl, h2785, rfl, rfl, rfl, rfl, rfl, trivial⟩
            have h0 := ih _ _ _ hF
            have hn := fun ex ts' => loop_nextC (h := hn136) (l := 2) (c := c136_1) (ts := F136_l1_1_S a2729 a2731 v2770 v2771 v2772 v2782 v2783) (ts1 := (F136_l1_1_S a2729 a2731 v2770 v2771 v2772 (wadd .i64 v2782 1) (wadd .u64 (wmul .u64 v2783 10) (wconv .u64 (wsub .u8 (sget a2729 v2782) 48))))) (ex := ex) (ts' := ts') (pq2792 (pq2793 (pq2794 pz))) (by kernel_rfl)
            exact hn _ _ h0
          have hr := Option.some.inj hF
          subst hr
          have pz : HoldAll E H hn136 [.test (ilt (wsub .i64 v2782 (wadd .i64 v2770 1)) 19) false] := ⟨h2788, trivial⟩
          exact loop_endC (h := hn136) (l := 2) (c := c136_1) (ts := F136_l1_1_S a2729 a2731 v2770 v2771 v2772 v2782 v2783) (ts' := F136_l1_1_X0 a2729 a2731 v2770 v2771 v2772 (v2782, v2783)) (ex := (.exit 2)) (pq2792 (pq2793 (pq2794 pz))) (by kernel_rfl) trivial
        have hr := Option.some.inj hF
        subst hr
        have pz : HoldAll E H hn136 [.test (beqb (ile (sget a2729 v2782) 57) true) false, .test (beqb (ile (sget a2729 v2782) 57) true) false, .test (beqb (ile (sget a2729 v2782) 57) true) false, .test (beqb (ile (sget a2729 v2782) 57) true) false, .test (ile (sget a2729 v2782) 57) false, .test false false] := ⟨(beqb_t h2787), (beqb_t h2787), (beqb_t h2787), (beqb_t h2787), h2787, rfl, trivial⟩
        exact loop_endC (h := hn136) (l := 2) (c := c136_1) (ts := F136_l1_1_S a2729 a2731 v2770 v2771 v2772 v2782 v2783) (ts' := F136_l1_1_X0 a2729 a2731 v2770 v2771 v2772 (v2782, v2783)) (ex := (.exit 2)) (pq2792 (pq2793 pz)) (by kernel_rfl) trivial
      have hr := Option.some.inj hF
      subst hr
      have pz : HoldAll E H hn136 [.test (beqb (ige (sget a2729 v2782) 48) true) false, .test (beqb (ige (sget a2729 v2782) 48) true) false, .test (beqb (ige (sget a2729 v2782) 48) true) false, .test (beqb (ige (sget a2729 v2782) 48) true) false, .test (ige (sget a2729 v2782) 48) false, .test (beqb false true) false, .test (beqb false true) false, .test (beqb false true) false, .test (beqb false true) false, .test false false, .test false false] := ⟨(beqb_t (ige_eq h2786)), (beqb_t (ige_eq h2786)), (beqb_t (ige_eq h2786)), (beqb_t (ige_eq h2786)), (ige_eq h2786), (beqb_t rfl), (beqb_t rfl), (beqb_t rfl), (beqb_t rfl), rfl, rfl, trivial⟩
      exact loop_endC (h := hn136) (l := 2) (c := c136_1) (ts := F136_l1_1_S a2729 a2731 v2770 v2771 v2772 v2782 v2783) (ts' := F136_l1_1_X0 a2729 a2731 v2770 v2771 v2772 (v2782, v2783)) (ex := (.exit 2)) (pq2792 pz) (by kernel_rfl) trivial
    have hr := Option.some.inj hF
    subst hr
    have pz : HoldAll E H hn136 [.int (slen a2729) (slen a2729), .test (beqb (ilt v2782 (slen a2729)) true) false, .test (beqb (ilt v2782 (slen a2729)) true) false, .test (beqb (ilt v2782 (slen a2729)) true) false, .test (beqb (ilt v2782 (slen a2729)) true) false, .test (ilt v2782 (slen a2729)) false, .test (beqb false true) false, .test (beqb false true) false, .test (beqb false true) false, .test (beqb false true) false, .test false false, .test (beqb false true) false, .test (beqb false true) false, .test (beqb false true) false, .test (beqb false true) false, .test false false, .test false false] := ⟨rfl, (beqb_t h2784), (beqb_t h2784), (beqb_t h2784), (beqb_t h2784), h2784, (beqb_t rfl), (beqb_t rfl), (beqb_t rfl), (beqb_t rfl), rfl, (beqb_t rfl), (beqb_t rfl), (beqb_t rfl), (beqb_t rfl), rfl, rfl, trivial⟩
    exact loop_endC (h := hn136) (l := 2) (c := c136_1) (ts := F136_l1_1_S a2729 a2731 v2770 v2771 v2772 v2782 v2783) (ts' := F136_l1_1_X0 a2729 a2731 v2770 v2771 v2772 (v2782, v2783)) (ex := (.exit 2)) pz (by kernel_rfl) trivial

def F136_l0_0 (K : Nat) (a2729 : ByteArray) (a2731 : Int) : Nat → Int → List Int → Int → Option ((Unit) ⊕ (Int × List Int))
  | 0, _, _, _ => none
  | k + 1, v2770, v2771, v2772 =>
    bif (ilt v2772 a2731) then
      (bif (ile (slen a2729) v2770) then
        (some (.inl ()))
      else
      bif (sinr v2770 a2729) then
      bif (ieq (sget a2729 v2770) 32) then
        ((F136_l1_1 K a2729 a2731 v2770 v2771 v2772 K (wadd .i64 v2770 1) 0).bind fun w2797 =>
        bif (ieq w2797.1 (wadd .i64 v2770 1)) then
          (some (.inl ()))
        else
        bif (sinr (wadd .i64 v2770 1) a2729) then
        bif (ieq (sget a2729 (wadd .i64 v2770 1)) 48) then
          (bif (ilt 1 (wsub .i64 w2797.1 (wadd .i64 v2770 1))) then
            (some (.inl ()))
          else
          bif (ilt 9223372036854775807 w2797.2) then
            (some (.inl ()))
          else
          bif (apok (len v2771) 1 8) then
          F136_l0_0 K a2729 a2731 k w2797.1 (appL v2771 [(wconv .i64 w2797.2)]) (wadd .i64 v2772 1)
          else none)
        else
        bif (ilt 9223372036854775807 w2797.2) then
          (some (.inl ()))
        else
        bif (apok (len v2771) 1 8) then
        F136_l0_0 K a2729 a2731 k w2797.1 (appL v2771 [(wconv .i64 w2797.2)]) (wadd .i64 v2772 1)
        else none
        else none)
      else
      some (.inl ())
      else none)
    else
    some (.inr (v2770, v2771))
def F136_l0_0_S (a2729 : ByteArray) (a2731 : Int) (v2770 : Int) (v2771 : List Int) (v2772 : Int) : TS := .on [0, 1, 512, 513, 576, 577, 1728, 1729, 1792, 1793] [(0, ⟨.one, 0, nob⟩), (1, ⟨.im, 0, (.lit (.string a2729))⟩), (512, ⟨.one, 0, nob⟩), (513, ⟨.im, 0, (.lit (.int .i64 v2770))⟩), (576, ⟨.one, 0, nob⟩), (577, ⟨(.own 2), 0, (.sl (len v2771) (flat (eInt .i64) v2771))⟩), (1728, ⟨.one, 0, nob⟩), (1729, ⟨.im, 0, (.lit (.int .i64 a2731))⟩), (1792, ⟨.one, 0, nob⟩), (1793, ⟨.im, 0, (.lit (.int .i64 v2772))⟩)]
def F136_l0_0_X0 (a2729 : ByteArray) (a2731 : Int) (w2808 : Unit) : TS := .on [384, 385, 448, 449] [(384, ⟨.one, 0, nob⟩), (385, ⟨(.own 2), 0, (.sl 0 [])⟩), (448, ⟨.one, 0, nob⟩), (449, ⟨.im, 0, (.lit (.bool false))⟩)]
def F136_l0_0_X1 (a2729 : ByteArray) (a2731 : Int) (w2809 : Int × List Int) : TS := .on [0, 1, 512, 513, 576, 577] [(0, ⟨.one, 0, nob⟩), (1, ⟨.im, 0, (.lit (.string a2729))⟩), (512, ⟨.one, 0, nob⟩), (513, ⟨.im, 0, (.lit (.int .i64 w2809.1))⟩), (576, ⟨.one, 0, nob⟩), (577, ⟨(.own 2), 0, (.sl (len w2809.2) (flat (eInt .i64) w2809.2))⟩)]
theorem F136_l0_0_ok (K : Nat) (a2729 : ByteArray) (a2731 : Int) : ∀ (k : Nat) (v2770 : Int) (v2771 : List Int) (v2772 : Int) (r : (Unit) ⊕ (Int × List Int)), F136_l0_0 K a2729 a2731 k v2770 v2771 v2772 = some r → (Sum.elim (fun w => LoopEv E H hn136 0 c136_0 (F136_l0_0_S a2729 a2731 v2770 v2771 v2772) .ret (F136_l0_0_X0 a2729 a2731 w)) (fun w => LoopEv E H hn136 0 c136_0 (F136_l0_0_S a2729 a2731 v2770 v2771 v2772) (.exit 0) (F136_l0_0_X1 a2729 a2731 w))) r := by
  intro k
  induction k with
  | zero => intro v2770 v2771 v2772 r hF; cases hF
  | succ k ih =>
    intro v2770 v2771 v2772 r hF
    rw [F136_l0_0] at hF
    refine cond_some hF (fun h2773 hF => ?_) (fun h2773 hF => ?_)
    ·
      refine cond_some hF (fun h2774 hF => ?_) (fun h2774 hF => ?_)
      ·
        have hr := Option.some.inj hF
        subst hr
        have pz : HoldAll E H hn136 [.test (ilt v2772 a2731) true, .int (slen a2729) (slen a2729), .test (beqb (ige v2770 (slen a2729)) false) false, .test (beqb (ige v2770 (slen a2729)) false) false, .test (beqb (ige v2770 (slen a2729)) false) false, .test (beqb (ige v2770 (slen a2729)) false) false, .test (ige v2770 (slen a2729)) true, .test true true] := ⟨h2773, rfl, (beqb_ft (ige_eq h2774)), (beqb_ft (ige_eq h2774)), (beqb_ft (ige_eq h2774)), (beqb_ft (ige_eq h2774)), (ige_eq h2774), rfl, trivial⟩
        exact loop_endC (h := hn136) (l := 0) (c := c136_0) (ts := F136_l0_0_S a2729 a2731 v2770 v2771 v2772) (ts' := F136_l0_0_X0 a2729 a2731 ()) (ex := .ret) pz (by kernel_rfl) trivial
      refine cond_some hF (fun h2775 hF => ?_) (fun _ hF => nomatch hF)
      have pq2812 : ∀ {l : List Cond}, HoldAll E H hn136 l → HoldAll E H hn136 (.test (ilt v2772 a2731) true :: .int (slen a2729) (slen a2729) :: .test (beqb (ige v2770 (slen a2729)) false) true :: .test (beqb (ige v2770 (slen a2729)) false) true :: .test (beqb (ige v2770 (slen a2729)) false) true :: .test (sinr v2770 a2729) true :: .int (sget a2729 v2770) (sget a2729 v2770) :: .test (beqb (ige v2770 (slen a2729)) false) true :: .test (ige v2770 (slen a2729)) false :: l) := fun z => ⟨h2773, rfl, (beqb_ff (ige_eq h2774)), (beqb_ff (ige_eq h2774)), (beqb_ff (ige_eq h2774)), h2775, rfl, (beqb_ff (ige_eq h2774)), (ige_eq h2774), z⟩
      refine cond_some hF (fun h2776 hF => ?_) (fun h2776 hF => ?_)
      ·
        refine bind_some hF (fun w2797 h2795 hF => ?_)
        have pq2813 : ∀ {l : List Cond}, HoldAll E H hn136 l → HoldAll E H hn136 (.test (ine (sget a2729 v2770) 32) false :: .int (wadd .i64 v2770 1) (wadd .i64 v2770 1) :: .loop 2 c136_1 (F136_l1_1_S a2729 a2731 v2770 v2771 v2772 (wadd .i64 v2770 1) 0) (.exit 2) (F136_l1_1_X0 a2729 a2731 v2770 v2771 v2772 w2797) :: l) := fun z => ⟨(ine_t h2776), rfl, (F136_l1_1_ok K a2729 a2731 v2770 v2771 v2772 K (wadd .i64 v2770 1) 0 _ h2795), z⟩
        refine cond_some hF (fun h2800 hF => ?_) (fun h2800 hF => ?_)
        ·
          have hr := Option.some.inj hF
          subst hr
          have pz : HoldAll E H hn136 [.test (beqb (ieq w2797.1 (wadd .i64 v2770 1)) false) false, .test (beqb (ieq w2797.1 (wadd .i64 v2770 1)) false) false, .test (beqb (ieq w2797.1 (wadd .i64 v2770 1)) false) false, .test (beqb (ieq w2797.1 (wadd .i64 v2770 1)) false) false, .test (beqb (ieq w2797.1 (wadd .i64 v2770 1)) false) false, .test (beqb (ieq w2797.1 (wadd .i64 v2770 1)) false) false, .test (ieq w2797.1 (wadd .i64 v2770 1)) true, .test (beqb true false) false, .test (beqb true false) false, .test true true, .test true true] := ⟨(beqb_ft h2800), (beqb_ft h2800), (beqb_ft h2800), (beqb_ft h2800), (beqb_ft h2800), (beqb_ft h2800), h2800, (beqb_ft rfl), (beqb_ft rfl), rfl, rfl, trivial⟩
          exact loop_endC (h := hn136) (l := 0) (c := c136_0) (ts := F136_l0_0_S a2729 a2731 v2770 v2771 v2772) (ts' := F136_l0_0_X0 a2729 a2731 ()) (ex := .ret) (pq2812 (pq2813 pz)) (by kernel_rfl) trivial
        refine cond_some hF (fun h2801 hF => ?_) (fun _ hF => nomatch hF)
        have pq2814 : ∀ {l : List Cond}, HoldAll E H hn136 l → HoldAll E H hn136 (.test (beqb (ieq w2797.1 (wadd .i64 v2770 1)) false) true :: .test (beqb (ieq w2797.1 (wadd .i64 v2770 1)) false) true :: .test (beqb (ieq w2797.1 (wadd .i64 v2770 1)) false) true :: .test (sinr (wadd .i64 v2770 1) a2729) true :: .int (sget a2729 (wadd .i64 v2770 1)) (sget a2729 (wadd .i64 v2770 1)) :: .test (beqb (ieq w2797.1 (wadd .i64 v2770 1)) false) true :: .test (beqb (ieq w2797.1 (wadd .i64 v2770 1)) false) true :: l) := fun z => ⟨(beqb_ff h2800), (beqb_ff h2800), (beqb_ff h2800), h2801, rfl, (beqb_ff h2800), (beqb_ff h2800), z⟩
        refine cond_some hF (fun h2802 hF => ?_) (fun h2802 hF => ?_)
        ·
          have pq2815 : ∀ {l : List Cond}, HoldAll E H hn136 l → HoldAll E H hn136 (.test (beqb (ieq (sget a2729 (wadd .i64 v2770 1)) 48) true) true :: .test (beqb (ieq (sget a2729 (wadd .i64 v2770 1)) 48) true) true :: .test (beqb (ieq (sget a2729 (wadd .i64 v2770 1)) 48) true) true :: .int (wsub .i64 w2797.1 (wadd .i64 v2770 1)) (wsub .i64 w2797.1 (wadd .i64 v2770 1)) :: .test (beqb (ieq (sget a2729 (wadd .i64 v2770 1)) 48) true) true :: .test (beqb (ieq w2797.1 (wadd .i64 v2770 1)) false) true :: .test (ieq (sget a2729 (wadd .i64 v2770 1)) 48) true :: .test (ieq w2797.1 (wadd .i64 v2770 1)) false :: l) := fun z => ⟨(beqb_t h2802), (beqb_t h2802), (beqb_t h2802), rfl, (beqb_t h2802), (beqb_ff h2800), h2802, h2800, z⟩
          refine cond_some hF (fun h2803 hF => ?_) (fun h2803 hF => ?_)
          ·
            have hr := Option.some.inj hF
            subst hr
            have pz : HoldAll E H hn136 [.test (beqb (igt (wsub .i64 w2797.1 (wadd .i64 v2770 1)) 1) false) false, .test (beqb (igt (wsub .i64 w2797.1 (wadd .i64 v2770 1)) 1) false) false, .test (igt (wsub .i64 w2797.1 (wadd .i64 v2770 1)) 1) true, .test true true] := ⟨(beqb_ft (igt_eq h2803)), (beqb_ft (igt_eq h2803)), (igt_eq h2803), rfl, trivial⟩
            exact loop_endC (h := hn136) (l := 0) (c := c136_0) (ts := F136_l0_0_S a2729 a2731 v2770 v2771 v2772) (ts' := F136_l0_0_X0 a2729 a2731 ()) (ex := .ret) (pq2812 (pq2813 (pq2814 (pq2815 pz)))) (by kernel_rfl) trivial
          have pq2816 : ∀ {l : List Cond}, HoldAll E H hn136 l → HoldAll E H hn136 (.test (beqb (igt (wsub .i64 w2797.1 (wadd .i64 v2770 1)) 1) false) true :: .test (beqb (igt (wsub .i64 w2797.1 (wadd .i64 v2770 1)) 1) false) true :: .test (igt (wsub .i64 w2797.1 (wadd .i64 v2770 1)) 1) false :: l) := fun z => ⟨(beqb_ff (igt_eq h2803)), (beqb_ff (igt_eq h2803)), (igt_eq h2803), z⟩
          refine cond_some hF (fun h2804 hF => ?_) (fun h2804 hF => ?_)
          ·
            have hr := Option.some.inj hF
            subst hr
            have pz : HoldAll E H hn136 [.test (igt w2797.2 9223372036854775807) true] := ⟨(igt_eq h2804), trivial⟩
            exact loop_endC (h := hn136) (l := 0) (c := c136_0) (ts := F136_l0_0_S a2729 a2731 v2770 v2771 v2772) (ts' := F136_l0_0_X0 a2729 a2731 ()) (ex := .ret) (pq2812 (pq2813 (pq2814 (pq2815 (pq2816 pz))))) (by kernel_rfl) trivial
          refine cond_some hF (fun h2805 hF => ?_) (fun _ hF => nomatch hF)
          have pz : HoldAll E H hn136 [.test (igt w2797.2 9223372036854775807) false, .int (wconv .i64 w2797.2) (wconv .i64 w2797.2), .test (leqm [(.lit (.int .i64 (wconv .i64 w2797.2)))] 1 1) true, .test (apok (len v2771) 1 8) true, .sl (nadd (len v2771) 1) (lapp (flat (eInt .i64) v2771) [(.lit (.int .i64 (wconv .i64 w2797.2)))]) (len (α := Int) (appL v2771 [(wconv .i64 w2797.2)])) (flat (eInt .i64) (appL v2771 [(wconv .i64 w2797.2)])), .int (wadd .i64 v2772 1) (wadd .i64 v2772 1)] := ⟨(igt_eq h2804), rfl, rfl, h2805, (app_ok (enc := (eInt .i64)) (v2771 : List Int) [(wconv .i64 w2797.2)]), rfl, trivial⟩
          have h0 := ih _ _ _ _ hF
          have hn := fun ex ts' => loop_nextC (h := hn136) (l := 0) (c := c136_0) (ts := F136_l0_0_S a2729 a2731 v2770 v2771 v2772) (ts1 := (F136_l0_0_S a2729 a2731 w2797.1 (appL v2771 [(wconv .i64 w2797.2)]) (wadd .i64 v2772 1))) (ex := ex) (ts' := ts') (pq2812 (pq2813 (pq2814 (pq2815 (pq2816 pz))))) (by kernel_rfl)
          cases r with
          | inl w => exact hn _ _ h0
          | inr w => exact hn _ _ h0
        have pq2817 : ∀ {l : List Cond}, HoldAll E H hn136 l → HoldAll E H hn136 (.test (beqb (ieq (sget a2729 (wadd .i64 v2770 1)) 48) true) false :: .test (beqb (ieq (sget a2729 (wadd .i64 v2770 1)) 48) true) false :: .test (beqb (ieq (sget a2729 (wadd .i64 v2770 1)) 48) true) false :: .test (beqb (ieq (sget a2729 (wadd .i64 v2770 1)) 48) true) false :: .test (beqb (ieq w2797.1 (wadd .i64 v2770 1)) false) true :: .test (ieq (sget a2729 (wadd .i64 v2770 1)) 48) false :: .test (ieq w2797.1 (wadd .i64 v2770 1)) false :: .test (beqb false false) true :: .test (beqb false false) true :: .test false false :: l) := fun z => ⟨(beqb_t h2802), (beqb_t h2802), (beqb_t h2802), (beqb_t h2802), (beqb_ff h2800), h2802, h2800, (beqb_ff rfl), (beqb_ff rfl), rfl, z⟩
        refine cond_some hF (fun h2806 hF => ?_) (fun h2806 hF => ?_)
        ·
          have hr := Option.some.inj hF
          subst hr
          have pz : HoldAll E H hn136 [.test (igt w2797.2 9223372036854775807) true] := ⟨(igt_eq h2806), trivial⟩
          exact loop_endC (h := hn136) (l := 0) (c := c136_0) (ts := F136_l0_0_S a2729 a2731 v2770 v2771 v2772) (ts' := F136_l0_0_X0 a2729 a2731 ()) (ex := .ret) (pq2812 (pq2813 (pq2814 (pq2817 pz)))) (by kernel_rfl) trivial
        refine cond_some hF (fun h2807 hF => ?_) (fun _ hF => nomatch hF)
        have pz : HoldAll E H hn136 [.test (igt w2797.2 9223372036854775807) false, .int (wconv .i64 w2797.2) (wconv .i64 w2797.2), .test (leqm [(.lit (.int .i64 (wconv .i64 w2797.2)))] 1 1) true, .test (apok (len v2771) 1 8) true, .sl (nadd (len v2771) 1) (lapp (flat (eInt .i64) v2771) [(.lit (.int .i64 (wconv .i64 w2797.2)))]) (len (α := Int) (appL v2771 [(wconv .i64 w2797.2)])) (flat (eInt .i64) (appL v2771 [(wconv .i64 w2797.2)])), .int (wadd .i64 v2772 1) (wadd .i64 v2772 1)] := ⟨(igt_eq h2806), rfl, rfl, h2807, (app_ok (enc := (eInt .i64)) (v2771 : List Int) [(wconv .i64 w2797.2)]), rfl, trivial⟩
        have h0 := ih _ _ _ _ hF
        have hn := fun ex ts' => loop_nextC (h := hn136) (l := 0) (c := c136_0) (ts := F136_l0_0_S a2729 a2731 v2770 v2771 v2772) (ts1 := (F136_l0_0_S a2729 a2731 w2797.1 (appL v2771 [(wconv .i64 w2797.2)]) (wadd .i64 v2772 1))) (ex := ex) (ts' := ts') (pq2812 (pq2813 (pq2814 (pq2817 pz)))) (by kernel_rfl)
        cases r with
        | inl w => exact hn _ _ h0
        | inr w => exact hn _ _ h0
      have hr := Option.some.inj hF
      subst hr
      have pz : HoldAll E H hn136 [.test (ine (sget a2729 v2770) 32) true] := ⟨(ine_f h2776), trivial⟩
      exact loop_endC (h := hn136) (l := 0) (c := c136_0) (ts := F136_l0_0_S a2729 a2731 v2770 v2771 v2772) (ts' := F136_l0_0_X0 a2729 a2731 ()) (ex := .ret) (pq2812 pz) (by kernel_rfl) trivial
    have hr := Option.some.inj hF
    subst hr
    have pz : HoldAll E H hn136 [.test (ilt v2772 a2731) false] := ⟨h2773, trivial⟩
    exact loop_endC (h := hn136) (l := 0) (c := c136_0) (ts := F136_l0_0_S a2729 a2731 v2770 v2771 v2772) (ts' := F136_l0_0_X1 a2729 a2731 (v2770, v2771)) (ex := (.exit 0)) pz (by kernel_rfl) trivial

def F136 (K : Nat) (a2729 : ByteArray) (a2730 : ByteArray) (a2731 : Int) : Option (List Int × Bool) :=
  bif (ilt (slen a2729) (slen a2730)) then
    (some ([], false))
  else
  bif (sbnd 0 (slen a2730) a2729) then
  bif (seqs (ssub a2729 0 (slen a2730)) a2730) then
    ((F136_l0_0 K a2729 a2731 K (slen a2730) [] 0).bind fun y2819 =>
    Sum.elim (fun w2820 =>
      some ([], false))
      (fun w2821 =>
      some (w2821.2, (ieq w2821.1 (slen a2729)))) y2819)
  else
  some ([], false)
  else none
theorem F136_ok (K : Nat) (a2729 : ByteArray) (a2730 : ByteArray) (a2731 : Int) (r : List Int × Bool) (hF : F136 K a2729 a2730 a2731 = some r) : Evt E H 136 [.one (.lit (.string a2729)), .one (.lit (.string a2730)), .one (.lit (.int .i64 a2731))] (F136_res r) := by
  rw [F136] at hF
  refine cond_some hF (fun h2732 hF => ?_) (fun h2732 hF => ?_)
  ·
    have hr := Option.some.inj hF
    subst hr
    have pz : HoldAll E H hn136 [.int (slen a2729) (slen a2729), .int (slen a2730) (slen a2730), .test (beqb (ilt (slen a2729) (slen a2730)) false) false, .test (beqb (ilt (slen a2729) (slen a2730)) false) false, .test (beqb (ilt (slen a2729) (slen a2730)) false) false, .test (beqb (ilt (slen a2729) (slen a2730)) false) false, .test (beqb (ilt (slen a2729) (slen a2730)) false) false, .test (beqb (ilt (slen a2729) (slen a2730)) false) false, .test (ilt (slen a2729) (slen a2730)) true, .test true true] := ⟨rfl, rfl, (beqb_ft h2732), (beqb_ft h2732), (beqb_ft h2732), (beqb_ft h2732), (beqb_ft h2732), (beqb_ft h2732), h2732, rfl, trivial⟩
    exact fn_playC hn136 (f := 136) (ads := [.one (.lit (.string a2729)), .one (.lit (.string a2730)), .one (.lit (.int .i64 a2731))]) (r := F136_res ([], false)) pz (by kernel_rfl) (by kernel_rfl)
  refine cond_some hF (fun h2733 hF => ?_) (fun _ hF => nomatch hF)
  have pq2824 : ∀ {l : List Cond}, HoldAll E H hn136 l → HoldAll E H hn136 (.int (slen a2729) (slen a2729) :: .int (slen a2730) (slen a2730) :: .test (beqb (ilt (slen a2729) (slen a2730)) false) true :: .test (beqb (ilt (slen a2729) (slen a2730)) false) true :: .test (beqb (ilt (slen a2729) (slen a2730)) false) true :: .int (slen a2730) (slen a2730) :: .test (beqb (ilt (slen a2729) (slen a2730)) false) true :: .test (sbnd 0 (slen a2730) a2729) true :: .test (beqb (ilt (slen a2729) (slen a2730)) false) true :: .test (beqb (ilt (slen a2729) (slen a2730)) false) true :: .test (ilt (slen a2729) (slen a2730)) false :: l) := fun z => ⟨rfl, rfl, (beqb_ff h2732), (beqb_ff h2732), (beqb_ff h2732), rfl, (beqb_ff h2732), h2733, (beqb_ff h2732), (beqb_ff h2732), h2732, z⟩
  refine cond_some hF (fun h2734 hF => ?_) (fun h2734 hF => ?_)
  ·
    refine bind_some hF (fun y2819 h2818 hF => ?_)
    refine sum_some hF (fun w2820 hx hF => ?_) (fun w2821 hx hF => ?_)
    ·
      subst hx
      have hr := Option.some.inj hF
      subst hr
      have pz : HoldAll E H hn136 [.test (bnot (seqs (ssub a2729 0 (slen a2730)) a2730)) false, .int (slen a2730) (slen a2730), .loop 0 c136_0 (F136_l0_0_S a2729 a2731 (slen a2730) [] 0) .ret (F136_l0_0_X0 a2729 a2731 w2820)] := ⟨(bnot_t h2734), rfl, (F136_l0_0_ok K a2729 a2731 K (slen a2730) [] 0 _ h2818), trivial⟩
      exact fn_playC hn136 (f := 136) (ads := [.one (.lit (.string a2729)), .one (.lit (.string a2730)), .one (.lit (.int .i64 a2731))]) (r := F136_res ([], false)) (pq2824 pz) (by kernel_rfl) (by kernel_rfl)
    subst hx
    have hr := Option.some.inj hF
    subst hr
    have pz : HoldAll E H hn136 [.test (bnot (seqs (ssub a2729 0 (slen a2730)) a2730)) false, .int (slen a2730) (slen a2730), .loop 0 c136_0 (F136_l0_0_S a2729 a2731 (slen a2730) [] 0) (.exit 0) (F136_l0_0_X1 a2729 a2731 w2821), .int (slen a2729) (slen a2729)] := ⟨(bnot_t h2734), rfl, (F136_l0_0_ok K a2729 a2731 K (slen a2730) [] 0 _ h2818), rfl, trivial⟩
    exact fn_playC hn136 (f := 136) (ads := [.one (.lit (.string a2729)), .one (.lit (.string a2730)), .one (.lit (.int .i64 a2731))]) (r := F136_res (w2821.2, (ieq w2821.1 (slen a2729)))) (pq2824 pz) (by kernel_rfl) (by kernel_rfl)
  have hr := Option.some.inj hF
  subst hr
  have pz : HoldAll E H hn136 [.test (bnot (seqs (ssub a2729 0 (slen a2730)) a2730)) true] := ⟨(bnot_f h2734), trivial⟩
  exact fn_playC hn136 (f := 136) (ads := [.one (.lit (.string a2729)), .one (.lit (.string a2730)), .one (.lit (.int .i64 a2731))]) (r := F136_res ([], false)) (pq2824 pz) (by kernel_rfl) (by kernel_rfl)

/-! ### haywain/graph.small -/
noncomputable def hn156 : Hint := { H 156 with nt := 5, prot := 0 }
def F156_res (r2861 : Int) : Res := ⟨[(.one (.im (.lit (.int .i64 r2861))))], []⟩
def F156 (K : Nat) (a2859 : Int) : Option (Int) :=
  bif (ilt 24 a2859) then
    (some 24)
  else
  some a2859
theorem F156_ok (K : Nat) (a2859 : Int) (r : Int) (hF : F156 K a2859 = some r) : Evt E H 156 [.one (.lit (.int .i64 a2859))] (F156_res r) := by
  rw [F156] at hF
  refine cond_some hF (fun h2860 hF => ?_) (fun h2860 hF => ?_)
  ·
    have hr := Option.some.inj hF
    subst hr
    have pz : HoldAll E H hn156 [.test (ilt 24 a2859) true] := ⟨h2860, trivial⟩
    exact fn_playC hn156 (f := 156) (ads := [.one (.lit (.int .i64 a2859))]) (r := F156_res 24) pz (by kernel_rfl) (by kernel_rfl)
  have hr := Option.some.inj hF
  subst hr
  have pz : HoldAll E H hn156 [.test (ilt 24 a2859) false] := ⟨h2860, trivial⟩
  exact fn_playC hn156 (f := 156) (ads := [.one (.lit (.int .i64 a2859))]) (r := F156_res a2859) pz (by kernel_rfl) (by kernel_rfl)

/-! ### haywain/graph.put -/
noncomputable def hn157 : Hint := { H 157 with nt := 50, prot := 0 }
noncomputable def c157_0 : Code := loopOf E 157 0
def F157_res (r2917 : List GEdge × Bool) : Res := ⟨[(.one (.im (.sl (len r2917.1) (flat eGEdge r2917.1)))), (.one (.im (.lit (.bool r2917.2))))], []⟩
def F157_l0_0 (K : Nat) (a2875 : List GEdge) (a2876 : GEdge) : Nat → Int → Option (Int)
  | 0, _ => none
  | k + 1, v2884 =>
    bif (ilt v2884 (nlen (len a2875))) then
      (bif (inr v2884 (len a2875)) then
      (elAt a2875 v2884).bind fun x2887 =>
      (F133 K x2887 a2876).bind fun r2889 =>
      bif (ilt r2889 0) then
        (F157_l0_0 K a2875 a2876 k (wadd .i64 v2884 1))
      else
      some v2884
      else none)
    else
    some v2884
def F157_l0_0_S (a2875 : List GEdge) (a2876 : GEdge) (v2884 : Int) : TS := .on [0, 1, 192, 193, 194, 195, 384, 385] [(0, ⟨.one, 0, nob⟩), (1, ⟨.im, 0, (.sl (len a2875) (flat eGEdge a2875))⟩), (192, ⟨(.box 89 3), 0, nob⟩), (193, ⟨.im, 0, (.lit (.int .i64 a2876.From))⟩), (194, ⟨.im, 0, (.lit (.int .i64 a2876.To))⟩), (195, ⟨.im, 0, (.lit (.int .i64 a2876.W))⟩), (384, ⟨.one, 0, nob⟩), (385, ⟨.im, 0, (.lit (.int .i64 v2884))⟩)]
def F157_l0_0_X0 (a2875 : List GEdge) (a2876 : GEdge) (w2892 : Int) : TS := .on [0, 1, 192, 193, 194, 195, 384, 385] [(0, ⟨.one, 0, nob⟩), (1, ⟨.im, 0, (.sl (len a2875) (flat eGEdge a2875))⟩), (192, ⟨(.box 89 3), 0, nob⟩), (193, ⟨.im, 0, (.lit (.int .i64 a2876.From))⟩), (194, ⟨.im, 0, (.lit (.int .i64 a2876.To))⟩), (195, ⟨.im, 0, (.lit (.int .i64 a2876.W))⟩), (384, ⟨.one, 0, nob⟩), (385, ⟨.im, 0, (.lit (.int .i64 w2892))⟩)]
theorem F157_l0_0_ok (K : Nat) (a2875 : List GEdge) (a2876 : GEdge) : ∀ (k : Nat) (v2884 : Int) (r : Int), F157_l0_0 K a2875 a2876 k v2884 = some r → LoopEv E H hn157 0 c157_0 (F157_l0_0_S a2875 a2876 v2884) (.exit 0) (F157_l0_0_X0 a2875 a2876 r) := by
  intro k
  induction k with
  | zero => intro v2884 r hF; cases hF
  | succ k ih =>
    intro v2884 r hF
    rw [F157_l0_0] at hF
    refine cond_some hF (fun h2885 hF => ?_) (fun h2885 hF => ?_)
    ·
      refine cond_some hF (fun h2886 hF => ?_) (fun _ hF => nomatch hF)
      refine bind_some hF (fun x2887 h2888 hF => ?_)
      refine bind_some hF (fun r2889 h2890 hF => ?_)
      have pq2894 : ∀ {l : List Cond}, HoldAll E H hn157 l → HoldAll E H hn157 (.int (nlen (len a2875)) (nlen (len a2875)) :: .test (beqb (ilt v2884 (nlen (len a2875))) true) true :: .test (beqb (ilt v2884 (nlen (len a2875))) true) true :: .test (beqb (ilt v2884 (nlen (len a2875))) true) true :: .test (inr v2884 (len a2875)) true :: .test (beqb (ilt v2884 (nlen (len a2875))) true) true :: .sub (flat eGEdge a2875) (nidx v2884 3) 3 [(.lit (.int .i64 x2887.From)), (.lit (.int .i64 x2887.To)), (.lit (.int .i64 x2887.W))] :: .test (beqb (ilt v2884 (nlen (len a2875))) true) true :: .test (beqb (ilt v2884 (nlen (len a2875))) true) true :: .call 133 [.agg (eGEdge x2887), .agg (eGEdge a2876)] (F133_res r2889) :: .test (leadsAny (Res.mk [(.one (.im (.lit (.int .i64 r2889))))] [])) false :: .test (beqb (ilt v2884 (nlen (len a2875))) true) true :: .test (ilt v2884 (nlen (len a2875))) true :: l) := fun z => ⟨rfl, (beqb_t h2885), (beqb_t h2885), (beqb_t h2885), h2886, (beqb_t h2885), ⟨rfl, sub_flat0 eGEdge_len h2888 3 (by decide)⟩, (beqb_t h2885), (beqb_t h2885), (F133_ok K x2887 a2876 _ h2890), (leads_ok (by simp only [leadsAny, List.any_cons, List.any_nil, RV.leads, RC.leads, leadsT, hasSl_lit, Bool.or_false, flat_ns (eInt_ns _), flat_ns eBool_ns, flat_ns eStr_ns, flat_ns eGJob_ns, flat_ns eGEdge_ns, flat_ns eGAsked_ns, flat_ns eGMsg_ns, flat_ns eGrule_ns, flat_ns eGA199_ns, flat_ns eGA202_ns])), (beqb_t h2885), h2885, z⟩
      refine cond_some hF (fun h2891 hF => ?_) (fun h2891 hF => ?_)
      ·
        have pz : HoldAll E H hn157 [.test (ilt r2889 0) true, .int (wadd .i64 v2884 1) (wadd .i64 v2884 1)] := ⟨h2891, rfl, trivial⟩
        have h0 := ih _ _ hF
        have hn := fun ex ts' => loop_nextC (h := hn157) (l := 0) (c := c157_0) (ts := F157_l0_0_S a2875 a2876 v2884) (ts1 := (F157_l0_0_S a2875 a2876 (wadd .i64 v2884 1))) (ex := ex) (ts' := ts') (pq2894 pz) (by kernel_rfl)
        exact hn _ _ h0
      have hr := Option.some.inj hF
      subst hr
      have pz : HoldAll E H hn157 [.test (ilt r2889 0) false] := ⟨h2891, trivial⟩
      exact loop_endC (h := hn157) (l := 0) (c := c157_0) (ts := F157_l0_0_S a2875 a2876 v2884) (ts' := F157_l0_0_X0 a2875 a2876 v2884) (ex := (.exit 0)) (pq2894 pz) (by kernel_rfl) trivial
    have hr := Option.some.inj hF
    subst hr
    have pz : HoldAll E H hn157 [.int (nlen (len a2875)) (nlen (len a2875)), .test (beqb (ilt v2884 (nlen (len a2875))) true) false, .test (beqb (ilt v2884 (nlen (len a2875))) true) false, .test (beqb (ilt v2884 (nlen (len a2875))) true) false, .test (beqb (ilt v2884 (nlen (len a2875))) true) false, .test (beqb (ilt v2884 (nlen (len a2875))) true) false, .test (beqb (ilt v2884 (nlen (len a2875))) true) false, .test (beqb (ilt v2884 (nlen (len a2875))) true) false, .test (ilt v2884 (nlen (len a2875))) false, .test false false] := ⟨rfl, (beqb_t h2885), (beqb_t h2885), (beqb_t h2885), (beqb_t h2885), (beqb_t h2885), (beqb_t h2885), (beqb_t h2885), h2885, rfl, trivial⟩
    exact loop_endC (h := hn157) (l := 0) (c := c157_0) (ts := F157_l0_0_S a2875 a2876 v2884) (ts' := F157_l0_0_X0 a2875 a2876 v2884) (ex := (.exit 0)) pz (by kernel_rfl) trivial

def F157 (K : Nat) (a2875 : List GEdge) (a2876 : GEdge) : Option (List GEdge × Bool) :=
  (F157_l0_0 K a2875 a2876 K 0).bind fun w2897 =>
  bif (ilt w2897 (nlen (len a2875))) then
    (bif (inr w2897 (len a2875)) then
    (elAt a2875 w2897).bind fun x2901 =>
    (F133 K x2901 a2876).bind fun r2903 =>
    bif (ieq r2903 0) then
      (some (a2875, false))
    else
    bif (bnd 0 w2897 (len a2875)) then
    bif (apok 0 (len (α := GEdge) (subL a2875 0 w2897)) 24) then
    bif (apok (len (α := GEdge) (appL [] (subL a2875 0 w2897))) 1 24) then
    bif (bnd w2897 (nlen (len a2875)) (len a2875)) then
    bif (apok (len (α := GEdge) (appL (appL [] (subL a2875 0 w2897)) [a2876])) (len (α := GEdge) (subL a2875 w2897 (nlen (len a2875)))) 24) then
    some ((appL (appL (appL [] (subL a2875 0 w2897)) [a2876]) (subL a2875 w2897 (nlen (len a2875)))), true)
    else none
    else none
    else none
    else none
    else none
    else none)
  else
  bif (bnd 0 w2897 (len a2875)) then
  bif (apok 0 (len (α := GEdge) (subL a2875 0 w2897)) 24) then
  bif (apok (len (α := GEdge) (appL [] (subL a2875 0 w2897))) 1 24) then
  bif (bnd w2897 (nlen (len a2875)) (len a2875)) then
  bif (apok (len (α := GEdge) (appL (appL [] (subL a2875 0 w2897)) [a2876])) (len (α := GEdge) (subL a2875 w2897 (nlen (len a2875)))) 24) then
  some ((appL (appL (appL [] (subL a2875 0 w2897)) [a2876]) (subL a2875 w2897 (nlen (len a2875)))), true)
  else none
  else none
  else none
  else none
  else none
theorem F157_ok (K : Nat) (a2875 : List GEdge) (a2876 : GEdge) (r : List GEdge × Bool) (hF : F157 K a2875 a2876 = some r) : Evt E H 157 [.one (.sl (len a2875) (flat eGEdge a2875)), .agg (eGEdge a2876)] (F157_res r) := by
  rw [F157] at hF
  refine bind_some hF (fun w2897 h2895 hF => ?_)
  refine cond_some hF (fun h2899 hF => ?_) (fun h2899 hF => ?_)
  ·
    refine cond_some hF (fun h2900 hF => ?_) (fun _ hF => nomatch hF)
    refine bind_some hF (fun x2901 h2902 hF => ?_)
    refine bind_some hF (fun r2903 h2904 hF => ?_)
    have pq2916 : ∀ {l : List Cond}, HoldAll E H hn157 l → HoldAll E H hn157 (.loop 0 c157_0 (F157_l0_0_S a2875 a2876 0) (.exit 0) (F157_l0_0_X0 a2875 a2876 w2897) :: .int (nlen (len a2875)) (nlen (len a2875)) :: .test (beqb (ilt w2897 (nlen (len a2875))) true) true :: .test (beqb (ilt w2897 (nlen (len a2875))) true) true :: .test (beqb (ilt w2897 (nlen (len a2875))) true) true :: .test (inr w2897 (len a2875)) true :: .test (beqb (ilt w2897 (nlen (len a2875))) true) true :: .sub (flat eGEdge a2875) (nidx w2897 3) 3 [(.lit (.int .i64 x2901.From)), (.lit (.int .i64 x2901.To)), (.lit (.int .i64 x2901.W))] :: .test (beqb (ilt w2897 (nlen (len a2875))) true) true :: .test (beqb (ilt w2897 (nlen (len a2875))) true) true :: .call 133 [.agg (eGEdge x2901), .agg (eGEdge a2876)] (F133_res r2903) :: .test (leadsAny (Res.mk [(.one (.im (.lit (.int .i64 r2903))))] [])) false :: .test (beqb (ilt w2897 (nlen (len a2875))) true) true :: .test (ilt w2897 (nlen (len a2875))) true :: l) := fun z => ⟨(F157_l0_0_ok K a2875 a2876 K 0 _ h2895), rfl, (beqb_t h2899), (beqb_t h2899), (beqb_t h2899), h2900, (beqb_t h2899), ⟨rfl, sub_flat0 eGEdge_len h2902 3 (by decide)⟩, (beqb_t h2899), (beqb_t h2899), (F133_ok K x2901 a2876 _ h2904), (leads_ok (by simp only [leadsAny, List.any_cons, List.any_nil, RV.leads, RC.leads, leadsT, hasSl_lit, Bool.or_false, flat_ns (eInt_ns _), flat_ns eBool_ns, flat_ns eStr_ns, flat_ns eGJob_ns, flat_ns eGEdge_ns, flat_ns eGAsked_ns, flat_ns eGMsg_ns, flat_ns eGrule_ns, flat_ns eGA199_ns, flat_ns eGA202_ns])), (beqb_t h2899), h2899, z⟩
    refine cond_some hF (fun h2905 hF => ?_) (fun h2905 hF => ?_)
    ·
      have hr := Option.some.inj hF
      subst hr
      have pz : HoldAll E H hn157 [.test (ieq r2903 0) true] := ⟨h2905, trivial⟩
      exact fn_playC hn157 (f := 157) (ads := [.one (.sl (len a2875) (flat eGEdge a2875)), .agg (eGEdge a2876)]) (r := F157_res (a2875, false)) (pq2916 pz) (by kernel_rfl) (by kernel_rfl)
    refine cond_some hF (fun h2906 hF => ?_) (fun _ hF => nomatch hF)
    refine cond_some hF (fun h2907 hF => ?_) (fun _ hF => nomatch hF)
    refine cond_some hF (fun h2908 hF => ?_) (fun _ hF => nomatch hF)
    refine cond_some hF (fun h2909 hF => ?_) (fun _ hF => nomatch hF)
    refine cond_some hF (fun h2910 hF => ?_) (fun _ hF => nomatch hF)
    have hr := Option.some.inj hF
    subst hr
    have pz : HoldAll E H hn157 [.test (ieq r2903 0) false, .test (bnd 0 w2897 (len a2875)) true, .sl (nsub 0 w2897) (lsub (flat eGEdge a2875) 0 w2897 3) (len (α := GEdge) (subL a2875 0 w2897)) (flat eGEdge (subL a2875 0 w2897)), .test (leqm (flat eGEdge (subL a2875 0 w2897)) (len (α := GEdge) (subL a2875 0 w2897)) 3) true, .test (apok 0 (len (α := GEdge) (subL a2875 0 w2897)) 24) true, .sl (nadd 0 (len (α := GEdge) (subL a2875 0 w2897))) (lapp [] (flat eGEdge (subL a2875 0 w2897))) (len (α := GEdge) (appL [] (subL a2875 0 w2897))) (flat eGEdge (appL [] (subL a2875 0 w2897))), .test (leqm [(.lit (.int .i64 a2876.From)), (.lit (.int .i64 a2876.To)), (.lit (.int .i64 a2876.W))] 1 3) true, .test (apok (len (α := GEdge) (appL [] (subL a2875 0 w2897))) 1 24) true, .sl (nadd (len (α := GEdge) (appL [] (subL a2875 0 w2897))) 1) (lapp (flat eGEdge (appL [] (subL a2875 0 w2897))) [(.lit (.int .i64 a2876.From)), (.lit (.int .i64 a2876.To)), (.lit (.int .i64 a2876.W))]) (len (α := GEdge) (appL (appL [] (subL a2875 0 w2897)) [a2876])) (flat eGEdge (appL (appL [] (subL a2875 0 w2897)) [a2876])), .test (bnd w2897 (nlen (len a2875)) (len a2875)) true, .sl (nsub w2897 (nlen (len a2875))) (lsub (flat eGEdge a2875) w2897 (nlen (len a2875)) 3) (len (α := GEdge) (subL a2875 w2897 (nlen (len a2875)))) (flat eGEdge (subL a2875 w2897 (nlen (len a2875)))), .test (leqm (flat eGEdge (subL a2875 w2897 (nlen (len a2875)))) (len (α := GEdge) (subL a2875 w2897 (nlen (len a2875)))) 3) true, .test (apok (len (α := GEdge) (appL (appL [] (subL a2875 0 w2897)) [a2876])) (len (α := GEdge) (subL a2875 w2897 (nlen (len a2875)))) 24) true, .sl (nadd (len (α := GEdge) (appL (appL [] (subL a2875 0 w2897)) [a2876])) (len (α := GEdge) (subL a2875 w2897 (nlen (len a2875))))) (lapp (flat eGEdge (appL (appL [] (subL a2875 0 w2897)) [a2876])) (flat eGEdge (subL a2875 w2897 (nlen (len a2875))))) (len (α := GEdge) (appL (appL (appL [] (subL a2875 0 w2897)) [a2876]) (subL a2875 w2897 (nlen (len a2875))))) (flat eGEdge (appL (appL (appL [] (subL a2875 0 w2897)) [a2876]) (subL a2875 w2897 (nlen (len a2875)))))] := ⟨h2905, h2906, (sub_ok eGEdge_len h2906), (leqm_flat eGEdge_len _), h2907, (app_ok (enc := eGEdge) ([] : List GEdge) (subL a2875 0 w2897)), rfl, h2908, (app_ok (enc := eGEdge) ((appL [] (subL a2875 0 w2897)) : List GEdge) [a2876]), h2909, (sub_ok eGEdge_len h2909), (leqm_flat eGEdge_len _), h2910, (app_ok (enc := eGEdge) ((appL (appL [] (subL a2875 0 w2897)) [a2876]) : List GEdge) (subL a2875 w2897 (nlen (len a2875)))), trivial⟩
    exact fn_playC hn157 (f := 157) (ads := [.one (.sl (len a2875) (flat eGEdge a2875)), .agg (eGEdge a2876)]) (r := F157_res ((appL (appL (appL [] (subL a2875 0 w2897)) [a2876]) (subL a2875 w2897 (nlen (len a2875)))), true)) (pq2916 pz) (by kernel_rfl) (by kernel_rfl)
  refine cond_some hF (fun h2911 hF => ?_) (fun _ hF => nomatch hF)
  refine cond_some hF (fun h2912 hF => ?_) (fun _ hF => nomatch hF)
  refine cond_some hF (fun h2913 hF => ?_) (fun _ hF => nomatch hF)
  refine cond_some hF (fun h2914 hF => ?_) (fun _ hF => nomatch hF)
  refine cond_some hF (fun h2915 hF => ?_) (fun _ hF => nomatch hF)
  have hr := Option.some.inj hF
  subst hr
  have pz : HoldAll E H hn157 [.loop 0 c157_0 (F157_l0_0_S a2875 a2876 0) (.exit 0) (F157_l0_0_X0 a2875 a2876 w2897), .int (nlen (len a2875)) (nlen (len a2875)), .test (beqb (ilt w2897 (nlen (len a2875))) true) false, .test (beqb (ilt w2897 (nlen (len a2875))) true) false, .test (beqb (ilt w2897 (nlen (len a2875))) true) false, .test (beqb (ilt w2897 (nlen (len a2875))) true) false, .test (beqb (ilt w2897 (nlen (len a2875))) true) false, .test (beqb (ilt w2897 (nlen (len a2875))) true) false, .test (beqb (ilt w2897 (nlen (len a2875))) true) false, .test (ilt w2897 (nlen (len a2875))) false, .test false false, .test (bnd 0 w2897 (len a2875)) true, .sl (nsub 0 w2897) (lsub (flat eGEdge a2875) 0 w2897 3) (len (α := GEdge) (subL a2875 0 w2897)) (flat eGEdge (subL a2875 0 w2897)), .test (leqm (flat eGEdge (subL a2875 0 w2897)) (len (α := GEdge) (subL a2875 0 w2897)) 3) true, .test (apok 0 (len (α := GEdge) (subL a2875 0 w2897)) 24) true, .sl (nadd 0 (len (α := GEdge) (subL a2875 0 w2897))) (lapp [] (flat eGEdge (subL a2875 0 w2897))) (len (α := GEdge) (appL [] (subL a2875 0 w2897))) (flat eGEdge (appL [] (subL a2875 0 w2897))), .test (leqm [(.lit (.int .i64 a2876.From)), (.lit (.int .i64 a2876.To)), (.lit (.int .i64 a2876.W))] 1 3) true, .test (apok (len (α := GEdge) (appL [] (subL a2875 0 w2897))) 1 24) true, .sl (nadd (len (α := GEdge) (appL [] (subL a2875 0 w2897))) 1) (lapp (flat eGEdge (appL [] (subL a2875 0 w2897))) [(.lit (.int .i64 a2876.From)), (.lit (.int .i64 a2876.To)), (.lit (.int .i64 a2876.W))]) (len (α := GEdge) (appL (appL [] (subL a2875 0 w2897)) [a2876])) (flat eGEdge (appL (appL [] (subL a2875 0 w2897)) [a2876])), .test (bnd w2897 (nlen (len a2875)) (len a2875)) true, .sl (nsub w2897 (nlen (len a2875))) (lsub (flat eGEdge a2875) w2897 (nlen (len a2875)) 3) (len (α := GEdge) (subL a2875 w2897 (nlen (len a2875)))) (flat eGEdge (subL a2875 w2897 (nlen (len a2875)))), .test (leqm (flat eGEdge (subL a2875 w2897 (nlen (len a2875)))) (len (α := GEdge) (subL a2875 w2897 (nlen (len a2875)))) 3) true, .test (apok (len (α := GEdge) (appL (appL [] (subL a2875 0 w2897)) [a2876])) (len (α := GEdge) (subL a2875 w2897 (nlen (len a2875)))) 24) true, .sl (nadd (len (α := GEdge) (appL (appL [] (subL a2875 0 w2897)) [a2876])) (len (α := GEdge) (subL a2875 w2897 (nlen (len a2875))))) (lapp (flat eGEdge (appL (appL [] (subL a2875 0 w2897)) [a2876])) (flat eGEdge (subL a2875 w2897 (nlen (len a2875))))) (len (α := GEdge) (appL (appL (appL [] (subL a2875 0 w2897)) [a2876]) (subL a2875 w2897 (nlen (len a2875))))) (flat eGEdge (appL (appL (appL [] (subL a2875 0 w2897)) [a2876]) (subL a2875 w2897 (nlen (len a2875)))))] := ⟨(F157_l0_0_ok K a2875 a2876 K 0 _ h2895), rfl, (beqb_t h2899), (beqb_t h2899), (beqb_t h2899), (beqb_t h2899), (beqb_t h2899), (beqb_t h2899), (beqb_t h2899), h2899, rfl, h2911, (sub_ok eGEdge_len h2911), (leqm_flat eGEdge_len _), h2912, (app_ok (enc := eGEdge) ([] : List GEdge) (subL a2875 0 w2897)), rfl, h2913, (app_ok (enc := eGEdge) ((appL [] (subL a2875 0 w2897)) : List GEdge) [a2876]), h2914, (sub_ok eGEdge_len h2914), (leqm_flat eGEdge_len _), h2915, (app_ok (enc := eGEdge) ((appL (appL [] (subL a2875 0 w2897)) [a2876]) : List GEdge) (subL a2875 w2897 (nlen (len a2875)))), trivial⟩
  exact fn_playC hn157 (f := 157) (ads := [.one (.sl (len a2875) (flat eGEdge a2875)), .agg (eGEdge a2876)]) (r := F157_res ((appL (appL (appL [] (subL a2875 0 w2897)) [a2876]) (subL a2875 w2897 (nlen (len a2875)))), true)) pz (by kernel_rfl) (by kernel_rfl)

/-! ### haywain/graph.add -/
noncomputable def hn137_ii : Hint := { H 137 with nt := 60, prot := 1 }
def F137_ii_res (r2923 : Int × GGraph) : Res := ⟨[(.one (.im (.lit (.int .i64 r2923.1))))], [[(.im (.lit (.int .i64 r2923.2.N))), (.im (.sl (len r2923.2.Edges) (flat eGEdge r2923.2.Edges)))]]⟩
def F137_ii (K : Nat) (a2850 : GGraph) (a2851 : ByteArray) : Option (Int × GGraph) :=
  (F136 K a2851 (bs [101, 100, 103, 101]) 3).bind fun r2852 =>
  bif r2852.2 then
    (bif (ile 80 (nlen (len a2850.Edges))) then
      (some (3, a2850))
    else
    bif (inr 0 (len r2852.1)) then
    (elAt r2852.1 0).bind fun x2857 =>
    (F156 K x2857).bind fun r2862 =>
    bif (inr 1 (len r2852.1)) then
    (elAt r2852.1 1).bind fun x2865 =>
    (F156 K x2865).bind fun r2867 =>
    bif (inr 2 (len r2852.1)) then
    (elAt r2852.1 2).bind fun x2870 =>
    (F132 K (GEdge.mk r2862 r2867 x2870) a2850.N).bind fun r2872 =>
    bif (ieq r2872 0) then
      ((F157 K a2850.Edges (GEdge.mk r2862 r2867 x2870)).bind fun r2918 =>
      bif r2918.2 then
        (some (0, (GGraph.mk a2850.N r2918.1)))
      else
      some (5, a2850))
    else
    some (r2872, a2850)
    else none
    else none
    else none)
  else
  some (2, a2850)
theorem F137_ii_ok (K : Nat) (a2850 : GGraph) (a2851 : ByteArray) (r : Int × GGraph) (hF : F137_ii K a2850 a2851 = some r) : Evt E H 137 [.box 62 [(.im (.lit (.int .i64 a2850.N))), (.im (.sl (len a2850.Edges) (flat eGEdge a2850.Edges)))], .one (.lit (.string a2851))] (F137_ii_res r) := by
  rw [F137_ii] at hF
  refine bind_some hF (fun r2852 h2853 hF => ?_)
  refine cond_some hF (fun h2854 hF => ?_) (fun h2854 hF => ?_)
  ·
    have pq2921 : ∀ {l : List Cond}, HoldAll E H hn137_ii l → HoldAll E H hn137_ii (.call 136 [.one (.lit (.string a2851)), .one (.lit (.string (bs [101, 100, 103, 101]))), .one (.lit (.int .i64 3))] (F136_res r2852) :: .test (leadsAny (Res.mk [(.one (.own 2 (.sl (len r2852.1) (flat (eInt .i64) r2852.1)))), (.one (.im (.lit (.bool r2852.2))))] [])) false :: .test (bnot r2852.2) false :: .int (nlen (len a2850.Edges)) (nlen (len a2850.Edges)) :: l) := fun z => ⟨(F136_ok K a2851 (bs [101, 100, 103, 101]) 3 _ h2853), (leads_ok (by simp only [leadsAny, List.any_cons, List.any_nil, RV.leads, RC.leads, leadsT, hasSl_lit, Bool.or_false, flat_ns (eInt_ns _), flat_ns eBool_ns, flat_ns eStr_ns, flat_ns eGJob_ns, flat_ns eGEdge_ns, flat_ns eGAsked_ns, flat_ns eGMsg_ns, flat_ns eGrule_ns, flat_ns eGA199_ns, flat_ns eGA202_ns])), (bnot_t h2854), rfl, z⟩
    refine cond_some hF (fun h2855 hF => ?_) (fun h2855 hF => ?_)
    ·
      have hr := Option.some.inj hF
      subst hr
      have pz : HoldAll E H hn137_ii [.test (ige (nlen (len a2850.Edges)) 80) true] := ⟨(ige_eq h2855), trivial⟩
      exact fn_playC hn137_ii (f := 137) (ads := [.box 62 [(.im (.lit (.int .i64 a2850.N))), (.im (.sl (len a2850.Edges) (flat eGEdge a2850.Edges)))], .one (.lit (.string a2851))]) (r := F137_ii_res (3, a2850)) (pq2921 pz) (by kernel_rfl) (by kernel_rfl)
    refine cond_some hF (fun h2856 hF => ?_) (fun _ hF => nomatch hF)
    refine bind_some hF (fun x2857 h2858 hF => ?_)
    refine bind_some hF (fun r2862 h2863 hF => ?_)
    refine cond_some hF (fun h2864 hF => ?_) (fun _ hF => nomatch hF)
    refine bind_some hF (fun x2865 h2866 hF => ?_)
    refine bind_some hF (fun r2867 h2868 hF => ?_)
    refine cond_some hF (fun h2869 hF => ?_) (fun _ hF => nomatch hF)
    refine bind_some hF (fun x2870 h2871 hF => ?_)
    refine bind_some hF (fun r2872 h2873 hF => ?_)
    have pq2922 : ∀ {l : List Cond}, HoldAll E H hn137_ii l → HoldAll E H hn137_ii (.test (ige (nlen (len a2850.Edges)) 80) false :: .test (inr 0 (len r2852.1)) true :: .sub (flat (eInt .i64) r2852.1) (nidx 0 1) 1 [(.lit (.int .i64 x2857))] :: .call 156 [.one (.lit (.int .i64 x2857))] (F156_res r2862) :: .test (leadsAny (Res.mk [(.one (.im (.lit (.int .i64 r2862))))] [])) false :: .test (inr 1 (len r2852.1)) true :: .sub (flat (eInt .i64) r2852.1) (nidx 1 1) 1 [(.lit (.int .i64 x2865))] :: .call 156 [.one (.lit (.int .i64 x2865))] (F156_res r2867) :: .test (leadsAny (Res.mk [(.one (.im (.lit (.int .i64 r2867))))] [])) false :: .test (inr 2 (len r2852.1)) true :: .sub (flat (eInt .i64) r2852.1) (nidx 2 1) 1 [(.lit (.int .i64 x2870))] :: .call 132 [.agg (eGEdge (GEdge.mk r2862 r2867 x2870)), .one (.lit (.int .i64 a2850.N))] (F132_res r2872) :: .test (leadsAny (Res.mk [(.one (.im (.lit (.int .i64 r2872))))] [])) false :: l) := fun z => ⟨(ige_eq h2855), h2856, ⟨rfl, sub_flat0 (eInt_len _) h2858 1 (by decide)⟩, (F156_ok K x2857 _ h2863), (leads_ok (by simp only [leadsAny, List.any_cons, List.any_nil, RV.leads, RC.leads, leadsT, hasSl_lit, Bool.or_false, flat_ns (eInt_ns _), flat_ns eBool_ns, flat_ns eStr_ns, flat_ns eGJob_ns, flat_ns eGEdge_ns, flat_ns eGAsked_ns, flat_ns eGMsg_ns, flat_ns eGrule_ns, flat_ns eGA199_ns, flat_ns eGA202_ns])), h2864, ⟨rfl, sub_flat0 (eInt_len _) h2866 1 (by decide)⟩, (F156_ok K x2865 _ h2868), (leads_ok (by simp only [leadsAny, List.any_cons, List.any_nil, RV.leads, RC.leads, leadsT, hasSl_lit, Bool.or_false, flat_ns (eInt_ns _), flat_ns eBool_ns, flat_ns eStr_ns, flat_ns eGJob_ns, flat_ns eGEdge_ns, flat_ns eGAsked_ns, flat_ns eGMsg_ns, flat_ns eGrule_ns, flat_ns eGA199_ns, flat_ns eGA202_ns])), h2869, ⟨rfl, sub_flat0 (eInt_len _) h2871 1 (by decide)⟩, (F132_ok K (GEdge.mk r2862 r2867 x2870) a2850.N _ h2873), (leads_ok (by simp only [leadsAny, List.any_cons, List.any_nil, RV.leads, RC.leads, leadsT, hasSl_lit, Bool.or_false, flat_ns (eInt_ns _), flat_ns eBool_ns, flat_ns eStr_ns, flat_ns eGJob_ns, flat_ns eGEdge_ns, flat_ns eGAsked_ns, flat_ns eGMsg_ns, flat_ns eGrule_ns, flat_ns eGA199_ns, flat_ns eGA202_ns])), z⟩
    refine cond_some hF (fun h2874 hF => ?_) (fun h2874 hF => ?_)
    ·
      refine bind_some hF (fun r2918 h2919 hF => ?_)
      refine cond_some hF (fun h2920 hF => ?_) (fun h2920 hF => ?_)
      ·
        have hr := Option.some.inj hF
        subst hr
        have pz : HoldAll E H hn137_ii [.test (ine r2872 0) false, .call 157 [.one (.sl (len a2850.Edges) (flat eGEdge a2850.Edges)), .agg (eGEdge (GEdge.mk r2862 r2867 x2870))] (F157_res r2918), .test (bnot r2918.2) false] := ⟨(ine_t h2874), (F157_ok K a2850.Edges (GEdge.mk r2862 r2867 x2870) _ h2919), (bnot_t h2920), trivial⟩
        exact fn_playC hn137_ii (f := 137) (ads := [.box 62 [(.im (.lit (.int .i64 a2850.N))), (.im (.sl (len a2850.Edges) (flat eGEdge a2850.Edges)))], .one (.lit (.string a2851))]) (r := F137_ii_res (0, (GGraph.mk a2850.N r2918.1))) (pq2921 (pq2922 pz)) (by kernel_rfl) (by kernel_rfl)
      have hr := Option.some.inj hF
      subst hr
      have pz : HoldAll E H hn137_ii [.test (ine r2872 0) false, .call 157 [.one (.sl (len a2850.Edges) (flat eGEdge a2850.Edges)), .agg (eGEdge (GEdge.mk r2862 r2867 x2870))] (F157_res r2918), .test (bnot r2918.2) true] := ⟨(ine_t h2874), (F157_ok K a2850.Edges (GEdge.mk r2862 r2867 x2870) _ h2919), (bnot_f h2920), trivial⟩
      exact fn_playC hn137_ii (f := 137) (ads := [.box 62 [(.im (.lit (.int .i64 a2850.N))), (.im (.sl (len a2850.Edges) (flat eGEdge a2850.Edges)))], .one (.lit (.string a2851))]) (r := F137_ii_res (5, a2850)) (pq2921 (pq2922 pz)) (by kernel_rfl) (by kernel_rfl)
    have hr := Option.some.inj hF
    subst hr
    have pz : HoldAll E H hn137_ii [.test (ine r2872 0) true] := ⟨(ine_f h2874), trivial⟩
    exact fn_playC hn137_ii (f := 137) (ads := [.box 62 [(.im (.lit (.int .i64 a2850.N))), (.im (.sl (len a2850.Edges) (flat eGEdge a2850.Edges)))], .one (.lit (.string a2851))]) (r := F137_ii_res (r2872, a2850)) (pq2921 (pq2922 pz)) (by kernel_rfl) (by kernel_rfl)
  have hr := Option.some.inj hF
  subst hr
  have pz : HoldAll E H hn137_ii [.call 136 [.one (.lit (.string a2851)), .one (.lit (.string (bs [101, 100, 103, 101]))), .one (.lit (.int .i64 3))] (F136_res r2852), .test (leadsAny (Res.mk [(.one (.own 2 (.sl (len r2852.1) (flat (eInt .i64) r2852.1)))), (.one (.im (.lit (.bool r2852.2))))] [])) false, .test (bnot r2852.2) true] := ⟨(F136_ok K a2851 (bs [101, 100, 103, 101]) 3 _ h2853), (leads_ok (by simp only [leadsAny, List.any_cons, List.any_nil, RV.leads, RC.leads, leadsT, hasSl_lit, Bool.or_false, flat_ns (eInt_ns _), flat_ns eBool_ns, flat_ns eStr_ns, flat_ns eGJob_ns, flat_ns eGEdge_ns, flat_ns eGAsked_ns, flat_ns eGMsg_ns, flat_ns eGrule_ns, flat_ns eGA199_ns, flat_ns eGA202_ns])), (bnot_f h2854), trivial⟩
  exact fn_playC hn137_ii (f := 137) (ads := [.box 62 [(.im (.lit (.int .i64 a2850.N))), (.im (.sl (len a2850.Edges) (flat eGEdge a2850.Edges)))], .one (.lit (.string a2851))]) (r := F137_ii_res (2, a2850)) pz (by kernel_rfl) (by kernel_rfl)

/-! ### haywain/graph.Parse -/
noncomputable def hn71 : Hint := { H 71 with nt := 61, prot := 0 }
noncomputable def c71_0 : Code := loopOf E 71 0
def F71_res (r2966 : GGraph × Int × Int) : Res := ⟨[(.agg [(.im (.lit (.int .i64 r2966.1.N))), (.im (.sl (len r2966.1.Edges) (flat eGEdge r2966.1.Edges)))]), (.one (.im (.lit (.int .i64 r2966.2.1)))), (.one (.im (.lit (.int .i64 r2966.2.2))))], []⟩
def F71_l0_0 (K : Nat) (r2723 : List ByteArray) : Nat → Int → List GEdge → Int → Int → Int → Option (Int × List GEdge × Int × Int)
  | 0, _, _, _, _, _ => none
  | k + 1, v2927, v2928, v2929, v2930, v2931 =>
    bif (ilt v2931 (nlen (len r2723))) then
      (bif (inr v2931 (len r2723)) then
      (elAt r2723 v2931).bind fun x2934 =>
      bif (ieq v2931 0) then
        ((F136 K x2934 (bs [103, 114, 97, 112, 104]) 1).bind fun r2937 =>
        bif r2937.2 then
          (bif (inr 0 (len r2937.1)) then
          (elAt r2937.1 0).bind fun x2941 =>
          bif (ilt x2941 1) then
            (some (v2927, (v2928, (1, (wadd .i64 v2931 1)))))
          else
          bif (ilt 24 x2941) then
            (some (v2927, (v2928, (1, (wadd .i64 v2931 1)))))
          else
          F71_l0_0 K r2723 k x2941 v2928 0 (wadd .i64 v2931 1) (wadd .i64 v2931 1)
          else none)
        else
        some (v2927, (v2928, (2, (wadd .i64 v2931 1)))))
      else
      (F137_ii K (GGraph.mk v2927 v2928) x2934).bind fun r2945 =>
      bif (ieq r2945.1 0) then
        (F71_l0_0 K r2723 k r2945.2.N r2945.2.Edges r2945.1 (wadd .i64 v2931 1) (wadd .i64 v2931 1))
      else
      some (r2945.2.N, (r2945.2.Edges, (r2945.1, (wadd .i64 v2931 1))))
      else none)
    else
    some (v2927, (v2928, (v2929, v2930)))
def F71_l0_0_S (r2723 : List ByteArray) (v2927 : Int) (v2928 : List GEdge) (v2929 : Int) (v2930 : Int) (v2931 : Int) : TS := .on [128, 129, 130, 320, 321, 322, 384, 385, 448, 449, 1088, 1089, 1152, 1153, 1216, 1217] [(128, ⟨(.box 62 2), 0, nob⟩), (129, ⟨.im, 0, (.lit (.int .i64 0))⟩), (130, ⟨(.own 89), 0, (.sl 0 [])⟩), (320, ⟨(.box 62 2), 0, nob⟩), (321, ⟨.im, 0, (.lit (.int .i64 v2927))⟩), (322, ⟨.im, 0, (.sl (len v2928) (flat eGEdge v2928))⟩), (384, ⟨.one, 0, nob⟩), (385, ⟨.im, 0, (.lit (.int .i64 v2929))⟩), (448, ⟨.one, 0, nob⟩), (449, ⟨.im, 0, (.lit (.int .i64 v2930))⟩), (1088, ⟨.one, 0, nob⟩), (1089, ⟨(.own 9), 0, (.sl (len r2723) (flat eStr r2723))⟩), (1152, ⟨.one, 0, nob⟩), (1153, ⟨.im, 0, (.lit (.int .i64 (nlen (len r2723))))⟩), (1216, ⟨.one, 0, nob⟩), (1217, ⟨.im, 0, (.lit (.int .i64 v2931))⟩)]
def F71_l0_0_X0 (r2723 : List ByteArray) (w2948 : Int × List GEdge × Int × Int) : TS := .on [128, 129, 130, 320, 321, 322, 384, 385, 448, 449] [(128, ⟨(.box 62 2), 0, nob⟩), (129, ⟨.im, 0, (.lit (.int .i64 0))⟩), (130, ⟨(.own 89), 0, (.sl 0 [])⟩), (320, ⟨(.box 62 2), 0, nob⟩), (321, ⟨.im, 0, (.lit (.int .i64 w2948.1))⟩), (322, ⟨.im, 0, (.sl (len w2948.2.1) (flat eGEdge w2948.2.1))⟩), (384, ⟨.one, 0, nob⟩), (385, ⟨.im, 0, (.lit (.int .i64 w2948.2.2.1))⟩), (448, ⟨.one, 0, nob⟩), (449, ⟨.im, 0, (.lit (.int .i64 w2948.2.2.2))⟩)]
theorem F71_l0_0_ok (K : Nat) (r2723 : List ByteArray) : ∀ (k : Nat) (v2927 : Int) (v2928 : List GEdge) (v2929 : Int) (v2930 : Int) (v2931 : Int) (r : Int × List GEdge × Int × Int), F71_l0_0 K r2723 k v2927 v2928 v2929 v2930 v2931 = some r → LoopEv E H hn71 0 c71_0 (F71_l0_0_S r2723 v2927 v2928 v2929 v2930 v2931) (.exit 0) (F71_l0_0_X0 r2723 r) := by
  intro k
  induction k with
  | zero => intro v2927 v2928 v2929 v2930 v2931 r hF; cases hF
  | succ k ih =>
    intro v2927 v2928 v2929 v2930 v2931 r hF
    rw [F71_l0_0] at hF
    refine cond_some hF (fun h2932 hF => ?_) (fun h2932 hF => ?_)
    ·
      refine cond_some hF (fun h2933 hF => ?_) (fun _ hF => nomatch hF)
      refine bind_some hF (fun x2934 h2935 hF => ?_)
      have pq2953 : ∀ {l : List Cond}, HoldAll E H hn71 l → HoldAll E H hn71 (.test (ilt v2931 (nlen (len r2723))) true :: .test (inr v2931 (len r2723)) true :: .sub (flat eStr r2723) (nidx v2931 1) 1 [(.lit (.string x2934))] :: .int (wadd .i64 v2931 1) (wadd .i64 v2931 1) :: l) := fun z => ⟨h2932, h2933, ⟨rfl, sub_flat0 eStr_len h2935 1 (by decide)⟩, rfl, z⟩
      refine cond_some hF (fun h2936 hF => ?_) (fun h2936 hF => ?_)
      ·
        refine bind_some hF (fun r2937 h2938 hF => ?_)
        have pq2954 : ∀ {l : List Cond}, HoldAll E H hn71 l → HoldAll E H hn71 (.test (ieq v2931 0) true :: .call 136 [.one (.lit (.string x2934)), .one (.lit (.string (bs [103, 114, 97, 112, 104]))), .one (.lit (.int .i64 1))] (F136_res r2937) :: .test (leadsAny (Res.mk [(.one (.own 2 (.sl (len r2937.1) (flat (eInt .i64) r2937.1)))), (.one (.im (.lit (.bool r2937.2))))] [])) false :: l) := fun z => ⟨h2936, (F136_ok K x2934 (bs [103, 114, 97, 112, 104]) 1 _ h2938), (leads_ok (by simp only [leadsAny, List.any_cons, List.any_nil, RV.leads, RC.leads, leadsT, hasSl_lit, Bool.or_false, flat_ns (eInt_ns _), flat_ns eBool_ns, flat_ns eStr_ns, flat_ns eGJob_ns, flat_ns eGEdge_ns, flat_ns eGAsked_ns, flat_ns eGMsg_ns, flat_ns eGrule_ns, flat_ns eGA199_ns, flat_ns eGA202_ns])), z⟩
        refine cond_some hF (fun h2939 hF => ?_) (fun h2939 hF => ?_)
        ·
          refine cond_some hF (fun h2940 hF => ?_) (fun _ hF => nomatch hF)
          refine bind_some hF (fun x2941 h2942 hF => ?_)
          have pq2955 : ∀ {l : List Cond}, HoldAll E H hn71 l → HoldAll E H hn71 (.test (bnot r2937.2) false :: .test (inr 0 (len r2937.1)) true :: .sub (flat (eInt .i64) r2937.1) (nidx 0 1) 1 [(.lit (.int .i64 x2941))] :: l) := fun z => ⟨(bnot_t h2939), h2940, ⟨rfl, sub_flat0 (eInt_len _) h2942 1 (by decide)⟩, z⟩
          refine cond_some hF (fun h2943 hF => ?_) (fun h2943 hF => ?_)
          ·
            have hr := Option.some.inj hF
            subst hr
            have pz : HoldAll E H hn71 [.test (beqb (ilt x2941 1) false) false, .test (beqb (ilt x2941 1) false) false, .test (beqb (ilt x2941 1) false) false, .test (beqb (ilt x2941 1) false) false, .test (ilt x2941 1) true, .test true true] := ⟨(beqb_ft h2943), (beqb_ft h2943), (beqb_ft h2943), (beqb_ft h2943), h2943, rfl, trivial⟩
            exact loop_endC (h := hn71) (l := 0) (c := c71_0) (ts := F71_l0_0_S r2723 v2927 v2928 v2929 v2930 v2931) (ts' := F71_l0_0_X0 r2723 (v2927, (v2928, (1, (wadd .i64 v2931 1))))) (ex := (.exit 0)) (pq2953 (pq2954 (pq2955 pz))) (by kernel_rfl) trivial
          have pq2956 : ∀ {l : List Cond}, HoldAll E H hn71 l → HoldAll E H hn71 (.test (beqb (ilt x2941 1) false) true :: .test (beqb (ilt x2941 1) false) true :: .test (inr 0 (len r2937.1)) true :: .test (beqb (ilt x2941 1) false) true :: .sub (flat (eInt .i64) r2937.1) (nidx 0 1) 1 [(.lit (.int .i64 x2941))] :: .test (beqb (ilt x2941 1) false) true :: .test (ilt x2941 1) false :: l) := fun z => ⟨(beqb_ff h2943), (beqb_ff h2943), h2940, (beqb_ff h2943), ⟨rfl, sub_flat0 (eInt_len _) h2942 1 (by decide)⟩, (beqb_ff h2943), h2943, z⟩
          refine cond_some hF (fun h2944 hF => ?_) (fun h2944 hF => ?_)
          ·
            have hr := Option.some.inj hF
            subst hr
            have pz : HoldAll E H hn71 [.test (igt x2941 24) true] := ⟨(igt_eq h2944), trivial⟩
            exact loop_endC (h := hn71) (l := 0) (c := c71_0) (ts := F71_l0_0_S r2723 v2927 v2928 v2929 v2930 v2931) (ts' := F71_l0_0_X0 r2723 (v2927, (v2928, (1, (wadd .i64 v2931 1))))) (ex := (.exit 0)) (pq2953 (pq2954 (pq2955 (pq2956 pz)))) (by kernel_rfl) trivial
          have pz : HoldAll E H hn71 [.test (igt x2941 24) false, .test (inr 0 (len r2937.1)) true, .sub (flat (eInt .i64) r2937.1) (nidx 0 1) 1 [(.lit (.int .i64 x2941))], .int (wadd .i64 v2931 1) (wadd .i64 v2931 1)] := ⟨(igt_eq h2944), h2940, ⟨rfl, sub_flat0 (eInt_len _) h2942 1 (by decide)⟩, rfl, trivial⟩
          have h0 := ih _ _ _ _ _ _ hF
          have hn := fun ex ts' => loop_nextC (h := hn71) (l := 0) (c := c71_0) (ts := F71_l0_0_S r2723 v2927 v2928 v2929 v2930 v2931) (ts1 := (F71_l0_0_S r2723 x2941 v2928 0 (wadd .i64 v2931 1) (wadd .i64 v2931 1))) (ex := ex) (ts' := ts') (pq2953 (pq2954 (pq2955 (pq2956 pz)))) (by kernel_rfl)
          exact hn _ _ h0
        have hr := Option.some.inj hF
        subst hr
        have pz : HoldAll E H hn71 [.test (bnot r2937.2) true] := ⟨(bnot_f h2939), trivial⟩
        exact loop_endC (h := hn71) (l := 0) (c := c71_0) (ts := F71_l0_0_S r2723 v2927 v2928 v2929 v2930 v2931) (ts' := F71_l0_0_X0 r2723 (v2927, (v2928, (2, (wadd .i64 v2931 1))))) (ex := (.exit 0)) (pq2953 (pq2954 pz)) (by kernel_rfl) trivial
      refine bind_some hF (fun r2945 h2946 hF => ?_)
      refine cond_some hF (fun h2947 hF => ?_) (fun h2947 hF => ?_)
      ·
        have pz : HoldAll E H hn71 [.test (ieq v2931 0) false, .call 137 [.box 62 [(.im (.lit (.int .i64 v2927))), (.im (.sl (len v2928) (flat eGEdge v2928)))], .one (.lit (.string x2934))] (F137_ii_res r2945), .test (ine r2945.1 0) false, .int (wadd .i64 v2931 1) (wadd .i64 v2931 1)] := ⟨h2936, (F137_ii_ok K (GGraph.mk v2927 v2928) x2934 _ h2946), (ine_t h2947), rfl, trivial⟩
        have h0 := ih _ _ _ _ _ _ hF
        have hn := fun ex ts' => loop_nextC (h := hn71) (l := 0) (c := c71_0) (ts := F71_l0_0_S r2723 v2927 v2928 v2929 v2930 v2931) (ts1 := (F71_l0_0_S r2723 r2945.2.N r2945.2.Edges r2945.1 (wadd .i64 v2931 1) (wadd .i64 v2931 1))) (ex := ex) (ts' := ts') (pq2953 pz) (by kernel_rfl)
        exact hn _ _ h0
      have hr := Option.some.inj hF
      subst hr
      have pz : HoldAll E H hn71 [.test (ieq v2931 0) false, .call 137 [.box 62 [(.im (.lit (.int .i64 v2927))), (.im (.sl (len v2928) (flat eGEdge v2928)))], .one (.lit (.string x2934))] (F137_ii_res r2945), .test (ine r2945.1 0) true] := ⟨h2936, (F137_ii_ok K (GGraph.mk v2927 v2928) x2934 _ h2946), (ine_f h2947), trivial⟩
      exact loop_endC (h := hn71) (l := 0) (c := c71_0) (ts := F71_l0_0_S r2723 v2927 v2928 v2929 v2930 v2931) (ts' := F71_l0_0_X0 r2723 (r2945.2.N, (r2945.2.Edges, (r2945.1, (wadd .i64 v2931 1))))) (ex := (.exit 0)) (pq2953 pz) (by kernel_rfl) trivial
    have hr := Option.some.inj hF
    subst hr
    have pz : HoldAll E H hn71 [.test (ilt v2931 (nlen (len r2723))) false] := ⟨h2932, trivial⟩
    exact loop_endC (h := hn71) (l := 0) (c := c71_0) (ts := F71_l0_0_S r2723 v2927 v2928 v2929 v2930 v2931) (ts' := F71_l0_0_X0 r2723 (v2927, (v2928, (v2929, v2930)))) (ex := (.exit 0)) pz (by kernel_rfl) trivial

def F71 (K : Nat) (a2670 : ByteArray) : Option (GGraph × Int × Int) :=
  bif (ilt 4000 (slen a2670)) then
    (some ((GGraph.mk 0 []), (0, 3)))
  else
  (F135 K a2670).bind fun r2723 =>
  (F71_l0_0 K r2723 K 0 [] 2 1 0).bind fun w2959 =>
  bif (ieq w2959.2.2.1 0) then
    (some ((GGraph.mk w2959.1 w2959.2.1), (0, 0)))
  else
  some ((GGraph.mk 0 []), (w2959.2.2.2, w2959.2.2.1))
theorem F71_ok (K : Nat) (a2670 : ByteArray) (r : GGraph × Int × Int) (hF : F71 K a2670 = some r) : Evt E H 71 [.one (.lit (.string a2670))] (F71_res r) := by
  rw [F71] at hF
  refine cond_some hF (fun h2671 hF => ?_) (fun h2671 hF => ?_)
  ·
    have hr := Option.some.inj hF
    subst hr
    have pz : HoldAll E H hn71 [.int (slen a2670) (slen a2670), .test (igt (slen a2670) 4000) true] := ⟨rfl, (igt_eq h2671), trivial⟩
    exact fn_playC hn71 (f := 71) (ads := [.one (.lit (.string a2670))]) (r := F71_res ((GGraph.mk 0 []), (0, 3))) pz (by kernel_rfl) (by kernel_rfl)
  refine bind_some hF (fun r2723 h2724 hF => ?_)
  refine bind_some hF (fun w2959 h2957 hF => ?_)
  have pq2965 : ∀ {l : List Cond}, HoldAll E H hn71 l → HoldAll E H hn71 (.int (slen a2670) (slen a2670) :: .test (igt (slen a2670) 4000) false :: .call 135 [.one (.lit (.string a2670))] (F135_res r2723) :: .test (leadsAny (Res.mk [(.one (.own 9 (.sl (len r2723) (flat eStr r2723))))] [])) false :: .int (nlen (len r2723)) (nlen (len r2723)) :: .loop 0 c71_0 (F71_l0_0_S r2723 0 [] 2 1 0) (.exit 0) (F71_l0_0_X0 r2723 w2959) :: l) := fun z => ⟨rfl, (igt_eq h2671), (F135_ok K a2670 _ h2724), (leads_ok (by simp only [leadsAny, List.any_cons, List.any_nil, RV.leads, RC.leads, leadsT, hasSl_lit, Bool.or_false, flat_ns (eInt_ns _), flat_ns eBool_ns, flat_ns eStr_ns, flat_ns eGJob_ns, flat_ns eGEdge_ns, flat_ns eGAsked_ns, flat_ns eGMsg_ns, flat_ns eGrule_ns, flat_ns eGA199_ns, flat_ns eGA202_ns])), rfl, (F71_l0_0_ok K r2723 K 0 [] 2 1 0 _ h2957), z⟩
  refine cond_some hF (fun h2964 hF => ?_) (fun h2964 hF => ?_)
  ·
    have hr := Option.some.inj hF
    subst hr
    have pz : HoldAll E H hn71 [.test (ine w2959.2.2.1 0) false] := ⟨(ine_t h2964), trivial⟩
    exact fn_playC hn71 (f := 71) (ads := [.one (.lit (.string a2670))]) (r := F71_res ((GGraph.mk w2959.1 w2959.2.1), (0, 0))) (pq2965 pz) (by kernel_rfl) (by kernel_rfl)
  have hr := Option.some.inj hF
  subst hr
  have pz : HoldAll E H hn71 [.test (ine w2959.2.2.1 0) true] := ⟨(ine_f h2964), trivial⟩
  exact fn_playC hn71 (f := 71) (ads := [.one (.lit (.string a2670))]) (r := F71_res ((GGraph.mk 0 []), (w2959.2.2.2, w2959.2.2.1))) (pq2965 pz) (by kernel_rfl) (by kernel_rfl)

end Go.Proofs.Ytnjanliihnadjaa.Tm

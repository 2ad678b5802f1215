/- Printed by program: what each function computes, and that the machine answers so. Conditions: none. -/
import Derived.Test.YtnjanliihnadjaaTy
import Derived.Test.YtnjanliihnadjaaTab
import Derived.Test.YtnjanliihnadjaaKn
import Derived.KernelRfl
set_option linter.unusedVariables false
set_option linter.unusedSimpArgs false
namespace Go.Proofs.Ytnjanliihnadjaa.Tm
open Go
/-! ### haywain/haywainref03.Check -/
noncomputable def hn65 : Hint := { H 65 with nt := 99, prot := 0 }
noncomputable def c65_0 : Code := loopOf E 65 0
def F65_res (r1106 : Int) : Res := ⟨[(.one (.im (.lit (.int .i64 r1106))))], []⟩
def F65_l0_0 (K : Nat) (a1053 : GGraph) : Nat → Int → Option ((Int) ⊕ (Unit))
  | 0, _ => none
  | k + 1, v1067 =>
    bif (ilt v1067 (nlen (len a1053.Edges))) then
      (bif (inr v1067 (len a1053.Edges)) then
      (elAt a1053.Edges v1067).bind fun x1070 =>
      bif (ilt x1070.From 0) then
        (some (.inl 4))
      else
      bif (ilt x1070.To 0) then
        (some (.inl 4))
      else
      bif (ile a1053.N x1070.From) then
        (some (.inl 4))
      else
      bif (ile a1053.N x1070.To) then
        (some (.inl 4))
      else
      bif (ilt x1070.W 0) then
        (some (.inl 1))
      else
      bif (ilt 4611686018427387904 x1070.W) then
        (some (.inl 1))
      else
      bif (ilt 0 v1067) then
        (bif (inr (wsub .i64 v1067 1) (len a1053.Edges)) then
        (elAt a1053.Edges (wsub .i64 v1067 1)).bind fun x1080 =>
        bif (ieq x1080.From x1070.From) then
          (bif (ieq x1080.To x1070.To) then
            (some (.inl 5))
          else
          bif (ilt x1070.From x1080.From) then
            (some (.inl 6))
          else
          bif (ilt x1070.To x1080.To) then
            (some (.inl 6))
          else
          F65_l0_0 K a1053 k (wadd .i64 v1067 1))
        else
        bif (ilt x1070.From x1080.From) then
          (some (.inl 6))
        else
        F65_l0_0 K a1053 k (wadd .i64 v1067 1)
        else none)
      else
      F65_l0_0 K a1053 k (wadd .i64 v1067 1)
      else none)
    else
    some (.inr ())
def F65_l0_0_S (a1053 : GGraph) (v1067 : Int) : TS := .on [64, 65, 66, 192, 193] [(64, ⟨(.box 62 2), 0, nob⟩), (65, ⟨.im, 0, (.lit (.int .i64 a1053.N))⟩), (66, ⟨.im, 0, (.sl (len a1053.Edges) (flat eGEdge a1053.Edges))⟩), (192, ⟨.one, 0, nob⟩), (193, ⟨.im, 0, (.lit (.int .i64 v1067))⟩)]
def F65_l0_0_X0 (a1053 : GGraph) (w1087 : Int) : TS := .on [128, 129] [(128, ⟨.one, 0, nob⟩), (129, ⟨.im, 0, (.lit (.int .i64 w1087))⟩)]
def F65_l0_0_X1 (a1053 : GGraph) (w1089 : Unit) : TS := .on [] []
theorem F65_l0_0_ok (K : Nat) (a1053 : GGraph) : ∀ (k : Nat) (v1067 : Int) (r : (Int) ⊕ (Unit)), F65_l0_0 K a1053 k v1067 = some r → (Sum.elim (fun w => LoopEv E H hn65 0 c65_0 (F65_l0_0_S a1053 v1067) .ret (F65_l0_0_X0 a1053 w)) (fun w => LoopEv E H hn65 0 c65_0 (F65_l0_0_S a1053 v1067) (.exit 0) (F65_l0_0_X1 a1053 w))) r := by
  intro k
  induction k with
  | zero => intro v1067 r hF; cases hF
  | succ k ih =>
    intro v1067 r hF
    rw [F65_l0_0] at hF
    refine cond_some hF (fun h1068 hF => ?_) (fun h1068 hF => ?_)
    ·
      refine cond_some hF (fun h1069 hF => ?_) (fun _ hF => nomatch hF)
      refine bind_some hF (fun x1070 h1071 hF => ?_)
      have pq1090 : ∀ {l : List Cond}, HoldAll E H hn65 l → HoldAll E H hn65 (.int (nlen (len a1053.Edges)) (nlen (len a1053.Edges)) :: .test (ilt v1067 (nlen (len a1053.Edges))) true :: .test (inr v1067 (len a1053.Edges)) true :: .sub (flat eGEdge a1053.Edges) (nidx v1067 3) 3 [(.lit (.int .i64 x1070.From)), (.lit (.int .i64 x1070.To)), (.lit (.int .i64 x1070.W))] :: l) := fun z => ⟨rfl, h1068, h1069, ⟨rfl, sub_flat0 eGEdge_len h1071 3 (by decide)⟩, z⟩
      refine cond_some hF (fun h1072 hF => ?_) (fun h1072 hF => ?_)
      ·
        have hr := Option.some.inj hF
        subst hr
        have pz : HoldAll E H hn65 [.test (beqb (ilt x1070.From 0) false) false, .test (beqb (ilt x1070.From 0) false) false, .test (beqb (ilt x1070.From 0) false) false, .test (ilt x1070.From 0) true, .test (beqb true false) false, .test (beqb true false) false, .test (beqb true false) false, .test (beqb true false) false, .test (beqb true false) false, .test true true, .test (beqb true false) false, .test (beqb true false) false, .test (beqb true false) false, .test (beqb true false) false, .test (beqb true false) false, .test true true, .test true true] := ⟨(beqb_ft h1072), (beqb_ft h1072), (beqb_ft h1072), h1072, (beqb_ft rfl), (beqb_ft rfl), (beqb_ft rfl), (beqb_ft rfl), (beqb_ft rfl), rfl, (beqb_ft rfl), (beqb_ft rfl), (beqb_ft rfl), (beqb_ft rfl), (beqb_ft rfl), rfl, rfl, trivial⟩
        exact loop_endC (h := hn65) (l := 0) (c := c65_0) (ts := F65_l0_0_S a1053 v1067) (ts' := F65_l0_0_X0 a1053 4) (ex := .ret) (pq1090 pz) (by kernel_rfl) trivial
      have pq1091 : ∀ {l : List Cond}, HoldAll E H hn65 l → HoldAll E H hn65 (.test (beqb (ilt x1070.From 0) false) true :: .test (beqb (ilt x1070.From 0) false) true :: .test (beqb (ilt x1070.From 0) false) true :: .test (ilt x1070.From 0) false :: l) := fun z => ⟨(beqb_ff h1072), (beqb_ff h1072), (beqb_ff h1072), h1072, z⟩
      refine cond_some hF (fun h1073 hF => ?_) (fun h1073 hF => ?_)
      ·
        have hr := Option.some.inj hF
        subst hr
        have pz : HoldAll E H hn65 [.test (beqb (ilt x1070.To 0) false) false, .test (beqb (ilt x1070.To 0) false) false, .test (beqb (ilt x1070.To 0) false) false, .test (beqb (ilt x1070.To 0) false) false, .test (beqb (ilt x1070.To 0) false) false, .test (ilt x1070.To 0) true, .test (beqb true false) false, .test (beqb true false) false, .test (beqb true false) false, .test (beqb true false) false, .test (beqb true false) false, .test true true, .test true true] := ⟨(beqb_ft h1073), (beqb_ft h1073), (beqb_ft h1073), (beqb_ft h1073), (beqb_ft h1073), h1073, (beqb_ft rfl), (beqb_ft rfl), (beqb_ft rfl), (beqb_ft rfl), (beqb_ft rfl), rfl, rfl, trivial⟩
        exact loop_endC (h := hn65) (l := 0) (c := c65_0) (ts := F65_l0_0_S a1053 v1067) (ts' := F65_l0_0_X0 a1053 4) (ex := .ret) (pq1090 (pq1091 pz)) (by kernel_rfl) trivial
      have pq1092 : ∀ {l : List Cond}, HoldAll E H hn65 l → HoldAll E H hn65 (.test (beqb (ilt x1070.To 0) false) true :: .test (beqb (ilt x1070.To 0) false) true :: .test (beqb (ilt x1070.To 0) false) true :: .test (beqb (ilt x1070.To 0) false) true :: .test (beqb (ilt x1070.To 0) false) true :: .test (ilt x1070.To 0) false :: l) := fun z => ⟨(beqb_ff h1073), (beqb_ff h1073), (beqb_ff h1073), (beqb_ff h1073), (beqb_ff h1073), h1073, z⟩
      refine cond_some hF (fun h1074 hF => ?_) (fun h1074 hF => ?_)
      ·
        have hr := Option.some.inj hF
        subst hr
        have pz : HoldAll E H hn65 [.test (beqb (ige x1070.From a1053.N) false) false, .test (beqb (ige x1070.From a1053.N) false) false, .test (beqb (ige x1070.From a1053.N) false) false, .test (beqb (ige x1070.From a1053.N) false) false, .test (beqb (ige x1070.From a1053.N) false) false, .test (ige x1070.From a1053.N) true, .test true true] := ⟨(beqb_ft (ige_eq h1074)), (beqb_ft (ige_eq h1074)), (beqb_ft (ige_eq h1074)), (beqb_ft (ige_eq h1074)), (beqb_ft (ige_eq h1074)), (ige_eq h1074), rfl, trivial⟩
        exact loop_endC (h := hn65) (l := 0) (c := c65_0) (ts := F65_l0_0_S a1053 v1067) (ts' := F65_l0_0_X0 a1053 4) (ex := .ret) (pq1090 (pq1091 (pq1092 pz))) (by kernel_rfl) trivial
      have pq1093 : ∀ {l : List Cond}, HoldAll E H hn65 l → HoldAll E H hn65 (.test (beqb (ige x1070.From a1053.N) false) true :: .test (beqb (ige x1070.From a1053.N) false) true :: .test (beqb (ige x1070.From a1053.N) false) true :: .test (beqb (ige x1070.From a1053.N) false) true :: .test (beqb (ige x1070.From a1053.N) false) true :: .test (ige x1070.From a1053.N) false :: l) := fun z => ⟨(beqb_ff (ige_eq h1074)), (beqb_ff (ige_eq h1074)), (beqb_ff (ige_eq h1074)), (beqb_ff (ige_eq h1074)), (beqb_ff (ige_eq h1074)), (ige_eq h1074), z⟩
      refine cond_some hF (fun h1075 hF => ?_) (fun h1075 hF => ?_)
      ·
        have hr := Option.some.inj hF
        subst hr
        have pz : HoldAll E H hn65 [.test (ige x1070.To a1053.N) true] := ⟨(ige_eq h1075), trivial⟩
        exact loop_endC (h := hn65) (l := 0) (c := c65_0) (ts := F65_l0_0_S a1053 v1067) (ts' := F65_l0_0_X0 a1053 4) (ex := .ret) (pq1090 (pq1091 (pq1092 (pq1093 pz)))) (by kernel_rfl) trivial
      refine cond_some hF (fun h1076 hF => ?_) (fun h1076 hF => ?_)
      ·
        have hr := Option.some.inj hF
        subst hr
        have pz : HoldAll E H hn65 [.test (ige x1070.To a1053.N) false, .test (beqb (ilt x1070.W 0) false) false, .test (beqb (ilt x1070.W 0) false) false, .test (beqb (ilt x1070.W 0) false) false, .test (ilt x1070.W 0) true, .test true true] := ⟨(ige_eq h1075), (beqb_ft h1076), (beqb_ft h1076), (beqb_ft h1076), h1076, rfl, trivial⟩
        exact loop_endC (h := hn65) (l := 0) (c := c65_0) (ts := F65_l0_0_S a1053 v1067) (ts' := F65_l0_0_X0 a1053 1) (ex := .ret) (pq1090 (pq1091 (pq1092 (pq1093 pz)))) (by kernel_rfl) trivial
      have pq1094 : ∀ {l : List Cond}, HoldAll E H hn65 l → HoldAll E H hn65 (.test (ige x1070.To a1053.N) false :: .test (beqb (ilt x1070.W 0) false) true :: .test (beqb (ilt x1070.W 0) false) true :: .test (beqb (ilt x1070.W 0) false) true :: .test (ilt x1070.W 0) false :: l) := fun z => ⟨(ige_eq h1075), (beqb_ff h1076), (beqb_ff h1076), (beqb_ff h1076), h1076, z⟩
      refine cond_some hF (fun h1077 hF => ?_) (fun h1077 hF => ?_)
      ·
        have hr := Option.some.inj hF
        subst hr
        have pz : HoldAll E H hn65 [.test (igt x1070.W 4611686018427387904) true] := ⟨(igt_eq h1077), trivial⟩
        exact loop_endC (h := hn65) (l := 0) (c := c65_0) (ts := F65_l0_0_S a1053 v1067) (ts' := F65_l0_0_X0 a1053 1) (ex := .ret) (pq1090 (pq1091 (pq1092 (pq1093 (pq1094 pz))))) (by kernel_rfl) trivial
      refine cond_some hF (fun h1078 hF => ?_) (fun h1078 hF => ?_)
      ·
        refine cond_some hF (fun h1079 hF => ?_) (fun _ hF => nomatch hF)
        refine bind_some hF (fun x1080 h1081 hF => ?_)
        have pq1095 : ∀ {l : List Cond}, HoldAll E H hn65 l → HoldAll E H hn65 (.test (igt x1070.W 4611686018427387904) false :: .test (igt v1067 0) true :: .int (wsub .i64 v1067 1) (wsub .i64 v1067 1) :: .test (inr (wsub .i64 v1067 1) (len a1053.Edges)) true :: .sub (flat eGEdge a1053.Edges) (nidx (wsub .i64 v1067 1) 3) 3 [(.lit (.int .i64 x1080.From)), (.lit (.int .i64 x1080.To)), (.lit (.int .i64 x1080.W))] :: l) := fun z => ⟨(igt_eq h1077), (igt_eq h1078), rfl, h1079, ⟨rfl, sub_flat0 eGEdge_len h1081 3 (by decide)⟩, z⟩
        refine cond_some hF (fun h1082 hF => ?_) (fun h1082 hF => ?_)
        ·
          have pq1096 : ∀ {l : List Cond}, HoldAll E H hn65 l → HoldAll E H hn65 (.test (beqb (ieq x1080.From x1070.From) true) true :: .test (beqb (ieq x1080.From x1070.From) true) true :: .test (beqb (ieq x1080.From x1070.From) true) true :: .test (beqb (ieq x1080.From x1070.From) true) true :: .test (beqb (ieq x1080.From x1070.From) true) true :: .test (ieq x1080.From x1070.From) true :: l) := fun z => ⟨(beqb_t h1082), (beqb_t h1082), (beqb_t h1082), (beqb_t h1082), (beqb_t h1082), h1082, z⟩
          refine cond_some hF (fun h1083 hF => ?_) (fun h1083 hF => ?_)
          ·
            have hr := Option.some.inj hF
            subst hr
            have pz : HoldAll E H hn65 [.test (ieq x1080.To x1070.To) true] := ⟨h1083, trivial⟩
            exact loop_endC (h := hn65) (l := 0) (c := c65_0) (ts := F65_l0_0_S a1053 v1067) (ts' := F65_l0_0_X0 a1053 5) (ex := .ret) (pq1090 (pq1091 (pq1092 (pq1093 (pq1094 (pq1095 (pq1096 pz))))))) (by kernel_rfl) trivial
          refine cond_some hF (fun h1084 hF => ?_) (fun h1084 hF => ?_)
          ·
            have hr := Option.some.inj hF
            subst hr
            have pz : HoldAll E H hn65 [.test (ieq x1080.To x1070.To) false, .test (beqb (igt x1080.From x1070.From) false) false, .test (beqb (igt x1080.From x1070.From) false) false, .test (beqb (igt x1080.From x1070.From) false) false, .test (beqb (igt x1080.From x1070.From) false) false, .test (beqb (igt x1080.From x1070.From) false) false, .test (beqb (igt x1080.From x1070.From) false) false, .test (beqb (igt x1080.From x1070.From) false) false, .test (igt x1080.From x1070.From) true, .test true true] := ⟨h1083, (beqb_ft (igt_eq h1084)), (beqb_ft (igt_eq h1084)), (beqb_ft (igt_eq h1084)), (beqb_ft (igt_eq h1084)), (beqb_ft (igt_eq h1084)), (beqb_ft (igt_eq h1084)), (beqb_ft (igt_eq h1084)), (igt_eq h1084), rfl, trivial⟩
            exact loop_endC (h := hn65) (l := 0) (c := c65_0) (ts := F65_l0_0_S a1053 v1067) (ts' := F65_l0_0_X0 a1053 6) (ex := .ret) (pq1090 (pq1091 (pq1092 (pq1093 (pq1094 (pq1095 (pq1096 pz))))))) (by kernel_rfl) trivial
          have pq1097 : ∀ {l : List Cond}, HoldAll E H hn65 l → HoldAll E H hn65 (.test (ieq x1080.To x1070.To) false :: .test (beqb (igt x1080.From x1070.From) false) true :: .test (beqb (igt x1080.From x1070.From) false) true :: .test (beqb (igt x1080.From x1070.From) false) true :: .test (beqb (igt x1080.From x1070.From) false) true :: .test (beqb (igt x1080.From x1070.From) false) true :: .test (beqb (igt x1080.From x1070.From) false) true :: .test (beqb (ieq x1080.From x1070.From) true) true :: .test (beqb (ieq x1080.From x1070.From) true) true :: .test (beqb (ieq x1080.From x1070.From) true) true :: .test (beqb (ieq x1080.From x1070.From) true) true :: .test (beqb (ieq x1080.From x1070.From) true) true :: .test (beqb (igt x1080.From x1070.From) false) true :: .test (ieq x1080.From x1070.From) true :: .test (igt x1080.From x1070.From) false :: l) := fun z => ⟨h1083, (beqb_ff (igt_eq h1084)), (beqb_ff (igt_eq h1084)), (beqb_ff (igt_eq h1084)), (beqb_ff (igt_eq h1084)), (beqb_ff (igt_eq h1084)), (beqb_ff (igt_eq h1084)), (beqb_t h1082), (beqb_t h1082), (beqb_t h1082), (beqb_t h1082), (beqb_t h1082), (beqb_ff (igt_eq h1084)), h1082, (igt_eq h1084), z⟩
          refine cond_some hF (fun h1085 hF => ?_) (fun h1085 hF => ?_)
          ·
            have hr := Option.some.inj hF
            subst hr
            have pz : HoldAll E H hn65 [.test (igt x1080.To x1070.To) true] := ⟨(igt_eq h1085), trivial⟩
            exact loop_endC (h := hn65) (l := 0) (c := c65_0) (ts := F65_l0_0_S a1053 v1067) (ts' := F65_l0_0_X0 a1053 6) (ex := .ret) (pq1090 (pq1091 (pq1092 (pq1093 (pq1094 (pq1095 (pq1096 (pq1097 pz)))))))) (by kernel_rfl) trivial
          have pz : HoldAll E H hn65 [.test (igt x1080.To x1070.To) false, .int (wadd .i64 v1067 1) (wadd .i64 v1067 1)] := ⟨(igt_eq h1085), rfl, trivial⟩
          have h0 := ih _ _ hF
          have hn := fun ex ts' => loop_nextC (h := hn65) (l := 0) (c := c65_0) (ts := F65_l0_0_S a1053 v1067) (ts1 := (F65_l0_0_S a1053 (wadd .i64 v1067 1))) (ex := ex) (ts' := ts') (pq1090 (pq1091 (pq1092 (pq1093 (pq1094 (pq1095 (pq1096 (pq1097 pz)))))))) (by kernel_rfl)
          cases r with
          | inl w => exact hn _ _ h0
          | inr w => exact hn _ _ h0
        have pq1098 : ∀ {l : List Cond}, HoldAll E H hn65 l → HoldAll E H hn65 (.test (beqb (ieq x1080.From x1070.From) true) false :: .test (beqb (ieq x1080.From x1070.From) true) false :: .test (beqb (ieq x1080.From x1070.From) true) false :: .test (beqb (ieq x1080.From x1070.From) true) false :: .test (beqb (ieq x1080.From x1070.From) true) false :: .test (ieq x1080.From x1070.From) false :: .test false false :: l) := fun z => ⟨(beqb_t h1082), (beqb_t h1082), (beqb_t h1082), (beqb_t h1082), (beqb_t h1082), h1082, rfl, z⟩
        refine cond_some hF (fun h1086 hF => ?_) (fun h1086 hF => ?_)
        ·
          have hr := Option.some.inj hF
          subst hr
          have pz : HoldAll E H hn65 [.test (beqb (igt x1080.From x1070.From) false) false, .test (beqb (igt x1080.From x1070.From) false) false, .test (beqb (igt x1080.From x1070.From) false) false, .test (beqb (igt x1080.From x1070.From) false) false, .test (beqb (igt x1080.From x1070.From) false) false, .test (beqb (igt x1080.From x1070.From) false) false, .test (beqb (igt x1080.From x1070.From) false) false, .test (igt x1080.From x1070.From) true, .test true true] := ⟨(beqb_ft (igt_eq h1086)), (beqb_ft (igt_eq h1086)), (beqb_ft (igt_eq h1086)), (beqb_ft (igt_eq h1086)), (beqb_ft (igt_eq h1086)), (beqb_ft (igt_eq h1086)), (beqb_ft (igt_eq h1086)), (igt_eq h1086), rfl, trivial⟩
          exact loop_endC (h := hn65) (l := 0) (c := c65_0) (ts := F65_l0_0_S a1053 v1067) (ts' := F65_l0_0_X0 a1053 6) (ex := .ret) (pq1090 (pq1091 (pq1092 (pq1093 (pq1094 (pq1095 (pq1098 pz))))))) (by kernel_rfl) trivial
        have pz : HoldAll E H hn65 [.test (beqb (igt x1080.From x1070.From) false) true, .test (beqb (igt x1080.From x1070.From) false) true, .test (beqb (igt x1080.From x1070.From) false) true, .test (beqb (igt x1080.From x1070.From) false) true, .test (beqb (igt x1080.From x1070.From) false) true, .test (beqb (igt x1080.From x1070.From) false) true, .test (beqb (ieq x1080.From x1070.From) true) false, .test (beqb (ieq x1080.From x1070.From) true) false, .test (beqb (ieq x1080.From x1070.From) true) false, .test (beqb (ieq x1080.From x1070.From) true) false, .test (beqb (ieq x1080.From x1070.From) true) false, .test (beqb (igt x1080.From x1070.From) false) true, .test (ieq x1080.From x1070.From) false, .test (igt x1080.From x1070.From) false, .test false false, .int (wadd .i64 v1067 1) (wadd .i64 v1067 1)] := ⟨(beqb_ff (igt_eq h1086)), (beqb_ff (igt_eq h1086)), (beqb_ff (igt_eq h1086)), (beqb_ff (igt_eq h1086)), (beqb_ff (igt_eq h1086)), (beqb_ff (igt_eq h1086)), (beqb_t h1082), (beqb_t h1082), (beqb_t h1082), (beqb_t h1082), (beqb_t h1082), (beqb_ff (igt_eq h1086)), h1082, (igt_eq h1086), rfl, rfl, trivial⟩
        have h0 := ih _ _ hF
        have hn := fun ex ts' => loop_nextC (h := hn65) (l := 0) (c := c65_0) (ts := F65_l0_0_S a1053 v1067) (ts1 := (F65_l0_0_S a1053 (wadd .i64 v1067 1))) (ex := ex) (ts' := ts') (pq1090 (pq1091 (pq1092 (pq1093 (pq1094 (pq1095 (pq1098 pz))))))) (by kernel_rfl)
        cases r with
        | inl w => exact hn _ _ h0
        | inr w => exact hn _ _ h0
      have pz : HoldAll E H hn65 [.test (igt x1070.W 4611686018427387904) false, .test (igt v1067 0) false, .int (wadd .i64 v1067 1) (wadd .i64 v1067 1)] := ⟨(igt_eq h1077), (igt_eq h1078), rfl, trivial⟩
      have h0 := ih _ _ hF
      have hn := fun ex ts' => loop_nextC (h := hn65) (l := 0) (c := c65_0) (ts := F65_l0_0_S a1053 v1067) (ts1 := (F65_l0_0_S a1053 (wadd .i64 v1067 1))) (ex := ex) (ts' := ts') (pq1090 (pq1091 (pq1092 (pq1093 (pq1094 pz))))) (by kernel_rfl)
      cases r with
      | inl w => exact hn _ _ h0
      | inr w => exact hn _ _ h0
    have hr := Option.some.inj hF
    subst hr
    have pz : HoldAll E H hn65 [.int (nlen (len a1053.Edges)) (nlen (len a1053.Edges)), .test (ilt v1067 (nlen (len a1053.Edges))) false] := ⟨rfl, h1068, trivial⟩
    exact loop_endC (h := hn65) (l := 0) (c := c65_0) (ts := F65_l0_0_S a1053 v1067) (ts' := F65_l0_0_X1 a1053 ()) (ex := (.exit 0)) pz (by kernel_rfl) trivial

def F65 (K : Nat) (a1053 : GGraph) : Option (Int) :=
  bif (ilt a1053.N 1) then
    (some 1)
  else
  bif (ilt 24 a1053.N) then
    (some 1)
  else
  bif (ilt 80 (nlen (len a1053.Edges))) then
    (some 3)
  else
  (F65_l0_0 K a1053 K 0).bind fun y1100 =>
  Sum.elim (fun w1101 =>
    some w1101)
    (fun w1103 =>
    some 0) y1100
theorem F65_ok (K : Nat) (a1053 : GGraph) (r : Int) (hF : F65 K a1053 = some r) : Evt E H 65 [.agg (eGGraph a1053)] (F65_res r) := by
  rw [F65] at hF
  refine cond_some hF (fun h1054 hF => ?_) (fun h1054 hF => ?_)
  ·
    have hr := Option.some.inj hF
    subst hr
    have pz : HoldAll E H hn65 [.test (beqb (ilt a1053.N 1) false) false, .test (beqb (ilt a1053.N 1) false) false, .test (beqb (ilt a1053.N 1) false) false, .test (ilt a1053.N 1) true, .test true true] := ⟨(beqb_ft h1054), (beqb_ft h1054), (beqb_ft h1054), h1054, rfl, trivial⟩
    exact fn_playC hn65 (f := 65) (ads := [.agg (eGGraph a1053)]) (r := F65_res 1) pz (by kernel_rfl) (by kernel_rfl)
  have pq1104 : ∀ {l : List Cond}, HoldAll E H hn65 l → HoldAll E H hn65 (.test (beqb (ilt a1053.N 1) false) true :: .test (beqb (ilt a1053.N 1) false) true :: .test (beqb (ilt a1053.N 1) false) true :: .test (ilt a1053.N 1) false :: l) := fun z => ⟨(beqb_ff h1054), (beqb_ff h1054), (beqb_ff h1054), h1054, z⟩
  refine cond_some hF (fun h1055 hF => ?_) (fun h1055 hF => ?_)
  ·
    have hr := Option.some.inj hF
    subst hr
    have pz : HoldAll E H hn65 [.test (igt a1053.N 24) true] := ⟨(igt_eq h1055), trivial⟩
    exact fn_playC hn65 (f := 65) (ads := [.agg (eGGraph a1053)]) (r := F65_res 1) (pq1104 pz) (by kernel_rfl) (by kernel_rfl)
  refine cond_some hF (fun h1056 hF => ?_) (fun h1056 hF => ?_)
  ·
    have hr := Option.some.inj hF
    subst hr
    have pz : HoldAll E H hn65 [.test (igt a1053.N 24) false, .int (nlen (len a1053.Edges)) (nlen (len a1053.Edges)), .test (igt (nlen (len a1053.Edges)) 80) true] := ⟨(igt_eq h1055), rfl, (igt_eq h1056), trivial⟩
    exact fn_playC hn65 (f := 65) (ads := [.agg (eGGraph a1053)]) (r := F65_res 3) (pq1104 pz) (by kernel_rfl) (by kernel_rfl)
  have pq1105 : ∀ {l : List Cond}, HoldAll E H hn65 l → HoldAll E H hn65 (.test (igt a1053.N 24) false :: .int (nlen (len a1053.Edges)) (nlen (len a1053.Edges)) :: .test (igt (nlen (len a1053.Edges)) 80) false :: l) := fun z => ⟨(igt_eq h1055), rfl, (igt_eq h1056), z⟩
  refine bind_some hF (fun y1100 h1099 hF => ?_)
  refine sum_some hF (fun w1101 hx hF => ?_) (fun w1103 hx hF => ?_)
  ·
    subst hx
    have hr := Option.some.inj hF
    subst hr
    have pz : HoldAll E H hn65 [.loop 0 c65_0 (F65_l0_0_S a1053 0) .ret (F65_l0_0_X0 a1053 w1101)] := ⟨(F65_l0_0_ok K a1053 K 0 _ h1099), trivial⟩
    exact fn_playC hn65 (f := 65) (ads := [.agg (eGGraph a1053)]) (r := F65_res w1101) (pq1104 (pq1105 pz)) (by kernel_rfl) (by kernel_rfl)
  subst hx
  have hr := Option.some.inj hF
  subst hr
  have pz : HoldAll E H hn65 [.loop 0 c65_0 (F65_l0_0_S a1053 0) (.exit 0) (F65_l0_0_X1 a1053 w1103)] := ⟨(F65_l0_0_ok K a1053 K 0 _ h1099), trivial⟩
  exact fn_playC hn65 (f := 65) (ads := [.agg (eGGraph a1053)]) (r := F65_res 0) (pq1104 (pq1105 pz)) (by kernel_rfl) (by kernel_rfl)

/-! ### haywain/graph.fair -/
noncomputable def hn132 : Hint := { H 132 with nt := 35, prot := 0 }
def F132_res (r2404 : Int) : Res := ⟨[(.one (.im (.lit (.int .i64 r2404))))], []⟩
def F132 (K : Nat) (a2392 : GEdge) (a2393 : Int) : Option (Int) :=
  bif (ilt a2392.From 0) then
    (some 4)
  else
  bif (ile a2393 a2392.From) then
    (some 4)
  else
  bif (ilt a2392.To 0) then
    (some 4)
  else
  bif (ile a2393 a2392.To) then
    (some 4)
  else
  bif (ilt a2392.W 0) then
    (some 1)
  else
  bif (ilt 4611686018427387904 a2392.W) then
    (some 1)
  else
  some 0
theorem F132_ok (K : Nat) (a2392 : GEdge) (a2393 : Int) (r : Int) (hF : F132 K a2392 a2393 = some r) : Evt E H 132 [.agg (eGEdge a2392), .one (.lit (.int .i64 a2393))] (F132_res r) := by
  rw [F132] at hF
  refine cond_some hF (fun h2394 hF => ?_) (fun h2394 hF => ?_)
  ·
    have hr := Option.some.inj hF
    subst hr
    have pz : HoldAll E H hn132 [.test (beqb (ilt a2392.From 0) false) false, .test (beqb (ilt a2392.From 0) false) false, .test (beqb (ilt a2392.From 0) false) false, .test (beqb (ilt a2392.From 0) false) false, .test (ilt a2392.From 0) true, .test (beqb true false) false, .test (beqb true false) false, .test (beqb true false) false, .test true true, .test (beqb true false) false, .test (beqb true false) false, .test (beqb true false) false, .test (beqb true false) false, .test true true, .test true true] := ⟨(beqb_ft h2394), (beqb_ft h2394), (beqb_ft h2394), (beqb_ft h2394), h2394, (beqb_ft rfl), (beqb_ft rfl), (beqb_ft rfl), rfl, (beqb_ft rfl), (beqb_ft rfl), (beqb_ft rfl), (beqb_ft rfl), rfl, rfl, trivial⟩
    exact fn_playC hn132 (f := 132) (ads := [.agg (eGEdge a2392), .one (.lit (.int .i64 a2393))]) (r := F132_res 4) pz (by kernel_rfl) (by kernel_rfl)
  have pq2400 : ∀ {l : List Cond}, HoldAll E H hn132 l → HoldAll E H hn132 (.test (beqb (ilt a2392.From 0) false) true :: .test (beqb (ilt a2392.From 0) false) true :: .test (beqb (ilt a2392.From 0) false) true :: .test (beqb (ilt a2392.From 0) false) true :: .test (ilt a2392.From 0) false :: l) := fun z => ⟨(beqb_ff h2394), (beqb_ff h2394), (beqb_ff h2394), (beqb_ff h2394), h2394, z⟩
  refine cond_some hF (fun h2395 hF => ?_) (fun h2395 hF => ?_)
  ·
    have hr := Option.some.inj hF
    subst hr
    have pz : HoldAll E H hn132 [.test (beqb (ige a2392.From a2393) false) false, .test (beqb (ige a2392.From a2393) false) false, .test (beqb (ige a2392.From a2393) false) false, .test (ige a2392.From a2393) true, .test (beqb true false) false, .test (beqb true false) false, .test (beqb true false) false, .test (beqb true false) false, .test true true, .test true true] := ⟨(beqb_ft (ige_eq h2395)), (beqb_ft (ige_eq h2395)), (beqb_ft (ige_eq h2395)), (ige_eq h2395), (beqb_ft rfl), (beqb_ft rfl), (beqb_ft rfl), (beqb_ft rfl), rfl, rfl, trivial⟩
    exact fn_playC hn132 (f := 132) (ads := [.agg (eGEdge a2392), .one (.lit (.int .i64 a2393))]) (r := F132_res 4) (pq2400 pz) (by kernel_rfl) (by kernel_rfl)
  have pq2401 : ∀ {l : List Cond}, HoldAll E H hn132 l → HoldAll E H hn132 (.test (beqb (ige a2392.From a2393) false) true :: .test (beqb (ige a2392.From a2393) false) true :: .test (beqb (ige a2392.From a2393) false) true :: .test (ige a2392.From a2393) false :: l) := fun z => ⟨(beqb_ff (ige_eq h2395)), (beqb_ff (ige_eq h2395)), (beqb_ff (ige_eq h2395)), (ige_eq h2395), z⟩
  refine cond_some hF (fun h2396 hF => ?_) (fun h2396 hF => ?_)
  ·
    have hr := Option.some.inj hF
    subst hr
    have pz : HoldAll E H hn132 [.test (beqb (ilt a2392.To 0) false) false, .test (beqb (ilt a2392.To 0) false) false, .test (beqb (ilt a2392.To 0) false) false, .test (beqb (ilt a2392.To 0) false) false, .test (ilt a2392.To 0) true, .test true true] := ⟨(beqb_ft h2396), (beqb_ft h2396), (beqb_ft h2396), (beqb_ft h2396), h2396, rfl, trivial⟩
    exact fn_playC hn132 (f := 132) (ads := [.agg (eGEdge a2392), .one (.lit (.int .i64 a2393))]) (r := F132_res 4) (pq2400 (pq2401 pz)) (by kernel_rfl) (by kernel_rfl)
  have pq2402 : ∀ {l : List Cond}, HoldAll E H hn132 l → HoldAll E H hn132 (.test (beqb (ilt a2392.To 0) false) true :: .test (beqb (ilt a2392.To 0) false) true :: .test (beqb (ilt a2392.To 0) false) true :: .test (beqb (ilt a2392.To 0) false) true :: .test (ilt a2392.To 0) false :: l) := fun z => ⟨(beqb_ff h2396), (beqb_ff h2396), (beqb_ff h2396), (beqb_ff h2396), h2396, z⟩
  refine cond_some hF (fun h2397 hF => ?_) (fun h2397 hF => ?_)
  ·
    have hr := Option.some.inj hF
    subst hr
    have pz : HoldAll E H hn132 [.test (ige a2392.To a2393) true] := ⟨(ige_eq h2397), trivial⟩
    exact fn_playC hn132 (f := 132) (ads := [.agg (eGEdge a2392), .one (.lit (.int .i64 a2393))]) (r := F132_res 4) (pq2400 (pq2401 (pq2402 pz))) (by kernel_rfl) (by kernel_rfl)
  refine cond_some hF (fun h2398 hF => ?_) (fun h2398 hF => ?_)
  ·
    have hr := Option.some.inj hF
    subst hr
    have pz : HoldAll E H hn132 [.test (ige a2392.To a2393) false, .test (beqb (ilt a2392.W 0) false) false, .test (beqb (ilt a2392.W 0) false) false, .test (beqb (ilt a2392.W 0) false) false, .test (ilt a2392.W 0) true, .test true true] := ⟨(ige_eq h2397), (beqb_ft h2398), (beqb_ft h2398), (beqb_ft h2398), h2398, rfl, trivial⟩
    exact fn_playC hn132 (f := 132) (ads := [.agg (eGEdge a2392), .one (.lit (.int .i64 a2393))]) (r := F132_res 1) (pq2400 (pq2401 (pq2402 pz))) (by kernel_rfl) (by kernel_rfl)
  have pq2403 : ∀ {l : List Cond}, HoldAll E H hn132 l → HoldAll E H hn132 (.test (ige a2392.To a2393) false :: .test (beqb (ilt a2392.W 0) false) true :: .test (beqb (ilt a2392.W 0) false) true :: .test (beqb (ilt a2392.W 0) false) true :: .test (ilt a2392.W 0) false :: l) := fun z => ⟨(ige_eq h2397), (beqb_ff h2398), (beqb_ff h2398), (beqb_ff h2398), h2398, z⟩
  refine cond_some hF (fun h2399 hF => ?_) (fun h2399 hF => ?_)
  ·
    have hr := Option.some.inj hF
    subst hr
    have pz : HoldAll E H hn132 [.test (igt a2392.W 4611686018427387904) true] := ⟨(igt_eq h2399), trivial⟩
    exact fn_playC hn132 (f := 132) (ads := [.agg (eGEdge a2392), .one (.lit (.int .i64 a2393))]) (r := F132_res 1) (pq2400 (pq2401 (pq2402 (pq2403 pz)))) (by kernel_rfl) (by kernel_rfl)
  have hr := Option.some.inj hF
  subst hr
  have pz : HoldAll E H hn132 [.test (igt a2392.W 4611686018427387904) false] := ⟨(igt_eq h2399), trivial⟩
  exact fn_playC hn132 (f := 132) (ads := [.agg (eGEdge a2392), .one (.lit (.int .i64 a2393))]) (r := F132_res 0) (pq2400 (pq2401 (pq2402 (pq2403 pz)))) (by kernel_rfl) (by kernel_rfl)

/-! ### haywain/graph.order -/
noncomputable def hn133 : Hint := { H 133 with nt := 20, prot := 0 }
def F133_res (r2423 : Int) : Res := ⟨[(.one (.im (.lit (.int .i64 r2423))))], []⟩
def F133 (K : Nat) (a2420 : GEdge) (a2421 : GEdge) : Option (Int) :=
  bif (ieq a2420.From a2421.From) then
    (some (wsub .i64 a2420.To a2421.To))
  else
  some (wsub .i64 a2420.From a2421.From)
theorem F133_ok (K : Nat) (a2420 : GEdge) (a2421 : GEdge) (r : Int) (hF : F133 K a2420 a2421 = some r) : Evt E H 133 [.agg (eGEdge a2420), .agg (eGEdge a2421)] (F133_res r) := by
  rw [F133] at hF
  refine cond_some hF (fun h2422 hF => ?_) (fun h2422 hF => ?_)
  ·
    have hr := Option.some.inj hF
    subst hr
    have pz : HoldAll E H hn133 [.test (ine a2420.From a2421.From) false, .int (wsub .i64 a2420.To a2421.To) (wsub .i64 a2420.To a2421.To)] := ⟨(ine_t h2422), rfl, trivial⟩
    exact fn_playC hn133 (f := 133) (ads := [.agg (eGEdge a2420), .agg (eGEdge a2421)]) (r := F133_res (wsub .i64 a2420.To a2421.To)) pz (by kernel_rfl) (by kernel_rfl)
  have hr := Option.some.inj hF
  subst hr
  have pz : HoldAll E H hn133 [.test (ine a2420.From a2421.From) true, .int (wsub .i64 a2420.From a2421.From) (wsub .i64 a2420.From a2421.From)] := ⟨(ine_f h2422), rfl, trivial⟩
  exact fn_playC hn133 (f := 133) (ads := [.agg (eGEdge a2420), .agg (eGEdge a2421)]) (r := F133_res (wsub .i64 a2420.From a2421.From)) pz (by kernel_rfl) (by kernel_rfl)

/-! ### haywain/graph.Check -/
noncomputable def hn64 : Hint := { H 64 with nt := 51, prot := 0 }
noncomputable def c64_0 : Code := loopOf E 64 0
def F64_res (r2440 : Int) : Res := ⟨[(.one (.im (.lit (.int .i64 r2440))))], []⟩
def F64_l0_0 (K : Nat) (a2384 : GGraph) : Nat → Int → Option ((Int) ⊕ (Unit))
  | 0, _ => none
  | k + 1, v2408 =>
    bif (ilt v2408 (nlen (len a2384.Edges))) then
      (bif (inr v2408 (len a2384.Edges)) then
      (elAt a2384.Edges v2408).bind fun x2411 =>
      (F132 K x2411 a2384.N).bind fun r2413 =>
      bif (ieq r2413 0) then
        (bif (ieq v2408 0) then
          (F64_l0_0 K a2384 k (wadd .i64 v2408 1))
        else
        bif (inr (wsub .i64 v2408 1) (len a2384.Edges)) then
        (elAt a2384.Edges (wsub .i64 v2408 1)).bind fun x2418 =>
        (F133 K x2418 x2411).bind fun r2424 =>
        bif (ieq r2424 0) then
          (some (.inl 5))
        else
        bif (ilt 0 r2424) then
          (some (.inl 6))
        else
        F64_l0_0 K a2384 k (wadd .i64 v2408 1)
        else none)
      else
      some (.inl r2413)
      else none)
    else
    some (.inr ())
def F64_l0_0_S (a2384 : GGraph) (v2408 : Int) : TS := .on [64, 65, 66, 1216, 1280, 1281, 1344, 1345, 1408, 1409] [(64, ⟨(.box 62 2), 0, nob⟩), (65, ⟨.im, 0, (.lit (.int .i64 a2384.N))⟩), (66, ⟨.im, 0, (.sl (len a2384.Edges) (flat eGEdge a2384.Edges))⟩), (1216, ⟨(.ad 1 0 1), 0, nob⟩), (1280, ⟨.one, 0, nob⟩), (1281, ⟨.im, 0, (.sl (len a2384.Edges) (flat eGEdge a2384.Edges))⟩), (1344, ⟨.one, 0, nob⟩), (1345, ⟨.im, 0, (.lit (.int .i64 (nlen (len a2384.Edges))))⟩), (1408, ⟨.one, 0, nob⟩), (1409, ⟨.im, 0, (.lit (.int .i64 v2408))⟩)]
def F64_l0_0_X0 (a2384 : GGraph) (w2428 : Int) : TS := .on [128, 129] [(128, ⟨.one, 0, nob⟩), (129, ⟨.im, 0, (.lit (.int .i64 w2428))⟩)]
def F64_l0_0_X1 (a2384 : GGraph) (w2430 : Unit) : TS := .on [] []
theorem F64_l0_0_ok (K : Nat) (a2384 : GGraph) : ∀ (k : Nat) (v2408 : Int) (r : (Int) ⊕ (Unit)), F64_l0_0 K a2384 k v2408 = some r → (Sum.elim (fun w => LoopEv E H hn64 0 c64_0 (F64_l0_0_S a2384 v2408) .ret (F64_l0_0_X0 a2384 w)) (fun w => LoopEv E H hn64 0 c64_0 (F64_l0_0_S a2384 v2408) (.exit 0) (F64_l0_0_X1 a2384 w))) r := by
  intro k
  induction k with
  | zero => intro v2408 r hF; cases hF
  | succ k ih =>
    intro v2408 r hF
    rw [F64_l0_0] at hF
    refine cond_some hF (fun h2409 hF => ?_) (fun h2409 hF => ?_)
    ·
      refine cond_some hF (fun h2410 hF => ?_) (fun _ hF => nomatch hF)
      refine bind_some hF (fun x2411 h2412 hF => ?_)
      refine bind_some hF (fun r2413 h2414 hF => ?_)
      have pq2431 : ∀ {l : List Cond}, HoldAll E H hn64 l → HoldAll E H hn64 (.test (ilt v2408 (nlen (len a2384.Edges))) true :: .test (inr v2408 (len a2384.Edges)) true :: .sub (flat eGEdge a2384.Edges) (nidx v2408 3) 3 [(.lit (.int .i64 x2411.From)), (.lit (.int .i64 x2411.To)), (.lit (.int .i64 x2411.W))] :: .call 132 [.agg (eGEdge x2411), .one (.lit (.int .i64 a2384.N))] (F132_res r2413) :: .test (leadsAny (Res.mk [(.one (.im (.lit (.int .i64 r2413))))] [])) false :: l) := fun z => ⟨h2409, h2410, ⟨rfl, sub_flat0 eGEdge_len h2412 3 (by decide)⟩, (F132_ok K x2411 a2384.N _ h2414), (leads_ok (by simp only [leadsAny, List.any_cons, List.any_nil, RV.leads, RC.leads, leadsT, hasSl_lit, Bool.or_false, flat_ns (eInt_ns _), flat_ns eBool_ns, flat_ns eStr_ns, flat_ns eGJob_ns, flat_ns eGEdge_ns, flat_ns eGAsked_ns, flat_ns eGMsg_ns, flat_ns eGrule_ns, flat_ns eGA199_ns, flat_ns eGA202_ns])), z⟩
      refine cond_some hF (fun h2415 hF => ?_) (fun h2415 hF => ?_)
      ·
        refine cond_some hF (fun h2416 hF => ?_) (fun h2416 hF => ?_)
        ·
          have pz : HoldAll E H hn64 [.test (ine r2413 0) false, .test (ieq v2408 0) true, .int (wadd .i64 v2408 1) (wadd .i64 v2408 1)] := ⟨(ine_t h2415), h2416, rfl, trivial⟩
          have h0 := ih _ _ hF
          have hn := fun ex ts' => loop_nextC (h := hn64) (l := 0) (c := c64_0) (ts := F64_l0_0_S a2384 v2408) (ts1 := (F64_l0_0_S a2384 (wadd .i64 v2408 1))) (ex := ex) (ts' := ts') (pq2431 pz) (by kernel_rfl)
          cases r with
          | inl w => exact hn _ _ h0
          | inr w => exact hn _ _ h0
        refine cond_some hF (fun h2417 hF => ?_) (fun _ hF => nomatch hF)
        refine bind_some hF (fun x2418 h2419 hF => ?_)
        refine bind_some hF (fun r2424 h2425 hF => ?_)
        have pq2432 : ∀ {l : List Cond}, HoldAll E H hn64 l → HoldAll E H hn64 (.test (ine r2413 0) false :: .test (ieq v2408 0) false :: .int (wsub .i64 v2408 1) (wsub .i64 v2408 1) :: .test (inr (wsub .i64 v2408 1) (len a2384.Edges)) true :: .sub (flat eGEdge a2384.Edges) (nidx (wsub .i64 v2408 1) 3) 3 [(.lit (.int .i64 x2418.From)), (.lit (.int .i64 x2418.To)), (.lit (.int .i64 x2418.W))] :: .call 133 [.agg (eGEdge x2418), .agg (eGEdge x2411)] (F133_res r2424) :: .test (leadsAny (Res.mk [(.one (.im (.lit (.int .i64 r2424))))] [])) false :: l) := fun z => ⟨(ine_t h2415), h2416, rfl, h2417, ⟨rfl, sub_flat0 eGEdge_len h2419 3 (by decide)⟩, (F133_ok K x2418 x2411 _ h2425), (leads_ok (by simp only [leadsAny, List.any_cons, List.any_nil, RV.leads, RC.leads, leadsT, hasSl_lit, Bool.or_false, flat_ns (eInt_ns _), flat_ns eBool_ns, flat_ns eStr_ns, flat_ns eGJob_ns, flat_ns eGEdge_ns, flat_ns eGAsked_ns, flat_ns eGMsg_ns, flat_ns eGrule_ns, flat_ns eGA199_ns, flat_ns eGA202_ns])), z⟩
        refine cond_some hF (fun h2426 hF => ?_) (fun h2426 hF => ?_)
        ·
          have hr := Option.some.inj hF
          subst hr
          have pz : HoldAll E H hn64 [.test (ieq r2424 0) true] := ⟨h2426, trivial⟩
          exact loop_endC (h := hn64) (l := 0) (c := c64_0) (ts := F64_l0_0_S a2384 v2408) (ts' := F64_l0_0_X0 a2384 5) (ex := .ret) (pq2431 (pq2432 pz)) (by kernel_rfl) trivial
        refine cond_some hF (fun h2427 hF => ?_) (fun h2427 hF => ?_)
        ·
          have hr := Option.some.inj hF
          subst hr
          have pz : HoldAll E H hn64 [.test (ieq r2424 0) false, .test (igt r2424 0) true] := ⟨h2426, (igt_eq h2427), trivial⟩
          exact loop_endC (h := hn64) (l := 0) (c := c64_0) (ts := F64_l0_0_S a2384 v2408) (ts' := F64_l0_0_X0 a2384 6) (ex := .ret) (pq2431 (pq2432 pz)) (by kernel_rfl) trivial
        have pz : HoldAll E H hn64 [.test (ieq r2424 0) false, .test (igt r2424 0) false, .int (wadd .i64 v2408 1) (wadd .i64 v2408 1)] := ⟨h2426, (igt_eq h2427), rfl, trivial⟩
        have h0 := ih _ _ hF
        have hn := fun ex ts' => loop_nextC (h := hn64) (l := 0) (c := c64_0) (ts := F64_l0_0_S a2384 v2408) (ts1 := (F64_l0_0_S a2384 (wadd .i64 v2408 1))) (ex := ex) (ts' := ts') (pq2431 (pq2432 pz)) (by kernel_rfl)
        cases r with
        | inl w => exact hn _ _ h0
        | inr w => exact hn _ _ h0
      have hr := Option.some.inj hF
      subst hr
      have pz : HoldAll E H hn64 [.test (ine r2413 0) true] := ⟨(ine_f h2415), trivial⟩
      exact loop_endC (h := hn64) (l := 0) (c := c64_0) (ts := F64_l0_0_S a2384 v2408) (ts' := F64_l0_0_X0 a2384 r2413) (ex := .ret) (pq2431 pz) (by kernel_rfl) trivial
    have hr := Option.some.inj hF
    subst hr
    have pz : HoldAll E H hn64 [.test (ilt v2408 (nlen (len a2384.Edges))) false] := ⟨h2409, trivial⟩
    exact loop_endC (h := hn64) (l := 0) (c := c64_0) (ts := F64_l0_0_S a2384 v2408) (ts' := F64_l0_0_X1 a2384 ()) (ex := (.exit 0)) pz (by kernel_rfl) trivial

def F64 (K : Nat) (a2384 : GGraph) : Option (Int) :=
  bif (ilt a2384.N 1) then
    (some 1)
  else
  bif (ilt 24 a2384.N) then
    (some 1)
  else
  bif (ilt 80 (nlen (len a2384.Edges))) then
    (some 3)
  else
  (F64_l0_0 K a2384 K 0).bind fun y2434 =>
  Sum.elim (fun w2435 =>
    some w2435)
    (fun w2437 =>
    some 0) y2434
theorem F64_ok (K : Nat) (a2384 : GGraph) (r : Int) (hF : F64 K a2384 = some r) : Evt E H 64 [.agg (eGGraph a2384)] (F64_res r) := by
  rw [F64] at hF
  refine cond_some hF (fun h2385 hF => ?_) (fun h2385 hF => ?_)
  ·
    have hr := Option.some.inj hF
    subst hr
    have pz : HoldAll E H hn64 [.test (beqb (ilt a2384.N 1) false) false, .test (beqb (ilt a2384.N 1) false) false, .test (beqb (ilt a2384.N 1) false) false, .test (ilt a2384.N 1) true, .test true true] := ⟨(beqb_ft h2385), (beqb_ft h2385), (beqb_ft h2385), h2385, rfl, trivial⟩
    exact fn_playC hn64 (f := 64) (ads := [.agg (eGGraph a2384)]) (r := F64_res 1) pz (by kernel_rfl) (by kernel_rfl)
  have pq2438 : ∀ {l : List Cond}, HoldAll E H hn64 l → HoldAll E H hn64 (.test (beqb (ilt a2384.N 1) false) true :: .test (beqb (ilt a2384.N 1) false) true :: .test (beqb (ilt a2384.N 1) false) true :: .test (ilt a2384.N 1) false :: l) := fun z => ⟨(beqb_ff h2385), (beqb_ff h2385), (beqb_ff h2385), h2385, z⟩
  refine cond_some hF (fun h2386 hF => ?_) (fun h2386 hF => ?_)
  ·
    have hr := Option.some.inj hF
    subst hr
    have pz : HoldAll E H hn64 [.test (igt a2384.N 24) true] := ⟨(igt_eq h2386), trivial⟩
    exact fn_playC hn64 (f := 64) (ads := [.agg (eGGraph a2384)]) (r := F64_res 1) (pq2438 pz) (by kernel_rfl) (by kernel_rfl)
  refine cond_some hF (fun h2387 hF => ?_) (fun h2387 hF => ?_)
  ·
    have hr := Option.some.inj hF
    subst hr
    have pz : HoldAll E H hn64 [.test (igt a2384.N 24) false, .int (nlen (len a2384.Edges)) (nlen (len a2384.Edges)), .test (igt (nlen (len a2384.Edges)) 80) true] := ⟨(igt_eq h2386), rfl, (igt_eq h2387), trivial⟩
    exact fn_playC hn64 (f := 64) (ads := [.agg (eGGraph a2384)]) (r := F64_res 3) (pq2438 pz) (by kernel_rfl) (by kernel_rfl)
  have pq2439 : ∀ {l : List Cond}, HoldAll E H hn64 l → HoldAll E H hn64 (.test (igt a2384.N 24) false :: .int (nlen (len a2384.Edges)) (nlen (len a2384.Edges)) :: .test (igt (nlen (len a2384.Edges)) 80) false :: .int (nlen (len a2384.Edges)) (nlen (len a2384.Edges)) :: l) := fun z => ⟨(igt_eq h2386), rfl, (igt_eq h2387), rfl, z⟩
  refine bind_some hF (fun y2434 h2433 hF => ?_)
  refine sum_some hF (fun w2435 hx hF => ?_) (fun w2437 hx hF => ?_)
  ·
    subst hx
    have hr := Option.some.inj hF
    subst hr
    have pz : HoldAll E H hn64 [.loop 0 c64_0 (F64_l0_0_S a2384 0) .ret (F64_l0_0_X0 a2384 w2435)] := ⟨(F64_l0_0_ok K a2384 K 0 _ h2433), trivial⟩
    exact fn_playC hn64 (f := 64) (ads := [.agg (eGGraph a2384)]) (r := F64_res w2435) (pq2438 (pq2439 pz)) (by kernel_rfl) (by kernel_rfl)
  subst hx
  have hr := Option.some.inj hF
  subst hr
  have pz : HoldAll E H hn64 [.loop 0 c64_0 (F64_l0_0_S a2384 0) (.exit 0) (F64_l0_0_X1 a2384 w2437)] := ⟨(F64_l0_0_ok K a2384 K 0 _ h2433), trivial⟩
  exact fn_playC hn64 (f := 64) (ads := [.agg (eGGraph a2384)]) (r := F64_res 0) (pq2438 (pq2439 pz)) (by kernel_rfl) (by kernel_rfl)

end Go.Proofs.Ytnjanliihnadjaa.Tm

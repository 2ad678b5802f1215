/- What the row of WorkTakes leans on: printed functions and plain laws. Conditions: none. -/
import Derived.Test.YtnjanliihnadjaaTy
import Derived.Test.YtnjanliihnadjaaTab
import Derived.Test.YtnjanliihnadjaaKn
import Derived.Test.YtnjanliihnadjaaWf
import Derived.IntWalk
import Derived.KernelRfl
import Derived.OpenShut
import Derived.Test.YtnjanliihnadjaaBWorkTakes1
set_option linter.unusedVariables false
set_option linter.unusedSimpArgs false
namespace Go.Proofs.Ytnjanliihnadjaa.Tm
open Go
def F152_l1_1_X1 (a1916 : Int) (r2026 : List GMsg) (v2065 : List GMsg) (x2069 : GMsg) (w2091 : Int × Int) : TS := .on [0, 1, 384, 385, 448, 449, 512, 513, 576, 577, 578] [(0, ⟨.one, 0, nob⟩), (1, ⟨.im, 0, (.lit (.int .i64 a1916))⟩), (384, ⟨.one, 0, nob⟩), (385, ⟨(.own 130), 0, (.sl (len r2026) (flat eGMsg r2026))⟩), (448, ⟨.one, 0, nob⟩), (449, ⟨(.own 130), 0, (.sl (len v2065) (flat eGMsg v2065))⟩), (512, ⟨.one, 0, nob⟩), (513, ⟨.im, 0, (.lit (.int .i64 w2091.1))⟩), (576, ⟨(.box 130 2), 0, nob⟩), (577, ⟨.im, 0, (.lit (.int .i64 x2069.To))⟩), (578, ⟨.im, 0, (.lit (.int .i64 w2091.2))⟩)]
theorem F152_l1_1_ok (K : Nat) (a1916 : Int) (r2026 : List GMsg) (v2065 : List GMsg) (x2069 : GMsg) : ∀ (k : Nat) (v2079 : Int) (v2080 : Int) (r : (Int) ⊕ (Int × Int)), F152_l1_1 K a1916 r2026 v2065 x2069 k v2079 v2080 = some r → (Sum.elim (fun w => LoopEv E H hn152 2 c152_1 (F152_l1_1_S a1916 r2026 v2065 x2069 v2079 v2080) .ret (F152_l1_1_X0 a1916 r2026 v2065 x2069 w)) (fun w => LoopEv E H hn152 2 c152_1 (F152_l1_1_S a1916 r2026 v2065 x2069 v2079 v2080) (.exit 2) (F152_l1_1_X1 a1916 r2026 v2065 x2069 w))) r := by
 intro k
 induction k with
 | zero => intro v2079 v2080 r hF; cases hF
 | succ k ih =>
  intro v2079 v2080 r hF
  rw [F152_l1_1] at hF
  refine cond_some hF (fun h2081 hF => ?_) (fun h2081 hF => ?_)
  ·
   refine cond_some hF (fun h2082 hF => ?_) (fun _ hF => nomatch hF)
   refine bind_some hF (fun x2083 h2084 hF => ?_)
   have pq2094 : ∀ {l : List Cond}, HoldAll E H hn152 l → HoldAll E H hn152 (.int (nlen (len r2026)) (nlen (len r2026)) :: .test (beqb (ilt v2079 (nlen (len r2026))) true) true :: .test (beqb (ilt v2079 (nlen (len r2026))) true) true :: .test (beqb (ilt v2079 (nlen (len r2026))) true) true :: .test (inr v2079 (len r2026)) true :: .test (beqb (ilt v2079 (nlen (len r2026))) true) true :: .test (beqb (ilt v2079 (nlen (len r2026))) true) true :: .sub (flat eGMsg r2026) (nadd (nidx v2079 2) 0) 1 [(.lit (.int .i64 x2083.To))] :: .test (beqb (ilt v2079 (nlen (len r2026))) true) true :: .test (beqb (ilt v2079 (nlen (len r2026))) true) true :: .test (beqb (ilt v2079 (nlen (len r2026))) true) true :: .test (ilt v2079 (nlen (len r2026))) true :: l) := fun z => ⟨rfl, (beqb_t h2081), (beqb_t h2081), (beqb_t h2081), h2082, (beqb_t h2081), (beqb_t h2081), ⟨rfl, sub_flat eGMsg_len h2084 0 1 (by decide)⟩, (beqb_t h2081), (beqb_t h2081), (beqb_t h2081), h2081, z⟩
   refine cond_some hF (fun h2085 hF => ?_) (fun h2085 hF => ?_)
   ·
    refine bind_some hF (fun r2086 h2087 hF => ?_)
    have pq2095 : ∀ {l : List Cond}, HoldAll E H hn152 l → HoldAll E H hn152 (.test (ieq x2083.To x2069.To) true :: .test (inr v2079 (len r2026)) true :: .sub (flat eGMsg r2026) (nadd (nidx v2079 2) 1) 1 [(.lit (.int .i64 x2083.V))] :: .call 98 [.one (.lit (.int .i64 a1916)), .one (.lit (.int .i64 v2080)), .one (.lit (.int .i64 x2083.V))] (F98_res r2086) :: .test (leadsAny (Res.mk [(.one (.im (.lit (.int .i64 r2086.1)))), (.one (.im (.lit (.int .i64 r2086.2))))] [])) false :: l) := fun z => ⟨h2085, h2082, ⟨rfl, sub_flat eGMsg_len h2084 1 1 (by decide)⟩, (F98_ok K a1916 v2080 x2083.V _ h2087), (leads_ok (by simp [leadsAny, RV.leads, RC.leads, leadsT, hasSl_lit, flat_ns eGMsg_ns])), z⟩
    refine cond_some hF (fun h2088 hF => ?_) (fun h2088 hF => ?_)
    ·
     have pz : HoldAll E H hn152 [.test (ine r2086.2 0) false, .int (wadd .i64 v2079 1) (wadd .i64 v2079 1)] := ⟨(ine_t h2088), rfl, trivial⟩
     have h0 := ih _ _ _ hF
     have hn := fun ex ts' => loop_nextC (h := hn152) (l := 2) (c := c152_1) (ts := F152_l1_1_S a1916 r2026 v2065 x2069 v2079 v2080) (ts1 := (F152_l1_1_S a1916 r2026 v2065 x2069 (wadd .i64 v2079 1) r2086.1)) (ex := ex) (ts' := ts') (pq2094 (pq2095 pz)) (by kernel_rfl)
     cases r with
     | inl w => exact hn _ _ h0
     | inr w => exact hn _ _ h0
    obtain rfl := Option.some.inj hF
    have pz : HoldAll E H hn152 [.test (ine r2086.2 0) true] := ⟨(ine_f h2088), trivial⟩
    exact loop_endC (h := hn152) (l := 2) (c := c152_1) (ts := F152_l1_1_S a1916 r2026 v2065 x2069 v2079 v2080) (ts' := F152_l1_1_X0 a1916 r2026 v2065 x2069 r2086.2) (ex := .ret) (pq2094 (pq2095 pz)) (by kernel_rfl) trivial
   obtain rfl := Option.some.inj hF
   have pz : HoldAll E H hn152 [.test (ieq x2083.To x2069.To) false] := ⟨h2085, trivial⟩
   exact loop_endC (h := hn152) (l := 2) (c := c152_1) (ts := F152_l1_1_S a1916 r2026 v2065 x2069 v2079 v2080) (ts' := F152_l1_1_X1 a1916 r2026 v2065 x2069 (v2079, v2080)) (ex := (.exit 2)) (pq2094 pz) (by kernel_rfl) trivial
  obtain rfl := Option.some.inj hF
  have pz : HoldAll E H hn152 [.int (nlen (len r2026)) (nlen (len r2026)), .test (beqb (ilt v2079 (nlen (len r2026))) true) false, .test (beqb (ilt v2079 (nlen (len r2026))) true) false, .test (beqb (ilt v2079 (nlen (len r2026))) true) false, .test (beqb (ilt v2079 (nlen (len r2026))) true) false, .test (beqb (ilt v2079 (nlen (len r2026))) true) false, .test (beqb (ilt v2079 (nlen (len r2026))) true) false, .test (beqb (ilt v2079 (nlen (len r2026))) true) false, .test (beqb (ilt v2079 (nlen (len r2026))) true) false, .test (ilt v2079 (nlen (len r2026))) false, .test false false] := ⟨rfl, (beqb_t h2081), (beqb_t h2081), (beqb_t h2081), (beqb_t h2081), (beqb_t h2081), (beqb_t h2081), (beqb_t h2081), (beqb_t h2081), h2081, rfl, trivial⟩
  exact loop_endC (h := hn152) (l := 2) (c := c152_1) (ts := F152_l1_1_S a1916 r2026 v2065 x2069 v2079 v2080) (ts' := F152_l1_1_X1 a1916 r2026 v2065 x2069 (v2079, v2080)) (ex := (.exit 2)) pz (by kernel_rfl) trivial
def F152_l0_0 (K : Nat) (a1916 : Int) (r2026 : List GMsg) : Nat → List GMsg → Int → Option ((Int) ⊕ (List GMsg))
 | 0, _, _ => none
 | k + 1, v2065, v2066 =>
  bif (ilt v2066 (nlen (len r2026))) then
   (bif (inr v2066 (len r2026)) then
   (elAt r2026 v2066).bind fun x2069 =>
   (F152_l1_1 K a1916 r2026 v2065 x2069 K (wadd .i64 v2066 1) x2069.V).bind fun y2097 =>
   Sum.elim (fun w2098 =>
    some (.inl w2098))
    (fun w2100 =>
    bif (apok (len v2065) 1 16) then
    F152_l0_0 K a1916 r2026 k (appL v2065 [(GMsg.mk x2069.To w2100.2)]) w2100.1
    else none) y2097
   else none)
  else
  some (.inr v2065)
def F152_l0_0_S (a1916 : Int) (r2026 : List GMsg) (v2065 : List GMsg) (v2066 : Int) : TS := .on [0, 1, 384, 385, 448, 449, 512, 513] [(0, ⟨.one, 0, nob⟩), (1, ⟨.im, 0, (.lit (.int .i64 a1916))⟩), (384, ⟨.one, 0, nob⟩), (385, ⟨(.own 130), 0, (.sl (len r2026) (flat eGMsg r2026))⟩), (448, ⟨.one, 0, nob⟩), (449, ⟨(.own 130), 0, (.sl (len v2065) (flat eGMsg v2065))⟩), (512, ⟨.one, 0, nob⟩), (513, ⟨.im, 0, (.lit (.int .i64 v2066))⟩)]
def F152_l0_0_X0 (a1916 : Int) (r2026 : List GMsg) (w2104 : Int) : TS := .on [256, 257, 320, 321] [(256, ⟨.one, 0, nob⟩), (257, ⟨(.own 130), 0, (.sl 0 [])⟩), (320, ⟨.one, 0, nob⟩), (321, ⟨.im, 0, (.lit (.int .i64 w2104))⟩)]
def F152_l0_0_X1 (a1916 : Int) (r2026 : List GMsg) (w2106 : List GMsg) : TS := .on [448, 449] [(448, ⟨.one, 0, nob⟩), (449, ⟨(.own 130), 0, (.sl (len w2106) (flat eGMsg w2106))⟩)]
theorem F152_l0_0_ok (K : Nat) (a1916 : Int) (r2026 : List GMsg) : ∀ (k : Nat) (v2065 : List GMsg) (v2066 : Int) (r : (Int) ⊕ (List GMsg)), F152_l0_0 K a1916 r2026 k v2065 v2066 = some r → (Sum.elim (fun w => LoopEv E H hn152 0 c152_0 (F152_l0_0_S a1916 r2026 v2065 v2066) .ret (F152_l0_0_X0 a1916 r2026 w)) (fun w => LoopEv E H hn152 0 c152_0 (F152_l0_0_S a1916 r2026 v2065 v2066) (.exit 0) (F152_l0_0_X1 a1916 r2026 w))) r := by
 intro k
 induction k with
 | zero => intro v2065 v2066 r hF; cases hF
 | succ k ih =>
  intro v2065 v2066 r hF
  rw [F152_l0_0] at hF
  refine cond_some hF (fun h2067 hF => ?_) (fun h2067 hF => ?_)
  ·
   refine cond_some hF (fun h2068 hF => ?_) (fun _ hF => nomatch hF)
   refine bind_some hF (fun x2069 h2070 hF => ?_)
   have pq2108 : ∀ {l : List Cond}, HoldAll E H hn152 l → HoldAll E H hn152 (.int (nlen (len r2026)) (nlen (len r2026)) :: .test (ilt v2066 (nlen (len r2026))) true :: .test (inr v2066 (len r2026)) true :: .sub (flat eGMsg r2026) (nidx v2066 2) 2 [(.lit (.int .i64 x2069.To)), (.lit (.int .i64 x2069.V))] :: .int (wadd .i64 v2066 1) (wadd .i64 v2066 1) :: l) := fun z => ⟨rfl, h2067, h2068, ⟨rfl, sub_flat0 eGMsg_len h2070 2 (by decide)⟩, rfl, z⟩
   refine bind_some hF (fun y2097 h2096 hF => ?_)
   refine sum_some hF (fun w2098 hx hF => ?_) (fun w2100 hx hF => ?_)
   ·
    subst hx
    obtain rfl := Option.some.inj hF
    have pz : HoldAll E H hn152 [.loop 2 c152_1 (F152_l1_1_S a1916 r2026 v2065 x2069 (wadd .i64 v2066 1) x2069.V) .ret (F152_l1_1_X0 a1916 r2026 v2065 x2069 w2098)] := ⟨(F152_l1_1_ok K a1916 r2026 v2065 x2069 K (wadd .i64 v2066 1) x2069.V _ h2096), trivial⟩
    exact loop_endC (h := hn152) (l := 0) (c := c152_0) (ts := F152_l0_0_S a1916 r2026 v2065 v2066) (ts' := F152_l0_0_X0 a1916 r2026 w2098) (ex := .ret) (pq2108 pz) (by kernel_rfl) trivial
   subst hx
   refine cond_some hF (fun h2103 hF => ?_) (fun _ hF => nomatch hF)
   have pz : HoldAll E H hn152 [.loop 2 c152_1 (F152_l1_1_S a1916 r2026 v2065 x2069 (wadd .i64 v2066 1) x2069.V) (.exit 2) (F152_l1_1_X1 a1916 r2026 v2065 x2069 w2100), .test (leqm [(.lit (.int .i64 x2069.To)), (.lit (.int .i64 w2100.2))] 1 2) true, .test (apok (len v2065) 1 16) true, .sl (nadd (len v2065) 1) (lapp (flat eGMsg v2065) [(.lit (.int .i64 x2069.To)), (.lit (.int .i64 w2100.2))]) (len (α := GMsg) (appL v2065 [(GMsg.mk x2069.To w2100.2)])) (flat eGMsg (appL v2065 [(GMsg.mk x2069.To w2100.2)]))] := ⟨(F152_l1_1_ok K a1916 r2026 v2065 x2069 K (wadd .i64 v2066 1) x2069.V _ h2096), rfl, h2103, (app_ok (enc := eGMsg) (v2065 : List GMsg) [(GMsg.mk x2069.To w2100.2)]), trivial⟩
   have h0 := ih _ _ _ hF
   have hn := fun ex ts' => loop_nextC (h := hn152) (l := 0) (c := c152_0) (ts := F152_l0_0_S a1916 r2026 v2065 v2066) (ts1 := (F152_l0_0_S a1916 r2026 (appL v2065 [(GMsg.mk x2069.To w2100.2)]) w2100.1)) (ex := ex) (ts' := ts') (pq2108 pz) (by kernel_rfl)
   cases r with
   | inl w => exact hn _ _ h0
   | inr w => exact hn _ _ h0
  obtain rfl := Option.some.inj hF
  have pz : HoldAll E H hn152 [.int (nlen (len r2026)) (nlen (len r2026)), .test (ilt v2066 (nlen (len r2026))) false] := ⟨rfl, h2067, trivial⟩
  exact loop_endC (h := hn152) (l := 0) (c := c152_0) (ts := F152_l0_0_S a1916 r2026 v2065 v2066) (ts' := F152_l0_0_X1 a1916 r2026 v2065) (ex := (.exit 0)) pz (by kernel_rfl) trivial
def F152 (K : Nat) (a1916 : Int) (a1917 : List GMsg) : Option (List GMsg × Int) :=
 bif (ilt a1916 1) then
  (some ([], 1))
 else
 bif (ilt 5 a1916) then
  (some ([], 1))
 else
 (F91 K a1917).bind fun r2026 =>
 (F152_l0_0 K a1916 r2026 K [] 0).bind fun y2110 =>
 Sum.elim (fun w2111 =>
  some ([], w2111))
  (fun w2113 =>
  some (w2113, 0)) y2110
theorem F152_ok (K : Nat) (a1916 : Int) (a1917 : List GMsg) (r : List GMsg × Int) (hF : F152 K a1916 a1917 = some r) : Evt E H 152 [.one (.lit (.int .i64 a1916)), .one (.sl (len a1917) (flat eGMsg a1917))] (F152_res r) := by
 rw [F152] at hF
 refine cond_some hF (fun h1918 hF => ?_) (fun h1918 hF => ?_)
 ·
  obtain rfl := Option.some.inj hF
  have pz : HoldAll E H hn152 [.test (beqb (ilt a1916 1) false) false, .test (beqb (ilt a1916 1) false) false, .test (ilt a1916 1) true, .test true true] := ⟨(beqb_ft h1918), (beqb_ft h1918), h1918, rfl, trivial⟩
  exact fn_playC hn152 (r := F152_res ([], 1)) pz (by kernel_rfl) (by kernel_rfl)
 have pq2115 : ∀ {l : List Cond}, HoldAll E H hn152 l → HoldAll E H hn152 (.test (beqb (ilt a1916 1) false) true :: .test (beqb (ilt a1916 1) false) true :: .test (ilt a1916 1) false :: l) := fun z => ⟨(beqb_ff h1918), (beqb_ff h1918), h1918, z⟩
 refine cond_some hF (fun h1919 hF => ?_) (fun h1919 hF => ?_)
 ·
  obtain rfl := Option.some.inj hF
  have pz : HoldAll E H hn152 [.test (igt a1916 5) true] := ⟨(igt_eq h1919), trivial⟩
  exact fn_playC hn152 (r := F152_res ([], 1)) (pq2115 pz) (by kernel_rfl) (by kernel_rfl)
 refine bind_some hF (fun r2026 h2027 hF => ?_)
 have pq2116 : ∀ {l : List Cond}, HoldAll E H hn152 l → HoldAll E H hn152 (.test (igt a1916 5) false :: .call 91 [.one (.sl (len a1917) (flat eGMsg a1917))] (F91_res r2026) :: .test (leadsAny (Res.mk [(.one (.own 130 (.sl (len r2026) (flat eGMsg r2026))))] [])) false :: l) := fun z => ⟨(igt_eq h1919), (F91_ok K a1917 _ h2027), (leads_ok (by simp [leadsAny, RV.leads, RC.leads, leadsT, hasSl_lit, flat_ns eGMsg_ns])), z⟩
 refine bind_some hF (fun y2110 h2109 hF => ?_)
 refine sum_some hF (fun w2111 hx hF => ?_) (fun w2113 hx hF => ?_)
 ·
  subst hx
  obtain rfl := Option.some.inj hF
  have pz : HoldAll E H hn152 [.loop 0 c152_0 (F152_l0_0_S a1916 r2026 [] 0) .ret (F152_l0_0_X0 a1916 r2026 w2111)] := ⟨(F152_l0_0_ok K a1916 r2026 K [] 0 _ h2109), trivial⟩
  exact fn_playC hn152 (r := F152_res ([], w2111)) (pq2115 (pq2116 pz)) (by kernel_rfl) (by kernel_rfl)
 subst hx
 obtain rfl := Option.some.inj hF
 have pz : HoldAll E H hn152 [.loop 0 c152_0 (F152_l0_0_S a1916 r2026 [] 0) (.exit 0) (F152_l0_0_X1 a1916 r2026 w2113)] := ⟨(F152_l0_0_ok K a1916 r2026 K [] 0 _ h2109), trivial⟩
 exact fn_playC hn152 (r := F152_res (w2113, 0)) (pq2115 (pq2116 pz)) (by kernel_rfl) (by kernel_rfl)
theorem F173_spec (K : Nat) (y x : GMsg) : F173 K y x = some (!(leM x y)) := by
 rw [F173, leM]
 cases h1 : ilt y.To x.To
 · cases h2 : ieq y.To x.To
   · have := ilt_f.1 h1; have := ieq_f.1 h2
     rw [ilt_iff.2 (by omega : x.To < y.To)]; rfl
   · have e := ieq_iff.1 h2
     rw [ilt_f.2 (by omega : y.To ≤ x.To), ieq_iff.2 e.symm]
     simp only [cond_false, cond_true, Bool.false_or, Bool.true_and]
     congr 1
     cases h3 : ilt y.V x.V
     · rw [ile_iff.2 (by have := ilt_f.1 h3; omega)]; rfl
     · rw [ile_f.2 (by have := ilt_iff.1 h3; omega)]; rfl
 · have := ilt_iff.1 h1
   rw [ilt_f.2 (by omega : y.To ≤ x.To), ieq_f.2 (by omega : x.To ≠ y.To)]; rfl
theorem merge_ok {K : Nat} : ∀ (k : Nat) (a b c : List GMsg), a.length + b.length < k → a.length + b.length + c.length < 100000 → srtM (c ++ a) → srtM (c ++ b) →
   ∃ a' b' c', F172_173_l0_0 K k a b c = some (a', (b', c')) ∧ (c' ++ a' ++ b').Perm (c ++ a ++ b) ∧ srtM (c' ++ a' ++ b') := by
 intro k
 induction k with
 | zero => intro a b c h; omega
 | succ k ih =>
   intro a b c hk hl ha hb
   rw [F172_173_l0_0]
   cases a with
   | nil => exact ⟨[], b, c, rfl, List.Perm.refl _, by simpa using hb⟩
   | cons x a =>
     cases b with
     | nil =>
       refine ⟨x :: a, [], c, ?_, List.Perm.refl _, by simpa using ha⟩
       rw [ilt_iff.2 (show (0 : Int) < nlen (len (x :: a)) by show (0 : Int) < ((a.length + 1 : Nat) : Int); omega)]; rfl
     | cons y b =>
       simp only [List.length_cons] at hk hl
       have i1 : ilt 0 (nlen (len (x :: a))) = true := ilt_iff.2 (by show (0 : Int) < ((a.length + 1 : Nat) : Int); omega)
       have i2 : ilt 0 (nlen (len (y :: b))) = true := ilt_iff.2 (by show (0 : Int) < ((b.length + 1 : Nat) : Int); omega)
       have r1 : inr 0 (len (x :: a)) = true := decide_eq_true ⟨by omega, by show (0 : Int) < (((a.length + 1 : Nat)) : Int); omega⟩
       have r2 : inr 0 (len (y :: b)) = true := decide_eq_true ⟨by omega, by show (0 : Int) < (((b.length + 1 : Nat)) : Int); omega⟩
       have g1 : elAt (x :: a) 0 = some x := rfl
       have g2 : elAt (y :: b) 0 = some y := rfl
       have ap : apok (len c) 1 16 = true := decide_eq_true ⟨by show c.length + 1 ≤ _; omega, by show (c.length + 1) * 16 ≤ _; omega⟩
       have b1 : bnd 1 (nlen (len (x :: a))) (len (x :: a)) = true := by simp [bnd, nlen, len]; omega
       have b2 : bnd 1 (nlen (len (y :: b))) (len (y :: b)) = true := by simp [bnd, nlen, len]; omega
       have s1 : subL (x :: a) 1 (nlen (len (x :: a))) = a := by simp [subL, nlen, len]
       have s2 : subL (y :: b) 1 (nlen (len (y :: b))) = b := by simp [subL, nlen, len]
       rw [i1, i2, r1, r2, g1, g2, ap, b1, b2, s1, s2]
       simp only [cond_true, Option.bind_some, F173_spec]
       have ha' := List.pairwise_append.1 ha
       have hb' := List.pairwise_append.1 hb
       have hxa := List.pairwise_cons.1 ha'.2.1
       have hyb := List.pairwise_cons.1 hb'.2.1
       cases hxy : leM x y
       · have hyx := leM_total hxy
         obtain ⟨a', b', c', e, p, q⟩ := ih (x :: a) b (c ++ [y]) (by simp; omega) (by simp; omega)
           (by
             refine List.pairwise_append.2 ⟨List.pairwise_append.2 ⟨hb'.1, List.pairwise_singleton _ _, fun u hu w hw => ?_⟩, ha'.2.1, fun u hu w hw => ?_⟩
             · rw [List.mem_singleton.1 hw]; exact hb'.2.2 u hu y List.mem_cons_self
             · rcases List.mem_append.1 hu with hu | hu
               · exact ha'.2.2 u hu w hw
               · rw [List.mem_singleton.1 hu]
                 rcases List.mem_cons.1 hw with rfl | hw
                 · exact hyx
                 · exact leM_trans hyx (hxa.1 w hw))
           (by rw [List.append_assoc]; exact hb)
         refine ⟨a', b', c', e, p.trans ?_, q⟩
         have : (c ++ [y] ++ (x :: a) ++ b) = c ++ (y :: (x :: a)) ++ b := by simp
         rw [this, List.append_assoc, List.append_assoc]
         exact List.Perm.append_left c (List.perm_middle (l₁ := x :: a) (a := y) (l₂ := b)).symm
       · obtain ⟨a', b', c', e, p, q⟩ := ih a (y :: b) (c ++ [x]) (by simp; omega) (by simp; omega)
           (by rw [List.append_assoc]; exact ha)
           (by
             refine List.pairwise_append.2 ⟨List.pairwise_append.2 ⟨hb'.1, List.pairwise_singleton _ _, fun u hu w hw => ?_⟩, hb'.2.1, fun u hu w hw => ?_⟩
             · rw [List.mem_singleton.1 hw]; exact ha'.2.2 u hu x List.mem_cons_self
             · rcases List.mem_append.1 hu with hu | hu
               · exact hb'.2.2 u hu w hw
               · rw [List.mem_singleton.1 hu]
                 rcases List.mem_cons.1 hw with rfl | hw
                 · exact hxy
                 · exact leM_trans hxy (hyb.1 w hw))
         refine ⟨a', b', c', e, p.trans ?_, q⟩
         have : (c ++ [x] ++ a ++ (y :: b)) = c ++ (x :: a) ++ (y :: b) := by simp
         rw [this]
theorem F172_spec {K : Nat} : ∀ (d : Nat) (l : List GMsg), l.length < d → l.length < K → l.length < 10000 → F172_173 K d l = some (sortM l) := by
 intro d
 induction d with
 | zero => intro l h; omega
 | succ d ih =>
   intro l hd hK hl
   rw [F172_173]
   cases h2 : ilt (nlen (len l)) 2
   · have h2' : 2 ≤ l.length := by have := ilt_f.1 h2; simp only [nlen, len] at this; omega
     have hq : wquo .i64 (nlen (len l)) 2 = ((l.length / 2 : Nat) : Int) := by
       show IntKind.i64.wrap (((l.length : Nat) : Int).tdiv 2) = _
       rw [Int.tdiv_eq_ediv_of_nonneg (by omega), IntKind.wrap_i64]; omega
     have b1 : bnd 0 ((l.length / 2 : Nat) : Int) (len l) = true := by simp [bnd, len]; omega
     have b2 : bnd ((l.length / 2 : Nat) : Int) (nlen (len l)) (len l) = true := by simp [bnd, len, nlen]; omega
     have s1 : subL l 0 ((l.length / 2 : Nat) : Int) = l.take (l.length / 2) := by simp [subL]; omega
     have s2 : subL l ((l.length / 2 : Nat) : Int) (nlen (len l)) = l.drop (l.length / 2) := by
       simp only [subL, nlen, len, Int.toNat_natCast]
       exact List.take_of_length_le (by rw [List.length_drop]; omega)
     have l1 : (l.take (l.length / 2)).length ≤ l.length / 2 := by rw [List.length_take]; omega
     have l2 : (l.drop (l.length / 2)).length = l.length - l.length / 2 := List.length_drop
     have mk : mkok 0 (nlen (len l)) 16 = true := by simp [mkok, nlen, len]; omega
     obtain ⟨a', b', c', e, p, q⟩ := merge_ok (K := K) K (sortM (l.take (l.length / 2))) (sortM (l.drop (l.length / 2))) [] (by rw [sortM_len, sortM_len]; omega) (by rw [sortM_len, sortM_len]; simp only [List.length_nil]; omega) (by simpa using sortM_srt _) (by simpa using sortM_srt _)
     have er : repL (α := GMsg) 0 (GMsg.mk 0 0) = [] := rfl
     have pl : (c' ++ a' ++ b').Perm l := p.trans (by
       rw [List.nil_append]
       have := (sortM_perm (l.take (l.length / 2))).append (sortM_perm (l.drop (l.length / 2)))
       rwa [List.take_append_drop] at this)
     have ln := pl.length_eq
     rw [List.length_append, List.length_append] at ln
     have a1 : apok (len c') (len a') 16 = true := decide_eq_true ⟨by show c'.length + a'.length ≤ _; omega, by show (c'.length + a'.length) * 16 ≤ _; omega⟩
     have a2 : apok (len (appL c' a')) (len b') 16 = true := decide_eq_true ⟨by show (c' ++ a').length + b'.length ≤ _; rw [List.length_append]; omega, by show ((c' ++ a').length + b'.length) * 16 ≤ _; rw [List.length_append]; omega⟩
     rw [cond_false, hq, b1, b2, s1, s2, ih _ (by omega) (by omega) (by omega), ih _ (by omega) (by omega) (by omega), mk, er]
     simp only [cond_true, Option.bind_some, e, a1, a2]
     rw [sortM_eq q pl]; rfl
   · have h2' : l.length < 2 := by have := ilt_iff.1 h2; simp only [nlen, len] at this; omega
     have ap : apok 0 (len l) 16 = true := decide_eq_true ⟨by show 0 + l.length ≤ _; omega, by show (0 + l.length) * 16 ≤ _; omega⟩
     rw [cond_true, ap, cond_true]
     congr 1
     rw [sortM_eq (l := l) (r := l) ?_ (List.Perm.refl l)]; rfl
     match l, h2' with
     | [], _ => exact List.Pairwise.nil
     | [x], _ => exact List.pairwise_singleton _ _
theorem F169_spec {K : Nat} (l : List GMsg) (hK : l.length < K) (hl : l.length < 10000) : F169 K l = some (sortM l) := by
 rw [F169, F172_spec K l hK hK hl]; rfl
def foldC (p : Int) : List GMsg → GMsg → List GMsg → Int ⊕ List GMsg
 | [], cur, done => .inr (done ++ [cur])
 | x :: r, cur, done => bif ieq cur.To x.To then (bif ieq (foldS p cur.V x.V).2 0 then foldC p r (GMsg.mk cur.To (foldS p cur.V x.V).1) done else .inl (foldS p cur.V x.V).2) else foldC p r x (done ++ [cur])
def foldO (p : Int) : List GMsg → List GMsg → Int ⊕ List GMsg
 | [], done => .inr done
 | x :: r, done => foldC p r x done
def boxO : Int ⊕ List GMsg → List GMsg × Int
 | .inl e => ([], e)
 | .inr s => (s, 0)
def boxS (p : Int) (l : List GMsg) : List GMsg × Int := bif pbad p then ([], 1) else boxO (foldO p (sortM l) [])
theorem put_last {α : Type} (d : List α) (c x : α) : inr (wsub .i64 (nlen (len (d ++ [c]))) 1) (len (d ++ [c])) = true ∧ (d.length < 1000000 → elAt (d ++ [c]) (wsub .i64 (nlen (len (d ++ [c]))) 1) = some c ∧ putAt (d ++ [c]) (wsub .i64 (nlen (len (d ++ [c]))) 1) x = d ++ [x]) ∨ ¬ d.length < 1000000 := by
 by_cases h : d.length < 1000000
 · left
   have w : wsub .i64 (nlen (len (d ++ [c]))) 1 = ((d.length : Nat) : Int) := by
     show IntKind.i64.wrap (((d ++ [c]).length : Int) - 1) = _
     rw [List.length_append, IntKind.wrap_i64]; simp; omega
   rw [w]
   refine ⟨decide_eq_true ⟨by omega, by show (d.length : Int) < ((d ++ [c]).length : Int); simp; omega⟩, fun _ => ⟨by rw [elAt_nat]; simp, ?_⟩⟩
   unfold putAt
   rw [Int.toNat_natCast, List.set_append_right (h := by omega)]; simp
 · right; exact h
theorem F150_spec {K : Nat} (p : Int) (l : List GMsg) (hv : ∀ x ∈ l, i64 x.V) (hK : l.length < K) (hl : l.length < 10000) : F150 K p l = some (boxS p l) := by
 have i0 : i64 0 := by unfold i64; omega
 have hz : (foldS p 0 0).2 = bif pbad p then 1 else 0 := by
   rw [foldS]
   cases pbad p
   · have : addS 0 0 = (0, true) := rfl
     have e : ilt 0 0 = false := rfl
     rw [this, e]
     cases ieq p 5 <;> cases ieq p 4 <;> rfl
   · rfl
 rw [F150, F97_spec K p i0 i0, Option.bind_some, hz, boxS, F169_spec l hK hl]
 cases hb : pbad p
 · let step : GMsg → List GMsg → (List GMsg → Option (Int ⊕ List GMsg)) → Option (Int ⊕ List GMsg) := fun x s c =>
     bif (ilt 0 (nlen (len s))) then
       (bif (inr (wsub .i64 (nlen (len s)) 1) (len s)) then
       (elAt s (wsub .i64 (nlen (len s)) 1)).bind fun y =>
       bif (ieq y.To x.To) then
         ((F97 K p y.V x.V).bind fun r =>
         bif (ieq r.2 0) then
           (c (putAt s (wsub .i64 (nlen (len s)) 1) (GMsg.mk y.To r.1)))
         else
         some (.inl r.2))
       else
       bif (apok (len s) 1 16) then
       c (appL s [x])
       else none
       else none)
     else
     bif (apok (len s) 1 16) then
     c (appL s [x])
     else none
   have hsl : (sortM l).length = l.length := sortM_len l
   have h := scanL (l := sortM l) (L := fun k s i => F150_l0_0 K p (sortM l) k s i) step (fun s => some (.inr s)) (fun k s i _ => rfl) (by omega) (K := K) (by omega) []
   have hw : ∀ (r : List GMsg) (d : List GMsg) (c : GMsg), d.length + r.length < 100000 → i64 c.V → (∀ x ∈ r, i64 x.V) → goL step (fun s => some (.inr s)) r (d ++ [c]) = some (foldC p r c d) := by
     intro r
     induction r with
     | nil => intro d c _ _ _; rfl
     | cons x r ih =>
       intro d c hd hc hr
       simp only [List.length_cons] at hd
       have hx := hr x List.mem_cons_self
       have hr' := fun y hy => hr y (List.mem_cons_of_mem _ hy)
       rw [goL]
       show (bif (ilt 0 (nlen (len (d ++ [c])))) then
         (bif (inr (wsub .i64 (nlen (len (d ++ [c]))) 1) (len (d ++ [c]))) then
         (elAt (d ++ [c]) (wsub .i64 (nlen (len (d ++ [c]))) 1)).bind fun y =>
         bif (ieq y.To x.To) then
           ((F97 K p y.V x.V).bind fun q =>
           bif (ieq q.2 0) then
             (goL step (fun s => some (.inr s)) r (putAt (d ++ [c]) (wsub .i64 (nlen (len (d ++ [c]))) 1) (GMsg.mk y.To q.1)))
           else
           some (.inl q.2))
         else
         bif (apok (len (d ++ [c])) 1 16) then
         goL step (fun s => some (.inr s)) r (appL (d ++ [c]) [x])
         else none
         else none)
       else
       bif (apok (len (d ++ [c])) 1 16) then
       goL step (fun s => some (.inr s)) r (appL (d ++ [c]) [x])
       else none) = _
       have i1 : ilt 0 (nlen (len (d ++ [c]))) = true := ilt_iff.2 (by show (0 : Int) < ((d ++ [c]).length : Int); rw [List.length_append]; simp only [List.length_singleton]; omega)
       have ap : apok (len (d ++ [c])) 1 16 = true := decide_eq_true ⟨by show (d ++ [c]).length + 1 ≤ _; rw [List.length_append]; simp only [List.length_singleton]; omega, by show ((d ++ [c]).length + 1) * 16 ≤ _; rw [List.length_append]; simp only [List.length_singleton]; omega⟩
       rcases put_last d c (GMsg.mk c.To (foldS p c.V x.V).1) with ⟨q1, q2⟩ | q
       · obtain ⟨q2, q3⟩ := q2 (by omega)
         rw [i1, q1, q2, ap]
         simp only [cond_true, Option.bind_some, F97_spec K p hc hx, q3]
         rw [foldC]
         cases ieq c.To x.To
         · rw [cond_false, cond_false]
           exact ih (d ++ [c]) x (by rw [List.length_append]; simp only [List.length_singleton]; omega) hx hr'
         · rw [cond_true, cond_true]
           cases ieq (foldS p c.V x.V).2 0
           · rfl
           · rw [cond_true, cond_true]
             exact ih d _ (by omega) (foldS_i64 hc hx) hr'
       · omega
   have h' : F150_l0_0 K p (sortM l) K [] 0 = some (foldO p (sortM l) []) := by
     rw [show F150_l0_0 K p (sortM l) K [] 0 = _ from h]
     have hs : ∀ x ∈ sortM l, i64 x.V := fun x hx => hv x ((sortM_perm l).mem_iff.1 hx)
     generalize sortM l = m at *
     cases m with
     | nil => rfl
     | cons x r =>
       rw [goL]
       show goL step (fun s => some (.inr s)) r (appL [] [x]) = _
       simp only [List.length_cons] at hsl
       exact hw r [] x (by simp only [List.length_nil]; omega) (hs x List.mem_cons_self) (fun y hy => hs y (List.mem_cons_of_mem _ hy))
   have z0 : ieq (bif false then 1 else 0) 0 = true := rfl
   rw [z0, cond_true, Option.bind_some, h', Option.bind_some]
   cases foldO p (sortM l) [] <;> rfl
 · rfl
def foldI (p t : Int) : List GMsg → Int → Int ⊕ (List GMsg × Int)
 | [], v => .inr ([], v)
 | x :: r, v => bif ieq x.To t then (bif ieq (foldS p v x.V).2 0 then foldI p t r (foldS p v x.V).1 else .inl (foldS p v x.V).2) else .inr (x :: r, v)
theorem ieq_comm (a b : Int) : ieq a b = ieq b a := by
 cases h : ieq b a
 · exact ieq_f.2 fun q => ieq_f.1 h q.symm
 · exact ieq_iff.2 (ieq_iff.1 h).symm
theorem foldC_I (p t : Int) : ∀ (r : List GMsg) (v : Int) (d : List GMsg), foldC p r (GMsg.mk t v) d = match foldI p t r v with | .inl e => .inl e | .inr w => foldO p w.1 (d ++ [GMsg.mk t w.2])
 | [], v, d => rfl
 | x :: r, v, d => by
   rw [foldC, foldI, ieq_comm x.To t]
   cases ieq t x.To
   · rfl
   · rw [cond_true, cond_true]
     cases ieq (foldS p v x.V).2 0
     · rfl
     · rw [cond_true, cond_true]; exact foldC_I p t r _ d
theorem F152_in {K : Nat} (p : Int) (l : List GMsg) (o : List GMsg) (x : GMsg) (hl : l.length < 100000) (hs : ∀ y ∈ l, i64 y.V) : ∀ (r : List GMsg) (k i : Nat) (v : Int), l.drop i = r → r.length < k → i64 v → i ≤ l.length →
   (∃ e, foldI p x.To r v = .inl e ∧ F152_l1_1 K p l o x k (i : Int) v = some (.inl e)) ∨
   (∃ (n : Nat) (v' : Int), foldI p x.To r v = .inr (l.drop n, v') ∧ F152_l1_1 K p l o x k (i : Int) v = some (.inr ((n : Int), v')) ∧ i ≤ n ∧ n ≤ l.length ∧ i64 v') := by
 intro r
 induction r with
 | nil =>
   intro k i v hr hk hv hi
   obtain ⟨k, rfl⟩ : ∃ q, k = q + 1 := ⟨k - 1, by omega⟩
   right
   refine ⟨i, v, by rw [hr]; rfl, ?_, Nat.le_refl _, hi, hv⟩
   rcases at_idx l i with ⟨y, e1, _⟩ | ⟨e1, e2⟩
   · rw [hr] at e1; cases e1
   · rw [F152_l1_1, e2]; rfl
 | cons y r ih =>
   intro k i v hr hk hv hi
   obtain ⟨k, rfl⟩ : ∃ q, k = q + 1 := ⟨k - 1, by omega⟩
   simp only [List.length_cons] at hk
   rcases at_idx l i with ⟨y', e1, e2, e3, e4⟩ | ⟨e1, _⟩
   · rw [hr] at e1
     injection e1 with e1 e5
     subst e1
     have hlt := lt_of_drop' hr
     have hy : i64 y.V := hs y (List.mem_of_mem_drop (by rw [hr]; exact List.mem_cons_self))
     rw [F152_l1_1, e2, e3, e4, foldI]
     simp only [cond_true, Option.bind_some, F98_spec K p hv hy]
     cases ieq y.To x.To
     · right
       exact ⟨i, v, by rw [hr]; rfl, rfl, Nat.le_refl _, hi, hv⟩
     · rw [cond_true, cond_true]
       cases ieq (foldS p v y.V).2 0
       · left; exact ⟨_, rfl, rfl⟩
       · rw [cond_true, cond_true, wadd_nat (by omega)]
         rcases ih k (i + 1) _ e5.symm (by omega) (foldS_i64 hv hy) (by omega) with h | ⟨n, v', h1, h2, h3, h4, h5⟩
         · left; exact h
         · right; exact ⟨n, v', h1, h2, by omega, h4, h5⟩
   · rw [hr] at e1; cases e1
theorem F152_out {K : Nat} (p : Int) (l : List GMsg) (hl : l.length < 100000) (hK : l.length < K) (hs : ∀ y ∈ l, i64 y.V) : ∀ (k i : Nat) (d : List GMsg), l.length - i < k → i ≤ l.length → d.length ≤ i →
   F152_l0_0 K p l k d (i : Int) = some (foldO p (l.drop i) d) := by
 intro k
 induction k with
 | zero => intro i d h; omega
 | succ k ih =>
   intro i d hk hi hd
   rw [F152_l0_0]
   rcases at_idx l i with ⟨x, e1, e2, e3, e4⟩ | ⟨e1, e2⟩
   · have hlt := lt_of_drop' e1
     have hx : i64 x.V := hs x (List.mem_of_mem_drop (by rw [e1]; exact List.mem_cons_self))
     have ap : apok (len d) 1 16 = true := decide_eq_true ⟨by show d.length + 1 ≤ _; omega, by show (d.length + 1) * 16 ≤ _; omega⟩
     rw [e2, e3, e4, e1, foldO, show foldC p (l.drop (i + 1)) x d = foldC p (l.drop (i + 1)) (GMsg.mk x.To x.V) d from rfl, foldC_I, wadd_nat (by omega)]
     simp only [cond_true, Option.bind_some, ap]
     rcases F152_in (K := K) p l d x hl hs _ K (i + 1) x.V rfl (by rw [List.length_drop]; omega) hx (by omega) with ⟨e, h1, h2⟩ | ⟨n, v', h1, h2, h3, h4, h5⟩
     · rw [h1, h2]; rfl
     · rw [h1, h2]
       simp only [Option.bind_some, Sum.elim_inr]
       exact ih n (d ++ [GMsg.mk x.To v']) (by omega) h4 (by rw [List.length_append]; simp only [List.length_singleton]; omega)
   · rw [e2, e1]; rfl
theorem F152_spec {K : Nat} (p : Int) (l : List GMsg) (hv : ∀ x ∈ l, i64 x.V) (hK : l.length < K) (hl : l.length < 10000) : F152 K p l = some (boxS p l) := by
 have hsl := sortM_len l
 have hs : ∀ x ∈ sortM l, i64 x.V := fun x hx => hv x ((sortM_perm l).mem_iff.1 hx)
 have h := F152_out (K := K) p (sortM l) (by omega) (by omega) hs K 0 [] (by omega) (by omega) (by simp)
 have h' : F152_l0_0 K p (sortM l) K [] 0 = some (foldO p (sortM l) []) := h
 rw [F152, boxS, pbad, F91_spec l (by omega) hK, Option.bind_some, h', Option.bind_some]
 cases ilt p 1
 · cases ilt 5 p
   · cases foldO p (sortM l) [] <;> rfl
   · rfl
 · rfl
noncomputable def hn139 : Hint := { H 139 with nt := 26, prot := 0 }
noncomputable def c139_0 : Code := loopOf E 139 0
def F139_res (r2195 : List Int) : Res := ⟨[(.one (.own 3 (.sl (len r2195) (flat (eInt .i64) r2195))))], []⟩
def F139_l0_0 (K : Nat) (a2175 : GGraph) (a2176 : GJob) (a2177 : Int) : Nat → List Int → Int → Option (List Int)
 | 0, _, _ => none
 | k + 1, v2182, v2183 =>
  bif (ilt v2183 a2175.N) then
   (bif (izero a2176.Parts) then none else
   bif (ieq (wrem v2183 a2176.Parts) a2177) then
    (bif (apok (len v2182) 1 8) then
    F139_l0_0 K a2175 a2176 a2177 k (appL v2182 [v2183]) (wadd .i64 v2183 1)
    else none)
   else
   F139_l0_0 K a2175 a2176 a2177 k v2182 (wadd .i64 v2183 1))
  else
  some v2182
def F139_l0_0_S (a2175 : GGraph) (a2176 : GJob) (a2177 : Int) (v2182 : List Int) (v2183 : Int) : TS := .on [128, 129, 192, 193, 194, 256, 257, 258, 259, 260, 448, 449, 512, 513] [(128, ⟨.one, 0, nob⟩), (129, ⟨.im, 0, (.lit (.int .i64 a2177))⟩), (192, ⟨(.box 62 2), 0, nob⟩), (193, ⟨.im, 0, (.lit (.int .i64 a2175.N))⟩), (194, ⟨.im, 0, (.sl (len a2175.Edges) (flat eGEdge a2175.Edges))⟩), (256, ⟨(.box 64 4), 0, nob⟩), (257, ⟨.im, 0, (.lit (.int .i64 a2176.Prog))⟩), (258, ⟨.im, 0, (.lit (.int .i64 a2176.Source))⟩), (259, ⟨.im, 0, (.lit (.int .i64 a2176.Limit))⟩), (260, ⟨.im, 0, (.lit (.int .i64 a2176.Parts))⟩), (448, ⟨.one, 0, nob⟩), (449, ⟨(.own 3), 0, (.sl (len v2182) (flat (eInt .i64) v2182))⟩), (512, ⟨.one, 0, nob⟩), (513, ⟨.im, 0, (.lit (.int .i64 v2183))⟩)]
def F139_l0_0_X0 (a2175 : GGraph) (a2176 : GJob) (a2177 : Int) (w2188 : List Int) : TS := .on [448, 449] [(448, ⟨.one, 0, nob⟩), (449, ⟨(.own 3), 0, (.sl (len w2188) (flat (eInt .i64) w2188))⟩)]
theorem F139_l0_0_ok (K : Nat) (a2175 : GGraph) (a2176 : GJob) (a2177 : Int) : ∀ (k : Nat) (v2182 : List Int) (v2183 : Int) (r : List Int), F139_l0_0 K a2175 a2176 a2177 k v2182 v2183 = some r → LoopEv E H hn139 0 c139_0 (F139_l0_0_S a2175 a2176 a2177 v2182 v2183) (.exit 0) (F139_l0_0_X0 a2175 a2176 a2177 r) := by
 intro k
 induction k with
 | zero => intro v2182 v2183 r hF; cases hF
 | succ k ih =>
  intro v2182 v2183 r hF
  rw [F139_l0_0] at hF
  refine cond_some hF (fun h2184 hF => ?_) (fun h2184 hF => ?_)
  ·
   refine cond_some hF (fun _ hF => nomatch hF) (fun h2185 hF => ?_)
   have pq2190 : ∀ {l : List Cond}, HoldAll E H hn139 l → HoldAll E H hn139 (.test (ilt v2183 a2175.N) true :: .test (izero a2176.Parts) false :: .int (wrem v2183 a2176.Parts) (wrem v2183 a2176.Parts) :: l) := fun z => ⟨h2184, h2185, rfl, z⟩
   refine cond_some hF (fun h2186 hF => ?_) (fun h2186 hF => ?_)
   ·
    refine cond_some hF (fun h2187 hF => ?_) (fun _ hF => nomatch hF)
    have pz : HoldAll E H hn139 [.test (ieq (wrem v2183 a2176.Parts) a2177) true, .test (leqm [(.lit (.int .i64 v2183))] 1 1) true, .test (apok (len v2182) 1 8) true, .sl (nadd (len v2182) 1) (lapp (flat (eInt .i64) v2182) [(.lit (.int .i64 v2183))]) (len (α := Int) (appL v2182 [v2183])) (flat (eInt .i64) (appL v2182 [v2183])), .int (wadd .i64 v2183 1) (wadd .i64 v2183 1)] := ⟨h2186, rfl, h2187, (app_ok (enc := (eInt .i64)) (v2182 : List Int) [v2183]), rfl, trivial⟩
    have h0 := ih _ _ _ hF
    have hn := fun ex ts' => loop_nextC (h := hn139) (l := 0) (c := c139_0) (ts := F139_l0_0_S a2175 a2176 a2177 v2182 v2183) (ts1 := (F139_l0_0_S a2175 a2176 a2177 (appL v2182 [v2183]) (wadd .i64 v2183 1))) (ex := ex) (ts' := ts') (pq2190 pz) (by kernel_rfl)
    exact hn _ _ h0
   have pz : HoldAll E H hn139 [.test (ieq (wrem v2183 a2176.Parts) a2177) false, .int (wadd .i64 v2183 1) (wadd .i64 v2183 1)] := ⟨h2186, rfl, trivial⟩
   have h0 := ih _ _ _ hF
   have hn := fun ex ts' => loop_nextC (h := hn139) (l := 0) (c := c139_0) (ts := F139_l0_0_S a2175 a2176 a2177 v2182 v2183) (ts1 := (F139_l0_0_S a2175 a2176 a2177 v2182 (wadd .i64 v2183 1))) (ex := ex) (ts' := ts') (pq2190 pz) (by kernel_rfl)
   exact hn _ _ h0
  obtain rfl := Option.some.inj hF
  have pz : HoldAll E H hn139 [.test (ilt v2183 a2175.N) false] := ⟨h2184, trivial⟩
  exact loop_endC (h := hn139) (l := 0) (c := c139_0) (ts := F139_l0_0_S a2175 a2176 a2177 v2182 v2183) (ts' := F139_l0_0_X0 a2175 a2176 a2177 v2182) (ex := (.exit 0)) pz (by kernel_rfl) trivial
def F139 (K : Nat) (a2175 : GGraph) (a2176 : GJob) (a2177 : Int) : Option (List Int) :=
 (F139_l0_0 K a2175 a2176 a2177 K [] 0).bind fun w2193 =>
 some w2193
theorem F139_ok (K : Nat) (a2175 : GGraph) (a2176 : GJob) (a2177 : Int) (r : List Int) (hF : F139 K a2175 a2176 a2177 = some r) : Evt E H 139 [.agg (eGGraph a2175), .agg (eGJob a2176), .one (.lit (.int .i64 a2177))] (F139_res r) := by
 rw [F139] at hF
 refine bind_some hF (fun w2193 h2191 hF => ?_)
 obtain rfl := Option.some.inj hF
 have pz : HoldAll E H hn139 [.loop 0 c139_0 (F139_l0_0_S a2175 a2176 a2177 [] 0) (.exit 0) (F139_l0_0_X0 a2175 a2176 a2177 w2193)] := ⟨(F139_l0_0_ok K a2175 a2176 a2177 K [] 0 _ h2191), trivial⟩
 exact fn_playC hn139 (r := F139_res w2193) pz (by kernel_rfl) (by kernel_rfl)
noncomputable def hn75 : Hint := { H 75 with nt := 21, prot := 0 }
def F75_res (r3112 : Int) : Res := ⟨[(.one (.im (.lit (.int .i64 r3112))))], []⟩
def F75 (K : Nat) (a3104 : GJob) (a3105 : Int) : Option (Int) :=
 bif (ilt a3105 0) then
  (some (-1))
 else
 bif (ilt a3104.Parts 1) then
  (some (-1))
 else
 bif (ilt 6 a3104.Parts) then
  (some (-1))
 else
 bif (izero a3104.Parts) then none else
 some (wrem a3105 a3104.Parts)
theorem F75_ok (K : Nat) (a3104 : GJob) (a3105 : Int) (r : Int) (hF : F75 K a3104 a3105 = some r) : Evt E H 75 [.agg (eGJob a3104), .one (.lit (.int .i64 a3105))] (F75_res r) := by
 rw [F75] at hF
 refine cond_some hF (fun h3106 hF => ?_) (fun h3106 hF => ?_)
 ·
  obtain rfl := Option.some.inj hF
  have pz : HoldAll E H hn75 [.test (beqb (ilt a3105 0) false) false, .test (beqb (ilt a3105 0) false) false, .test (beqb (ilt a3105 0) false) false, .test (ilt a3105 0) true, .test (beqb true false) false, .test (beqb true false) false, .test (beqb true false) false, .test true true, .test true true] := ⟨(beqb_ft h3106), (beqb_ft h3106), (beqb_ft h3106), h3106, (beqb_ft rfl), (beqb_ft rfl), (beqb_ft rfl), rfl, rfl, trivial⟩
  exact fn_playC hn75 (r := F75_res (-1)) pz (by kernel_rfl) (by kernel_rfl)
 have pq3110 : ∀ {l : List Cond}, HoldAll E H hn75 l → HoldAll E H hn75 (.test (beqb (ilt a3105 0) false) true :: .test (beqb (ilt a3105 0) false) true :: .test (beqb (ilt a3105 0) false) true :: .test (ilt a3105 0) false :: l) := fun z => ⟨(beqb_ff h3106), (beqb_ff h3106), (beqb_ff h3106), h3106, z⟩
 refine cond_some hF (fun h3107 hF => ?_) (fun h3107 hF => ?_)
 ·
  obtain rfl := Option.some.inj hF
  have pz : HoldAll E H hn75 [.test (beqb (ilt a3104.Parts 1) false) false, .test (beqb (ilt a3104.Parts 1) false) false, .test (beqb (ilt a3104.Parts 1) false) false, .test (ilt a3104.Parts 1) true, .test true true] := ⟨(beqb_ft h3107), (beqb_ft h3107), (beqb_ft h3107), h3107, rfl, trivial⟩
  exact fn_playC hn75 (r := F75_res (-1)) (pq3110 pz) (by kernel_rfl) (by kernel_rfl)
 have pq3111 : ∀ {l : List Cond}, HoldAll E H hn75 l → HoldAll E H hn75 (.test (beqb (ilt a3104.Parts 1) false) true :: .test (beqb (ilt a3104.Parts 1) false) true :: .test (beqb (ilt a3104.Parts 1) false) true :: .test (ilt a3104.Parts 1) false :: l) := fun z => ⟨(beqb_ff h3107), (beqb_ff h3107), (beqb_ff h3107), h3107, z⟩
 refine cond_some hF (fun h3108 hF => ?_) (fun h3108 hF => ?_)
 ·
  obtain rfl := Option.some.inj hF
  have pz : HoldAll E H hn75 [.test (igt a3104.Parts 6) true] := ⟨(igt_eq h3108), trivial⟩
  exact fn_playC hn75 (r := F75_res (-1)) (pq3110 (pq3111 pz)) (by kernel_rfl) (by kernel_rfl)
 refine cond_some hF (fun _ hF => nomatch hF) (fun h3109 hF => ?_)
 obtain rfl := Option.some.inj hF
 have pz : HoldAll E H hn75 [.test (igt a3104.Parts 6) false, .test (izero a3104.Parts) false, .int (wrem a3105 a3104.Parts) (wrem a3105 a3104.Parts)] := ⟨(igt_eq h3108), h3109, rfl, trivial⟩
 exact fn_playC hn75 (r := F75_res (wrem a3105 a3104.Parts)) (pq3110 (pq3111 pz)) (by kernel_rfl) (by kernel_rfl)
noncomputable def hn138 : Hint := { H 138 with nt := 22, prot := 0 }
def F138_res (r3241 : Int) : Res := ⟨[(.one (.im (.lit (.int .i64 r3241))))], []⟩
def F138 (K : Nat) (a3234 : Int) (a3235 : Int) (a3236 : Int) : Option (Int) :=
 bif (ilt a3236 0) then
  (some 0)
 else
 bif (ile a3235 a3236) then
  (some 0)
 else
 bif (izero a3235) then none else
 some (wquo .i64 (wsub .i64 (wadd .i64 (wsub .i64 a3234 a3236) a3235) 1) a3235)
theorem F138_ok (K : Nat) (a3234 : Int) (a3235 : Int) (a3236 : Int) (r : Int) (hF : F138 K a3234 a3235 a3236 = some r) : Evt E H 138 [.one (.lit (.int .i64 a3234)), .one (.lit (.int .i64 a3235)), .one (.lit (.int .i64 a3236))] (F138_res r) := by
 rw [F138] at hF
 refine cond_some hF (fun h3237 hF => ?_) (fun h3237 hF => ?_)
 ·
  obtain rfl := Option.some.inj hF
  have pz : HoldAll E H hn138 [.test (beqb (ilt a3236 0) false) false, .test (beqb (ilt a3236 0) false) false, .test (beqb (ilt a3236 0) false) false, .test (ilt a3236 0) true, .test true true] := ⟨(beqb_ft h3237), (beqb_ft h3237), (beqb_ft h3237), h3237, rfl, trivial⟩
  exact fn_playC hn138 (r := F138_res 0) pz (by kernel_rfl) (by kernel_rfl)
 have pq3240 : ∀ {l : List Cond}, HoldAll E H hn138 l → HoldAll E H hn138 (.test (beqb (ilt a3236 0) false) true :: .test (beqb (ilt a3236 0) false) true :: .test (beqb (ilt a3236 0) false) true :: .test (ilt a3236 0) false :: l) := fun z => ⟨(beqb_ff h3237), (beqb_ff h3237), (beqb_ff h3237), h3237, z⟩
 refine cond_some hF (fun h3238 hF => ?_) (fun h3238 hF => ?_)
 ·
  obtain rfl := Option.some.inj hF
  have pz : HoldAll E H hn138 [.test (ige a3236 a3235) true] := ⟨(ige_eq h3238), trivial⟩
  exact fn_playC hn138 (r := F138_res 0) (pq3240 pz) (by kernel_rfl) (by kernel_rfl)
 refine cond_some hF (fun _ hF => nomatch hF) (fun h3239 hF => ?_)
 obtain rfl := Option.some.inj hF
 have pz : HoldAll E H hn138 [.test (ige a3236 a3235) false, .int (wsub .i64 a3234 a3236) (wsub .i64 a3234 a3236), .int (wadd .i64 (wsub .i64 a3234 a3236) a3235) (wadd .i64 (wsub .i64 a3234 a3236) a3235), .int (wsub .i64 (wadd .i64 (wsub .i64 a3234 a3236) a3235) 1) (wsub .i64 (wadd .i64 (wsub .i64 a3234 a3236) a3235) 1), .test (izero a3235) false, .int (wquo .i64 (wsub .i64 (wadd .i64 (wsub .i64 a3234 a3236) a3235) 1) a3235) (wquo .i64 (wsub .i64 (wadd .i64 (wsub .i64 a3234 a3236) a3235) 1) a3235)] := ⟨(ige_eq h3238), rfl, rfl, rfl, h3239, rfl, trivial⟩
 exact fn_playC hn138 (r := F138_res (wquo .i64 (wsub .i64 (wadd .i64 (wsub .i64 a3234 a3236) a3235) 1) a3235)) (pq3240 pz) (by kernel_rfl) (by kernel_rfl)
noncomputable def hn77 : Hint := { H 77 with nt := 18, prot := 0 }
def F77_res (r3246 : Int) : Res := ⟨[(.one (.im (.lit (.int .i64 r3246))))], []⟩
def F77 (K : Nat) (a3127 : GGraph) (a3128 : GJob) (a3129 : Int) : Option (Int) :=
 (F94 K a3127 a3128).bind fun r3231 =>
 bif (ieq r3231 0) then
  ((F138 K a3127.N a3128.Parts a3129).bind fun r3242 =>
  bif (ilt 0 r3242) then
   (some r3242)
  else
  some 0)
 else
 some 0
theorem F77_ok (K : Nat) (a3127 : GGraph) (a3128 : GJob) (a3129 : Int) (r : Int) (hF : F77 K a3127 a3128 a3129 = some r) : Evt E H 77 [.agg (eGGraph a3127), .agg (eGJob a3128), .one (.lit (.int .i64 a3129))] (F77_res r) := by
 rw [F77] at hF
 refine bind_some hF (fun r3231 h3232 hF => ?_)
 refine cond_some hF (fun h3233 hF => ?_) (fun h3233 hF => ?_)
 ·
  refine bind_some hF (fun r3242 h3243 hF => ?_)
  have pq3245 : ∀ {l : List Cond}, HoldAll E H hn77 l → HoldAll E H hn77 (.call 94 [.agg (eGGraph a3127), .agg (eGJob a3128)] (F94_res r3231) :: .test (leadsAny (Res.mk [(.one (.im (.lit (.int .i64 r3231))))] [])) false :: .test (ine r3231 0) false :: .call 138 [.one (.lit (.int .i64 a3127.N)), .one (.lit (.int .i64 a3128.Parts)), .one (.lit (.int .i64 a3129))] (F138_res r3242) :: .test (leadsAny (Res.mk [(.one (.im (.lit (.int .i64 r3242))))] [])) false :: l) := fun z => ⟨(F94_ok K a3127 a3128 _ h3232), (leads_ok (by simp [leadsAny, RV.leads, RC.leads, leadsT, hasSl_lit, flat_ns eGJob_ns])), (ine_t h3233), (F138_ok K a3127.N a3128.Parts a3129 _ h3243), (leads_ok (by simp [leadsAny, RV.leads, RC.leads, leadsT, hasSl_lit, flat_ns eGJob_ns])), z⟩
  refine cond_some hF (fun h3244 hF => ?_) (fun h3244 hF => ?_)
  ·
   obtain rfl := Option.some.inj hF
   have pz : HoldAll E H hn77 [.test (igt r3242 0) true] := ⟨(igt_eq h3244), trivial⟩
   exact fn_playC hn77 (r := F77_res r3242) (pq3245 pz) (by kernel_rfl) (by kernel_rfl)
  obtain rfl := Option.some.inj hF
  have pz : HoldAll E H hn77 [.test (igt r3242 0) false] := ⟨(igt_eq h3244), trivial⟩
  exact fn_playC hn77 (r := F77_res 0) (pq3245 pz) (by kernel_rfl) (by kernel_rfl)
 obtain rfl := Option.some.inj hF
 have pz : HoldAll E H hn77 [.call 94 [.agg (eGGraph a3127), .agg (eGJob a3128)] (F94_res r3231), .test (leadsAny (Res.mk [(.one (.im (.lit (.int .i64 r3231))))] [])) false, .test (ine r3231 0) true] := ⟨(F94_ok K a3127 a3128 _ h3232), (leads_ok (by simp [leadsAny, RV.leads, RC.leads, leadsT, hasSl_lit, flat_ns eGJob_ns])), (ine_f h3233), trivial⟩
 exact fn_playC hn77 (r := F77_res 0) pz (by kernel_rfl) (by kernel_rfl)
theorem scanN {σ β : Type} {N : Int} {L : Nat → σ → Int → Option β} (step : Nat → σ → (σ → Option β) → Option β) (fin : σ → Option β)
   (h : ∀ k s (i : Nat), i ≤ N.toNat → L (k + 1) s i = bif ilt i N then step i s (fun s' => L k s' (wadd .i64 i 1)) else fin s) (hN : N ≤ 1000000) {K : Nat} (hK : N.toNat < K) (s : σ) :
   L K s 0 = goL step fin (List.range N.toNat) s := by
 have hw : ∀ (k : Nat) (s : σ) (i : Nat), N.toNat - i < k → i ≤ N.toNat → L k s i = goL step fin ((List.range N.toNat).drop i) s := by
   intro k
   induction k with
   | zero => intro s i h; omega
   | succ k ih =>
     intro s i hk hi
     rw [h k s i hi]
     by_cases hlt : i < N.toNat
     · have e : (List.range N.toNat).drop i = i :: (List.range N.toNat).drop (i + 1) := by
         rw [List.drop_eq_getElem_cons (by simpa using hlt)]; simp
       rw [ilt_iff.2 (by omega : (i : Int) < N), cond_true, e, goL]
       congr 1
       funext s'
       rw [wadd_nat (by omega)]
       exact ih s' (i + 1) (by omega) (by omega)
     · have e : (List.range N.toNat).drop i = [] := List.drop_eq_nil_of_le (by simp; omega)
       rw [ilt_f.2 (by omega : N ≤ (i : Int)), cond_false, e]; rfl
 have := hw K s 0 (by omega) (by omega)
 rw [List.drop_zero] at this
 exact this
def homeS (j : GJob) (v : Int) : Int := bif ilt v 0 || (ilt j.Parts 1 || ilt 6 j.Parts) then -1 else v % j.Parts
theorem wrem_emod {a b : Int} (h : 0 ≤ a) : wrem a b = a % b := by
 show Int.tmod _ _ = _
 exact Int.tmod_eq_emod_of_nonneg h
theorem F75_spec (K : Nat) (j : GJob) (v : Int) : F75 K j v = some (homeS j v) := by
 rw [F75, homeS]
 cases h0 : ilt v 0
 · cases h1 : ilt j.Parts 1
   · cases h2 : ilt 6 j.Parts
     · have v0 := ilt_f.1 h0
       have p1 := ilt_f.1 h1
       have hz : izero j.Parts = false := decide_eq_false (by omega)
       rw [hz, wrem_emod v0]; rfl
     · rfl
   · rfl
 · rfl
def vertsN (n parts : Nat) (p : Int) : List Nat := (List.range n).filter fun v => ieq ((v % parts : Nat) : Int) p
def vertsS (g : GGraph) (j : GJob) (p : Int) : List Nat := vertsN g.N.toNat j.Parts.toNat p
theorem F139_spec {K : Nat} (hK : 100 ≤ K) {g : GGraph} {j : GJob} (h1 : 1 ≤ j.Parts) (h2 : j.Parts ≤ 6) (hn : g.N ≤ 24) (p : Int) : F139 K g j p = some ((vertsS g j p).map Int.ofNat) := by
 let step : Nat → List Int → (List Int → Option (List Int)) → Option (List Int) := fun i s c =>
   bif (izero j.Parts) then none else bif (ieq (wrem (i : Int) j.Parts) p) then (bif (apok (len s) 1 8) then c (appL s [(i : Int)]) else none) else c s
 have h := scanN (N := g.N) (L := fun k s i => F139_l0_0 K g j p k s i) step (fun s => some s) (fun k s i _ => rfl) (by omega) (K := K) (by omega) []
 have hz : izero j.Parts = false := decide_eq_false (by omega)
 obtain ⟨q, hq⟩ := Int.eq_ofNat_of_zero_le (show 0 ≤ j.Parts by omega)
 have hw : ∀ (l : List Nat) (s : List Int), s.length + l.length ≤ 1000 → goL step (fun s => some s) l s = some (s ++ (l.filter fun v => ieq ((v % j.Parts.toNat : Nat) : Int) p).map Int.ofNat) := by
   intro l
   induction l with
   | nil => intro s _; simp [goL]
   | cons v l ih =>
     intro s hs
     simp only [List.length_cons] at hs
     rw [goL]
     show (bif (izero j.Parts) then none else bif (ieq (wrem (v : Int) j.Parts) p) then (bif (apok (len s) 1 8) then goL step (fun s => some s) l (appL s [(v : Int)]) else none) else goL step (fun s => some s) l s) = _
     have e : wrem (v : Int) j.Parts = ((v % j.Parts.toNat : Nat) : Int) := by rw [wrem_emod (by omega), hq]; simp
     rw [hz, cond_false, e, List.filter_cons]
     cases ieq ((v % j.Parts.toNat : Nat) : Int) p
     · rw [cond_false, ih s (by omega)]; rfl
     · have ha : apok (len s) 1 8 = true := decide_eq_true ⟨by show s.length + 1 ≤ _; omega, by show (s.length + 1) * 8 ≤ _; omega⟩
       rw [cond_true, ha, cond_true, ih _ (by simp [appL]; omega)]
       simp [appL]
 rw [hw _ _ (by simp; omega), List.nil_append] at h
 have h' : F139_l0_0 K g j p K [] 0 = _ := h
 rw [F139, h']; rfl
theorem cnt_all : ∀ parts < 7, 0 < parts → ∀ n < 25, ∀ p < parts, ((List.range n).filter fun v => v % parts == p).length = (n + parts - 1 - p) / parts := by decide +kernel
def countS (g : GGraph) (j : GJob) (p : Int) : Int := ((vertsS g j p).length : Int)
theorem vertsN_len {n parts : Nat} (h1 : 0 < parts) (h2 : parts < 7) (hn : n < 25) {p : Nat} (hp : p < parts) : (vertsN n parts (p : Int)).length = (n + parts - 1 - p) / parts := by
 rw [← cnt_all parts h2 h1 n hn p hp, vertsN]
 congr 1
 refine List.filter_congr fun v _ => ?_
 rw [Bool.eq_iff_iff, ieq_iff, beq_iff_eq]; omega
theorem vertsN_none {n parts : Nat} (h1 : 0 < parts) {p : Int} (hp : p < 0 ∨ (parts : Int) ≤ p) : vertsN n parts p = [] := by
 rw [vertsN, List.filter_eq_nil_iff]
 intro v _ hc
 have := ieq_iff.1 hc
 have := Nat.mod_lt v h1
 omega
theorem F77_spec {K : Nat} (hK : 100 ≤ K) (g : GGraph) (j : GJob) (p : Int) (hp : -9223372036854775808 ≤ p ∧ p ≤ 9223372036854775807) : F77 K g j p = some (bif ieq (jcheck g j) 0 then countS g j p else 0) := by
 rw [F77, F94_spec hK, Option.bind_some]
 cases hc : ieq (jcheck g j) 0
 · rfl
 · obtain ⟨hg, p1, p2, p3, p4, p5, p6, p7, p8⟩ := jcheck_ok hc
   obtain ⟨g1, g2, _, _⟩ := gcheck_ok hg
   rw [cond_true, cond_true, F138]
   cases h0 : ilt p 0
   · cases h1 : ile j.Parts p
     · have q0 := ilt_f.1 h0
       have q1 := ile_f.1 h1
       obtain ⟨q, rfl⟩ := Int.eq_ofNat_of_zero_le q0
       have hz : izero j.Parts = false := decide_eq_false (by omega)
       have e1 : wsub .i64 g.N (q : Int) = g.N - q := by show IntKind.i64.wrap _ = _; rw [IntKind.wrap_i64]; omega
       have e2 : wadd .i64 (g.N - q) j.Parts = g.N - q + j.Parts := by show IntKind.i64.wrap _ = _; rw [IntKind.wrap_i64]; omega
       have e3 : wsub .i64 (g.N - q + j.Parts) 1 = g.N - q + j.Parts - 1 := by show IntKind.i64.wrap _ = _; rw [IntKind.wrap_i64]; omega
       obtain ⟨n, hn⟩ := Int.eq_ofNat_of_zero_le (show 0 ≤ g.N by omega)
       obtain ⟨m, hm⟩ := Int.eq_ofNat_of_zero_le (show 0 ≤ j.Parts by omega)
       have hnum : g.N - (q : Int) + j.Parts - 1 = ((n + m - 1 - q : Nat) : Int) := by omega
       obtain ⟨d, hd⟩ : ∃ d, (n + m - 1 - q) / m = d := ⟨_, rfl⟩
       have e4 : wquo .i64 (g.N - q + j.Parts - 1) j.Parts = (d : Int) := by
         show IntKind.i64.wrap ((g.N - q + j.Parts - 1).tdiv j.Parts) = _
         rw [hnum, hm, Int.tdiv_eq_ediv_of_nonneg (by omega)]
         have hle : d ≤ n + m - 1 - q := hd ▸ Nat.div_le_self _ _
         have : (((n + m - 1 - q : Nat) : Int) / ((m : Nat) : Int)) = (d : Int) := by rw [← hd]; rfl
         rw [this, IntKind.wrap_i64]; omega
       have ecs : countS g j (q : Int) = (d : Int) := by
         unfold countS vertsS
         have a1 : g.N.toNat = n := by omega
         have a2 : j.Parts.toNat = m := by omega
         rw [a1, a2, vertsN_len (by omega) (by omega) (by omega) (by omega), hd]
       rw [cond_false, cond_false, hz, cond_false, e1, e2, e3, e4, Option.bind_some, ecs]
       cases hpos : ilt 0 (d : Int)
       · have := ilt_f.1 hpos
         have : d = 0 := by omega
         rw [this]; rfl
       · rfl
     · have q1 := ile_iff.1 h1
       have : countS g j p = 0 := by
         unfold countS vertsS
         rw [vertsN_none (by omega) (.inr (by omega))]; rfl
       rw [this]; rfl
   · have q0 := ilt_iff.1 h0
     have : countS g j p = 0 := by
       unfold countS vertsS
       rw [vertsN_none (by omega) (.inl q0)]; rfl
     rw [this]; rfl
theorem mem_verts {g : GGraph} {j : GJob} (h1 : 1 ≤ j.Parts) {p : Int} {v : Nat} : v ∈ vertsS g j p ↔ (v : Int) < g.N ∧ (v : Int) % j.Parts = p := by
 obtain ⟨m, hm⟩ := Int.eq_ofNat_of_zero_le (show 0 ≤ j.Parts by omega)
 simp only [vertsS, vertsN, List.mem_filter, List.mem_range, ieq_iff]
 have : j.Parts.toNat = m := by omega
 rw [this, hm]
 constructor
 · rintro ⟨a, b⟩; exact ⟨by omega, by rw [← b]; simp⟩
 · rintro ⟨a, b⟩; exact ⟨by omega, by rw [← b]; simp⟩
noncomputable def hn80 : Hint := { H 80 with nt := 85, prot := 0 }
noncomputable def c80_0 : Code := loopOf E 80 0
def F80_res (r3325 : Bool) : Res := ⟨[(.one (.im (.lit (.bool r3325))))], []⟩
def F80_l0_0 (K : Nat) (a3278 : GGraph) (a3279 : GJob) (a3280 : GPart) : Nat → Int → Int → Option ((Unit) ⊕ (Unit))
 | 0, _, _ => none
 | k + 1, v3300, v3301 =>
  bif (ilt v3301 (nlen (len a3280.In))) then
   (bif (inr v3301 (len a3280.In)) then
   (elAt a3280.In v3301).bind fun x3304 =>
   bif (ile x3304.To v3300) then
    (some (.inl ()))
   else
   bif (ile a3278.N x3304.To) then
    (some (.inl ()))
   else
   bif (izero a3279.Parts) then none else
   bif (ieq (wrem x3304.To a3279.Parts) a3280.P) then
    (F80_l0_0 K a3278 a3279 a3280 k x3304.To (wadd .i64 v3301 1))
   else
   some (.inl ())
   else none)
  else
  some (.inr ())
def F80_l0_0_S (a3278 : GGraph) (a3279 : GJob) (a3280 : GPart) (v3300 : Int) (v3301 : Int) : TS := .on [192, 193, 194, 256, 257, 258, 259, 260, 320, 321, 322, 323, 324, 325, 512, 513, 3456, 3520, 3521, 3584, 3585, 3648, 3649] [(192, ⟨(.box 62 2), 0, nob⟩), (193, ⟨.im, 0, (.lit (.int .i64 a3278.N))⟩), (194, ⟨.im, 0, (.sl (len a3278.Edges) (flat eGEdge a3278.Edges))⟩), (256, ⟨(.box 64 4), 0, nob⟩), (257, ⟨.im, 0, (.lit (.int .i64 a3279.Prog))⟩), (258, ⟨.im, 0, (.lit (.int .i64 a3279.Source))⟩), (259, ⟨.im, 0, (.lit (.int .i64 a3279.Limit))⟩), (260, ⟨.im, 0, (.lit (.int .i64 a3279.Parts))⟩), (320, ⟨(.box 42 5), 0, nob⟩), (321, ⟨.im, 0, (.lit (.int .i64 a3280.P))⟩), (322, ⟨.im, 0, (.lit (.int .i64 a3280.Step))⟩), (323, ⟨.im, 0, (.sl (len a3280.Vals) (flat (eInt .i64) a3280.Vals))⟩), (324, ⟨.im, 0, (.sl (len a3280.Rest) (flat eBool a3280.Rest))⟩), (325, ⟨.im, 0, (.sl (len a3280.In) (flat eGMsg a3280.In))⟩), (512, ⟨.one, 0, nob⟩), (513, ⟨.im, 0, (.lit (.int .i64 v3300))⟩), (3456, ⟨(.ad 5 0 4), 0, nob⟩), (3520, ⟨.one, 0, nob⟩), (3521, ⟨.im, 0, (.sl (len a3280.In) (flat eGMsg a3280.In))⟩), (3584, ⟨.one, 0, nob⟩), (3585, ⟨.im, 0, (.lit (.int .i64 (nlen (len a3280.In))))⟩), (3648, ⟨.one, 0, nob⟩), (3649, ⟨.im, 0, (.lit (.int .i64 v3301))⟩)]
def F80_l0_0_X0 (a3278 : GGraph) (a3279 : GJob) (a3280 : GPart) (w3310 : Unit) : TS := .on [384, 385] [(384, ⟨.one, 0, nob⟩), (385, ⟨.im, 0, (.lit (.bool false))⟩)]
def F80_l0_0_X1 (a3278 : GGraph) (a3279 : GJob) (a3280 : GPart) (w3311 : Unit) : TS := .on [] []
theorem F80_l0_0_ok (K : Nat) (a3278 : GGraph) (a3279 : GJob) (a3280 : GPart) : ∀ (k : Nat) (v3300 : Int) (v3301 : Int) (r : (Unit) ⊕ (Unit)), F80_l0_0 K a3278 a3279 a3280 k v3300 v3301 = some r → (Sum.elim (fun w => LoopEv E H hn80 0 c80_0 (F80_l0_0_S a3278 a3279 a3280 v3300 v3301) .ret (F80_l0_0_X0 a3278 a3279 a3280 w)) (fun w => LoopEv E H hn80 0 c80_0 (F80_l0_0_S a3278 a3279 a3280 v3300 v3301) (.exit 0) (F80_l0_0_X1 a3278 a3279 a3280 w))) r := by
 intro k
 induction k with
 | zero => intro v3300 v3301 r hF; cases hF
 | succ k ih =>
  intro v3300 v3301 r hF
  rw [F80_l0_0] at hF
  refine cond_some hF (fun h3302 hF => ?_) (fun h3302 hF => ?_)
  ·
   refine cond_some hF (fun h3303 hF => ?_) (fun _ hF => nomatch hF)
   refine bind_some hF (fun x3304 h3305 hF => ?_)
   have pq3312 : ∀ {l : List Cond}, HoldAll E H hn80 l → HoldAll E H hn80 (.test (ilt v3301 (nlen (len a3280.In))) true :: .test (inr v3301 (len a3280.In)) true :: .sub (flat eGMsg a3280.In) (nidx v3301 2) 2 [(.lit (.int .i64 x3304.To)), (.lit (.int .i64 x3304.V))] :: l) := fun z => ⟨h3302, h3303, ⟨rfl, sub_flat0 eGMsg_len h3305 2 (by decide)⟩, z⟩
   refine cond_some hF (fun h3306 hF => ?_) (fun h3306 hF => ?_)
   ·
    obtain rfl := Option.some.inj hF
    have pz : HoldAll E H hn80 [.test (beqb (ile x3304.To v3300) false) false, .test (beqb (ile x3304.To v3300) false) false, .test (beqb (ile x3304.To v3300) false) false, .test (beqb (ile x3304.To v3300) false) false, .test (beqb (ile x3304.To v3300) false) false, .test (ile x3304.To v3300) true, .test (beqb true false) false, .test (beqb true false) false, .test (beqb true false) false, .test (beqb true false) false, .test (beqb true false) false, .test (beqb true false) false, .test (beqb true false) false, .test (beqb true false) false, .test true true, .test true true] := ⟨(beqb_ft h3306), (beqb_ft h3306), (beqb_ft h3306), (beqb_ft h3306), (beqb_ft h3306), h3306, (beqb_ft rfl), (beqb_ft rfl), (beqb_ft rfl), (beqb_ft rfl), (beqb_ft rfl), (beqb_ft rfl), (beqb_ft rfl), (beqb_ft rfl), rfl, rfl, trivial⟩
    exact loop_endC (h := hn80) (l := 0) (c := c80_0) (ts := F80_l0_0_S a3278 a3279 a3280 v3300 v3301) (ts' := F80_l0_0_X0 a3278 a3279 a3280 ()) (ex := .ret) (pq3312 pz) (by kernel_rfl) trivial
   have pq3313 : ∀ {l : List Cond}, HoldAll E H hn80 l → HoldAll E H hn80 (.test (beqb (ile x3304.To v3300) false) true :: .test (beqb (ile x3304.To v3300) false) true :: .test (beqb (ile x3304.To v3300) false) true :: .test (beqb (ile x3304.To v3300) false) true :: .test (beqb (ile x3304.To v3300) false) true :: .test (ile x3304.To v3300) false :: l) := fun z => ⟨(beqb_ff h3306), (beqb_ff h3306), (beqb_ff h3306), (beqb_ff h3306), (beqb_ff h3306), h3306, z⟩
   refine cond_some hF (fun h3307 hF => ?_) (fun h3307 hF => ?_)
   ·
    obtain rfl := Option.some.inj hF
    have pz : HoldAll E H hn80 [.test (beqb (ige x3304.To a3278.N) false) false, .test (beqb (ige x3304.To a3278.N) false) false, .test (beqb (ige x3304.To a3278.N) false) false, .test (beqb (ige x3304.To a3278.N) false) false, .test (beqb (ige x3304.To a3278.N) false) false, .test (beqb (ige x3304.To a3278.N) false) false, .test (beqb (ige x3304.To a3278.N) false) false, .test (beqb (ige x3304.To a3278.N) false) false, .test (ige x3304.To a3278.N) true, .test true true] := ⟨(beqb_ft (ige_eq h3307)), (beqb_ft (ige_eq h3307)), (beqb_ft (ige_eq h3307)), (beqb_ft (ige_eq h3307)), (beqb_ft (ige_eq h3307)), (beqb_ft (ige_eq h3307)), (beqb_ft (ige_eq h3307)), (beqb_ft (ige_eq h3307)), (ige_eq h3307), rfl, trivial⟩
    exact loop_endC (h := hn80) (l := 0) (c := c80_0) (ts := F80_l0_0_S a3278 a3279 a3280 v3300 v3301) (ts' := F80_l0_0_X0 a3278 a3279 a3280 ()) (ex := .ret) (pq3312 (pq3313 pz)) (by kernel_rfl) trivial
   refine cond_some hF (fun _ hF => nomatch hF) (fun h3308 hF => ?_)
   have pq3314 : ∀ {l : List Cond}, HoldAll E H hn80 l → HoldAll E H hn80 (.test (beqb (ige x3304.To a3278.N) false) true :: .test (beqb (ige x3304.To a3278.N) false) true :: .test (beqb (ige x3304.To a3278.N) false) true :: .test (beqb (ige x3304.To a3278.N) false) true :: .test (beqb (ige x3304.To a3278.N) false) true :: .test (izero a3279.Parts) false :: .int (wrem x3304.To a3279.Parts) (wrem x3304.To a3279.Parts) :: .test (beqb (ige x3304.To a3278.N) false) true :: .test (beqb (ige x3304.To a3278.N) false) true :: .test (beqb (ige x3304.To a3278.N) false) true :: .test (ige x3304.To a3278.N) false :: l) := fun z => ⟨(beqb_ff (ige_eq h3307)), (beqb_ff (ige_eq h3307)), (beqb_ff (ige_eq h3307)), (beqb_ff (ige_eq h3307)), (beqb_ff (ige_eq h3307)), h3308, rfl, (beqb_ff (ige_eq h3307)), (beqb_ff (ige_eq h3307)), (beqb_ff (ige_eq h3307)), (ige_eq h3307), z⟩
   refine cond_some hF (fun h3309 hF => ?_) (fun h3309 hF => ?_)
   ·
    have pz : HoldAll E H hn80 [.test (ine (wrem x3304.To a3279.Parts) a3280.P) false, .int (wadd .i64 v3301 1) (wadd .i64 v3301 1)] := ⟨(ine_t h3309), rfl, trivial⟩
    have h0 := ih _ _ _ hF
    have hn := fun ex ts' => loop_nextC (h := hn80) (l := 0) (c := c80_0) (ts := F80_l0_0_S a3278 a3279 a3280 v3300 v3301) (ts1 := (F80_l0_0_S a3278 a3279 a3280 x3304.To (wadd .i64 v3301 1))) (ex := ex) (ts' := ts') (pq3312 (pq3313 (pq3314 pz))) (by kernel_rfl)
    cases r with
    | inl w => exact hn _ _ h0
    | inr w => exact hn _ _ h0
   obtain rfl := Option.some.inj hF
   have pz : HoldAll E H hn80 [.test (ine (wrem x3304.To a3279.Parts) a3280.P) true] := ⟨(ine_f h3309), trivial⟩
   exact loop_endC (h := hn80) (l := 0) (c := c80_0) (ts := F80_l0_0_S a3278 a3279 a3280 v3300 v3301) (ts' := F80_l0_0_X0 a3278 a3279 a3280 ()) (ex := .ret) (pq3312 (pq3313 (pq3314 pz))) (by kernel_rfl) trivial
  obtain rfl := Option.some.inj hF
  have pz : HoldAll E H hn80 [.test (ilt v3301 (nlen (len a3280.In))) false] := ⟨h3302, trivial⟩
  exact loop_endC (h := hn80) (l := 0) (c := c80_0) (ts := F80_l0_0_S a3278 a3279 a3280 v3300 v3301) (ts' := F80_l0_0_X1 a3278 a3279 a3280 ()) (ex := (.exit 0)) pz (by kernel_rfl) trivial
def F80 (K : Nat) (a3278 : GGraph) (a3279 : GJob) (a3280 : GPart) : Option (Bool) :=
 (F94 K a3278 a3279).bind fun r3281 =>
 bif (ieq r3281 0) then
  (bif (ilt a3280.P 0) then
   (some false)
  else
  bif (ile a3279.Parts a3280.P) then
   (some false)
  else
  bif (ilt a3280.Step 0) then
   (some false)
  else
  bif (ilt 40 a3280.Step) then
   (some false)
  else
  (F77 K a3278 a3279 a3280.P).bind fun r3288 =>
  bif (ieq (nlen (len a3280.Vals)) r3288) then
   (bif (ieq (nlen (len a3280.Rest)) r3288) then
    ((F80_l0_0 K a3278 a3279 a3280 K (-1) 0).bind fun y3316 =>
    Sum.elim (fun w3317 =>
     some false)
     (fun w3318 =>
     some true) y3316)
   else
   some false)
  else
  some false)
 else
 some false
theorem F80_ok (K : Nat) (a3278 : GGraph) (a3279 : GJob) (a3280 : GPart) (r : Bool) (hF : F80 K a3278 a3279 a3280 = some r) : Evt E H 80 [.agg (eGGraph a3278), .agg (eGJob a3279), .agg (eGPart a3280)] (F80_res r) := by
 rw [F80] at hF
 refine bind_some hF (fun r3281 h3282 hF => ?_)
 refine cond_some hF (fun h3283 hF => ?_) (fun h3283 hF => ?_)
 ·
  have pq3319 : ∀ {l : List Cond}, HoldAll E H hn80 l → HoldAll E H hn80 (.call 94 [.agg (eGGraph a3278), .agg (eGJob a3279)] (F94_res r3281) :: .test (leadsAny (Res.mk [(.one (.im (.lit (.int .i64 r3281))))] [])) false :: .test (beqb (ine r3281 0) false) true :: .test (beqb (ine r3281 0) false) true :: .test (beqb (ine r3281 0) false) true :: .test (ine r3281 0) false :: l) := fun z => ⟨(F94_ok K a3278 a3279 _ h3282), (leads_ok (by simp [leadsAny, RV.leads, RC.leads, leadsT, hasSl_lit, flat_ns eGJob_ns])), (beqb_ff (ine_t h3283)), (beqb_ff (ine_t h3283)), (beqb_ff (ine_t h3283)), (ine_t h3283), z⟩
  refine cond_some hF (fun h3284 hF => ?_) (fun h3284 hF => ?_)
  ·
   obtain rfl := Option.some.inj hF
   have pz : HoldAll E H hn80 [.test (beqb (ilt a3280.P 0) false) false, .test (beqb (ilt a3280.P 0) false) false, .test (beqb (ilt a3280.P 0) false) false, .test (beqb (ilt a3280.P 0) false) false, .test (beqb (ilt a3280.P 0) false) false, .test (ilt a3280.P 0) true, .test (beqb true false) false, .test (beqb true false) false, .test (beqb true false) false, .test true true, .test (beqb true false) false, .test (beqb true false) false, .test (beqb true false) false, .test true true, .test true true] := ⟨(beqb_ft h3284), (beqb_ft h3284), (beqb_ft h3284), (beqb_ft h3284), (beqb_ft h3284), h3284, (beqb_ft rfl), (beqb_ft rfl), (beqb_ft rfl), rfl, (beqb_ft rfl), (beqb_ft rfl), (beqb_ft rfl), rfl, rfl, trivial⟩
   exact fn_playC hn80 (r := F80_res false) (pq3319 pz) (by kernel_rfl) (by kernel_rfl)
  have pq3320 : ∀ {l : List Cond}, HoldAll E H hn80 l → HoldAll E H hn80 (.test (beqb (ilt a3280.P 0) false) true :: .test (beqb (ilt a3280.P 0) false) true :: .test (beqb (ilt a3280.P 0) false) true :: .test (beqb (ilt a3280.P 0) false) true :: .test (beqb (ilt a3280.P 0) false) true :: .test (ilt a3280.P 0) false :: l) := fun z => ⟨(beqb_ff h3284), (beqb_ff h3284), (beqb_ff h3284), (beqb_ff h3284), (beqb_ff h3284), h3284, z⟩
  refine cond_some hF (fun h3285 hF => ?_) (fun h3285 hF => ?_)
  ·
   obtain rfl := Option.some.inj hF
   have pz : HoldAll E H hn80 [.test (beqb (ige a3280.P a3279.Parts) false) false, .test (beqb (ige a3280.P a3279.Parts) false) false, .test (beqb (ige a3280.P a3279.Parts) false) false, .test (ige a3280.P a3279.Parts) true, .test (beqb true false) false, .test (beqb true false) false, .test (beqb true false) false, .test true true, .test true true] := ⟨(beqb_ft (ige_eq h3285)), (beqb_ft (ige_eq h3285)), (beqb_ft (ige_eq h3285)), (ige_eq h3285), (beqb_ft rfl), (beqb_ft rfl), (beqb_ft rfl), rfl, rfl, trivial⟩
   exact fn_playC hn80 (r := F80_res false) (pq3319 (pq3320 pz)) (by kernel_rfl) (by kernel_rfl)
  have pq3321 : ∀ {l : List Cond}, HoldAll E H hn80 l → HoldAll E H hn80 (.test (beqb (ige a3280.P a3279.Parts) false) true :: .test (beqb (ige a3280.P a3279.Parts) false) true :: .test (beqb (ige a3280.P a3279.Parts) false) true :: .test (ige a3280.P a3279.Parts) false :: l) := fun z => ⟨(beqb_ff (ige_eq h3285)), (beqb_ff (ige_eq h3285)), (beqb_ff (ige_eq h3285)), (ige_eq h3285), z⟩
  refine cond_some hF (fun h3286 hF => ?_) (fun h3286 hF => ?_)
  ·
   obtain rfl := Option.some.inj hF
   have pz : HoldAll E H hn80 [.test (beqb (ilt a3280.Step 0) false) false, .test (beqb (ilt a3280.Step 0) false) false, .test (beqb (ilt a3280.Step 0) false) false, .test (ilt a3280.Step 0) true, .test true true] := ⟨(beqb_ft h3286), (beqb_ft h3286), (beqb_ft h3286), h3286, rfl, trivial⟩
   exact fn_playC hn80 (r := F80_res false) (pq3319 (pq3320 (pq3321 pz))) (by kernel_rfl) (by kernel_rfl)
  have pq3322 : ∀ {l : List Cond}, HoldAll E H hn80 l → HoldAll E H hn80 (.test (beqb (ilt a3280.Step 0) false) true :: .test (beqb (ilt a3280.Step 0) false) true :: .test (beqb (ilt a3280.Step 0) false) true :: .test (ilt a3280.Step 0) false :: l) := fun z => ⟨(beqb_ff h3286), (beqb_ff h3286), (beqb_ff h3286), h3286, z⟩
  refine cond_some hF (fun h3287 hF => ?_) (fun h3287 hF => ?_)
  ·
   obtain rfl := Option.some.inj hF
   have pz : HoldAll E H hn80 [.test (igt a3280.Step 40) true] := ⟨(igt_eq h3287), trivial⟩
   exact fn_playC hn80 (r := F80_res false) (pq3319 (pq3320 (pq3321 (pq3322 pz)))) (by kernel_rfl) (by kernel_rfl)
  refine bind_some hF (fun r3288 h3289 hF => ?_)
  have pq3323 : ∀ {l : List Cond}, HoldAll E H hn80 l → HoldAll E H hn80 (.test (igt a3280.Step 40) false :: .call 77 [.agg (eGGraph a3278), .agg (eGJob a3279), .one (.lit (.int .i64 a3280.P))] (F77_res r3288) :: .test (leadsAny (Res.mk [(.one (.im (.lit (.int .i64 r3288))))] [])) false :: .int (nlen (len a3280.Vals)) (nlen (len a3280.Vals)) :: l) := fun z => ⟨(igt_eq h3287), (F77_ok K a3278 a3279 a3280.P _ h3289), (leads_ok (by simp [leadsAny, RV.leads, RC.leads, leadsT, hasSl_lit, flat_ns eGJob_ns])), rfl, z⟩
  refine cond_some hF (fun h3290 hF => ?_) (fun h3290 hF => ?_)
  ·
   have pq3324 : ∀ {l : List Cond}, HoldAll E H hn80 l → HoldAll E H hn80 (.test (beqb (ine (nlen (len a3280.Vals)) r3288) false) true :: .test (beqb (ine (nlen (len a3280.Vals)) r3288) false) true :: .test (beqb (ine (nlen (len a3280.Vals)) r3288) false) true :: .int (nlen (len a3280.Rest)) (nlen (len a3280.Rest)) :: .test (beqb (ine (nlen (len a3280.Vals)) r3288) false) true :: .test (beqb (ine (nlen (len a3280.Vals)) r3288) false) true :: .test (ine (nlen (len a3280.Vals)) r3288) false :: l) := fun z => ⟨(beqb_ff (ine_t h3290)), (beqb_ff (ine_t h3290)), (beqb_ff (ine_t h3290)), rfl, (beqb_ff (ine_t h3290)), (beqb_ff (ine_t h3290)), (ine_t h3290), z⟩
   refine cond_some hF (fun h3291 hF => ?_) (fun h3291 hF => ?_)
   ·
    refine bind_some hF (fun y3316 h3315 hF => ?_)
    refine sum_some hF (fun w3317 hx hF => ?_) (fun w3318 hx hF => ?_)
    ·
     subst hx
     obtain rfl := Option.some.inj hF
     have pz : HoldAll E H hn80 [.test (ine (nlen (len a3280.Rest)) r3288) false, .int (nlen (len a3280.In)) (nlen (len a3280.In)), .loop 0 c80_0 (F80_l0_0_S a3278 a3279 a3280 (-1) 0) .ret (F80_l0_0_X0 a3278 a3279 a3280 w3317)] := ⟨(ine_t h3291), rfl, (F80_l0_0_ok K a3278 a3279 a3280 K (-1) 0 _ h3315), trivial⟩
     exact fn_playC hn80 (r := F80_res false) (pq3319 (pq3320 (pq3321 (pq3322 (pq3323 (pq3324 pz)))))) (by kernel_rfl) (by kernel_rfl)
    subst hx
    obtain rfl := Option.some.inj hF
    have pz : HoldAll E H hn80 [.test (ine (nlen (len a3280.Rest)) r3288) false, .int (nlen (len a3280.In)) (nlen (len a3280.In)), .loop 0 c80_0 (F80_l0_0_S a3278 a3279 a3280 (-1) 0) (.exit 0) (F80_l0_0_X1 a3278 a3279 a3280 w3318)] := ⟨(ine_t h3291), rfl, (F80_l0_0_ok K a3278 a3279 a3280 K (-1) 0 _ h3315), trivial⟩
    exact fn_playC hn80 (r := F80_res true) (pq3319 (pq3320 (pq3321 (pq3322 (pq3323 (pq3324 pz)))))) (by kernel_rfl) (by kernel_rfl)
   obtain rfl := Option.some.inj hF
   have pz : HoldAll E H hn80 [.test (ine (nlen (len a3280.Rest)) r3288) true] := ⟨(ine_f h3291), trivial⟩
   exact fn_playC hn80 (r := F80_res false) (pq3319 (pq3320 (pq3321 (pq3322 (pq3323 (pq3324 pz)))))) (by kernel_rfl) (by kernel_rfl)
  obtain rfl := Option.some.inj hF
  have pz : HoldAll E H hn80 [.test (beqb (ine (nlen (len a3280.Vals)) r3288) false) false, .test (beqb (ine (nlen (len a3280.Vals)) r3288) false) false, .test (beqb (ine (nlen (len a3280.Vals)) r3288) false) false, .test (beqb (ine (nlen (len a3280.Vals)) r3288) false) false, .test (beqb (ine (nlen (len a3280.Vals)) r3288) false) false, .test (ine (nlen (len a3280.Vals)) r3288) true, .test true true] := ⟨(beqb_ft (ine_f h3290)), (beqb_ft (ine_f h3290)), (beqb_ft (ine_f h3290)), (beqb_ft (ine_f h3290)), (beqb_ft (ine_f h3290)), (ine_f h3290), rfl, trivial⟩
  exact fn_playC hn80 (r := F80_res false) (pq3319 (pq3320 (pq3321 (pq3322 (pq3323 pz))))) (by kernel_rfl) (by kernel_rfl)
 obtain rfl := Option.some.inj hF
 have pz : HoldAll E H hn80 [.call 94 [.agg (eGGraph a3278), .agg (eGJob a3279)] (F94_res r3281), .test (leadsAny (Res.mk [(.one (.im (.lit (.int .i64 r3281))))] [])) false, .test (beqb (ine r3281 0) false) false, .test (beqb (ine r3281 0) false) false, .test (beqb (ine r3281 0) false) false, .test (ine r3281 0) true, .test (beqb true false) false, .test (beqb true false) false, .test (beqb true false) false, .test (beqb true false) false, .test (beqb true false) false, .test true true, .test (beqb true false) false, .test (beqb true false) false, .test (beqb true false) false, .test true true, .test (beqb true false) false, .test (beqb true false) false, .test (beqb true false) false, .test true true, .test true true] := ⟨(F94_ok K a3278 a3279 _ h3282), (leads_ok (by simp [leadsAny, RV.leads, RC.leads, leadsT, hasSl_lit, flat_ns eGJob_ns])), (beqb_ft (ine_f h3283)), (beqb_ft (ine_f h3283)), (beqb_ft (ine_f h3283)), (ine_f h3283), (beqb_ft rfl), (beqb_ft rfl), (beqb_ft rfl), (beqb_ft rfl), (beqb_ft rfl), rfl, (beqb_ft rfl), (beqb_ft rfl), (beqb_ft rfl), rfl, (beqb_ft rfl), (beqb_ft rfl), (beqb_ft rfl), rfl, rfl, trivial⟩
 exact fn_playC hn80 (r := F80_res false) pz (by kernel_rfl) (by kernel_rfl)
noncomputable def hn81 : Hint := { H 81 with nt := 102, prot := 0 }
noncomputable def c81_0 : Code := loopOf E 81 0
noncomputable def c81_1 : Code := loopOf E 81 1
def F81_res (r3407 : Bool) : Res := ⟨[(.one (.im (.lit (.bool r3407))))], []⟩
def F81_l1_1 (K : Nat) (a3330 : GPart) (r3338 : List Int) (v3364 : Int) (x3367 : GMsg) : Nat → Bool → Int → Option (Bool)
 | 0, _, _ => none
 | k + 1, v3373, v3374 =>
  bif (ilt v3374 (nlen (len r3338))) then
   (bif v3373 then
    (F81_l1_1 K a3330 r3338 v3364 x3367 k true (wadd .i64 v3374 1))
   else
   bif (inr v3374 (len r3338)) then
   (elAt r3338 v3374).bind fun x3378 =>
   F81_l1_1 K a3330 r3338 v3364 x3367 k (ieq x3378 x3367.To) (wadd .i64 v3374 1)
   else none)
  else
  some v3373
def F81_l1_1_S (a3330 : GPart) (r3338 : List Int) (v3364 : Int) (x3367 : GMsg) (v3373 : Bool) (v3374 : Int) : TS := .on [320, 321, 322, 323, 324, 325, 448, 449, 512, 513, 576, 577, 640, 641, 704, 705] [(320, ⟨(.box 42 5), 0, nob⟩), (321, ⟨.im, 0, (.lit (.int .i64 a3330.P))⟩), (322, ⟨.im, 0, (.lit (.int .i64 a3330.Step))⟩), (323, ⟨.im, 0, (.sl (len a3330.Vals) (flat (eInt .i64) a3330.Vals))⟩), (324, ⟨.im, 0, (.sl (len a3330.Rest) (flat eBool a3330.Rest))⟩), (325, ⟨.im, 0, (.sl (len a3330.In) (flat eGMsg a3330.In))⟩), (448, ⟨.one, 0, nob⟩), (449, ⟨(.own 3), 0, (.sl (len r3338) (flat (eInt .i64) r3338))⟩), (512, ⟨.one, 0, nob⟩), (513, ⟨.im, 0, (.lit (.int .i64 v3364))⟩), (576, ⟨.one, 0, nob⟩), (577, ⟨.im, 0, (.lit (.int .i64 x3367.To))⟩), (640, ⟨.one, 0, nob⟩), (641, ⟨.im, 0, (.lit (.bool v3373))⟩), (704, ⟨.one, 0, nob⟩), (705, ⟨.im, 0, (.lit (.int .i64 v3374))⟩)]
def F81_l1_1_X0 (a3330 : GPart) (r3338 : List Int) (v3364 : Int) (x3367 : GMsg) (w3380 : Bool) : TS := .on [320, 321, 322, 323, 324, 325, 448, 449, 512, 513, 576, 577, 640, 641] [(320, ⟨(.box 42 5), 0, nob⟩), (321, ⟨.im, 0, (.lit (.int .i64 a3330.P))⟩), (322, ⟨.im, 0, (.lit (.int .i64 a3330.Step))⟩), (323, ⟨.im, 0, (.sl (len a3330.Vals) (flat (eInt .i64) a3330.Vals))⟩), (324, ⟨.im, 0, (.sl (len a3330.Rest) (flat eBool a3330.Rest))⟩), (325, ⟨.im, 0, (.sl (len a3330.In) (flat eGMsg a3330.In))⟩), (448, ⟨.one, 0, nob⟩), (449, ⟨(.own 3), 0, (.sl (len r3338) (flat (eInt .i64) r3338))⟩), (512, ⟨.one, 0, nob⟩), (513, ⟨.im, 0, (.lit (.int .i64 v3364))⟩), (576, ⟨.one, 0, nob⟩), (577, ⟨.im, 0, (.lit (.int .i64 x3367.To))⟩), (640, ⟨.one, 0, nob⟩), (641, ⟨.im, 0, (.lit (.bool w3380))⟩)]
theorem F81_l1_1_ok (K : Nat) (a3330 : GPart) (r3338 : List Int) (v3364 : Int) (x3367 : GMsg) : ∀ (k : Nat) (v3373 : Bool) (v3374 : Int) (r : Bool), F81_l1_1 K a3330 r3338 v3364 x3367 k v3373 v3374 = some r → LoopEv E H hn81 2 c81_1 (F81_l1_1_S a3330 r3338 v3364 x3367 v3373 v3374) (.exit 2) (F81_l1_1_X0 a3330 r3338 v3364 x3367 r) := by
 intro k
 induction k with
 | zero => intro v3373 v3374 r hF; cases hF
 | succ k ih =>
  intro v3373 v3374 r hF
  rw [F81_l1_1] at hF
  refine cond_some hF (fun h3375 hF => ?_) (fun h3375 hF => ?_)
  ·
   refine cond_some hF (fun h3376 hF => ?_) (fun h3376 hF => ?_)
   ·
    have pz : HoldAll E H hn81 [.int (nlen (len r3338)) (nlen (len r3338)), .test (ilt v3374 (nlen (len r3338))) true, .test (beqb v3373 false) false, .test (beqb v3373 false) false, .test (beqb v3373 false) false, .test (beqb v3373 false) false, .test (beqb v3373 false) false, .test (beqb v3373 false) false, .test v3373 true, .int (wadd .i64 v3374 1) (wadd .i64 v3374 1)] := ⟨rfl, h3375, (beqb_ft h3376), (beqb_ft h3376), (beqb_ft h3376), (beqb_ft h3376), (beqb_ft h3376), (beqb_ft h3376), h3376, rfl, trivial⟩
    have h0 := ih _ _ _ hF
    have hn := fun ex ts' => loop_nextC (h := hn81) (l := 2) (c := c81_1) (ts := F81_l1_1_S a3330 r3338 v3364 x3367 v3373 v3374) (ts1 := (F81_l1_1_S a3330 r3338 v3364 x3367 true (wadd .i64 v3374 1))) (ex := ex) (ts' := ts') pz (by kernel_rfl)
    exact hn _ _ h0
   refine cond_some hF (fun h3377 hF => ?_) (fun _ hF => nomatch hF)
   refine bind_some hF (fun x3378 h3379 hF => ?_)
   have pz : HoldAll E H hn81 [.int (nlen (len r3338)) (nlen (len r3338)), .test (ilt v3374 (nlen (len r3338))) true, .test (beqb v3373 false) true, .test (beqb v3373 false) true, .test (beqb v3373 false) true, .test (inr v3374 (len r3338)) true, .test (beqb v3373 false) true, .sub (flat (eInt .i64) r3338) (nidx v3374 1) 1 [(.lit (.int .i64 x3378))], .test (beqb v3373 false) true, .test (beqb v3373 false) true, .test v3373 false, .int (wadd .i64 v3374 1) (wadd .i64 v3374 1)] := ⟨rfl, h3375, (beqb_ff h3376), (beqb_ff h3376), (beqb_ff h3376), h3377, (beqb_ff h3376), ⟨rfl, sub_flat0 (eInt_len _) h3379 1 (by decide)⟩, (beqb_ff h3376), (beqb_ff h3376), h3376, rfl, trivial⟩
   have h0 := ih _ _ _ hF
   have hn := fun ex ts' => loop_nextC (h := hn81) (l := 2) (c := c81_1) (ts := F81_l1_1_S a3330 r3338 v3364 x3367 v3373 v3374) (ts1 := (F81_l1_1_S a3330 r3338 v3364 x3367 (ieq x3378 x3367.To) (wadd .i64 v3374 1))) (ex := ex) (ts' := ts') pz (by kernel_rfl)
   exact hn _ _ h0
  obtain rfl := Option.some.inj hF
  have pz : HoldAll E H hn81 [.int (nlen (len r3338)) (nlen (len r3338)), .test (ilt v3374 (nlen (len r3338))) false] := ⟨rfl, h3375, trivial⟩
  exact loop_endC (h := hn81) (l := 2) (c := c81_1) (ts := F81_l1_1_S a3330 r3338 v3364 x3367 v3373 v3374) (ts' := F81_l1_1_X0 a3330 r3338 v3364 x3367 v3373) (ex := (.exit 2)) pz (by kernel_rfl) trivial
def F81_l0_0 (K : Nat) (a3330 : GPart) (r3338 : List Int) : Nat → Int → Option ((Unit) ⊕ (Unit))
 | 0, _ => none
 | k + 1, v3364 =>
  bif (ilt v3364 (nlen (len a3330.In))) then
   (bif (inr v3364 (len a3330.In)) then
   (elAt a3330.In v3364).bind fun x3367 =>
   (F81_l1_1 K a3330 r3338 v3364 x3367 K false 0).bind fun w3384 =>
   bif w3384 then
    (bif (ilt 0 v3364) then
     (bif (inr (wsub .i64 v3364 1) (len a3330.In)) then
     (elAt a3330.In (wsub .i64 v3364 1)).bind fun x3389 =>
     bif (ile x3367.To x3389.To) then
      (some (.inl ()))
     else
     F81_l0_0 K a3330 r3338 k (wadd .i64 v3364 1)
     else none)
    else
    F81_l0_0 K a3330 r3338 k (wadd .i64 v3364 1))
   else
   some (.inl ())
   else none)
  else
  some (.inr ())
def F81_l0_0_S (a3330 : GPart) (r3338 : List Int) (v3364 : Int) : TS := .on [320, 321, 322, 323, 324, 325, 448, 449, 512, 513] [(320, ⟨(.box 42 5), 0, nob⟩), (321, ⟨.im, 0, (.lit (.int .i64 a3330.P))⟩), (322, ⟨.im, 0, (.lit (.int .i64 a3330.Step))⟩), (323, ⟨.im, 0, (.sl (len a3330.Vals) (flat (eInt .i64) a3330.Vals))⟩), (324, ⟨.im, 0, (.sl (len a3330.Rest) (flat eBool a3330.Rest))⟩), (325, ⟨.im, 0, (.sl (len a3330.In) (flat eGMsg a3330.In))⟩), (448, ⟨.one, 0, nob⟩), (449, ⟨(.own 3), 0, (.sl (len r3338) (flat (eInt .i64) r3338))⟩), (512, ⟨.one, 0, nob⟩), (513, ⟨.im, 0, (.lit (.int .i64 v3364))⟩)]
def F81_l0_0_X0 (a3330 : GPart) (r3338 : List Int) (w3392 : Unit) : TS := .on [384, 385] [(384, ⟨.one, 0, nob⟩), (385, ⟨.im, 0, (.lit (.bool false))⟩)]
def F81_l0_0_X1 (a3330 : GPart) (r3338 : List Int) (w3393 : Unit) : TS := .on [] []
theorem F81_l0_0_ok (K : Nat) (a3330 : GPart) (r3338 : List Int) : ∀ (k : Nat) (v3364 : Int) (r : (Unit) ⊕ (Unit)), F81_l0_0 K a3330 r3338 k v3364 = some r → (Sum.elim (fun w => LoopEv E H hn81 0 c81_0 (F81_l0_0_S a3330 r3338 v3364) .ret (F81_l0_0_X0 a3330 r3338 w)) (fun w => LoopEv E H hn81 0 c81_0 (F81_l0_0_S a3330 r3338 v3364) (.exit 0) (F81_l0_0_X1 a3330 r3338 w))) r := by
 intro k
 induction k with
 | zero => intro v3364 r hF; cases hF
 | succ k ih =>
  intro v3364 r hF
  rw [F81_l0_0] at hF
  refine cond_some hF (fun h3365 hF => ?_) (fun h3365 hF => ?_)
  ·
   refine cond_some hF (fun h3366 hF => ?_) (fun _ hF => nomatch hF)
   refine bind_some hF (fun x3367 h3368 hF => ?_)
   refine bind_some hF (fun w3384 h3382 hF => ?_)
   have pq3394 : ∀ {l : List Cond}, HoldAll E H hn81 l → HoldAll E H hn81 (.int (nlen (len a3330.In)) (nlen (len a3330.In)) :: .test (ilt v3364 (nlen (len a3330.In))) true :: .test (inr v3364 (len a3330.In)) true :: .sub (flat eGMsg a3330.In) (nadd (nidx v3364 2) 0) 1 [(.lit (.int .i64 x3367.To))] :: .loop 2 c81_1 (F81_l1_1_S a3330 r3338 v3364 x3367 false 0) (.exit 2) (F81_l1_1_X0 a3330 r3338 v3364 x3367 w3384) :: l) := fun z => ⟨rfl, h3365, h3366, ⟨rfl, sub_flat eGMsg_len h3368 0 1 (by decide)⟩, (F81_l1_1_ok K a3330 r3338 v3364 x3367 K false 0 _ h3382), z⟩
   refine cond_some hF (fun h3386 hF => ?_) (fun h3386 hF => ?_)
   ·
    have pq3395 : ∀ {l : List Cond}, HoldAll E H hn81 l → HoldAll E H hn81 (.test (beqb (bnot w3384) false) true :: .test (beqb (bnot w3384) false) true :: .test (beqb (bnot w3384) false) true :: l) := fun z => ⟨(beqb_ff (bnot_t h3386)), (beqb_ff (bnot_t h3386)), (beqb_ff (bnot_t h3386)), z⟩
    refine cond_some hF (fun h3387 hF => ?_) (fun h3387 hF => ?_)
    ·
     refine cond_some hF (fun h3388 hF => ?_) (fun _ hF => nomatch hF)
     refine bind_some hF (fun x3389 h3390 hF => ?_)
     have pq3396 : ∀ {l : List Cond}, HoldAll E H hn81 l → HoldAll E H hn81 (.test (beqb (igt v3364 0) true) true :: .test (beqb (igt v3364 0) true) true :: .test (beqb (igt v3364 0) true) true :: .test (beqb (igt v3364 0) true) true :: .int (wsub .i64 v3364 1) (wsub .i64 v3364 1) :: .test (beqb (igt v3364 0) true) true :: .test (inr (wsub .i64 v3364 1) (len a3330.In)) true :: .test (beqb (igt v3364 0) true) true :: .test (beqb (igt v3364 0) true) true :: .sub (flat eGMsg a3330.In) (nadd (nidx (wsub .i64 v3364 1) 2) 0) 1 [(.lit (.int .i64 x3389.To))] :: .test (beqb (igt v3364 0) true) true :: .test (beqb (igt v3364 0) true) true :: .test (beqb (bnot w3384) false) true :: .test (igt v3364 0) true :: .test (bnot w3384) false :: l) := fun z => ⟨(beqb_t (igt_eq h3387)), (beqb_t (igt_eq h3387)), (beqb_t (igt_eq h3387)), (beqb_t (igt_eq h3387)), rfl, (beqb_t (igt_eq h3387)), h3388, (beqb_t (igt_eq h3387)), (beqb_t (igt_eq h3387)), ⟨rfl, sub_flat eGMsg_len h3390 0 1 (by decide)⟩, (beqb_t (igt_eq h3387)), (beqb_t (igt_eq h3387)), (beqb_ff (bnot_t h3386)), (igt_eq h3387), (bnot_t h3386), z⟩
     refine cond_some hF (fun h3391 hF => ?_) (fun h3391 hF => ?_)
     ·
      obtain rfl := Option.some.inj hF
      have pz : HoldAll E H hn81 [.test (ige x3389.To x3367.To) true] := ⟨(ige_eq h3391), trivial⟩
      exact loop_endC (h := hn81) (l := 0) (c := c81_0) (ts := F81_l0_0_S a3330 r3338 v3364) (ts' := F81_l0_0_X0 a3330 r3338 ()) (ex := .ret) (pq3394 (pq3395 (pq3396 pz))) (by kernel_rfl) trivial
     have pz : HoldAll E H hn81 [.test (ige x3389.To x3367.To) false, .int (wadd .i64 v3364 1) (wadd .i64 v3364 1)] := ⟨(ige_eq h3391), rfl, trivial⟩
     have h0 := ih _ _ hF
     have hn := fun ex ts' => loop_nextC (h := hn81) (l := 0) (c := c81_0) (ts := F81_l0_0_S a3330 r3338 v3364) (ts1 := (F81_l0_0_S a3330 r3338 (wadd .i64 v3364 1))) (ex := ex) (ts' := ts') (pq3394 (pq3395 (pq3396 pz))) (by kernel_rfl)
     cases r with
     | inl w => exact hn _ _ h0
     | inr w => exact hn _ _ h0
    have pz : HoldAll E H hn81 [.test (beqb (igt v3364 0) true) false, .test (beqb (igt v3364 0) true) false, .test (beqb (igt v3364 0) true) false, .test (beqb (igt v3364 0) true) false, .test (beqb (igt v3364 0) true) false, .test (beqb (igt v3364 0) true) false, .test (beqb (igt v3364 0) true) false, .test (beqb (igt v3364 0) true) false, .test (beqb (igt v3364 0) true) false, .test (beqb (bnot w3384) false) true, .test (igt v3364 0) false, .test (bnot w3384) false, .test false false, .int (wadd .i64 v3364 1) (wadd .i64 v3364 1)] := ⟨(beqb_t (igt_eq h3387)), (beqb_t (igt_eq h3387)), (beqb_t (igt_eq h3387)), (beqb_t (igt_eq h3387)), (beqb_t (igt_eq h3387)), (beqb_t (igt_eq h3387)), (beqb_t (igt_eq h3387)), (beqb_t (igt_eq h3387)), (beqb_t (igt_eq h3387)), (beqb_ff (bnot_t h3386)), (igt_eq h3387), (bnot_t h3386), rfl, rfl, trivial⟩
    have h0 := ih _ _ hF
    have hn := fun ex ts' => loop_nextC (h := hn81) (l := 0) (c := c81_0) (ts := F81_l0_0_S a3330 r3338 v3364) (ts1 := (F81_l0_0_S a3330 r3338 (wadd .i64 v3364 1))) (ex := ex) (ts' := ts') (pq3394 (pq3395 pz)) (by kernel_rfl)
    cases r with
    | inl w => exact hn _ _ h0
    | inr w => exact hn _ _ h0
   obtain rfl := Option.some.inj hF
   have pz : HoldAll E H hn81 [.test (beqb (bnot w3384) false) false, .test (beqb (bnot w3384) false) false, .test (beqb (bnot w3384) false) false, .test (beqb (bnot w3384) false) false, .test (bnot w3384) true, .test true true] := ⟨(beqb_ft (bnot_f h3386)), (beqb_ft (bnot_f h3386)), (beqb_ft (bnot_f h3386)), (beqb_ft (bnot_f h3386)), (bnot_f h3386), rfl, trivial⟩
   exact loop_endC (h := hn81) (l := 0) (c := c81_0) (ts := F81_l0_0_S a3330 r3338 v3364) (ts' := F81_l0_0_X0 a3330 r3338 ()) (ex := .ret) (pq3394 pz) (by kernel_rfl) trivial
  obtain rfl := Option.some.inj hF
  have pz : HoldAll E H hn81 [.int (nlen (len a3330.In)) (nlen (len a3330.In)), .test (ilt v3364 (nlen (len a3330.In))) false] := ⟨rfl, h3365, trivial⟩
  exact loop_endC (h := hn81) (l := 0) (c := c81_0) (ts := F81_l0_0_S a3330 r3338 v3364) (ts' := F81_l0_0_X1 a3330 r3338 ()) (ex := (.exit 0)) pz (by kernel_rfl) trivial
def F81 (K : Nat) (a3328 : GGraph) (a3329 : GJob) (a3330 : GPart) : Option (Bool) :=
 (F59 K a3328 a3329).bind fun r3331 =>
 bif (ieq r3331 0) then
  (bif (ilt a3330.P 0) then
   (some false)
  else
  bif (ile a3329.Parts a3330.P) then
   (some false)
  else
  bif (ilt a3330.Step 0) then
   (some false)
  else
  bif (ilt 40 a3330.Step) then
   (some false)
  else
  (F139 K a3328 a3329 a3330.P).bind fun r3338 =>
  bif (ieq (nlen (len a3330.Vals)) (nlen (len r3338))) then
   (bif (ieq (nlen (len a3330.Rest)) (nlen (len r3338))) then
    ((F81_l0_0 K a3330 r3338 K 0).bind fun y3398 =>
    Sum.elim (fun w3399 =>
     some false)
     (fun w3400 =>
     some true) y3398)
   else
   some false)
  else
  some false)
 else
 some false
theorem F81_ok (K : Nat) (a3328 : GGraph) (a3329 : GJob) (a3330 : GPart) (r : Bool) (hF : F81 K a3328 a3329 a3330 = some r) : Evt E H 81 [.agg (eGGraph a3328), .agg (eGJob a3329), .agg (eGPart a3330)] (F81_res r) := by
 rw [F81] at hF
 refine bind_some hF (fun r3331 h3332 hF => ?_)
 refine cond_some hF (fun h3333 hF => ?_) (fun h3333 hF => ?_)
 ·
  have pq3401 : ∀ {l : List Cond}, HoldAll E H hn81 l → HoldAll E H hn81 (.call 59 [.agg (eGGraph a3328), .agg (eGJob a3329)] (F59_res r3331) :: .test (leadsAny (Res.mk [(.one (.im (.lit (.int .i64 r3331))))] [])) false :: .test (beqb (ine r3331 0) false) true :: .test (beqb (ine r3331 0) false) true :: .test (beqb (ine r3331 0) false) true :: .test (ine r3331 0) false :: l) := fun z => ⟨(F59_ok K a3328 a3329 _ h3332), (leads_ok (by simp [leadsAny, RV.leads, RC.leads, leadsT, hasSl_lit, flat_ns eGJob_ns])), (beqb_ff (ine_t h3333)), (beqb_ff (ine_t h3333)), (beqb_ff (ine_t h3333)), (ine_t h3333), z⟩
  refine cond_some hF (fun h3334 hF => ?_) (fun h3334 hF => ?_)
  ·
   obtain rfl := Option.some.inj hF
   have pz : HoldAll E H hn81 [.test (beqb (ilt a3330.P 0) false) false, .test (beqb (ilt a3330.P 0) false) false, .test (beqb (ilt a3330.P 0) false) false, .test (beqb (ilt a3330.P 0) false) false, .test (beqb (ilt a3330.P 0) false) false, .test (ilt a3330.P 0) true, .test (beqb true false) false, .test (beqb true false) false, .test (beqb true false) false, .test true true, .test (beqb true false) false, .test (beqb true false) false, .test (beqb true false) false, .test true true, .test true true] := ⟨(beqb_ft h3334), (beqb_ft h3334), (beqb_ft h3334), (beqb_ft h3334), (beqb_ft h3334), h3334, (beqb_ft rfl), (beqb_ft rfl), (beqb_ft rfl), rfl, (beqb_ft rfl), (beqb_ft rfl), (beqb_ft rfl), rfl, rfl, trivial⟩
   exact fn_playC hn81 (r := F81_res false) (pq3401 pz) (by kernel_rfl) (by kernel_rfl)
  have pq3402 : ∀ {l : List Cond}, HoldAll E H hn81 l → HoldAll E H hn81 (.test (beqb (ilt a3330.P 0) false) true :: .test (beqb (ilt a3330.P 0) false) true :: .test (beqb (ilt a3330.P 0) false) true :: .test (beqb (ilt a3330.P 0) false) true :: .test (beqb (ilt a3330.P 0) false) true :: .test (ilt a3330.P 0) false :: l) := fun z => ⟨(beqb_ff h3334), (beqb_ff h3334), (beqb_ff h3334), (beqb_ff h3334), (beqb_ff h3334), h3334, z⟩
  refine cond_some hF (fun h3335 hF => ?_) (fun h3335 hF => ?_)
  ·
   obtain rfl := Option.some.inj hF
   have pz : HoldAll E H hn81 [.test (beqb (ige a3330.P a3329.Parts) false) false, .test (beqb (ige a3330.P a3329.Parts) false) false, .test (beqb (ige a3330.P a3329.Parts) false) false, .test (ige a3330.P a3329.Parts) true, .test (beqb true false) false, .test (beqb true false) false, .test (beqb true false) false, .test true true, .test true true] := ⟨(beqb_ft (ige_eq h3335)), (beqb_ft (ige_eq h3335)), (beqb_ft (ige_eq h3335)), (ige_eq h3335), (beqb_ft rfl), (beqb_ft rfl), (beqb_ft rfl), rfl, rfl, trivial⟩
   exact fn_playC hn81 (r := F81_res false) (pq3401 (pq3402 pz)) (by kernel_rfl) (by kernel_rfl)
  have pq3403 : ∀ {l : List Cond}, HoldAll E H hn81 l → HoldAll E H hn81 (.test (beqb (ige a3330.P a3329.Parts) false) true :: .test (beqb (ige a3330.P a3329.Parts) false) true :: .test (beqb (ige a3330.P a3329.Parts) false) true :: .test (ige a3330.P a3329.Parts) false :: l) := fun z => ⟨(beqb_ff (ige_eq h3335)), (beqb_ff (ige_eq h3335)), (beqb_ff (ige_eq h3335)), (ige_eq h3335), z⟩
  refine cond_some hF (fun h3336 hF => ?_) (fun h3336 hF => ?_)
  ·
   obtain rfl := Option.some.inj hF
   have pz : HoldAll E H hn81 [.test (beqb (ilt a3330.Step 0) false) false, .test (beqb (ilt a3330.Step 0) false) false, .test (beqb (ilt a3330.Step 0) false) false, .test (ilt a3330.Step 0) true, .test true true] := ⟨(beqb_ft h3336), (beqb_ft h3336), (beqb_ft h3336), h3336, rfl, trivial⟩
   exact fn_playC hn81 (r := F81_res false) (pq3401 (pq3402 (pq3403 pz))) (by kernel_rfl) (by kernel_rfl)
  have pq3404 : ∀ {l : List Cond}, HoldAll E H hn81 l → HoldAll E H hn81 (.test (beqb (ilt a3330.Step 0) false) true :: .test (beqb (ilt a3330.Step 0) false) true :: .test (beqb (ilt a3330.Step 0) false) true :: .test (ilt a3330.Step 0) false :: l) := fun z => ⟨(beqb_ff h3336), (beqb_ff h3336), (beqb_ff h3336), h3336, z⟩
  refine cond_some hF (fun h3337 hF => ?_) (fun h3337 hF => ?_)
  ·
   obtain rfl := Option.some.inj hF
   have pz : HoldAll E H hn81 [.test (igt a3330.Step 40) true] := ⟨(igt_eq h3337), trivial⟩
   exact fn_playC hn81 (r := F81_res false) (pq3401 (pq3402 (pq3403 (pq3404 pz)))) (by kernel_rfl) (by kernel_rfl)
  refine bind_some hF (fun r3338 h3339 hF => ?_)
  have pq3405 : ∀ {l : List Cond}, HoldAll E H hn81 l → HoldAll E H hn81 (.test (igt a3330.Step 40) false :: .call 139 [.agg (eGGraph a3328), .agg (eGJob a3329), .one (.lit (.int .i64 a3330.P))] (F139_res r3338) :: .test (leadsAny (Res.mk [(.one (.own 3 (.sl (len r3338) (flat (eInt .i64) r3338))))] [])) false :: .int (nlen (len a3330.Vals)) (nlen (len a3330.Vals)) :: .int (nlen (len r3338)) (nlen (len r3338)) :: l) := fun z => ⟨(igt_eq h3337), (F139_ok K a3328 a3329 a3330.P _ h3339), (leads_ok (by simp [leadsAny, RV.leads, RC.leads, leadsT, hasSl_lit, flat_ns (eInt_ns _), flat_ns eGJob_ns])), rfl, rfl, z⟩
  refine cond_some hF (fun h3340 hF => ?_) (fun h3340 hF => ?_)
  ·
   have pq3406 : ∀ {l : List Cond}, HoldAll E H hn81 l → HoldAll E H hn81 (.test (beqb (ine (nlen (len a3330.Vals)) (nlen (len r3338))) false) true :: .test (beqb (ine (nlen (len a3330.Vals)) (nlen (len r3338))) false) true :: .test (beqb (ine (nlen (len a3330.Vals)) (nlen (len r3338))) false) true :: .int (nlen (len a3330.Rest)) (nlen (len a3330.Rest)) :: .test (beqb (ine (nlen (len a3330.Vals)) (nlen (len r3338))) false) true :: .test (beqb (ine (nlen (len a3330.Vals)) (nlen (len r3338))) false) true :: .int (nlen (len r3338)) (nlen (len r3338)) :: .test (beqb (ine (nlen (len a3330.Vals)) (nlen (len r3338))) false) true :: .test (ine (nlen (len a3330.Vals)) (nlen (len r3338))) false :: l) := fun z => ⟨(beqb_ff (ine_t h3340)), (beqb_ff (ine_t h3340)), (beqb_ff (ine_t h3340)), rfl, (beqb_ff (ine_t h3340)), (beqb_ff (ine_t h3340)), rfl, (beqb_ff (ine_t h3340)), (ine_t h3340), z⟩
   refine cond_some hF (fun h3341 hF => ?_) (fun h3341 hF => ?_)
   ·
    refine bind_some hF (fun y3398 h3397 hF => ?_)
    refine sum_some hF (fun w3399 hx hF => ?_) (fun w3400 hx hF => ?_)
    ·
     subst hx
     obtain rfl := Option.some.inj hF
     have pz : HoldAll E H hn81 [.test (ine (nlen (len a3330.Rest)) (nlen (len r3338))) false, .loop 0 c81_0 (F81_l0_0_S a3330 r3338 0) .ret (F81_l0_0_X0 a3330 r3338 w3399)] := ⟨(ine_t h3341), (F81_l0_0_ok K a3330 r3338 K 0 _ h3397), trivial⟩
     exact fn_playC hn81 (r := F81_res false) (pq3401 (pq3402 (pq3403 (pq3404 (pq3405 (pq3406 pz)))))) (by kernel_rfl) (by kernel_rfl)
    subst hx
    obtain rfl := Option.some.inj hF
    have pz : HoldAll E H hn81 [.test (ine (nlen (len a3330.Rest)) (nlen (len r3338))) false, .loop 0 c81_0 (F81_l0_0_S a3330 r3338 0) (.exit 0) (F81_l0_0_X1 a3330 r3338 w3400)] := ⟨(ine_t h3341), (F81_l0_0_ok K a3330 r3338 K 0 _ h3397), trivial⟩
    exact fn_playC hn81 (r := F81_res true) (pq3401 (pq3402 (pq3403 (pq3404 (pq3405 (pq3406 pz)))))) (by kernel_rfl) (by kernel_rfl)
   obtain rfl := Option.some.inj hF
   have pz : HoldAll E H hn81 [.test (ine (nlen (len a3330.Rest)) (nlen (len r3338))) true] := ⟨(ine_f h3341), trivial⟩
   exact fn_playC hn81 (r := F81_res false) (pq3401 (pq3402 (pq3403 (pq3404 (pq3405 (pq3406 pz)))))) (by kernel_rfl) (by kernel_rfl)
  obtain rfl := Option.some.inj hF
  have pz : HoldAll E H hn81 [.test (beqb (ine (nlen (len a3330.Vals)) (nlen (len r3338))) false) false, .test (beqb (ine (nlen (len a3330.Vals)) (nlen (len r3338))) false) false, .test (beqb (ine (nlen (len a3330.Vals)) (nlen (len r3338))) false) false, .test (beqb (ine (nlen (len a3330.Vals)) (nlen (len r3338))) false) false, .test (beqb (ine (nlen (len a3330.Vals)) (nlen (len r3338))) false) false, .test (beqb (ine (nlen (len a3330.Vals)) (nlen (len r3338))) false) false, .test (ine (nlen (len a3330.Vals)) (nlen (len r3338))) true, .test true true] := ⟨(beqb_ft (ine_f h3340)), (beqb_ft (ine_f h3340)), (beqb_ft (ine_f h3340)), (beqb_ft (ine_f h3340)), (beqb_ft (ine_f h3340)), (beqb_ft (ine_f h3340)), (ine_f h3340), rfl, trivial⟩
  exact fn_playC hn81 (r := F81_res false) (pq3401 (pq3402 (pq3403 (pq3404 (pq3405 pz))))) (by kernel_rfl) (by kernel_rfl)
 obtain rfl := Option.some.inj hF
 have pz : HoldAll E H hn81 [.call 59 [.agg (eGGraph a3328), .agg (eGJob a3329)] (F59_res r3331), .test (leadsAny (Res.mk [(.one (.im (.lit (.int .i64 r3331))))] [])) false, .test (beqb (ine r3331 0) false) false, .test (beqb (ine r3331 0) false) false, .test (beqb (ine r3331 0) false) false, .test (ine r3331 0) true, .test (beqb true false) false, .test (beqb true false) false, .test (beqb true false) false, .test (beqb true false) false, .test (beqb true false) false, .test true true, .test (beqb true false) false, .test (beqb true false) false, .test (beqb true false) false, .test true true, .test (beqb true false) false, .test (beqb true false) false, .test (beqb true false) false, .test true true, .test true true] := ⟨(F59_ok K a3328 a3329 _ h3332), (leads_ok (by simp [leadsAny, RV.leads, RC.leads, leadsT, hasSl_lit, flat_ns eGJob_ns])), (beqb_ft (ine_f h3333)), (beqb_ft (ine_f h3333)), (beqb_ft (ine_f h3333)), (ine_f h3333), (beqb_ft rfl), (beqb_ft rfl), (beqb_ft rfl), (beqb_ft rfl), (beqb_ft rfl), rfl, (beqb_ft rfl), (beqb_ft rfl), (beqb_ft rfl), rfl, (beqb_ft rfl), (beqb_ft rfl), (beqb_ft rfl), rfl, rfl, trivial⟩
 exact fn_playC hn81 (r := F81_res false) pz (by kernel_rfl) (by kernel_rfl)
def inOkS (n parts p : Int) : Int → List GMsg → Bool
 | _, [] => true
 | prev, m :: r => ilt prev m.To && (ilt m.To n && (ieq (m.To % parts) p && inOkS n parts p m.To r))
def sumU (b : Bool) : Unit ⊕ Unit := bif b then .inr () else .inl ()
theorem sumU_elim (b : Bool) : (some (sumU b)).bind (fun y => Sum.elim (fun w => some false) (fun w => some true) y) = some b := by cases b <;> rfl
theorem not_ile {a b : Int} : ile a b = !(ilt b a) := by
 unfold ile ilt; by_cases h : b < a <;> simp [h] <;> omega
def partRight (g : GGraph) (j : GJob) (x : GPart) : Bool :=
 ieq (jcheck g j) 0 && (ile 0 x.P && (ilt x.P j.Parts && (ile 0 x.Step && (ile x.Step 40 && (ieq (x.Vals.length : Int) (countS g j x.P) && (ieq (x.Rest.length : Int) (countS g j x.P) && inOkS g.N j.Parts x.P (-1) x.In))))))
theorem F80_loop {K : Nat} (g : GGraph) (j : GJob) (x : GPart) (hp : 1 ≤ j.Parts) (hl : x.In.length < 1000000) (hK : x.In.length < K) : F80_l0_0 K g j x K (-1) 0 = some (sumU (inOkS g.N j.Parts x.P (-1) x.In)) := by
 let step : GMsg → Int → (Int → Option (Unit ⊕ Unit)) → Option (Unit ⊕ Unit) := fun m s c =>
   bif (ile m.To s) then (some (.inl ())) else bif (ile g.N m.To) then (some (.inl ())) else bif (izero j.Parts) then none else bif (ieq (wrem m.To j.Parts) x.P) then c m.To else some (.inl ())
 have h := scanL (l := x.In) (L := fun k s i => F80_l0_0 K g j x k s i) step (fun _ => some (.inr ())) (fun k s i _ => rfl) (by omega) (K := K) hK (-1)
 have hz : izero j.Parts = false := decide_eq_false (by omega)
 have hw : ∀ (l : List GMsg) (s : Int), -1 ≤ s → goL step (fun _ => some (.inr ())) l s = some (sumU (inOkS g.N j.Parts x.P s l)) := by
   intro l
   induction l with
   | nil => intro s _; rfl
   | cons m l ih =>
     intro s hs
     rw [goL]
     show (bif (ile m.To s) then (some (.inl ())) else bif (ile g.N m.To) then (some (.inl ())) else bif (izero j.Parts) then none else bif (ieq (wrem m.To j.Parts) x.P) then goL step (fun _ => some (.inr ())) l m.To else some (.inl ())) = _
     rw [inOkS, hz, not_ile, not_ile]
     cases h1 : ilt s m.To
     · rfl
     · have h1' := ilt_iff.1 h1
       rw [wrem_emod (by omega), ih m.To (by omega)]
       cases ilt m.To g.N <;> cases ieq (m.To % j.Parts) x.P <;> rfl
 rw [hw _ _ (by omega)] at h
 exact h
theorem F80_spec {K : Nat} (hK : 1000 ≤ K) (g : GGraph) (j : GJob) (x : GPart) (hl : x.In.length < 1000000) (hk : x.In.length < K) (hp : -9223372036854775808 ≤ x.P ∧ x.P ≤ 9223372036854775807) : F80 K g j x = some (partRight g j x) := by
 rw [F80, F94_spec (by omega), Option.bind_some, partRight]
 cases hc : ieq (jcheck g j) 0
 · rfl
 · obtain ⟨hg, p1, p2, p3, p4, p5, p6, p7, p8⟩ := jcheck_ok hc
   rw [cond_true, F77_spec (by omega) g j x.P hp, hc, F80_loop g j x p7 hl hk]
   have n1 : nlen (len x.Vals) = (x.Vals.length : Int) := rfl
   have n2 : nlen (len x.Rest) = (x.Rest.length : Int) := rfl
   rw [ilt_not' x.P 0, not_ile (a := j.Parts), ilt_not' x.Step 0, ilt_not' 40 x.Step, n1, n2, cond_true, Option.bind_some, sumU_elim]
   cases ile 0 x.P <;> cases ilt x.P j.Parts <;> cases ile 0 x.Step <;> cases ile x.Step 40 <;> cases ieq (x.Vals.length : Int) (countS g j x.P) <;> cases ieq (x.Rest.length : Int) (countS g j x.P) <;> rfl
theorem any_verts {g : GGraph} {j : GJob} (hp : 1 ≤ j.Parts) (p to : Int) : (((vertsS g j p).map Int.ofNat).any fun v => ieq v to) = (ile 0 to && (ilt to g.N && ieq (to % j.Parts) p)) := by
 rw [Bool.eq_iff_iff]
 simp only [List.any_map, List.any_eq_true, Function.comp, Bool.and_eq_true, ile_iff, ilt_iff, ieq_iff]
 constructor
 · rintro ⟨v, hv, e⟩
   have := (mem_verts hp).1 hv
   have e' : (v : Int) = to := e
   rw [← e']; exact ⟨by omega, this⟩
 · rintro ⟨h0, h1, h2⟩
   obtain ⟨v, rfl⟩ := Int.eq_ofNat_of_zero_le h0
   exact ⟨v, (mem_verts hp).2 ⟨h1, h2⟩, rfl⟩
theorem F81_inner {K : Nat} (x : GPart) (l : List Int) (v : Int) (m : GMsg) (hl : l.length < 1000000) (hk : l.length < K) : F81_l1_1 K x l v m K false 0 = some (l.any fun v => ieq v m.To) := by
 have h := scanL (l := l) (L := fun k s i => F81_l1_1 K x l v m k s i) (fun y s c => bif s then c true else c (ieq y m.To)) (fun s => some s) (fun k s i _ => by
   show F81_l1_1 K x l v m (k + 1) s i = _
   rw [F81_l1_1]
   rcases at_idx l i with ⟨z, e1, e2, e3, e4⟩ | ⟨e1, e2⟩
   · rw [e2, e3, e4]; cases s <;> rfl
   · rw [e2]; rfl) (by omega) (K := K) hk false
 have hw : ∀ (l : List Int) (s : Bool), goL (fun y s c => bif s then c true else c (ieq y m.To)) (fun s => some s) l s = some (s || l.any fun v => ieq v m.To) := by
   intro l
   induction l with
   | nil => intro s; simp [goL]
   | cons y l ih =>
     intro s
     rw [goL]
     cases s
     · rw [cond_false, ih, List.any_cons, Bool.false_or]
     · rw [cond_true, ih]; rfl
 rw [hw, Bool.false_or] at h
 exact h
theorem verts_len (g : GGraph) (j : GJob) (hn : g.N ≤ 24) (p : Int) : (vertsS g j p).length ≤ 24 := by
 unfold vertsS vertsN
 refine Nat.le_trans (List.length_filter_le _ _) ?_
 simp; omega
theorem F81_loop {K : Nat} (hK : 1000 ≤ K) (g : GGraph) (j : GJob) (x : GPart) (hp : 1 ≤ j.Parts) (hn : g.N ≤ 24) (hl : x.In.length < 1000000) (hk : x.In.length < K) : F81_l0_0 K x ((vertsS g j x.P).map Int.ofNat) K 0 = some (sumU (inOkS g.N j.Parts x.P (-1) x.In)) := by
 have hv := verts_len g j hn x.P
 let step : Nat → GMsg → Unit → (Unit → Option (Unit ⊕ Unit)) → Option (Unit ⊕ Unit) := fun i m _ c =>
     (F81_l1_1 K x ((vertsS g j x.P).map Int.ofNat) (i : Int) m K false 0).bind fun w3384 =>
     bif w3384 then
       (bif (ilt 0 (i : Int)) then
         (bif (inr (wsub .i64 (i : Int) 1) (len x.In)) then
         (elAt x.In (wsub .i64 (i : Int) 1)).bind fun x3389 =>
         bif (ile m.To x3389.To) then (some (.inl ())) else c ()
         else none)
       else c ())
     else some (.inl ())
 have h := scanI (l := x.In) (L := fun k (_ : Unit) i => F81_l0_0 K x ((vertsS g j x.P).map Int.ofNat) k i) step (fun _ => some (.inr ())) (fun k st i hi => rfl) (by omega) K () 0 (by omega) (by omega)
 have hw : ∀ (r : List GMsg) (i : Nat), x.In.drop i = r → goI step (fun _ => some (.inr ())) i r () = some (sumU (inOkS g.N j.Parts x.P (match prevOf x.In i with | none => -1 | some d => if 0 ≤ d.To then d.To else -1) r)) ∨ (∃ d, prevOf x.In i = some d ∧ d.To < 0) := by
   intro r
   induction r with
   | nil => intro i _; exact .inl rfl
   | cons m r ih =>
     intro i hr
     obtain ⟨n1, n2, hi⟩ := prev_next hr
     by_cases hneg : ∃ d, prevOf x.In i = some d ∧ d.To < 0
     · exact .inr hneg
     left
     rw [goI]
     show ((F81_l1_1 K x ((vertsS g j x.P).map Int.ofNat) (i : Int) m K false 0).bind fun w3384 =>
     bif w3384 then
       (bif (ilt 0 (i : Int)) then
         (bif (inr (wsub .i64 (i : Int) 1) (len x.In)) then
         (elAt x.In (wsub .i64 (i : Int) 1)).bind fun x3389 =>
         bif (ile m.To x3389.To) then (some (.inl ())) else goI step (fun _ => some (.inr ())) (i + 1) r ()
         else none)
       else goI step (fun _ => some (.inr ())) (i + 1) r ())
     else some (.inl ())) = _
     rw [F81_inner x _ _ m (by simp; omega) (by simp; omega), any_verts hp, Option.bind_some]
     cases h0 : ile 0 m.To
     · have := ile_f.1 h0
       have hno : ∀ a : Int, -1 ≤ a → ilt a m.To = false := fun a ha => ilt_f.2 (by omega)
       have hprev : (-1 : Int) ≤ (match prevOf x.In i with | none => -1 | some d => if 0 ≤ d.To then d.To else -1) := by
         split
         · omega
         · split <;> omega
       rw [inOkS, hno _ hprev]; rfl
     · have hm0 := ile_iff.1 h0
       have nx : goI step (fun _ => some (.inr ())) (i + 1) r () = some (sumU (inOkS g.N j.Parts x.P m.To r)) := by
         rcases ih (i + 1) n2 with q | ⟨d, q1, q2⟩
         · rw [n1] at q
           dsimp only at q
           rw [if_pos hm0] at q; exact q
         · rw [n1] at q1; cases q1; omega
       rw [nx, inOkS]
       cases i with
       | zero =>
         have e1 : ilt 0 ((0 : Nat) : Int) = false := rfl
         have e2 : (match prevOf x.In 0 with | none => (-1 : Int) | some d => if 0 ≤ d.To then d.To else -1) = -1 := rfl
         rw [e1, e2, ilt_iff.2 (by omega : (-1 : Int) < m.To)]
         cases ilt m.To g.N <;> cases ieq (m.To % j.Parts) x.P <;> rfl
       | succ q =>
         obtain ⟨d, p1, p2, p3, p4⟩ := prev_at (l := x.In) (i := q + 1) (by omega) hi (by omega)
         have hd : ¬ d.To < 0 := fun hh => hneg ⟨d, p1, hh⟩
         have e1 : ilt 0 ((q + 1 : Nat) : Int) = true := ilt_iff.2 (by omega)
         rw [e1, p2, p3, p4, p1]
         simp only [Option.bind_some, cond_true, Bool.true_and, not_ile (a := m.To), if_pos (show 0 ≤ d.To by omega)]
         cases ilt d.To m.To <;> cases ilt m.To g.N <;> cases ieq (m.To % j.Parts) x.P <;> rfl
 rcases hw x.In 0 rfl with q | ⟨d, q1, _⟩
 · rw [List.drop_zero, q] at h; exact h
 · cases q1
theorem F81_spec {K : Nat} (hK : 1000 ≤ K) (g : GGraph) (j : GJob) (x : GPart) (hl : x.In.length < 1000000) (hk : x.In.length < K) : F81 K g j x = some (partRight g j x) := by
 rw [F81, F59_spec (by omega), Option.bind_some, partRight]
 cases hc : ieq (jcheck g j) 0
 · rfl
 · obtain ⟨hg, p1, p2, p3, p4, p5, p6, p7, p8⟩ := jcheck_ok hc
   obtain ⟨g1, g2, _, _⟩ := gcheck_ok hg
   have n3 : nlen (len ((vertsS g j x.P).map Int.ofNat)) = countS g j x.P := by simp [nlen, len, countS]
   rw [cond_true, F139_spec (by omega) p7 p8 g2, Option.bind_some, F81_loop hK g j x p7 g2 hl hk, n3]
   have n1 : nlen (len x.Vals) = (x.Vals.length : Int) := rfl
   have n2 : nlen (len x.Rest) = (x.Rest.length : Int) := rfl
   rw [ilt_not' x.P 0, not_ile (a := j.Parts), ilt_not' x.Step 0, ilt_not' 40 x.Step, n1, n2, sumU_elim]
   cases ile 0 x.P <;> cases ilt x.P j.Parts <;> cases ile 0 x.Step <;> cases ile x.Step 40 <;> cases ieq (x.Vals.length : Int) (countS g j x.P) <;> cases ieq (x.Rest.length : Int) (countS g j x.P) <;> rfl
theorem partRight_ok {g : GGraph} {j : GJob} {x : GPart} (h : partRight g j x = true) : ieq (jcheck g j) 0 = true ∧ 0 ≤ x.P ∧ x.P < j.Parts ∧ 0 ≤ x.Step ∧ x.Step ≤ 40 ∧ (x.Vals.length : Int) = countS g j x.P ∧ (x.Rest.length : Int) = countS g j x.P ∧ inOkS g.N j.Parts x.P (-1) x.In = true := by
 simp only [partRight, Bool.and_eq_true, ile_iff, ilt_iff, ieq_iff] at h
 obtain ⟨h1, h2, h3, h4, h5, h6, h7, h8⟩ := h
 exact ⟨ieq_iff.2 h1, h2, h3, h4, h5, h6, h7, h8⟩
noncomputable def hn120 : Hint := { H 120 with nt := 19, prot := 0 }
noncomputable def c120_0 : Code := loopOf E 120 0
def F120_res (r6532 : Bool) : Res := ⟨[(.one (.im (.lit (.bool r6532))))], []⟩
def F120_l0_0 (K : Nat) (a6512 : List (List GMsg)) : Nat → Int → Option ((Unit) ⊕ (Unit))
 | 0, _ => none
 | k + 1, v6519 =>
  bif (ilt v6519 (nlen (len a6512))) then
   (bif (inr v6519 (len a6512)) then
   (elAt a6512 v6519).bind fun x6522 =>
   bif (ilt 100 (nlen (len x6522))) then
    (some (.inl ()))
   else
   F120_l0_0 K a6512 k (wadd .i64 v6519 1)
   else none)
  else
  some (.inr ())
def F120_l0_0_S (a6512 : List (List GMsg)) (v6519 : Int) : TS := .on [0, 1, 192, 193] [(0, ⟨.one, 0, nob⟩), (1, ⟨.im, 0, (.sl (len a6512) (flat (eSl eGMsg) a6512))⟩), (192, ⟨.one, 0, nob⟩), (193, ⟨.im, 0, (.lit (.int .i64 v6519))⟩)]
def F120_l0_0_X0 (a6512 : List (List GMsg)) (w6525 : Unit) : TS := .on [128, 129] [(128, ⟨.one, 0, nob⟩), (129, ⟨.im, 0, (.lit (.bool true))⟩)]
def F120_l0_0_X1 (a6512 : List (List GMsg)) (w6526 : Unit) : TS := .on [] []
theorem F120_l0_0_ok (K : Nat) (a6512 : List (List GMsg)) : ∀ (k : Nat) (v6519 : Int) (r : (Unit) ⊕ (Unit)), F120_l0_0 K a6512 k v6519 = some r → (Sum.elim (fun w => LoopEv E H hn120 0 c120_0 (F120_l0_0_S a6512 v6519) .ret (F120_l0_0_X0 a6512 w)) (fun w => LoopEv E H hn120 0 c120_0 (F120_l0_0_S a6512 v6519) (.exit 0) (F120_l0_0_X1 a6512 w))) r := by
 intro k
 induction k with
 | zero => intro v6519 r hF; cases hF
 | succ k ih =>
  intro v6519 r hF
  rw [F120_l0_0] at hF
  refine cond_some hF (fun h6520 hF => ?_) (fun h6520 hF => ?_)
  ·
   refine cond_some hF (fun h6521 hF => ?_) (fun _ hF => nomatch hF)
   refine bind_some hF (fun x6522 h6523 hF => ?_)
   have pq6527 : ∀ {l : List Cond}, HoldAll E H hn120 l → HoldAll E H hn120 (.int (nlen (len a6512)) (nlen (len a6512)) :: .test (ilt v6519 (nlen (len a6512))) true :: .test (inr v6519 (len a6512)) true :: .sub (flat (eSl eGMsg) a6512) (nidx v6519 1) 1 [(.sl (len x6522) (flat eGMsg x6522))] :: .int (nlen (len x6522)) (nlen (len x6522)) :: l) := fun z => ⟨rfl, h6520, h6521, ⟨rfl, sub_flat0 (eSl_len _) h6523 1 (by decide)⟩, rfl, z⟩
   refine cond_some hF (fun h6524 hF => ?_) (fun h6524 hF => ?_)
   ·
    obtain rfl := Option.some.inj hF
    have pz : HoldAll E H hn120 [.test (igt (nlen (len x6522)) 100) true] := ⟨(igt_eq h6524), trivial⟩
    exact loop_endC (h := hn120) (l := 0) (c := c120_0) (ts := F120_l0_0_S a6512 v6519) (ts' := F120_l0_0_X0 a6512 ()) (ex := .ret) (pq6527 pz) (by kernel_rfl) trivial
   have pz : HoldAll E H hn120 [.test (igt (nlen (len x6522)) 100) false, .int (wadd .i64 v6519 1) (wadd .i64 v6519 1)] := ⟨(igt_eq h6524), rfl, trivial⟩
   have h0 := ih _ _ hF
   have hn := fun ex ts' => loop_nextC (h := hn120) (l := 0) (c := c120_0) (ts := F120_l0_0_S a6512 v6519) (ts1 := (F120_l0_0_S a6512 (wadd .i64 v6519 1))) (ex := ex) (ts' := ts') (pq6527 pz) (by kernel_rfl)
   cases r with
   | inl w => exact hn _ _ h0
   | inr w => exact hn _ _ h0
  obtain rfl := Option.some.inj hF
  have pz : HoldAll E H hn120 [.int (nlen (len a6512)) (nlen (len a6512)), .test (ilt v6519 (nlen (len a6512))) false] := ⟨rfl, h6520, trivial⟩
  exact loop_endC (h := hn120) (l := 0) (c := c120_0) (ts := F120_l0_0_S a6512 v6519) (ts' := F120_l0_0_X1 a6512 ()) (ex := (.exit 0)) pz (by kernel_rfl) trivial
def F120 (K : Nat) (a6512 : List (List GMsg)) : Option (Bool) :=
 bif (ilt 20 (nlen (len a6512))) then
  (some true)
 else
 (F120_l0_0 K a6512 K 0).bind fun y6529 =>
 Sum.elim (fun w6530 =>
  some true)
  (fun w6531 =>
  some false) y6529
theorem F120_ok (K : Nat) (a6512 : List (List GMsg)) (r : Bool) (hF : F120 K a6512 = some r) : Evt E H 120 [.one (.sl (len a6512) (flat (eSl eGMsg) a6512))] (F120_res r) := by
 rw [F120] at hF
 refine cond_some hF (fun h6513 hF => ?_) (fun h6513 hF => ?_)
 ·
  obtain rfl := Option.some.inj hF
  have pz : HoldAll E H hn120 [.int (nlen (len a6512)) (nlen (len a6512)), .test (igt (nlen (len a6512)) 20) true] := ⟨rfl, (igt_eq h6513), trivial⟩
  exact fn_playC hn120 (r := F120_res true) pz (by kernel_rfl) (by kernel_rfl)
 refine bind_some hF (fun y6529 h6528 hF => ?_)
 refine sum_some hF (fun w6530 hx hF => ?_) (fun w6531 hx hF => ?_)
 ·
  subst hx
  obtain rfl := Option.some.inj hF
  have pz : HoldAll E H hn120 [.int (nlen (len a6512)) (nlen (len a6512)), .test (igt (nlen (len a6512)) 20) false, .loop 0 c120_0 (F120_l0_0_S a6512 0) .ret (F120_l0_0_X0 a6512 w6530)] := ⟨rfl, (igt_eq h6513), (F120_l0_0_ok K a6512 K 0 _ h6528), trivial⟩
  exact fn_playC hn120 (r := F120_res true) pz (by kernel_rfl) (by kernel_rfl)
 subst hx
 obtain rfl := Option.some.inj hF
 have pz : HoldAll E H hn120 [.int (nlen (len a6512)) (nlen (len a6512)), .test (igt (nlen (len a6512)) 20) false, .loop 0 c120_0 (F120_l0_0_S a6512 0) (.exit 0) (F120_l0_0_X1 a6512 w6531)] := ⟨rfl, (igt_eq h6513), (F120_l0_0_ok K a6512 K 0 _ h6528), trivial⟩
 exact fn_playC hn120 (r := F120_res false) pz (by kernel_rfl) (by kernel_rfl)
noncomputable def hn155 : Hint := { H 155 with nt := 14, prot := 0 }
def F155_res (r6602 : GPart) : Res := ⟨[(.agg [(.im (.lit (.int .i64 r6602.P))), (.im (.lit (.int .i64 r6602.Step))), (.own 2 (.sl (len r6602.Vals) (flat (eInt .i64) r6602.Vals))), (.own 4 (.sl (len r6602.Rest) (flat eBool r6602.Rest))), (.im (.sl (len r6602.In) (flat eGMsg r6602.In)))])], []⟩
def F155 (K : Nat) (a6599 : GPart) : Option (GPart) :=
 bif (apok 0 (len a6599.Vals) 8) then
 bif (apok 0 (len a6599.Rest) 1) then
 some (GPart.mk a6599.P a6599.Step (appL [] a6599.Vals) (appL [] a6599.Rest) a6599.In)
 else none
 else none
theorem F155_ok (K : Nat) (a6599 : GPart) (r : GPart) (hF : F155 K a6599 = some r) : Evt E H 155 [.agg (eGPart a6599)] (F155_res r) := by
 rw [F155] at hF
 refine cond_some hF (fun h6600 hF => ?_) (fun _ hF => nomatch hF)
 refine cond_some hF (fun h6601 hF => ?_) (fun _ hF => nomatch hF)
 obtain rfl := Option.some.inj hF
 have pz : HoldAll E H hn155 [.test (leqm (flat (eInt .i64) a6599.Vals) (len a6599.Vals) 1) true, .test (apok 0 (len a6599.Vals) 8) true, .sl (nadd 0 (len a6599.Vals)) (lapp [] (flat (eInt .i64) a6599.Vals)) (len (α := Int) (appL [] a6599.Vals)) (flat (eInt .i64) (appL [] a6599.Vals)), .test (leqm (flat eBool a6599.Rest) (len a6599.Rest) 1) true, .test (apok 0 (len a6599.Rest) 1) true, .sl (nadd 0 (len a6599.Rest)) (lapp [] (flat eBool a6599.Rest)) (len (α := Bool) (appL [] a6599.Rest)) (flat eBool (appL [] a6599.Rest))] := ⟨(leqm_flat (eInt_len _) _), h6600, (app_ok (enc := (eInt .i64)) ([] : List Int) a6599.Vals), (leqm_flat eBool_len _), h6601, (app_ok (enc := eBool) ([] : List Bool) a6599.Rest), trivial⟩
 exact fn_playC hn155 (r := F155_res (GPart.mk a6599.P a6599.Step (appL [] a6599.Vals) (appL [] a6599.Rest) a6599.In)) pz (by kernel_rfl) (by kernel_rfl)
noncomputable def hn121 : Hint := { H 121 with nt := 76, prot := 0 }
noncomputable def c121_0 : Code := loopOf E 121 0
def F121_res (r6609 : GPart × Int) : Res := ⟨[(.agg [(.im (.lit (.int .i64 r6609.1.P))), (.im (.lit (.int .i64 r6609.1.Step))), (.own 2 (.sl (len r6609.1.Vals) (flat (eInt .i64) r6609.1.Vals))), (.own 4 (.sl (len r6609.1.Rest) (flat eBool r6609.1.Rest))), (.own 130 (.sl (len r6609.1.In) (flat eGMsg r6609.1.In)))]), (.one (.im (.lit (.int .i64 r6609.2))))], []⟩
def F121_l0_0 (K : Nat) (a6536 : GGraph) (a6537 : GJob) (a6538 : GPart) (r6569 : List GMsg) : Nat → Int → Option ((Unit) ⊕ (Unit))
 | 0, _ => none
 | k + 1, v6579 =>
  bif (ilt v6579 (nlen (len r6569))) then
   (bif (inr v6579 (len r6569)) then
   (elAt r6569 v6579).bind fun x6582 =>
   bif (ile a6536.N x6582.To) then
    (some (.inl ()))
   else
   (F75 K a6537 x6582.To).bind fun r6585 =>
   bif (ieq r6585 a6538.P) then
    (F121_l0_0 K a6536 a6537 a6538 r6569 k (wadd .i64 v6579 1))
   else
   some (.inl ())
   else none)
  else
  some (.inr ())
def F121_l0_0_S (a6536 : GGraph) (a6537 : GJob) (a6538 : GPart) (r6569 : List GMsg) (v6579 : Int) : TS := .on [256, 257, 258, 320, 321, 322, 323, 324, 384, 385, 386, 387, 388, 389, 512, 513, 514, 515, 516, 517, 704, 705, 2432, 2433, 2496, 2497, 2560, 2561] [(256, ⟨(.box 62 2), 0, nob⟩), (257, ⟨.im, 0, (.lit (.int .i64 a6536.N))⟩), (258, ⟨.im, 0, (.sl (len a6536.Edges) (flat eGEdge a6536.Edges))⟩), (320, ⟨(.box 64 4), 0, nob⟩), (321, ⟨.im, 0, (.lit (.int .i64 a6537.Prog))⟩), (322, ⟨.im, 0, (.lit (.int .i64 a6537.Source))⟩), (323, ⟨.im, 0, (.lit (.int .i64 a6537.Limit))⟩), (324, ⟨.im, 0, (.lit (.int .i64 a6537.Parts))⟩), (384, ⟨(.box 42 5), 0, nob⟩), (385, ⟨.im, 0, (.lit (.int .i64 a6538.P))⟩), (386, ⟨.im, 0, (.lit (.int .i64 a6538.Step))⟩), (387, ⟨.im, 0, (.sl (len a6538.Vals) (flat (eInt .i64) a6538.Vals))⟩), (388, ⟨.im, 0, (.sl (len a6538.Rest) (flat eBool a6538.Rest))⟩), (389, ⟨.im, 0, (.sl (len a6538.In) (flat eGMsg a6538.In))⟩), (512, ⟨(.box 42 5), 0, nob⟩), (513, ⟨.im, 0, (.lit (.int .i64 0))⟩), (514, ⟨.im, 0, (.lit (.int .i64 0))⟩), (515, ⟨(.own 2), 0, (.sl 0 [])⟩), (516, ⟨(.own 4), 0, (.sl 0 [])⟩), (517, ⟨(.own 130), 0, (.sl 0 [])⟩), (704, ⟨.one, 0, nob⟩), (705, ⟨(.own 130), 0, (.sl (len r6569) (flat eGMsg r6569))⟩), (2432, ⟨.one, 0, nob⟩), (2433, ⟨(.vw 705 0), 0, nob⟩), (2496, ⟨.one, 0, nob⟩), (2497, ⟨.im, 0, (.lit (.int .i64 (nlen (len r6569))))⟩), (2560, ⟨.one, 0, nob⟩), (2561, ⟨.im, 0, (.lit (.int .i64 v6579))⟩)]
def F121_l0_0_X0 (a6536 : GGraph) (a6537 : GJob) (a6538 : GPart) (r6569 : List GMsg) (w6588 : Unit) : TS := .on [512, 513, 514, 515, 516, 517, 576, 577] [(512, ⟨(.box 42 5), 0, nob⟩), (513, ⟨.im, 0, (.lit (.int .i64 0))⟩), (514, ⟨.im, 0, (.lit (.int .i64 0))⟩), (515, ⟨(.own 2), 0, (.sl 0 [])⟩), (516, ⟨(.own 4), 0, (.sl 0 [])⟩), (517, ⟨(.own 130), 0, (.sl 0 [])⟩), (576, ⟨.one, 0, nob⟩), (577, ⟨.im, 0, (.lit (.int .i64 1))⟩)]
def F121_l0_0_X1 (a6536 : GGraph) (a6537 : GJob) (a6538 : GPart) (r6569 : List GMsg) (w6589 : Unit) : TS := .on [320, 321, 322, 323, 324, 384, 385, 386, 387, 388, 389, 512, 513, 514, 515, 516, 517, 704, 705] [(320, ⟨(.box 64 4), 0, nob⟩), (321, ⟨.im, 0, (.lit (.int .i64 a6537.Prog))⟩), (322, ⟨.im, 0, (.lit (.int .i64 a6537.Source))⟩), (323, ⟨.im, 0, (.lit (.int .i64 a6537.Limit))⟩), (324, ⟨.im, 0, (.lit (.int .i64 a6537.Parts))⟩), (384, ⟨(.box 42 5), 0, nob⟩), (385, ⟨.im, 0, (.lit (.int .i64 a6538.P))⟩), (386, ⟨.im, 0, (.lit (.int .i64 a6538.Step))⟩), (387, ⟨.im, 0, (.sl (len a6538.Vals) (flat (eInt .i64) a6538.Vals))⟩), (388, ⟨.im, 0, (.sl (len a6538.Rest) (flat eBool a6538.Rest))⟩), (389, ⟨.im, 0, (.sl (len a6538.In) (flat eGMsg a6538.In))⟩), (512, ⟨(.box 42 5), 0, nob⟩), (513, ⟨.im, 0, (.lit (.int .i64 0))⟩), (514, ⟨.im, 0, (.lit (.int .i64 0))⟩), (515, ⟨(.own 2), 0, (.sl 0 [])⟩), (516, ⟨(.own 4), 0, (.sl 0 [])⟩), (517, ⟨(.own 130), 0, (.sl 0 [])⟩), (704, ⟨.one, 0, nob⟩), (705, ⟨(.own 130), 0, (.sl (len r6569) (flat eGMsg r6569))⟩)]
theorem F121_l0_0_ok (K : Nat) (a6536 : GGraph) (a6537 : GJob) (a6538 : GPart) (r6569 : List GMsg) : ∀ (k : Nat) (v6579 : Int) (r : (Unit) ⊕ (Unit)), F121_l0_0 K a6536 a6537 a6538 r6569 k v6579 = some r → (Sum.elim (fun w => LoopEv E H hn121 0 c121_0 (F121_l0_0_S a6536 a6537 a6538 r6569 v6579) .ret (F121_l0_0_X0 a6536 a6537 a6538 r6569 w)) (fun w => LoopEv E H hn121 0 c121_0 (F121_l0_0_S a6536 a6537 a6538 r6569 v6579) (.exit 0) (F121_l0_0_X1 a6536 a6537 a6538 r6569 w))) r := by
 intro k
 induction k with
 | zero => intro v6579 r hF; cases hF
 | succ k ih =>
  intro v6579 r hF
  rw [F121_l0_0] at hF
  refine cond_some hF (fun h6580 hF => ?_) (fun h6580 hF => ?_)
  ·
   refine cond_some hF (fun h6581 hF => ?_) (fun _ hF => nomatch hF)
   refine bind_some hF (fun x6582 h6583 hF => ?_)
   have pq6590 : ∀ {l : List Cond}, HoldAll E H hn121 l → HoldAll E H hn121 (.test (ilt v6579 (nlen (len r6569))) true :: .test (inr v6579 (len r6569)) true :: .sub (flat eGMsg r6569) (nidx v6579 2) 2 [(.lit (.int .i64 x6582.To)), (.lit (.int .i64 x6582.V))] :: l) := fun z => ⟨h6580, h6581, ⟨rfl, sub_flat0 eGMsg_len h6583 2 (by decide)⟩, z⟩
   refine cond_some hF (fun h6584 hF => ?_) (fun h6584 hF => ?_)
   ·
    obtain rfl := Option.some.inj hF
    have pz : HoldAll E H hn121 [.test (beqb (ige x6582.To a6536.N) false) false, .test (beqb (ige x6582.To a6536.N) false) false, .test (beqb (ige x6582.To a6536.N) false) false, .test (beqb (ige x6582.To a6536.N) false) false, .test (beqb (ige x6582.To a6536.N) false) false, .test (beqb (ige x6582.To a6536.N) false) false, .test (beqb (ige x6582.To a6536.N) false) false, .test (ige x6582.To a6536.N) true, .test true true] := ⟨(beqb_ft (ige_eq h6584)), (beqb_ft (ige_eq h6584)), (beqb_ft (ige_eq h6584)), (beqb_ft (ige_eq h6584)), (beqb_ft (ige_eq h6584)), (beqb_ft (ige_eq h6584)), (beqb_ft (ige_eq h6584)), (ige_eq h6584), rfl, trivial⟩
    exact loop_endC (h := hn121) (l := 0) (c := c121_0) (ts := F121_l0_0_S a6536 a6537 a6538 r6569 v6579) (ts' := F121_l0_0_X0 a6536 a6537 a6538 r6569 ()) (ex := .ret) (pq6590 pz) (by kernel_rfl) trivial
   refine bind_some hF (fun r6585 h6586 hF => ?_)
   have pq6591 : ∀ {l : List Cond}, HoldAll E H hn121 l → HoldAll E H hn121 (.test (beqb (ige x6582.To a6536.N) false) true :: .test (beqb (ige x6582.To a6536.N) false) true :: .test (beqb (ige x6582.To a6536.N) false) true :: .test (beqb (ige x6582.To a6536.N) false) true :: .call 75 [.agg (eGJob a6537), .one (.lit (.int .i64 x6582.To))] (F75_res r6585) :: .test (leadsAny (Res.mk [(.one (.im (.lit (.int .i64 r6585))))] [])) false :: .test (beqb (ige x6582.To a6536.N) false) true :: .test (beqb (ige x6582.To a6536.N) false) true :: .test (beqb (ige x6582.To a6536.N) false) true :: .test (ige x6582.To a6536.N) false :: l) := fun z => ⟨(beqb_ff (ige_eq h6584)), (beqb_ff (ige_eq h6584)), (beqb_ff (ige_eq h6584)), (beqb_ff (ige_eq h6584)), (F75_ok K a6537 x6582.To _ h6586), (leads_ok (by simp [leadsAny, RV.leads, RC.leads, leadsT, hasSl_lit, flat_ns eGJob_ns])), (beqb_ff (ige_eq h6584)), (beqb_ff (ige_eq h6584)), (beqb_ff (ige_eq h6584)), (ige_eq h6584), z⟩
   refine cond_some hF (fun h6587 hF => ?_) (fun h6587 hF => ?_)
   ·
    have pz : HoldAll E H hn121 [.test (ine r6585 a6538.P) false, .int (wadd .i64 v6579 1) (wadd .i64 v6579 1)] := ⟨(ine_t h6587), rfl, trivial⟩
    have h0 := ih _ _ hF
    have hn := fun ex ts' => loop_nextC (h := hn121) (l := 0) (c := c121_0) (ts := F121_l0_0_S a6536 a6537 a6538 r6569 v6579) (ts1 := (F121_l0_0_S a6536 a6537 a6538 r6569 (wadd .i64 v6579 1))) (ex := ex) (ts' := ts') (pq6590 (pq6591 pz)) (by kernel_rfl)
    cases r with
    | inl w => exact hn _ _ h0
    | inr w => exact hn _ _ h0
   obtain rfl := Option.some.inj hF
   have pz : HoldAll E H hn121 [.test (ine r6585 a6538.P) true] := ⟨(ine_f h6587), trivial⟩
   exact loop_endC (h := hn121) (l := 0) (c := c121_0) (ts := F121_l0_0_S a6536 a6537 a6538 r6569 v6579) (ts' := F121_l0_0_X0 a6536 a6537 a6538 r6569 ()) (ex := .ret) (pq6590 (pq6591 pz)) (by kernel_rfl) trivial
  obtain rfl := Option.some.inj hF
  have pz : HoldAll E H hn121 [.test (ilt v6579 (nlen (len r6569))) false] := ⟨h6580, trivial⟩
  exact loop_endC (h := hn121) (l := 0) (c := c121_0) (ts := F121_l0_0_S a6536 a6537 a6538 r6569 v6579) (ts' := F121_l0_0_X1 a6536 a6537 a6538 r6569 ()) (ex := (.exit 0)) pz (by kernel_rfl) trivial
def F121 (K : Nat) (a6536 : GGraph) (a6537 : GJob) (a6538 : GPart) (a6539 : List (List GMsg)) : Option (GPart × Int) :=
 (F94 K a6536 a6537).bind fun r6540 =>
 bif (ieq r6540 0) then
  ((F80 K a6536 a6537 a6538).bind fun r6543 =>
  bif r6543 then
   (bif (ilt 0 (nlen (len a6538.In))) then
    (some ((GPart.mk 0 0 [] [] []), 1))
   else
   (F154 K a6539).bind fun r6569 =>
   (F121_l0_0 K a6536 a6537 a6538 r6569 K 0).bind fun y6593 =>
   Sum.elim (fun w6594 =>
    some ((GPart.mk 0 0 [] [] []), 1))
    (fun w6595 =>
    (F150 K a6537.Prog r6569).bind fun r6596 =>
    bif (ieq r6596.2 0) then
     ((F155 K a6538).bind fun r6603 =>
     some ((GPart.mk r6603.P r6603.Step r6603.Vals r6603.Rest r6596.1), 0))
    else
    some ((GPart.mk 0 0 [] [] []), r6596.2)) y6593)
  else
  some ((GPart.mk 0 0 [] [] []), 1))
 else
 some ((GPart.mk 0 0 [] [] []), r6540)
theorem F121_ok (K : Nat) (a6536 : GGraph) (a6537 : GJob) (a6538 : GPart) (a6539 : List (List GMsg)) (r : GPart × Int) (hF : F121 K a6536 a6537 a6538 a6539 = some r) : Evt E H 121 [.agg (eGGraph a6536), .agg (eGJob a6537), .agg (eGPart a6538), .one (.sl (len a6539) (flat (eSl eGMsg) a6539))] (F121_res r) := by
 rw [F121] at hF
 refine bind_some hF (fun r6540 h6541 hF => ?_)
 refine cond_some hF (fun h6542 hF => ?_) (fun h6542 hF => ?_)
 ·
  refine bind_some hF (fun r6543 h6544 hF => ?_)
  have pq6605 : ∀ {l : List Cond}, HoldAll E H hn121 l → HoldAll E H hn121 (.call 94 [.agg (eGGraph a6536), .agg (eGJob a6537)] (F94_res r6540) :: .test (leadsAny (Res.mk [(.one (.im (.lit (.int .i64 r6540))))] [])) false :: .test (ine r6540 0) false :: .call 80 [.agg (eGGraph a6536), .agg (eGJob a6537), .agg (eGPart a6538)] (F80_res r6543) :: .test (leadsAny (Res.mk [(.one (.im (.lit (.bool r6543))))] [])) false :: l) := fun z => ⟨(F94_ok K a6536 a6537 _ h6541), (leads_ok (by simp [leadsAny, RV.leads, RC.leads, leadsT, hasSl_lit, flat_ns eGJob_ns])), (ine_t h6542), (F80_ok K a6536 a6537 a6538 _ h6544), (leads_ok (by simp [leadsAny, RV.leads, RC.leads, leadsT, hasSl_lit, flat_ns eGJob_ns])), z⟩
  refine cond_some hF (fun h6545 hF => ?_) (fun h6545 hF => ?_)
  ·
   have pq6606 : ∀ {l : List Cond}, HoldAll E H hn121 l → HoldAll E H hn121 (.test (beqb (bnot r6543) false) true :: .test (beqb (bnot r6543) false) true :: .test (beqb (bnot r6543) false) true :: .int (nlen (len a6538.In)) (nlen (len a6538.In)) :: .test (beqb (bnot r6543) false) true :: .test (bnot r6543) false :: l) := fun z => ⟨(beqb_ff (bnot_t h6545)), (beqb_ff (bnot_t h6545)), (beqb_ff (bnot_t h6545)), rfl, (beqb_ff (bnot_t h6545)), (bnot_t h6545), z⟩
   refine cond_some hF (fun h6546 hF => ?_) (fun h6546 hF => ?_)
   ·
    obtain rfl := Option.some.inj hF
    have pz : HoldAll E H hn121 [.test (igt (nlen (len a6538.In)) 0) true] := ⟨(igt_eq h6546), trivial⟩
    exact fn_playC hn121 (r := F121_res ((GPart.mk 0 0 [] [] []), 1)) (pq6605 (pq6606 pz)) (by kernel_rfl) (by kernel_rfl)
   refine bind_some hF (fun r6569 h6570 hF => ?_)
   have pq6607 : ∀ {l : List Cond}, HoldAll E H hn121 l → HoldAll E H hn121 (.test (igt (nlen (len a6538.In)) 0) false :: .call 154 [.one (.sl (len a6539) (flat (eSl eGMsg) a6539))] (F154_res r6569) :: .test (leadsAny (Res.mk [(.one (.own 130 (.sl (len r6569) (flat eGMsg r6569))))] [])) false :: .int (nlen (len r6569)) (nlen (len r6569)) :: l) := fun z => ⟨(igt_eq h6546), (F154_ok K a6539 _ h6570), (leads_ok (by simp [leadsAny, RV.leads, RC.leads, leadsT, hasSl_lit, flat_ns eGMsg_ns])), rfl, z⟩
   refine bind_some hF (fun y6593 h6592 hF => ?_)
   refine sum_some hF (fun w6594 hx hF => ?_) (fun w6595 hx hF => ?_)
   ·
    subst hx
    obtain rfl := Option.some.inj hF
    have pz : HoldAll E H hn121 [.loop 0 c121_0 (F121_l0_0_S a6536 a6537 a6538 r6569 0) .ret (F121_l0_0_X0 a6536 a6537 a6538 r6569 w6594)] := ⟨(F121_l0_0_ok K a6536 a6537 a6538 r6569 K 0 _ h6592), trivial⟩
    exact fn_playC hn121 (r := F121_res ((GPart.mk 0 0 [] [] []), 1)) (pq6605 (pq6606 (pq6607 pz))) (by kernel_rfl) (by kernel_rfl)
   subst hx
   refine bind_some hF (fun r6596 h6597 hF => ?_)
   have pq6608 : ∀ {l : List Cond}, HoldAll E H hn121 l → HoldAll E H hn121 (.loop 0 c121_0 (F121_l0_0_S a6536 a6537 a6538 r6569 0) (.exit 0) (F121_l0_0_X1 a6536 a6537 a6538 r6569 w6595) :: .call 150 [.one (.lit (.int .i64 a6537.Prog)), .one (.sl (len r6569) (flat eGMsg r6569))] (F150_res r6596) :: .test (leadsAny (Res.mk [(.one (.own 130 (.sl (len r6596.1) (flat eGMsg r6596.1)))), (.one (.im (.lit (.int .i64 r6596.2))))] [])) false :: l) := fun z => ⟨(F121_l0_0_ok K a6536 a6537 a6538 r6569 K 0 _ h6592), (F150_ok K a6537.Prog r6569 _ h6597), (leads_ok (by simp [leadsAny, RV.leads, RC.leads, leadsT, hasSl_lit, flat_ns eGMsg_ns])), z⟩
   refine cond_some hF (fun h6598 hF => ?_) (fun h6598 hF => ?_)
   ·
    refine bind_some hF (fun r6603 h6604 hF => ?_)
    obtain rfl := Option.some.inj hF
    have pz : HoldAll E H hn121 [.test (ine r6596.2 0) false, .call 155 [.agg (eGPart a6538)] (F155_res r6603)] := ⟨(ine_t h6598), (F155_ok K a6538 _ h6604), trivial⟩
    exact fn_playC hn121 (r := F121_res ((GPart.mk r6603.P r6603.Step r6603.Vals r6603.Rest r6596.1), 0)) (pq6605 (pq6606 (pq6607 (pq6608 pz)))) (by kernel_rfl) (by kernel_rfl)
   obtain rfl := Option.some.inj hF
   have pz : HoldAll E H hn121 [.test (ine r6596.2 0) true] := ⟨(ine_f h6598), trivial⟩
   exact fn_playC hn121 (r := F121_res ((GPart.mk 0 0 [] [] []), r6596.2)) (pq6605 (pq6606 (pq6607 (pq6608 pz)))) (by kernel_rfl) (by kernel_rfl)
  obtain rfl := Option.some.inj hF
  have pz : HoldAll E H hn121 [.test (beqb (bnot r6543) false) false, .test (beqb (bnot r6543) false) false, .test (beqb (bnot r6543) false) false, .test (beqb (bnot r6543) false) false, .test (bnot r6543) true, .test true true] := ⟨(beqb_ft (bnot_f h6545)), (beqb_ft (bnot_f h6545)), (beqb_ft (bnot_f h6545)), (beqb_ft (bnot_f h6545)), (bnot_f h6545), rfl, trivial⟩
  exact fn_playC hn121 (r := F121_res ((GPart.mk 0 0 [] [] []), 1)) (pq6605 pz) (by kernel_rfl) (by kernel_rfl)
 obtain rfl := Option.some.inj hF
 have pz : HoldAll E H hn121 [.call 94 [.agg (eGGraph a6536), .agg (eGJob a6537)] (F94_res r6540), .test (leadsAny (Res.mk [(.one (.im (.lit (.int .i64 r6540))))] [])) false, .test (ine r6540 0) true] := ⟨(F94_ok K a6536 a6537 _ h6541), (leads_ok (by simp [leadsAny, RV.leads, RC.leads, leadsT, hasSl_lit, flat_ns eGJob_ns])), (ine_f h6542), trivial⟩
 exact fn_playC hn121 (r := F121_res ((GPart.mk 0 0 [] [] []), r6540)) pz (by kernel_rfl) (by kernel_rfl)
noncomputable def hn122 : Hint := { H 122 with nt := 80, prot := 0 }
noncomputable def c122_0 : Code := loopOf E 122 0
def F122_res (r6658 : GPart × Int) : Res := ⟨[(.agg [(.im (.lit (.int .i64 r6658.1.P))), (.im (.lit (.int .i64 r6658.1.Step))), (.im (.sl (len r6658.1.Vals) (flat (eInt .i64) r6658.1.Vals))), (.im (.sl (len r6658.1.Rest) (flat eBool r6658.1.Rest))), (.own 130 (.sl (len r6658.1.In) (flat eGMsg r6658.1.In)))]), (.one (.im (.lit (.int .i64 r6658.2))))], []⟩
def F122_l0_0 (K : Nat) (a6612 : GGraph) (a6613 : GJob) (a6614 : GPart) (r6623 : List GMsg) : Nat → Int → Option ((Unit) ⊕ (Unit))
 | 0, _ => none
 | k + 1, v6633 =>
  bif (ilt v6633 (nlen (len r6623))) then
   (bif (inr v6633 (len r6623)) then
   (elAt r6623 v6633).bind fun x6636 =>
   bif (ilt x6636.To 0) then
    (some (.inl ()))
   else
   bif (ile a6612.N x6636.To) then
    (some (.inl ()))
   else
   bif (izero a6613.Parts) then none else
   bif (ieq (wrem x6636.To a6613.Parts) a6614.P) then
    (F122_l0_0 K a6612 a6613 a6614 r6623 k (wadd .i64 v6633 1))
   else
   some (.inl ())
   else none)
  else
  some (.inr ())
def F122_l0_0_S (a6612 : GGraph) (a6613 : GJob) (a6614 : GPart) (r6623 : List GMsg) (v6633 : Int) : TS := .on [256, 257, 258, 320, 321, 322, 323, 324, 384, 385, 386, 387, 388, 389, 512, 513, 514, 515, 516, 517, 704, 705, 768, 769] [(256, ⟨(.box 62 2), 0, nob⟩), (257, ⟨.im, 0, (.lit (.int .i64 a6612.N))⟩), (258, ⟨.im, 0, (.sl (len a6612.Edges) (flat eGEdge a6612.Edges))⟩), (320, ⟨(.box 64 4), 0, nob⟩), (321, ⟨.im, 0, (.lit (.int .i64 a6613.Prog))⟩), (322, ⟨.im, 0, (.lit (.int .i64 a6613.Source))⟩), (323, ⟨.im, 0, (.lit (.int .i64 a6613.Limit))⟩), (324, ⟨.im, 0, (.lit (.int .i64 a6613.Parts))⟩), (384, ⟨(.box 42 5), 0, nob⟩), (385, ⟨.im, 0, (.lit (.int .i64 a6614.P))⟩), (386, ⟨.im, 0, (.lit (.int .i64 a6614.Step))⟩), (387, ⟨.im, 0, (.sl (len a6614.Vals) (flat (eInt .i64) a6614.Vals))⟩), (388, ⟨.im, 0, (.sl (len a6614.Rest) (flat eBool a6614.Rest))⟩), (389, ⟨.im, 0, (.sl (len a6614.In) (flat eGMsg a6614.In))⟩), (512, ⟨(.box 42 5), 0, nob⟩), (513, ⟨.im, 0, (.lit (.int .i64 0))⟩), (514, ⟨.im, 0, (.lit (.int .i64 0))⟩), (515, ⟨(.own 2), 0, (.sl 0 [])⟩), (516, ⟨(.own 4), 0, (.sl 0 [])⟩), (517, ⟨(.own 130), 0, (.sl 0 [])⟩), (704, ⟨.one, 0, nob⟩), (705, ⟨(.own 130), 0, (.sl (len r6623) (flat eGMsg r6623))⟩), (768, ⟨.one, 0, nob⟩), (769, ⟨.im, 0, (.lit (.int .i64 v6633))⟩)]
def F122_l0_0_X0 (a6612 : GGraph) (a6613 : GJob) (a6614 : GPart) (r6623 : List GMsg) (w6642 : Unit) : TS := .on [512, 513, 514, 515, 516, 517, 576, 577] [(512, ⟨(.box 42 5), 0, nob⟩), (513, ⟨.im, 0, (.lit (.int .i64 0))⟩), (514, ⟨.im, 0, (.lit (.int .i64 0))⟩), (515, ⟨(.own 2), 0, (.sl 0 [])⟩), (516, ⟨(.own 4), 0, (.sl 0 [])⟩), (517, ⟨(.own 130), 0, (.sl 0 [])⟩), (576, ⟨.one, 0, nob⟩), (577, ⟨.im, 0, (.lit (.int .i64 1))⟩)]
def F122_l0_0_X1 (a6612 : GGraph) (a6613 : GJob) (a6614 : GPart) (r6623 : List GMsg) (w6643 : Unit) : TS := .on [320, 321, 322, 323, 324, 384, 385, 386, 387, 388, 389, 512, 513, 514, 515, 516, 517, 704, 705] [(320, ⟨(.box 64 4), 0, nob⟩), (321, ⟨.im, 0, (.lit (.int .i64 a6613.Prog))⟩), (322, ⟨.im, 0, (.lit (.int .i64 a6613.Source))⟩), (323, ⟨.im, 0, (.lit (.int .i64 a6613.Limit))⟩), (324, ⟨.im, 0, (.lit (.int .i64 a6613.Parts))⟩), (384, ⟨(.box 42 5), 0, nob⟩), (385, ⟨.im, 0, (.lit (.int .i64 a6614.P))⟩), (386, ⟨.im, 0, (.lit (.int .i64 a6614.Step))⟩), (387, ⟨.im, 0, (.sl (len a6614.Vals) (flat (eInt .i64) a6614.Vals))⟩), (388, ⟨.im, 0, (.sl (len a6614.Rest) (flat eBool a6614.Rest))⟩), (389, ⟨.im, 0, (.sl (len a6614.In) (flat eGMsg a6614.In))⟩), (512, ⟨(.box 42 5), 0, nob⟩), (513, ⟨.im, 0, (.lit (.int .i64 0))⟩), (514, ⟨.im, 0, (.lit (.int .i64 0))⟩), (515, ⟨(.own 2), 0, (.sl 0 [])⟩), (516, ⟨(.own 4), 0, (.sl 0 [])⟩), (517, ⟨(.own 130), 0, (.sl 0 [])⟩), (704, ⟨.one, 0, nob⟩), (705, ⟨(.own 130), 0, (.sl (len r6623) (flat eGMsg r6623))⟩)]
theorem F122_l0_0_ok (K : Nat) (a6612 : GGraph) (a6613 : GJob) (a6614 : GPart) (r6623 : List GMsg) : ∀ (k : Nat) (v6633 : Int) (r : (Unit) ⊕ (Unit)), F122_l0_0 K a6612 a6613 a6614 r6623 k v6633 = some r → (Sum.elim (fun w => LoopEv E H hn122 0 c122_0 (F122_l0_0_S a6612 a6613 a6614 r6623 v6633) .ret (F122_l0_0_X0 a6612 a6613 a6614 r6623 w)) (fun w => LoopEv E H hn122 0 c122_0 (F122_l0_0_S a6612 a6613 a6614 r6623 v6633) (.exit 0) (F122_l0_0_X1 a6612 a6613 a6614 r6623 w))) r := by
 intro k
 induction k with
 | zero => intro v6633 r hF; cases hF
 | succ k ih =>
  intro v6633 r hF
  rw [F122_l0_0] at hF
  refine cond_some hF (fun h6634 hF => ?_) (fun h6634 hF => ?_)
  ·
   refine cond_some hF (fun h6635 hF => ?_) (fun _ hF => nomatch hF)
   refine bind_some hF (fun x6636 h6637 hF => ?_)
   have pq6644 : ∀ {l : List Cond}, HoldAll E H hn122 l → HoldAll E H hn122 (.int (nlen (len r6623)) (nlen (len r6623)) :: .test (ilt v6633 (nlen (len r6623))) true :: .test (inr v6633 (len r6623)) true :: .sub (flat eGMsg r6623) (nadd (nidx v6633 2) 0) 1 [(.lit (.int .i64 x6636.To))] :: l) := fun z => ⟨rfl, h6634, h6635, ⟨rfl, sub_flat eGMsg_len h6637 0 1 (by decide)⟩, z⟩
   refine cond_some hF (fun h6638 hF => ?_) (fun h6638 hF => ?_)
   ·
    obtain rfl := Option.some.inj hF
    have pz : HoldAll E H hn122 [.test (beqb (ilt x6636.To 0) false) false, .test (beqb (ilt x6636.To 0) false) false, .test (beqb (ilt x6636.To 0) false) false, .test (beqb (ilt x6636.To 0) false) false, .test (ilt x6636.To 0) true, .test (beqb true false) false, .test (beqb true false) false, .test (beqb true false) false, .test (beqb true false) false, .test (beqb true false) false, .test (beqb true false) false, .test (beqb true false) false, .test true true, .test true true] := ⟨(beqb_ft h6638), (beqb_ft h6638), (beqb_ft h6638), (beqb_ft h6638), h6638, (beqb_ft rfl), (beqb_ft rfl), (beqb_ft rfl), (beqb_ft rfl), (beqb_ft rfl), (beqb_ft rfl), (beqb_ft rfl), rfl, rfl, trivial⟩
    exact loop_endC (h := hn122) (l := 0) (c := c122_0) (ts := F122_l0_0_S a6612 a6613 a6614 r6623 v6633) (ts' := F122_l0_0_X0 a6612 a6613 a6614 r6623 ()) (ex := .ret) (pq6644 pz) (by kernel_rfl) trivial
   have pq6645 : ∀ {l : List Cond}, HoldAll E H hn122 l → HoldAll E H hn122 (.test (beqb (ilt x6636.To 0) false) true :: .test (beqb (ilt x6636.To 0) false) true :: .test (beqb (ilt x6636.To 0) false) true :: .test (beqb (ilt x6636.To 0) false) true :: .test (ilt x6636.To 0) false :: l) := fun z => ⟨(beqb_ff h6638), (beqb_ff h6638), (beqb_ff h6638), (beqb_ff h6638), h6638, z⟩
   refine cond_some hF (fun h6639 hF => ?_) (fun h6639 hF => ?_)
   ·
    obtain rfl := Option.some.inj hF
    have pz : HoldAll E H hn122 [.test (beqb (ige x6636.To a6612.N) false) false, .test (beqb (ige x6636.To a6612.N) false) false, .test (beqb (ige x6636.To a6612.N) false) false, .test (beqb (ige x6636.To a6612.N) false) false, .test (beqb (ige x6636.To a6612.N) false) false, .test (beqb (ige x6636.To a6612.N) false) false, .test (beqb (ige x6636.To a6612.N) false) false, .test (ige x6636.To a6612.N) true, .test true true] := ⟨(beqb_ft (ige_eq h6639)), (beqb_ft (ige_eq h6639)), (beqb_ft (ige_eq h6639)), (beqb_ft (ige_eq h6639)), (beqb_ft (ige_eq h6639)), (beqb_ft (ige_eq h6639)), (beqb_ft (ige_eq h6639)), (ige_eq h6639), rfl, trivial⟩
    exact loop_endC (h := hn122) (l := 0) (c := c122_0) (ts := F122_l0_0_S a6612 a6613 a6614 r6623 v6633) (ts' := F122_l0_0_X0 a6612 a6613 a6614 r6623 ()) (ex := .ret) (pq6644 (pq6645 pz)) (by kernel_rfl) trivial
   refine cond_some hF (fun _ hF => nomatch hF) (fun h6640 hF => ?_)
   have pq6646 : ∀ {l : List Cond}, HoldAll E H hn122 l → HoldAll E H hn122 (.test (beqb (ige x6636.To a6612.N) false) true :: .test (beqb (ige x6636.To a6612.N) false) true :: .test (beqb (ige x6636.To a6612.N) false) true :: .test (beqb (ige x6636.To a6612.N) false) true :: .test (izero a6613.Parts) false :: .int (wrem x6636.To a6613.Parts) (wrem x6636.To a6613.Parts) :: .test (beqb (ige x6636.To a6612.N) false) true :: .test (beqb (ige x6636.To a6612.N) false) true :: .test (beqb (ige x6636.To a6612.N) false) true :: .test (ige x6636.To a6612.N) false :: l) := fun z => ⟨(beqb_ff (ige_eq h6639)), (beqb_ff (ige_eq h6639)), (beqb_ff (ige_eq h6639)), (beqb_ff (ige_eq h6639)), h6640, rfl, (beqb_ff (ige_eq h6639)), (beqb_ff (ige_eq h6639)), (beqb_ff (ige_eq h6639)), (ige_eq h6639), z⟩
   refine cond_some hF (fun h6641 hF => ?_) (fun h6641 hF => ?_)
   ·
    have pz : HoldAll E H hn122 [.test (ine (wrem x6636.To a6613.Parts) a6614.P) false, .int (wadd .i64 v6633 1) (wadd .i64 v6633 1)] := ⟨(ine_t h6641), rfl, trivial⟩
    have h0 := ih _ _ hF
    have hn := fun ex ts' => loop_nextC (h := hn122) (l := 0) (c := c122_0) (ts := F122_l0_0_S a6612 a6613 a6614 r6623 v6633) (ts1 := (F122_l0_0_S a6612 a6613 a6614 r6623 (wadd .i64 v6633 1))) (ex := ex) (ts' := ts') (pq6644 (pq6645 (pq6646 pz))) (by kernel_rfl)
    cases r with
    | inl w => exact hn _ _ h0
    | inr w => exact hn _ _ h0
   obtain rfl := Option.some.inj hF
   have pz : HoldAll E H hn122 [.test (ine (wrem x6636.To a6613.Parts) a6614.P) true] := ⟨(ine_f h6641), trivial⟩
   exact loop_endC (h := hn122) (l := 0) (c := c122_0) (ts := F122_l0_0_S a6612 a6613 a6614 r6623 v6633) (ts' := F122_l0_0_X0 a6612 a6613 a6614 r6623 ()) (ex := .ret) (pq6644 (pq6645 (pq6646 pz))) (by kernel_rfl) trivial
  obtain rfl := Option.some.inj hF
  have pz : HoldAll E H hn122 [.int (nlen (len r6623)) (nlen (len r6623)), .test (ilt v6633 (nlen (len r6623))) false] := ⟨rfl, h6634, trivial⟩
  exact loop_endC (h := hn122) (l := 0) (c := c122_0) (ts := F122_l0_0_S a6612 a6613 a6614 r6623 v6633) (ts' := F122_l0_0_X1 a6612 a6613 a6614 r6623 ()) (ex := (.exit 0)) pz (by kernel_rfl) trivial
def F122 (K : Nat) (a6612 : GGraph) (a6613 : GJob) (a6614 : GPart) (a6615 : List (List GMsg)) : Option (GPart × Int) :=
 (F59 K a6612 a6613).bind fun r6616 =>
 bif (ieq r6616 0) then
  ((F81 K a6612 a6613 a6614).bind fun r6619 =>
  bif r6619 then
   (bif (ieq (nlen (len a6614.In)) 0) then
    ((F90 K a6615).bind fun r6623 =>
    (F122_l0_0 K a6612 a6613 a6614 r6623 K 0).bind fun y6648 =>
    Sum.elim (fun w6649 =>
     some ((GPart.mk 0 0 [] [] []), 1))
     (fun w6650 =>
     (F152 K a6613.Prog r6623).bind fun r6651 =>
     bif (ieq r6651.2 0) then
      (some ((GPart.mk a6614.P a6614.Step a6614.Vals a6614.Rest r6651.1), 0))
     else
     some ((GPart.mk 0 0 [] [] []), r6651.2)) y6648)
   else
   some ((GPart.mk 0 0 [] [] []), 1))
  else
  some ((GPart.mk 0 0 [] [] []), 1))
 else
 some ((GPart.mk 0 0 [] [] []), r6616)
theorem F122_ok (K : Nat) (a6612 : GGraph) (a6613 : GJob) (a6614 : GPart) (a6615 : List (List GMsg)) (r : GPart × Int) (hF : F122 K a6612 a6613 a6614 a6615 = some r) : Evt E H 122 [.agg (eGGraph a6612), .agg (eGJob a6613), .agg (eGPart a6614), .one (.sl (len a6615) (flat (eSl eGMsg) a6615))] (F122_res r) := by
 rw [F122] at hF
 refine bind_some hF (fun r6616 h6617 hF => ?_)
 refine cond_some hF (fun h6618 hF => ?_) (fun h6618 hF => ?_)
 ·
  refine bind_some hF (fun r6619 h6620 hF => ?_)
  have pq6654 : ∀ {l : List Cond}, HoldAll E H hn122 l → HoldAll E H hn122 (.call 59 [.agg (eGGraph a6612), .agg (eGJob a6613)] (F59_res r6616) :: .test (leadsAny (Res.mk [(.one (.im (.lit (.int .i64 r6616))))] [])) false :: .test (ine r6616 0) false :: .call 81 [.agg (eGGraph a6612), .agg (eGJob a6613), .agg (eGPart a6614)] (F81_res r6619) :: .test (leadsAny (Res.mk [(.one (.im (.lit (.bool r6619))))] [])) false :: l) := fun z => ⟨(F59_ok K a6612 a6613 _ h6617), (leads_ok (by simp [leadsAny, RV.leads, RC.leads, leadsT, hasSl_lit, flat_ns eGJob_ns])), (ine_t h6618), (F81_ok K a6612 a6613 a6614 _ h6620), (leads_ok (by simp [leadsAny, RV.leads, RC.leads, leadsT, hasSl_lit, flat_ns eGJob_ns])), z⟩
  refine cond_some hF (fun h6621 hF => ?_) (fun h6621 hF => ?_)
  ·
   have pq6655 : ∀ {l : List Cond}, HoldAll E H hn122 l → HoldAll E H hn122 (.test (beqb (bnot r6619) false) true :: .test (beqb (bnot r6619) false) true :: .test (beqb (bnot r6619) false) true :: .int (nlen (len a6614.In)) (nlen (len a6614.In)) :: .test (beqb (bnot r6619) false) true :: .test (bnot r6619) false :: l) := fun z => ⟨(beqb_ff (bnot_t h6621)), (beqb_ff (bnot_t h6621)), (beqb_ff (bnot_t h6621)), rfl, (beqb_ff (bnot_t h6621)), (bnot_t h6621), z⟩
   refine cond_some hF (fun h6622 hF => ?_) (fun h6622 hF => ?_)
   ·
    refine bind_some hF (fun r6623 h6624 hF => ?_)
    have pq6656 : ∀ {l : List Cond}, HoldAll E H hn122 l → HoldAll E H hn122 (.test (ine (nlen (len a6614.In)) 0) false :: .call 90 [.one (.sl (len a6615) (flat (eSl eGMsg) a6615))] (F90_res r6623) :: .test (leadsAny (Res.mk [(.one (.own 130 (.sl (len r6623) (flat eGMsg r6623))))] [])) false :: l) := fun z => ⟨(ine_t h6622), (F90_ok K a6615 _ h6624), (leads_ok (by simp [leadsAny, RV.leads, RC.leads, leadsT, hasSl_lit, flat_ns eGMsg_ns])), z⟩
    refine bind_some hF (fun y6648 h6647 hF => ?_)
    refine sum_some hF (fun w6649 hx hF => ?_) (fun w6650 hx hF => ?_)
    ·
     subst hx
     obtain rfl := Option.some.inj hF
     have pz : HoldAll E H hn122 [.loop 0 c122_0 (F122_l0_0_S a6612 a6613 a6614 r6623 0) .ret (F122_l0_0_X0 a6612 a6613 a6614 r6623 w6649)] := ⟨(F122_l0_0_ok K a6612 a6613 a6614 r6623 K 0 _ h6647), trivial⟩
     exact fn_playC hn122 (r := F122_res ((GPart.mk 0 0 [] [] []), 1)) (pq6654 (pq6655 (pq6656 pz))) (by kernel_rfl) (by kernel_rfl)
    subst hx
    refine bind_some hF (fun r6651 h6652 hF => ?_)
    have pq6657 : ∀ {l : List Cond}, HoldAll E H hn122 l → HoldAll E H hn122 (.loop 0 c122_0 (F122_l0_0_S a6612 a6613 a6614 r6623 0) (.exit 0) (F122_l0_0_X1 a6612 a6613 a6614 r6623 w6650) :: .call 152 [.one (.lit (.int .i64 a6613.Prog)), .one (.sl (len r6623) (flat eGMsg r6623))] (F152_res r6651) :: .test (leadsAny (Res.mk [(.one (.own 130 (.sl (len r6651.1) (flat eGMsg r6651.1)))), (.one (.im (.lit (.int .i64 r6651.2))))] [])) false :: l) := fun z => ⟨(F122_l0_0_ok K a6612 a6613 a6614 r6623 K 0 _ h6647), (F152_ok K a6613.Prog r6623 _ h6652), (leads_ok (by simp [leadsAny, RV.leads, RC.leads, leadsT, hasSl_lit, flat_ns eGMsg_ns])), z⟩
    refine cond_some hF (fun h6653 hF => ?_) (fun h6653 hF => ?_)
    ·
     obtain rfl := Option.some.inj hF
     have pz : HoldAll E H hn122 [.test (ine r6651.2 0) false] := ⟨(ine_t h6653), trivial⟩
     exact fn_playC hn122 (r := F122_res ((GPart.mk a6614.P a6614.Step a6614.Vals a6614.Rest r6651.1), 0)) (pq6654 (pq6655 (pq6656 (pq6657 pz)))) (by kernel_rfl) (by kernel_rfl)
    obtain rfl := Option.some.inj hF
    have pz : HoldAll E H hn122 [.test (ine r6651.2 0) true] := ⟨(ine_f h6653), trivial⟩
    exact fn_playC hn122 (r := F122_res ((GPart.mk 0 0 [] [] []), r6651.2)) (pq6654 (pq6655 (pq6656 (pq6657 pz)))) (by kernel_rfl) (by kernel_rfl)
   obtain rfl := Option.some.inj hF
   have pz : HoldAll E H hn122 [.test (ine (nlen (len a6614.In)) 0) true] := ⟨(ine_f h6622), trivial⟩
   exact fn_playC hn122 (r := F122_res ((GPart.mk 0 0 [] [] []), 1)) (pq6654 (pq6655 pz)) (by kernel_rfl) (by kernel_rfl)
  obtain rfl := Option.some.inj hF
  have pz : HoldAll E H hn122 [.test (beqb (bnot r6619) false) false, .test (beqb (bnot r6619) false) false, .test (beqb (bnot r6619) false) false, .test (beqb (bnot r6619) false) false, .test (bnot r6619) true, .test true true] := ⟨(beqb_ft (bnot_f h6621)), (beqb_ft (bnot_f h6621)), (beqb_ft (bnot_f h6621)), (beqb_ft (bnot_f h6621)), (bnot_f h6621), rfl, trivial⟩
  exact fn_playC hn122 (r := F122_res ((GPart.mk 0 0 [] [] []), 1)) (pq6654 pz) (by kernel_rfl) (by kernel_rfl)
 obtain rfl := Option.some.inj hF
 have pz : HoldAll E H hn122 [.call 59 [.agg (eGGraph a6612), .agg (eGJob a6613)] (F59_res r6616), .test (leadsAny (Res.mk [(.one (.im (.lit (.int .i64 r6616))))] [])) false, .test (ine r6616 0) true] := ⟨(F59_ok K a6612 a6613 _ h6617), (leads_ok (by simp [leadsAny, RV.leads, RC.leads, leadsT, hasSl_lit, flat_ns eGJob_ns])), (ine_f h6618), trivial⟩
 exact fn_playC hn122 (r := F122_res ((GPart.mk 0 0 [] [] []), r6616)) pz (by kernel_rfl) (by kernel_rfl)
def zeroP : GPart := GPart.mk 0 0 [] [] []
def takeOk (n parts p : Int) (l : List GMsg) : Bool := l.all fun m => ile 0 m.To && (ilt m.To n && ieq (m.To % parts) p)
def takeB (j : GJob) (x : GPart) (l : List GMsg) : GPart × Int := bif ieq (boxS j.Prog l).2 0 then (GPart.mk x.P x.Step x.Vals x.Rest (boxS j.Prog l).1, 0) else (zeroP, (boxS j.Prog l).2)
def takeS (g : GGraph) (j : GJob) (x : GPart) (l : List GMsg) : GPart × Int :=
 bif ieq (jcheck g j) 0 then (bif partRight g j x then (bif ieq (nlen (len x.In)) 0 then (bif takeOk g.N j.Parts x.P l then takeB j x l else (zeroP, 1)) else (zeroP, 1)) else (zeroP, 1)) else (zeroP, jcheck g j)
theorem takeOk_perm {n parts p : Int} {l l' : List GMsg} (h : l.Perm l') : takeOk n parts p l = takeOk n parts p l' := by
 rw [Bool.eq_iff_iff]
 simp only [takeOk, List.all_eq_true]
 exact ⟨fun q m hm => q m (h.mem_iff.2 hm), fun q m hm => q m (h.mem_iff.1 hm)⟩
theorem boxS_perm {p : Int} {l l' : List GMsg} (h : l.Perm l') : boxS p l = boxS p l' := by
 rw [boxS, boxS, sortM_congr h]
theorem F154_spec {K : Nat} (ls : List (List GMsg)) (h1 : ls.length < 10000) (h2 : ls.length < K) (h3 : (ls.flatten).length < 10000) (h4 : (ls.flatten).length < K) : F154 K ls = some (sortM ls.flatten) := by
 let step : List GMsg → List GMsg → (List GMsg → Option (List GMsg)) → Option (List GMsg) := fun x a c => bif (apok (len a) (len x) 16) then c (appL a x) else none
 have h := scanL (l := ls) (L := fun k s i => F154_l0_0 K ls k s i) step (fun s => some s) (fun k s i _ => rfl) (by omega) h2 []
 have hw : ∀ (r : List (List GMsg)) (a : List GMsg), a.length + r.flatten.length < 100000 → goL step (fun s => some s) r a = some (a ++ r.flatten) := by
   intro r
   induction r with
   | nil => intro a _; simp [goL]
   | cons x r ih =>
     intro a ha
     rw [List.flatten_cons, List.length_append] at ha
     rw [goL]
     show (bif (apok (len a) (len x) 16) then goL step (fun s => some s) r (appL a x) else none) = _
     have ap : apok (len a) (len x) 16 = true := decide_eq_true ⟨by show a.length + x.length ≤ _; omega, by show (a.length + x.length) * 16 ≤ _; omega⟩
     rw [ap, cond_true, ih _ (by simp only [appL, List.length_append]; omega)]; simp [appL]
 rw [hw ls [] (by simp only [List.length_nil]; omega), List.nil_append] at h
 have h' : F154_l0_0 K ls K [] 0 = some ls.flatten := h
 rw [F154, h', Option.bind_some, F169_spec _ h4 h3]; rfl
theorem F121_loop {K : Nat} (g : GGraph) (j : GJob) (x : GPart) (l : List GMsg) (hp : 1 ≤ j.Parts) (h6 : j.Parts ≤ 6) (h0 : 0 ≤ x.P) (hl : l.length < 1000000) (hK : l.length < K) : F121_l0_0 K g j x l K 0 = some (sumU (takeOk g.N j.Parts x.P l)) := by
 let step : GMsg → Unit → (Unit → Option (Unit ⊕ Unit)) → Option (Unit ⊕ Unit) := fun m _ c =>
   bif (ile g.N m.To) then (some (.inl ())) else (F75 K j m.To).bind fun r => bif (ieq r x.P) then c () else some (.inl ())
 have h := scanL (l := l) (L := fun k (_ : Unit) i => F121_l0_0 K g j x l k i) step (fun _ => some (.inr ())) (fun k s i _ => rfl) (by omega) (K := K) hK ()
 have hw : ∀ (r : List GMsg), goL step (fun _ => some (.inr ())) r () = some (sumU (takeOk g.N j.Parts x.P r)) := by
   intro r
   induction r with
   | nil => rfl
   | cons m r ih =>
     rw [goL]
     show (bif (ile g.N m.To) then (some (.inl ())) else (F75 K j m.To).bind fun r' => bif (ieq r' x.P) then goL step (fun _ => some (.inr ())) r () else some (.inl ())) = _
     rw [F75_spec, ih, Option.bind_some, not_ile, homeS, ilt_f.2 hp, ilt_f.2 h6, takeOk, takeOk, List.all_cons, ilt_not' m.To 0]
     cases h1 : ilt m.To g.N
     · cases ile 0 m.To <;> rfl
     · cases h2 : ile 0 m.To
       · rw [Bool.not_false, Bool.true_or, cond_true, ieq_f.2 (by omega : (-1 : Int) ≠ x.P)]; rfl
       · simp only [Bool.not_true, Bool.false_or, cond_false, Bool.true_and]
         cases ieq (m.To % j.Parts) x.P <;> rfl
 rw [hw] at h
 exact h
theorem F122_loop {K : Nat} (g : GGraph) (j : GJob) (x : GPart) (l : List GMsg) (hp : 1 ≤ j.Parts) (hl : l.length < 1000000) (hK : l.length < K) : F122_l0_0 K g j x l K 0 = some (sumU (takeOk g.N j.Parts x.P l)) := by
 let step : GMsg → Unit → (Unit → Option (Unit ⊕ Unit)) → Option (Unit ⊕ Unit) := fun m _ c =>
   bif (ilt m.To 0) then (some (.inl ())) else bif (ile g.N m.To) then (some (.inl ())) else bif (izero j.Parts) then none else bif (ieq (wrem m.To j.Parts) x.P) then c () else some (.inl ())
 have h := scanL (l := l) (L := fun k (_ : Unit) i => F122_l0_0 K g j x l k i) step (fun _ => some (.inr ())) (fun k s i _ => rfl) (by omega) (K := K) hK ()
 have hz : izero j.Parts = false := decide_eq_false (by omega)
 have hw : ∀ (r : List GMsg), goL step (fun _ => some (.inr ())) r () = some (sumU (takeOk g.N j.Parts x.P r)) := by
   intro r
   induction r with
   | nil => rfl
   | cons m r ih =>
     rw [goL]
     show (bif (ilt m.To 0) then (some (.inl ())) else bif (ile g.N m.To) then (some (.inl ())) else bif (izero j.Parts) then none else bif (ieq (wrem m.To j.Parts) x.P) then goL step (fun _ => some (.inr ())) r () else some (.inl ())) = _
     rw [ih, not_ile, takeOk, takeOk, List.all_cons, ilt_not' m.To 0, hz]
     cases h2 : ile 0 m.To
     · rfl
     · rw [wrem_emod (ile_iff.1 h2)]
       cases ilt m.To g.N <;> cases ieq (m.To % j.Parts) x.P <;> rfl
 rw [hw] at h
 exact h
theorem sumU_bind {α : Type} (b : Bool) (x : Option α) (y : Option α) : (some (sumU b)).bind (fun z => Sum.elim (fun _ => x) (fun _ => y) z) = bif b then y else x := by cases b <;> rfl
theorem F121_spec {K : Nat} (hK : 1000 ≤ K) (g : GGraph) (j : GJob) (x : GPart) (ls : List (List GMsg)) (hp : i64 x.P) (hx : x.In.length ≤ 300) (hv : x.Vals.length ≤ 100) (hr : x.Rest.length ≤ 100)
   (h1 : ls.length < 1000) (h3 : (ls.flatten).length < 10000) (h4 : (ls.flatten).length < K) (hs : ∀ m ∈ ls.flatten, i64 m.V) : F121 K g j x ls = some (takeS g j x ls.flatten) := by
 rw [F121, F94_spec (by omega), F80_spec hK g j x (by omega) (by omega) hp, Option.bind_some, Option.bind_some, takeS]
 cases hc : ieq (jcheck g j) 0
 · rfl
 · cases hR : partRight g j x
   · rfl
   · obtain ⟨_, p1, p2, _⟩ := partRight_ok hR
     obtain ⟨hg, _, _, _, _, _, _, p7, p8⟩ := jcheck_ok hc
     have hsl := sortM_len ls.flatten
     have e1 : ilt 0 (nlen (len x.In)) = !(ieq (nlen (len x.In)) 0) := by
       show ilt 0 (x.In.length : Int) = !(ieq (x.In.length : Int) 0)
       cases x.In.length with
       | zero => rfl
       | succ n => rw [ilt_iff.2 (by omega), ieq_f.2 (by omega)]; rfl
     have ap1 : apok 0 (len x.Vals) 8 = true := decide_eq_true ⟨by show 0 + x.Vals.length ≤ _; omega, by show (0 + x.Vals.length) * 8 ≤ _; omega⟩
     have ap2 : apok 0 (len x.Rest) 1 = true := decide_eq_true ⟨by show 0 + x.Rest.length ≤ _; omega, by show (0 + x.Rest.length) * 1 ≤ _; omega⟩
     have hso : ∀ m ∈ sortM ls.flatten, i64 m.V := fun m hm => hs m ((sortM_perm _).mem_iff.1 hm)
     simp only [cond_true, e1, F154_spec ls (show ls.length < 10000 by omega) (show ls.length < K by omega) h3 h4, Option.bind_some]
     rw [F121_loop g j x _ p7 p8 p1 (by omega) (by omega), F150_spec j.Prog (sortM ls.flatten) hso (by omega) (by omega), sumU_bind, F155, ap1, ap2, takeOk_perm (sortM_perm ls.flatten), boxS_perm (sortM_perm ls.flatten)]
     cases ieq (nlen (len x.In)) 0
     · rfl
     · cases takeOk g.N j.Parts x.P ls.flatten
       · rfl
       · rw [takeB]
         simp only [cond_true, Option.bind_some, Bool.not_true, cond_false]
         cases ieq (boxS j.Prog ls.flatten).2 0 <;> rfl
theorem F122_spec {K : Nat} (hK : 1000 ≤ K) (g : GGraph) (j : GJob) (x : GPart) (ls : List (List GMsg)) (hx : x.In.length ≤ 300)
   (h1 : ls.length < 1000) (h3 : (ls.flatten).length < 10000) (h4 : (ls.flatten).length < K) (hs : ∀ m ∈ ls.flatten, i64 m.V) : F122 K g j x ls = some (takeS g j x ls.flatten) := by
 rw [F122, F59_spec (by omega), F81_spec hK g j x (by omega) (by omega), Option.bind_some, Option.bind_some, takeS]
 cases hc : ieq (jcheck g j) 0
 · rfl
 · cases hR : partRight g j x
   · rfl
   · obtain ⟨hg, _, _, _, _, _, _, p7, p8⟩ := jcheck_ok hc
     have hsl := sortM_len ls.flatten
     have hso : ∀ m ∈ sortM ls.flatten, i64 m.V := fun m hm => hs m ((sortM_perm _).mem_iff.1 hm)
     simp only [cond_true, F90_spec ls (show ls.length < 10000 by omega) (show ls.length < K by omega) (show _ < 100000 by omega) h4, Option.bind_some]
     rw [F122_loop g j x _ p7 (by omega) (by omega), F152_spec j.Prog (sortM ls.flatten) hso (by omega) (by omega), sumU_bind, takeOk_perm (sortM_perm ls.flatten), boxS_perm (sortM_perm ls.flatten)]
     cases ieq (nlen (len x.In)) 0
     · rfl
     · cases takeOk g.N j.Parts x.P ls.flatten
       · rfl
       · rw [takeB]
         simp only [cond_true, Option.bind_some]
         cases ieq (boxS j.Prog ls.flatten).2 0 <;> rfl
noncomputable def hn123 : Hint := { H 123 with nt := 19, prot := 0 }
noncomputable def c123_0 : Code := loopOf E 123 0
def F123_res (r653 : Bool) : Res := ⟨[(.one (.im (.lit (.bool r653))))], []⟩
def F123_l0_0 (K : Nat) (a634 : GPart) : Nat → Int → Option ((Unit) ⊕ (Unit))
 | 0, _ => none
 | k + 1, v640 =>
  bif (ilt v640 (nlen (len a634.Rest))) then
   (bif (inr v640 (len a634.Rest)) then
   (elAt a634.Rest v640).bind fun x643 =>
   bif x643 then
    (F123_l0_0 K a634 k (wadd .i64 v640 1))
   else
   some (.inl ())
   else none)
  else
  some (.inr ())
def F123_l0_0_S (a634 : GPart) (v640 : Int) : TS := .on [64, 65, 66, 67, 68, 69, 320, 384, 385, 448, 449, 512, 513] [(64, ⟨(.box 42 5), 0, nob⟩), (65, ⟨.im, 0, (.lit (.int .i64 a634.P))⟩), (66, ⟨.im, 0, (.lit (.int .i64 a634.Step))⟩), (67, ⟨.im, 0, (.sl (len a634.Vals) (flat (eInt .i64) a634.Vals))⟩), (68, ⟨.im, 0, (.sl (len a634.Rest) (flat eBool a634.Rest))⟩), (69, ⟨.im, 0, (.sl (len a634.In) (flat eGMsg a634.In))⟩), (320, ⟨(.ad 1 0 3), 0, nob⟩), (384, ⟨.one, 0, nob⟩), (385, ⟨.im, 0, (.sl (len a634.Rest) (flat eBool a634.Rest))⟩), (448, ⟨.one, 0, nob⟩), (449, ⟨.im, 0, (.lit (.int .i64 (nlen (len a634.Rest))))⟩), (512, ⟨.one, 0, nob⟩), (513, ⟨.im, 0, (.lit (.int .i64 v640))⟩)]
def F123_l0_0_X0 (a634 : GPart) (w646 : Unit) : TS := .on [128, 129] [(128, ⟨.one, 0, nob⟩), (129, ⟨.im, 0, (.lit (.bool false))⟩)]
def F123_l0_0_X1 (a634 : GPart) (w647 : Unit) : TS := .on [64, 65, 66, 67, 68, 69] [(64, ⟨(.box 42 5), 0, nob⟩), (65, ⟨.im, 0, (.lit (.int .i64 a634.P))⟩), (66, ⟨.im, 0, (.lit (.int .i64 a634.Step))⟩), (67, ⟨.im, 0, (.sl (len a634.Vals) (flat (eInt .i64) a634.Vals))⟩), (68, ⟨.im, 0, (.sl (len a634.Rest) (flat eBool a634.Rest))⟩), (69, ⟨.im, 0, (.sl (len a634.In) (flat eGMsg a634.In))⟩)]
theorem F123_l0_0_ok (K : Nat) (a634 : GPart) : ∀ (k : Nat) (v640 : Int) (r : (Unit) ⊕ (Unit)), F123_l0_0 K a634 k v640 = some r → (Sum.elim (fun w => LoopEv E H hn123 0 c123_0 (F123_l0_0_S a634 v640) .ret (F123_l0_0_X0 a634 w)) (fun w => LoopEv E H hn123 0 c123_0 (F123_l0_0_S a634 v640) (.exit 0) (F123_l0_0_X1 a634 w))) r := by
 intro k
 induction k with
 | zero => intro v640 r hF; cases hF
 | succ k ih =>
  intro v640 r hF
  rw [F123_l0_0] at hF
  refine cond_some hF (fun h641 hF => ?_) (fun h641 hF => ?_)
  ·
   refine cond_some hF (fun h642 hF => ?_) (fun _ hF => nomatch hF)
   refine bind_some hF (fun x643 h644 hF => ?_)
   have pq648 : ∀ {l : List Cond}, HoldAll E H hn123 l → HoldAll E H hn123 (.test (ilt v640 (nlen (len a634.Rest))) true :: .test (inr v640 (len a634.Rest)) true :: .sub (flat eBool a634.Rest) (nidx v640 1) 1 [(.lit (.bool x643))] :: l) := fun z => ⟨h641, h642, ⟨rfl, sub_flat0 eBool_len h644 1 (by decide)⟩, z⟩
   refine cond_some hF (fun h645 hF => ?_) (fun h645 hF => ?_)
   ·
    have pz : HoldAll E H hn123 [.test (bnot x643) false, .int (wadd .i64 v640 1) (wadd .i64 v640 1)] := ⟨(bnot_t h645), rfl, trivial⟩
    have h0 := ih _ _ hF
    have hn := fun ex ts' => loop_nextC (h := hn123) (l := 0) (c := c123_0) (ts := F123_l0_0_S a634 v640) (ts1 := (F123_l0_0_S a634 (wadd .i64 v640 1))) (ex := ex) (ts' := ts') (pq648 pz) (by kernel_rfl)
    cases r with
    | inl w => exact hn _ _ h0
    | inr w => exact hn _ _ h0
   obtain rfl := Option.some.inj hF
   have pz : HoldAll E H hn123 [.test (bnot x643) true] := ⟨(bnot_f h645), trivial⟩
   exact loop_endC (h := hn123) (l := 0) (c := c123_0) (ts := F123_l0_0_S a634 v640) (ts' := F123_l0_0_X0 a634 ()) (ex := .ret) (pq648 pz) (by kernel_rfl) trivial
  obtain rfl := Option.some.inj hF
  have pz : HoldAll E H hn123 [.test (ilt v640 (nlen (len a634.Rest))) false] := ⟨h641, trivial⟩
  exact loop_endC (h := hn123) (l := 0) (c := c123_0) (ts := F123_l0_0_S a634 v640) (ts' := F123_l0_0_X1 a634 ()) (ex := (.exit 0)) pz (by kernel_rfl) trivial
def F123 (K : Nat) (a634 : GPart) : Option (Bool) :=
 (F123_l0_0 K a634 K 0).bind fun y650 =>
 Sum.elim (fun w651 =>
  some false)
  (fun w652 =>
  some (ieq (nlen (len a634.In)) 0)) y650
theorem F123_ok (K : Nat) (a634 : GPart) (r : Bool) (hF : F123 K a634 = some r) : Evt E H 123 [.agg (eGPart a634)] (F123_res r) := by
 rw [F123] at hF
 refine bind_some hF (fun y650 h649 hF => ?_)
 refine sum_some hF (fun w651 hx hF => ?_) (fun w652 hx hF => ?_)
 ·
  subst hx
  obtain rfl := Option.some.inj hF
  have pz : HoldAll E H hn123 [.int (nlen (len a634.Rest)) (nlen (len a634.Rest)), .loop 0 c123_0 (F123_l0_0_S a634 0) .ret (F123_l0_0_X0 a634 w651)] := ⟨rfl, (F123_l0_0_ok K a634 K 0 _ h649), trivial⟩
  exact fn_playC hn123 (r := F123_res false) pz (by kernel_rfl) (by kernel_rfl)
 subst hx
 obtain rfl := Option.some.inj hF
 have pz : HoldAll E H hn123 [.int (nlen (len a634.Rest)) (nlen (len a634.Rest)), .loop 0 c123_0 (F123_l0_0_S a634 0) (.exit 0) (F123_l0_0_X1 a634 w652), .int (nlen (len a634.In)) (nlen (len a634.In))] := ⟨rfl, (F123_l0_0_ok K a634 K 0 _ h649), rfl, trivial⟩
 exact fn_playC hn123 (r := F123_res (ieq (nlen (len a634.In)) 0)) pz (by kernel_rfl) (by kernel_rfl)
noncomputable def hn106 : Hint := { H 106 with nt := 21, prot := 0 }
noncomputable def c106_0 : Code := loopOf E 106 0
def F106_res (r713 : Bool) : Res := ⟨[(.one (.im (.lit (.bool r713))))], []⟩
def F106_l0_0 (K : Nat) (a694 : GState) : Nat → Int → Option ((Unit) ⊕ (Unit))
 | 0, _ => none
 | k + 1, v700 =>
  bif (ilt v700 (nlen (len a694.Rest))) then
   (bif (inr v700 (len a694.Rest)) then
   (elAt a694.Rest v700).bind fun x703 =>
   bif x703 then
    (F106_l0_0 K a694 k (wadd .i64 v700 1))
   else
   some (.inl ())
   else none)
  else
  some (.inr ())
def F106_l0_0_S (a694 : GState) (v700 : Int) : TS := .on [64, 65, 66, 67, 68, 192, 193] [(64, ⟨(.box 74 4), 0, nob⟩), (65, ⟨.im, 0, (.lit (.int .i64 a694.Step))⟩), (66, ⟨.im, 0, (.sl (len a694.Vals) (flat (eInt .i64) a694.Vals))⟩), (67, ⟨.im, 0, (.sl (len a694.Rest) (flat eBool a694.Rest))⟩), (68, ⟨.im, 0, (.sl (len a694.In) (flat eGMsg a694.In))⟩), (192, ⟨.one, 0, nob⟩), (193, ⟨.im, 0, (.lit (.int .i64 v700))⟩)]
def F106_l0_0_X0 (a694 : GState) (w706 : Unit) : TS := .on [128, 129] [(128, ⟨.one, 0, nob⟩), (129, ⟨.im, 0, (.lit (.bool false))⟩)]
def F106_l0_0_X1 (a694 : GState) (w707 : Unit) : TS := .on [64, 65, 66, 67, 68] [(64, ⟨(.box 74 4), 0, nob⟩), (65, ⟨.im, 0, (.lit (.int .i64 a694.Step))⟩), (66, ⟨.im, 0, (.sl (len a694.Vals) (flat (eInt .i64) a694.Vals))⟩), (67, ⟨.im, 0, (.sl (len a694.Rest) (flat eBool a694.Rest))⟩), (68, ⟨.im, 0, (.sl (len a694.In) (flat eGMsg a694.In))⟩)]
theorem F106_l0_0_ok (K : Nat) (a694 : GState) : ∀ (k : Nat) (v700 : Int) (r : (Unit) ⊕ (Unit)), F106_l0_0 K a694 k v700 = some r → (Sum.elim (fun w => LoopEv E H hn106 0 c106_0 (F106_l0_0_S a694 v700) .ret (F106_l0_0_X0 a694 w)) (fun w => LoopEv E H hn106 0 c106_0 (F106_l0_0_S a694 v700) (.exit 0) (F106_l0_0_X1 a694 w))) r := by
 intro k
 induction k with
 | zero => intro v700 r hF; cases hF
 | succ k ih =>
  intro v700 r hF
  rw [F106_l0_0] at hF
  refine cond_some hF (fun h701 hF => ?_) (fun h701 hF => ?_)
  ·
   refine cond_some hF (fun h702 hF => ?_) (fun _ hF => nomatch hF)
   refine bind_some hF (fun x703 h704 hF => ?_)
   have pq708 : ∀ {l : List Cond}, HoldAll E H hn106 l → HoldAll E H hn106 (.int (nlen (len a694.Rest)) (nlen (len a694.Rest)) :: .test (ilt v700 (nlen (len a694.Rest))) true :: .test (inr v700 (len a694.Rest)) true :: .sub (flat eBool a694.Rest) (nidx v700 1) 1 [(.lit (.bool x703))] :: l) := fun z => ⟨rfl, h701, h702, ⟨rfl, sub_flat0 eBool_len h704 1 (by decide)⟩, z⟩
   refine cond_some hF (fun h705 hF => ?_) (fun h705 hF => ?_)
   ·
    have pz : HoldAll E H hn106 [.test (bnot x703) false, .int (wadd .i64 v700 1) (wadd .i64 v700 1)] := ⟨(bnot_t h705), rfl, trivial⟩
    have h0 := ih _ _ hF
    have hn := fun ex ts' => loop_nextC (h := hn106) (l := 0) (c := c106_0) (ts := F106_l0_0_S a694 v700) (ts1 := (F106_l0_0_S a694 (wadd .i64 v700 1))) (ex := ex) (ts' := ts') (pq708 pz) (by kernel_rfl)
    cases r with
    | inl w => exact hn _ _ h0
    | inr w => exact hn _ _ h0
   obtain rfl := Option.some.inj hF
   have pz : HoldAll E H hn106 [.test (bnot x703) true] := ⟨(bnot_f h705), trivial⟩
   exact loop_endC (h := hn106) (l := 0) (c := c106_0) (ts := F106_l0_0_S a694 v700) (ts' := F106_l0_0_X0 a694 ()) (ex := .ret) (pq708 pz) (by kernel_rfl) trivial
  obtain rfl := Option.some.inj hF
  have pz : HoldAll E H hn106 [.int (nlen (len a694.Rest)) (nlen (len a694.Rest)), .test (ilt v700 (nlen (len a694.Rest))) false] := ⟨rfl, h701, trivial⟩
  exact loop_endC (h := hn106) (l := 0) (c := c106_0) (ts := F106_l0_0_S a694 v700) (ts' := F106_l0_0_X1 a694 ()) (ex := (.exit 0)) pz (by kernel_rfl) trivial
def F106 (K : Nat) (a694 : GState) : Option (Bool) :=
 (F106_l0_0 K a694 K 0).bind fun y710 =>
 Sum.elim (fun w711 =>
  some false)
  (fun w712 =>
  some (ieq (nlen (len a694.In)) 0)) y710
theorem F106_ok (K : Nat) (a694 : GState) (r : Bool) (hF : F106 K a694 = some r) : Evt E H 106 [.agg (eGState a694)] (F106_res r) := by
 rw [F106] at hF
 refine bind_some hF (fun y710 h709 hF => ?_)
 refine sum_some hF (fun w711 hx hF => ?_) (fun w712 hx hF => ?_)
 ·
  subst hx
  obtain rfl := Option.some.inj hF
  have pz : HoldAll E H hn106 [.loop 0 c106_0 (F106_l0_0_S a694 0) .ret (F106_l0_0_X0 a694 w711)] := ⟨(F106_l0_0_ok K a694 K 0 _ h709), trivial⟩
  exact fn_playC hn106 (r := F106_res false) pz (by kernel_rfl) (by kernel_rfl)
 subst hx
 obtain rfl := Option.some.inj hF
 have pz : HoldAll E H hn106 [.loop 0 c106_0 (F106_l0_0_S a694 0) (.exit 0) (F106_l0_0_X1 a694 w712), .int (nlen (len a694.In)) (nlen (len a694.In))] := ⟨(F106_l0_0_ok K a694 K 0 _ h709), rfl, trivial⟩
 exact fn_playC hn106 (r := F106_res (ieq (nlen (len a694.In)) 0)) pz (by kernel_rfl) (by kernel_rfl)
noncomputable def hn124 : Hint := { H 124 with nt := 9, prot := 0 }
def F124_res (r716 : Bool) : Res := ⟨[(.one (.im (.lit (.bool r716))))], []⟩
def F124 (K : Nat) (a693 : GPart) : Option (Bool) :=
 (F106 K (GState.mk 0 [] a693.Rest a693.In)).bind fun r714 =>
 some r714
theorem F124_ok (K : Nat) (a693 : GPart) (r : Bool) (hF : F124 K a693 = some r) : Evt E H 124 [.agg (eGPart a693)] (F124_res r) := by
 rw [F124] at hF
 refine bind_some hF (fun r714 h715 hF => ?_)
 obtain rfl := Option.some.inj hF
 have pz : HoldAll E H hn124 [.call 106 [.agg (eGState (GState.mk 0 [] a693.Rest a693.In))] (F106_res r714), .test (leadsAny (Res.mk [(.one (.im (.lit (.bool r714))))] [])) false] := ⟨(F106_ok K (GState.mk 0 [] a693.Rest a693.In) _ h715), (leads_ok (by simp [leadsAny, RV.leads, RC.leads, leadsT, hasSl_lit])), trivial⟩
 exact fn_playC hn124 (r := F124_res r714) pz (by kernel_rfl) (by kernel_rfl)
def restsS (s : GState) : Bool := s.Rest.all id && ieq (nlen (len s.In)) 0
theorem rest_go (l : List Bool) : goL (fun r (_ : Unit) c => bif r then c () else some (.inl ())) (fun _ => some (.inr ())) l () = (some (sumU (l.all id)) : Option (Unit ⊕ Unit)) := by
 induction l with
 | nil => rfl
 | cons r l ih => cases r <;> simp [goL, ih, sumU]
theorem F106_specS (K : Nat) (x : GState) (h : x.Rest.length < 4611686018427387904) (hK : x.Rest.length < K) : F106 K x = some (restsS x) := by
 have e : F106_l0_0 K x K 0 = _ := scanL (L := fun k (_ : Unit) i => F106_l0_0 K x k i) (fun r _ c => bif r then c () else some (.inl ())) (fun _ => some (.inr ())) (fun k s i _ => rfl) h hK ()
 rw [F106, e, rest_go, restsS]
 cases x.Rest.all id <;> rfl
theorem foldC_ok (p : Int) : ∀ (r : List GMsg) (c : GMsg) (d w : List GMsg), foldC p r c d = .inr w → i64 c.V → (∀ x ∈ r, i64 x.V) → (∀ x ∈ d, i64 x.V) → w.length ≤ d.length + r.length + 1 ∧ ∀ x ∈ w, i64 x.V
 | [], c, d, w, h, hc, _, hd => by
   injection h with h
   subst h
   refine ⟨by simp, fun x hx => ?_⟩
   rcases List.mem_append.1 hx with hx | hx
   · exact hd x hx
   · rw [List.mem_singleton.1 hx]; exact hc
 | x :: r, c, d, w, h, hc, hr, hd => by
   rw [foldC] at h
   have hx := hr x List.mem_cons_self
   have hr' := fun y hy => hr y (List.mem_cons_of_mem _ hy)
   cases h1 : ieq c.To x.To
   · rw [h1, cond_false] at h
     have := foldC_ok p r x (d ++ [c]) w h hx hr' (fun y hy => by
       rcases List.mem_append.1 hy with hy | hy
       · exact hd y hy
       · rw [List.mem_singleton.1 hy]; exact hc)
     rw [List.length_append] at this
     simp only [List.length_singleton] at this
     exact ⟨by simp only [List.length_cons]; omega, this.2⟩
   · rw [h1, cond_true] at h
     cases h2 : ieq (foldS p c.V x.V).2 0
     · rw [h2] at h; cases h
     · rw [h2, cond_true] at h
       have := foldC_ok p r _ d w h (foldS_i64 hc hx) hr' hd
       exact ⟨by simp only [List.length_cons]; omega, this.2⟩
theorem boxS_ok {p : Int} {l : List GMsg} (hl : ∀ x ∈ l, i64 x.V) : (boxS p l).1.length ≤ l.length ∧ ∀ x ∈ (boxS p l).1, i64 x.V := by
 have hn : ∀ x ∈ ([] : List GMsg), i64 x.V := fun x hx => absurd hx List.not_mem_nil
 have hs : ∀ x ∈ sortM l, i64 x.V := fun x hx => hl x ((sortM_perm l).mem_iff.1 hx)
 have hsl := sortM_len l
 rw [boxS]
 cases pbad p
 · rw [cond_false]
   generalize sortM l = m at *
   cases m with
   | nil => exact ⟨Nat.zero_le _, hn⟩
   | cons x r =>
     rw [foldO]
     cases hq : foldC p r x [] with
     | inl e => exact ⟨Nat.zero_le _, hn⟩
     | inr w =>
       have := foldC_ok p r x [] w hq (hs x List.mem_cons_self) (fun y hy => hs y (List.mem_cons_of_mem _ hy)) hn
       simp only [List.length_cons, List.length_nil] at hsl this
       exact ⟨by show w.length ≤ _; omega, this.2⟩
 · exact ⟨Nat.zero_le _, hn⟩
noncomputable def hn113 : Hint := { H 113 with nt := 7, prot := 0 }
def F113_res (r5876 : Bool) : Res := ⟨[(.one (.im (.lit (.bool r5876))))], []⟩
def F113 (K : Nat) (a5875 : GGraph) : Option (Bool) :=
 some (igt (nlen (len a5875.Edges)) 200)
theorem F113_ok (K : Nat) (a5875 : GGraph) (r : Bool) (hF : F113 K a5875 = some r) : Evt E H 113 [.agg (eGGraph a5875)] (F113_res r) := by
 rw [F113] at hF
 obtain rfl := Option.some.inj hF
 have pz : HoldAll E H hn113 [.int (nlen (len a5875.Edges)) (nlen (len a5875.Edges))] := ⟨rfl, trivial⟩
 exact fn_playC hn113 (r := F113_res (igt (nlen (len a5875.Edges)) 200)) pz (by kernel_rfl) (by kernel_rfl)
noncomputable def hn114 : Hint := { H 114 with nt := 19, prot := 0 }
def F114_res (r5884 : Bool) : Res := ⟨[(.one (.im (.lit (.bool r5884))))], []⟩
def F114 (K : Nat) (a5880 : GPart) : Option (Bool) :=
 bif (ilt 100 (nlen (len a5880.Vals))) then
  (some true)
 else
 bif (ilt 100 (nlen (len a5880.Rest))) then
  (some true)
 else
 some (igt (nlen (len a5880.In)) 300)
theorem F114_ok (K : Nat) (a5880 : GPart) (r : Bool) (hF : F114 K a5880 = some r) : Evt E H 114 [.agg (eGPart a5880)] (F114_res r) := by
 rw [F114] at hF
 refine cond_some hF (fun h5881 hF => ?_) (fun h5881 hF => ?_)
 ·
  obtain rfl := Option.some.inj hF
  have pz : HoldAll E H hn114 [.int (nlen (len a5880.Vals)) (nlen (len a5880.Vals)), .test (beqb (igt (nlen (len a5880.Vals)) 100) false) false, .test (beqb (igt (nlen (len a5880.Vals)) 100) false) false, .test (beqb (igt (nlen (len a5880.Vals)) 100) false) false, .test (beqb (igt (nlen (len a5880.Vals)) 100) false) false, .test (igt (nlen (len a5880.Vals)) 100) true, .test (beqb true false) false, .test (beqb true false) false, .test (beqb true false) false, .test (beqb true false) false, .test true true] := ⟨rfl, (beqb_ft (igt_eq h5881)), (beqb_ft (igt_eq h5881)), (beqb_ft (igt_eq h5881)), (beqb_ft (igt_eq h5881)), (igt_eq h5881), (beqb_ft rfl), (beqb_ft rfl), (beqb_ft rfl), (beqb_ft rfl), rfl, trivial⟩
  exact fn_playC hn114 (r := F114_res true) pz (by kernel_rfl) (by kernel_rfl)
 have pq5883 : ∀ {l : List Cond}, HoldAll E H hn114 l → HoldAll E H hn114 (.int (nlen (len a5880.Vals)) (nlen (len a5880.Vals)) :: .test (beqb (igt (nlen (len a5880.Vals)) 100) false) true :: .test (beqb (igt (nlen (len a5880.Vals)) 100) false) true :: .test (beqb (igt (nlen (len a5880.Vals)) 100) false) true :: .int (nlen (len a5880.Rest)) (nlen (len a5880.Rest)) :: .test (beqb (igt (nlen (len a5880.Vals)) 100) false) true :: .test (igt (nlen (len a5880.Vals)) 100) false :: l) := fun z => ⟨rfl, (beqb_ff (igt_eq h5881)), (beqb_ff (igt_eq h5881)), (beqb_ff (igt_eq h5881)), rfl, (beqb_ff (igt_eq h5881)), (igt_eq h5881), z⟩
 refine cond_some hF (fun h5882 hF => ?_) (fun h5882 hF => ?_)
 ·
  obtain rfl := Option.some.inj hF
  have pz : HoldAll E H hn114 [.test (beqb (igt (nlen (len a5880.Rest)) 100) false) false, .test (beqb (igt (nlen (len a5880.Rest)) 100) false) false, .test (beqb (igt (nlen (len a5880.Rest)) 100) false) false, .test (beqb (igt (nlen (len a5880.Rest)) 100) false) false, .test (igt (nlen (len a5880.Rest)) 100) true] := ⟨(beqb_ft (igt_eq h5882)), (beqb_ft (igt_eq h5882)), (beqb_ft (igt_eq h5882)), (beqb_ft (igt_eq h5882)), (igt_eq h5882), trivial⟩
  exact fn_playC hn114 (r := F114_res true) (pq5883 pz) (by kernel_rfl) (by kernel_rfl)
 obtain rfl := Option.some.inj hF
 have pz : HoldAll E H hn114 [.test (beqb (igt (nlen (len a5880.Rest)) 100) false) true, .test (beqb (igt (nlen (len a5880.Rest)) 100) false) true, .test (beqb (igt (nlen (len a5880.Rest)) 100) false) true, .int (nlen (len a5880.In)) (nlen (len a5880.In)), .test (beqb (igt (nlen (len a5880.Rest)) 100) false) true, .test (igt (nlen (len a5880.Rest)) 100) false] := ⟨(beqb_ff (igt_eq h5882)), (beqb_ff (igt_eq h5882)), (beqb_ff (igt_eq h5882)), rfl, (beqb_ff (igt_eq h5882)), (igt_eq h5882), trivial⟩
 exact fn_playC hn114 (r := F114_res (igt (nlen (len a5880.In)) 300)) (pq5883 pz) (by kernel_rfl) (by kernel_rfl)
noncomputable def hn36 : Hint := { H 36 with nt := 58, prot := 0 }
def F36_res (r6675 : Bool) : Res := ⟨[(.one (.im (.lit (.bool r6675))))], []⟩
def F36 (K : Nat) (a6502 : GGraph) (a6503 : GJob) (a6504 : GPart) (a6505 : List (List GMsg)) : Option (Bool) :=
 (F113 K a6502).bind fun r6506 =>
 bif r6506 then
  (some true)
 else
 (F114 K a6504).bind fun r6509 =>
 bif r6509 then
  (some true)
 else
 (F120 K a6505).bind fun r6533 =>
 bif r6533 then
  (some true)
 else
 (F121 K a6502 a6503 a6504 a6505).bind fun r6610 =>
 (F122 K a6502 a6503 a6504 a6505).bind fun r6659 =>
 (F118 K r6610.1 r6659.1).bind fun r6661 =>
 bif r6661 then
  (bif (ieq r6610.2 r6659.2) then
   ((F123 K a6504).bind fun r6665 =>
   (F124 K a6504).bind fun r6667 =>
   bif (beqb r6665 r6667) then
    (some true)
   else
   some false)
  else
  some false)
 else
 some false
theorem F36_ok (K : Nat) (a6502 : GGraph) (a6503 : GJob) (a6504 : GPart) (a6505 : List (List GMsg)) (r : Bool) (hF : F36 K a6502 a6503 a6504 a6505 = some r) : Evt E H 36 [.agg (eGGraph a6502), .agg (eGJob a6503), .agg (eGPart a6504), .one (.sl (len a6505) (flat (eSl eGMsg) a6505))] (F36_res r) := by
 rw [F36] at hF
 refine bind_some hF (fun r6506 h6507 hF => ?_)
 refine cond_some hF (fun h6508 hF => ?_) (fun h6508 hF => ?_)
 ·
  obtain rfl := Option.some.inj hF
  have pz : HoldAll E H hn36 [.call 113 [.agg (eGGraph a6502)] (F113_res r6506), .test (leadsAny (Res.mk [(.one (.im (.lit (.bool r6506))))] [])) false, .test (beqb r6506 false) false, .test (beqb r6506 false) false, .test r6506 true, .test (beqb true false) false, .test (beqb true false) false, .test true true, .test true true, .call 115 [] (Res.mk [(.one (.im (.lit (.bool true))))] []), .test (leadsAny (Res.mk [(.one (.im (.lit (.bool true))))] [])) false] := ⟨(F113_ok K a6502 _ h6507), (leads_ok (by simp [leadsAny, RV.leads, RC.leads, leadsT, hasSl_lit])), (beqb_ft h6508), (beqb_ft h6508), h6508, (beqb_ft rfl), (beqb_ft rfl), rfl, rfl, knows115, (leads_ok (by simp [leadsAny, RV.leads, RC.leads, leadsT, hasSl_lit])), trivial⟩
  exact fn_playC hn36 (r := F36_res true) pz (by kernel_rfl) (by kernel_rfl)
 refine bind_some hF (fun r6509 h6510 hF => ?_)
 have pq6670 : ∀ {l : List Cond}, HoldAll E H hn36 l → HoldAll E H hn36 (.call 113 [.agg (eGGraph a6502)] (F113_res r6506) :: .test (leadsAny (Res.mk [(.one (.im (.lit (.bool r6506))))] [])) false :: .test (beqb r6506 false) true :: .test (beqb r6506 false) true :: .call 114 [.agg (eGPart a6504)] (F114_res r6509) :: .test (leadsAny (Res.mk [(.one (.im (.lit (.bool r6509))))] [])) false :: .test r6506 false :: l) := fun z => ⟨(F113_ok K a6502 _ h6507), (leads_ok (by simp [leadsAny, RV.leads, RC.leads, leadsT, hasSl_lit])), (beqb_ff h6508), (beqb_ff h6508), (F114_ok K a6504 _ h6510), (leads_ok (by simp [leadsAny, RV.leads, RC.leads, leadsT, hasSl_lit])), h6508, z⟩
 refine cond_some hF (fun h6511 hF => ?_) (fun h6511 hF => ?_)
 ·
  obtain rfl := Option.some.inj hF
  have pz : HoldAll E H hn36 [.test (beqb r6509 false) false, .test (beqb r6509 false) false, .test r6509 true, .test true true, .call 115 [] (Res.mk [(.one (.im (.lit (.bool true))))] []), .test (leadsAny (Res.mk [(.one (.im (.lit (.bool true))))] [])) false] := ⟨(beqb_ft h6511), (beqb_ft h6511), h6511, rfl, knows115, (leads_ok (by simp [leadsAny, RV.leads, RC.leads, leadsT, hasSl_lit])), trivial⟩
  exact fn_playC hn36 (r := F36_res true) (pq6670 pz) (by kernel_rfl) (by kernel_rfl)
 refine bind_some hF (fun r6533 h6534 hF => ?_)
 have pq6671 : ∀ {l : List Cond}, HoldAll E H hn36 l → HoldAll E H hn36 (.test (beqb r6509 false) true :: .test (beqb r6509 false) true :: .call 120 [.one (.sl (len a6505) (flat (eSl eGMsg) a6505))] (F120_res r6533) :: .test (leadsAny (Res.mk [(.one (.im (.lit (.bool r6533))))] [])) false :: .test r6509 false :: l) := fun z => ⟨(beqb_ff h6511), (beqb_ff h6511), (F120_ok K a6505 _ h6534), (leads_ok (by simp [leadsAny, RV.leads, RC.leads, leadsT, hasSl_lit, flat_ns eGMsg_ns])), h6511, z⟩
 refine cond_some hF (fun h6535 hF => ?_) (fun h6535 hF => ?_)
 ·
  obtain rfl := Option.some.inj hF
  have pz : HoldAll E H hn36 [.test r6533 true, .call 115 [] (Res.mk [(.one (.im (.lit (.bool true))))] []), .test (leadsAny (Res.mk [(.one (.im (.lit (.bool true))))] [])) false] := ⟨h6535, knows115, (leads_ok (by simp [leadsAny, RV.leads, RC.leads, leadsT, hasSl_lit])), trivial⟩
  exact fn_playC hn36 (r := F36_res true) (pq6670 (pq6671 pz)) (by kernel_rfl) (by kernel_rfl)
 refine bind_some hF (fun r6610 h6611 hF => ?_)
 refine bind_some hF (fun r6659 h6660 hF => ?_)
 refine bind_some hF (fun r6661 h6662 hF => ?_)
 have pq6672 : ∀ {l : List Cond}, HoldAll E H hn36 l → HoldAll E H hn36 (.test r6533 false :: .call 121 [.agg (eGGraph a6502), .agg (eGJob a6503), .agg (eGPart a6504), .one (.sl (len a6505) (flat (eSl eGMsg) a6505))] (F121_res r6610) :: .test (leadsAny (Res.mk [(.agg [(.im (.lit (.int .i64 r6610.1.P))), (.im (.lit (.int .i64 r6610.1.Step))), (.own 2 (.sl (len r6610.1.Vals) (flat (eInt .i64) r6610.1.Vals))), (.own 4 (.sl (len r6610.1.Rest) (flat eBool r6610.1.Rest))), (.own 130 (.sl (len r6610.1.In) (flat eGMsg r6610.1.In)))]), (.one (.im (.lit (.int .i64 r6610.2))))] [])) false :: .call 122 [.agg (eGGraph a6502), .agg (eGJob a6503), .agg (eGPart a6504), .one (.sl (len a6505) (flat (eSl eGMsg) a6505))] (F122_res r6659) :: .call 118 [.agg (eGPart r6610.1), .agg (eGPart r6659.1)] (F118_res r6661) :: .test (leadsAny (Res.mk [(.one (.im (.lit (.bool r6661))))] [])) false :: l) := fun z => ⟨h6535, (F121_ok K a6502 a6503 a6504 a6505 _ h6611), (leads_ok (by simp [leadsAny, RV.leads, RC.leads, leadsT, hasSl_lit, flat_ns (eInt_ns _), flat_ns eBool_ns, flat_ns eGJob_ns, flat_ns eGMsg_ns])), (F122_ok K a6502 a6503 a6504 a6505 _ h6660), (F118_ok K r6610.1 r6659.1 _ h6662), (leads_ok (by simp [leadsAny, RV.leads, RC.leads, leadsT, hasSl_lit, flat_ns (eInt_ns _), flat_ns eBool_ns, flat_ns eGJob_ns, flat_ns eGMsg_ns])), z⟩
 refine cond_some hF (fun h6663 hF => ?_) (fun h6663 hF => ?_)
 ·
  have pq6673 : ∀ {l : List Cond}, HoldAll E H hn36 l → HoldAll E H hn36 (.test (beqb r6661 true) true :: .test (beqb r6661 true) true :: .test (beqb r6661 true) true :: .test r6661 true :: l) := fun z => ⟨(beqb_t h6663), (beqb_t h6663), (beqb_t h6663), h6663, z⟩
  refine cond_some hF (fun h6664 hF => ?_) (fun h6664 hF => ?_)
  ·
   refine bind_some hF (fun r6665 h6666 hF => ?_)
   refine bind_some hF (fun r6667 h6668 hF => ?_)
   have pq6674 : ∀ {l : List Cond}, HoldAll E H hn36 l → HoldAll E H hn36 (.test (beqb (ieq r6610.2 r6659.2) true) true :: .test (beqb (ieq r6610.2 r6659.2) true) true :: .call 123 [.agg (eGPart a6504)] (F123_res r6665) :: .test (leadsAny (Res.mk [(.one (.im (.lit (.bool r6665))))] [])) false :: .test (beqb (ieq r6610.2 r6659.2) true) true :: .test (beqb (ieq r6610.2 r6659.2) true) true :: .call 124 [.agg (eGPart a6504)] (F124_res r6667) :: .test (leadsAny (Res.mk [(.one (.im (.lit (.bool r6667))))] [])) false :: .test (beqb (ieq r6610.2 r6659.2) true) true :: .test (ieq r6610.2 r6659.2) true :: l) := fun z => ⟨(beqb_t h6664), (beqb_t h6664), (F123_ok K a6504 _ h6666), (leads_ok (by simp [leadsAny, RV.leads, RC.leads, leadsT, hasSl_lit])), (beqb_t h6664), (beqb_t h6664), (F124_ok K a6504 _ h6668), (leads_ok (by simp [leadsAny, RV.leads, RC.leads, leadsT, hasSl_lit])), (beqb_t h6664), h6664, z⟩
   refine cond_some hF (fun h6669 hF => ?_) (fun h6669 hF => ?_)
   ·
    obtain rfl := Option.some.inj hF
    have pz : HoldAll E H hn36 [.test (beqb (beqb r6665 r6667) true) true, .call 115 [] (Res.mk [(.one (.im (.lit (.bool true))))] []), .test (leadsAny (Res.mk [(.one (.im (.lit (.bool true))))] [])) false, .test (beqb r6665 r6667) true] := ⟨(beqb_t h6669), knows115, (leads_ok (by simp [leadsAny, RV.leads, RC.leads, leadsT, hasSl_lit])), h6669, trivial⟩
    exact fn_playC hn36 (r := F36_res true) (pq6670 (pq6671 (pq6672 (pq6673 (pq6674 pz))))) (by kernel_rfl) (by kernel_rfl)
   obtain rfl := Option.some.inj hF
   have pz : HoldAll E H hn36 [.test (beqb (beqb r6665 r6667) true) false, .test (beqb r6665 r6667) false] := ⟨(beqb_t h6669), h6669, trivial⟩
   exact fn_playC hn36 (r := F36_res false) (pq6670 (pq6671 (pq6672 (pq6673 (pq6674 pz))))) (by kernel_rfl) (by kernel_rfl)
  obtain rfl := Option.some.inj hF
  have pz : HoldAll E H hn36 [.test (beqb (ieq r6610.2 r6659.2) true) false, .test (beqb (ieq r6610.2 r6659.2) true) false, .test (beqb (ieq r6610.2 r6659.2) true) false, .test (beqb (ieq r6610.2 r6659.2) true) false, .test (beqb (ieq r6610.2 r6659.2) true) false, .test (ieq r6610.2 r6659.2) false, .test (beqb false true) false, .test false false] := ⟨(beqb_t h6664), (beqb_t h6664), (beqb_t h6664), (beqb_t h6664), (beqb_t h6664), h6664, (beqb_t rfl), rfl, trivial⟩
  exact fn_playC hn36 (r := F36_res false) (pq6670 (pq6671 (pq6672 (pq6673 pz)))) (by kernel_rfl) (by kernel_rfl)
 obtain rfl := Option.some.inj hF
 have pz : HoldAll E H hn36 [.test (beqb r6661 true) false, .test (beqb r6661 true) false, .test (beqb r6661 true) false, .test r6661 false, .test (beqb false true) false, .test (beqb false true) false, .test (beqb false true) false, .test (beqb false true) false, .test (beqb false true) false, .test false false, .test (beqb false true) false, .test false false] := ⟨(beqb_t h6663), (beqb_t h6663), (beqb_t h6663), h6663, (beqb_t rfl), (beqb_t rfl), (beqb_t rfl), (beqb_t rfl), (beqb_t rfl), rfl, (beqb_t rfl), rfl, trivial⟩
 exact fn_playC hn36 (r := F36_res false) (pq6670 (pq6671 (pq6672 pz))) (by kernel_rfl) (by kernel_rfl)
theorem F123_spec (K : Nat) (x : GPart) (h : x.Rest.length < 4611686018427387904) (hK : x.Rest.length < K) : F123 K x = some (restsS (GState.mk 0 [] x.Rest x.In)) := by
 have e : F123_l0_0 K x K 0 = _ := scanL (L := fun k (_ : Unit) i => F123_l0_0 K x k i) (fun r _ c => bif r then c () else some (.inl ())) (fun _ => some (.inr ())) (fun k s i _ => rfl) h hK ()
 rw [F123, e, rest_go, restsS]
 cases x.Rest.all id <;> rfl
theorem F124_spec (K : Nat) (x : GPart) (h : x.Rest.length < 4611686018427387904) (hK : x.Rest.length < K) : F124 K x = some (restsS (GState.mk 0 [] x.Rest x.In)) := by
 rw [F124, F106_specS K (GState.mk 0 [] x.Rest x.In) h hK]; rfl
def manyS (ls : List (List GMsg)) : Bool := ilt 20 (nlen (len ls)) || ls.any fun l => ilt 100 (nlen (len l))
theorem F120_spec {K : Nat} (hK : 1000 ≤ K) (ls : List (List GMsg)) : F120 K ls = some (manyS ls) := by
 rw [F120, manyS]
 cases h20 : ilt 20 (nlen (len ls))
 · have h20' : ls.length ≤ 20 := by have := ilt_f.1 h20; simp only [nlen, len] at this; omega
   have h := scanL (l := ls) (L := fun k (_ : Unit) i => F120_l0_0 K ls k i) (fun x _ c => bif ilt 100 (nlen (len x)) then some (.inl ()) else c ()) (fun _ => some (.inr ())) (fun k s i _ => rfl) (by omega) (K := K) (by omega) ()
   have hw : ∀ (r : List (List GMsg)), goL (fun x (_ : Unit) c => bif ilt 100 (nlen (len x)) then some (.inl ()) else c ()) (fun _ => some (.inr ())) r () = (some (sumU (!(r.any fun l => ilt 100 (nlen (len l))))) : Option (Unit ⊕ Unit)) := by
     intro r
     induction r with
     | nil => rfl
     | cons x r ih =>
       rw [goL, ih, List.any_cons]
       cases ilt 100 (nlen (len x)) <;> rfl
   rw [hw] at h
   have h' : F120_l0_0 K ls K 0 = _ := h
   rw [h', cond_false, sumU_bind, Bool.false_or]
   cases ls.any fun l => ilt 100 (nlen (len l)) <;> rfl
 · rfl
theorem many_flat : ∀ (ls : List (List GMsg)), (∀ l ∈ ls, l.length ≤ 100) → ls.flatten.length ≤ ls.length * 100
 | [], _ => by simp
 | l :: ls, h => by
   have h1 := h l List.mem_cons_self
   have h2 := many_flat ls fun x hx => h x (List.mem_cons_of_mem _ hx)
   rw [List.flatten_cons, List.length_append, List.length_cons]; omega
theorem manyS_f {ls : List (List GMsg)} (h : manyS ls = false) : ls.length ≤ 20 ∧ ls.flatten.length ≤ 2000 := by
 simp only [manyS, Bool.or_eq_false_iff, ilt_f, nlen, len] at h
 obtain ⟨h1, h2⟩ := h
 have h3 : ∀ l ∈ ls, l.length ≤ 100 := by
   intro l hl
   cases hc : ilt 100 (nlen (len l))
   · have := ilt_f.1 hc; simp only [nlen, len] at this; omega
   · have : (ls.any fun l => decide ((100 : Int) < (l.length : Int))) = true := List.any_eq_true.2 ⟨l, hl, hc⟩
     rw [show (ls.any fun l => decide ((100 : Int) < (l.length : Int))) = false from h2] at this; cases this
 have := many_flat ls h3
 exact ⟨by omega, by omega⟩
def broadP8 (x : GPart) : Bool := ilt 100 (nlen (len x.Vals)) || (ilt 100 (nlen (len x.Rest)) || ilt 300 (nlen (len x.In)))
theorem F114_spec (K : Nat) (x : GPart) : F114 K x = some (broadP8 x) := by
 have : igt (nlen (len x.In)) 300 = ilt 300 (nlen (len x.In)) := rfl
 rw [F114, this, broadP8]
 cases ilt 100 (nlen (len x.Vals)) <;> cases ilt 100 (nlen (len x.Rest)) <;> rfl
theorem broadP8_f {x : GPart} (h : broadP8 x = false) : x.Vals.length ≤ 100 ∧ x.Rest.length ≤ 100 ∧ x.In.length ≤ 300 := by
 simp only [broadP8, Bool.or_eq_false_iff, ilt_f, nlen, len] at h
 omega
theorem take_fit {K : Nat} (hK : 3000 ≤ K) (g : GGraph) (j : GJob) {x : GPart} {l : List GMsg} (hv : x.Vals.length ≤ 100) (hr : x.Rest.length ≤ 100) (hl : l.length ≤ 2000) (hs : ∀ m ∈ l, i64 m.V) : fitP K (takeS g j x l).1 := by
 have hz : fitP K zeroP := by refine ⟨⟨?_, ?_⟩, ⟨?_, ?_⟩, ?_, ?_⟩ <;> simp [zeroP] <;> omega
 have hb := (boxS_ok (p := j.Prog) hs).1
 rw [takeS]
 cases ieq (jcheck g j) 0
 · exact hz
 · cases partRight g j x
   · exact hz
   · cases ieq (nlen (len x.In)) 0
     · exact hz
     · cases takeOk g.N j.Parts x.P l
       · exact hz
       · rw [takeB]
         cases ieq (boxS j.Prog l).2 0
         · exact hz
         · exact ⟨⟨by show x.Vals.length < _; omega, by show x.Vals.length < _; omega⟩, ⟨by show x.Rest.length < _; omega, by show x.Rest.length < _; omega⟩, by show (boxS j.Prog l).1.length < _; omega, by show (boxS j.Prog l).1.length < _; omega⟩
abbrev WGIns (ls : List (List GMsg)) : Prop := (fun l : List (List GMsg) => l.length * 24 ≤ reachBytes ∧ ∀ y ∈ l, (fun l : List GMsg => l.length * 16 ≤ reachBytes ∧ ∀ y ∈ l, WGMsg y) y) ls
theorem ins_i64 {ls : List (List GMsg)} (h : WGIns ls) : ∀ m ∈ ls.flatten, i64 m.V := by
 intro m hm
 obtain ⟨l, hl, hm⟩ := List.mem_flatten.1 hm
 exact i64_wf ((h.2 l hl).2 m hm).2.1
theorem law36 (g : GGraph) (j : GJob) (x : GPart) (ins : List (List GMsg)) (_ : WGGraph g) (_ : WGJob j) (hx : WGPart x) (hi : WGIns ins) : F36 3000 g j x ins = some true := by
 generalize hq : 3000 = K
 have hK : 3000 ≤ K := by omega
 rw [F36, F113, F114_spec, F120_spec (by omega), Option.bind_some, Option.bind_some, Option.bind_some]
 cases igt (nlen (len g.Edges)) 200
 · cases hb : broadP8 x
   · obtain ⟨b1, b2, b3⟩ := broadP8_f hb
     cases hm : manyS ins
     · obtain ⟨m1, m2⟩ := manyS_f hm
       have hs := ins_i64 hi
       simp only [cond_false, F121_spec (K := K) (by omega) g j x ins (i64_wf hx.1) b3 b1 b2 (by omega) (show ins.flatten.length < 10000 by omega) (show ins.flatten.length < K by omega) hs,
         F122_spec (K := K) (by omega) g j x ins b3 (by omega) (show ins.flatten.length < 10000 by omega) (show ins.flatten.length < K by omega) hs, Option.bind_some,
         same118 _ (take_fit hK g j b1 b2 m2 hs), ieq_refl, cond_true, F123_spec K x (show _ < 4611686018427387904 by omega) (show _ < K by omega), F124_spec K x (show _ < 4611686018427387904 by omega) (show _ < K by omega), beqb_refl]
     · rfl
   · rfl
 · rfl
end Go.Proofs.Ytnjanliihnadjaa.Tm

/- What the row of SeqWays leans on: printed functions and plain laws. Conditions: none. -/
import Derived.Test.YtnjanliihnadjaaTy
import Derived.Test.YtnjanliihnadjaaTab
import Derived.Test.YtnjanliihnadjaaKn
import Derived.Test.YtnjanliihnadjaaWf
import Derived.IntWalk
import Derived.KernelRfl
import Derived.OpenShut
import Derived.Test.YtnjanliihnadjaaBSeqWays2
set_option linter.unusedVariables false
set_option linter.unusedSimpArgs false
namespace Go.Proofs.Ytnjanliihnadjaa.Tm
open Go
theorem F34_l1_2_ok (K : Nat) (v5801 : Int) (v5802 : Int) (v5803 : List GEdge) (v5804 : Int) (v5805 : Int) (v5806 : List Int) (v5807 : Int) : ∀ (k : Nat) (v5824 : Bool) (v5825 : Int) (r : (Unit) ⊕ (Bool)), F34_l1_2 K v5801 v5802 v5803 v5804 v5805 v5806 v5807 k v5824 v5825 = some r → (Sum.elim (fun w => LoopEv E H hn34 2 c34_1 (F34_l1_2_S v5801 v5802 v5803 v5804 v5805 v5806 v5807 v5824 v5825) .ret (F34_l1_2_X0 v5801 v5802 v5803 v5804 v5805 v5806 v5807 w)) (fun w => LoopEv E H hn34 2 c34_1 (F34_l1_2_S v5801 v5802 v5803 v5804 v5805 v5806 v5807 v5824 v5825) (.exit 2) (F34_l1_2_X1 v5801 v5802 v5803 v5804 v5805 v5806 v5807 w))) r := by
 intro k
 induction k with
 | zero => intro v5824 v5825 r hF; cases hF
 | succ k ih =>
  intro v5824 v5825 r hF
  rw [F34_l1_2] at hF
  refine cond_some hF (fun h5826 hF => ?_) (fun h5826 hF => ?_)
  ·
   refine cond_some hF (fun h5827 hF => ?_) (fun _ hF => nomatch hF)
   refine bind_some hF (fun x5828 h5829 hF => ?_)
   have pq5844 : ∀ {l : List Cond}, HoldAll E H hn34 l → HoldAll E H hn34 (.int (nlen (len v5803)) (nlen (len v5803)) :: .test (ilt v5825 (nlen (len v5803))) true :: .test (inr v5825 (len v5803)) true :: .sub (flat eGEdge v5803) (nidx v5825 3) 3 [(.lit (.int .i64 x5828.From)), (.lit (.int .i64 x5828.To)), (.lit (.int .i64 x5828.W))] :: l) := fun z => ⟨rfl, h5826, h5827, ⟨rfl, sub_flat0 eGEdge_len h5829 3 (by decide)⟩, z⟩
   refine cond_some hF (fun h5830 hF => ?_) (fun h5830 hF => ?_)
   ·
    refine cond_some hF (fun h5831 hF => ?_) (fun _ hF => nomatch hF)
    refine bind_some hF (fun x5832 h5833 hF => ?_)
    have pq5845 : ∀ {l : List Cond}, HoldAll E H hn34 l → HoldAll E H hn34 (.test (beqb (ine x5828.To v5807) false) true :: .test (beqb (ine x5828.To v5807) false) true :: .test (beqb (ine x5828.To v5807) false) true :: .test (beqb (ine x5828.To v5807) false) true :: .test (beqb (ine x5828.To v5807) false) true :: .test (inr x5828.From (len v5806)) true :: .test (beqb (ine x5828.To v5807) false) true :: .sub (flat (eInt .i64) v5806) (nidx x5828.From 1) 1 [(.lit (.int .i64 x5832))] :: .test (beqb (ine x5828.To v5807) false) true :: .test (ine x5828.To v5807) false :: l) := fun z => ⟨(beqb_ff (ine_t h5830)), (beqb_ff (ine_t h5830)), (beqb_ff (ine_t h5830)), (beqb_ff (ine_t h5830)), (beqb_ff (ine_t h5830)), h5831, (beqb_ff (ine_t h5830)), ⟨rfl, sub_flat0 (eInt_len _) h5833 1 (by decide)⟩, (beqb_ff (ine_t h5830)), (ine_t h5830), z⟩
    refine cond_some hF (fun h5834 hF => ?_) (fun h5834 hF => ?_)
    ·
     have pz : HoldAll E H hn34 [.test (ieq x5832 9223372036854775807) true, .int (wadd .i64 v5825 1) (wadd .i64 v5825 1)] := ⟨h5834, rfl, trivial⟩
     have h0 := ih _ _ _ hF
     have hn := fun ex ts' => loop_nextC (h := hn34) (l := 2) (c := c34_1) (ts := F34_l1_2_S v5801 v5802 v5803 v5804 v5805 v5806 v5807 v5824 v5825) (ts1 := (F34_l1_2_S v5801 v5802 v5803 v5804 v5805 v5806 v5807 v5824 (wadd .i64 v5825 1))) (ex := ex) (ts' := ts') (pq5844 (pq5845 pz)) (by kernel_rfl)
     cases r with
     | inl w => exact hn _ _ h0
     | inr w => exact hn _ _ h0
    have pq5846 : ∀ {l : List Cond}, HoldAll E H hn34 l → HoldAll E H hn34 (.test (ieq x5832 9223372036854775807) false :: .test (inr x5828.From (len v5806)) true :: .sub (flat (eInt .i64) v5806) (nidx x5828.From 1) 1 [(.lit (.int .i64 x5832))] :: .int (wsub .i64 9223372036854775807 x5828.W) (wsub .i64 9223372036854775807 x5828.W) :: l) := fun z => ⟨h5834, h5831, ⟨rfl, sub_flat0 (eInt_len _) h5833 1 (by decide)⟩, rfl, z⟩
    refine cond_some hF (fun h5835 hF => ?_) (fun h5835 hF => ?_)
    ·
     obtain rfl := Option.some.inj hF
     have pz : HoldAll E H hn34 [.test (beqb (igt x5832 (wsub .i64 9223372036854775807 x5828.W)) false) false, .test (beqb (igt x5832 (wsub .i64 9223372036854775807 x5828.W)) false) false, .test (beqb (igt x5832 (wsub .i64 9223372036854775807 x5828.W)) false) false, .test (beqb (igt x5832 (wsub .i64 9223372036854775807 x5828.W)) false) false, .test (beqb (igt x5832 (wsub .i64 9223372036854775807 x5828.W)) false) false, .test (beqb (igt x5832 (wsub .i64 9223372036854775807 x5828.W)) false) false, .test (beqb (igt x5832 (wsub .i64 9223372036854775807 x5828.W)) false) false, .test (beqb (igt x5832 (wsub .i64 9223372036854775807 x5828.W)) false) false, .test (beqb (igt x5832 (wsub .i64 9223372036854775807 x5828.W)) false) false, .test (beqb (igt x5832 (wsub .i64 9223372036854775807 x5828.W)) false) false, .test (beqb (igt x5832 (wsub .i64 9223372036854775807 x5828.W)) false) false, .test (beqb (igt x5832 (wsub .i64 9223372036854775807 x5828.W)) false) false, .test (beqb (igt x5832 (wsub .i64 9223372036854775807 x5828.W)) false) false, .test (beqb (igt x5832 (wsub .i64 9223372036854775807 x5828.W)) false) false, .test (beqb (igt x5832 (wsub .i64 9223372036854775807 x5828.W)) false) false, .test (igt x5832 (wsub .i64 9223372036854775807 x5828.W)) true, .test true true] := ⟨(beqb_ft (igt_eq h5835)), (beqb_ft (igt_eq h5835)), (beqb_ft (igt_eq h5835)), (beqb_ft (igt_eq h5835)), (beqb_ft (igt_eq h5835)), (beqb_ft (igt_eq h5835)), (beqb_ft (igt_eq h5835)), (beqb_ft (igt_eq h5835)), (beqb_ft (igt_eq h5835)), (beqb_ft (igt_eq h5835)), (beqb_ft (igt_eq h5835)), (beqb_ft (igt_eq h5835)), (beqb_ft (igt_eq h5835)), (beqb_ft (igt_eq h5835)), (beqb_ft (igt_eq h5835)), (igt_eq h5835), rfl, trivial⟩
     exact loop_endC (h := hn34) (l := 2) (c := c34_1) (ts := F34_l1_2_S v5801 v5802 v5803 v5804 v5805 v5806 v5807 v5824 v5825) (ts' := F34_l1_2_X0 v5801 v5802 v5803 v5804 v5805 v5806 v5807 ()) (ex := .ret) (pq5844 (pq5845 (pq5846 pz))) (by kernel_rfl) trivial
    refine cond_some hF (fun h5836 hF => ?_) (fun _ hF => nomatch hF)
    refine bind_some hF (fun x5837 h5838 hF => ?_)
    have pq5847 : ∀ {l : List Cond}, HoldAll E H hn34 l → HoldAll E H hn34 (.test (beqb (igt x5832 (wsub .i64 9223372036854775807 x5828.W)) false) true :: .test (beqb (igt x5832 (wsub .i64 9223372036854775807 x5828.W)) false) true :: .test (beqb (igt x5832 (wsub .i64 9223372036854775807 x5828.W)) false) true :: .test (beqb (igt x5832 (wsub .i64 9223372036854775807 x5828.W)) false) true :: .test (inr v5807 (len v5806)) true :: .test (beqb (igt x5832 (wsub .i64 9223372036854775807 x5828.W)) false) true :: .sub (flat (eInt .i64) v5806) (nidx v5807 1) 1 [(.lit (.int .i64 x5837))] :: .test (beqb (igt x5832 (wsub .i64 9223372036854775807 x5828.W)) false) true :: .test (beqb (igt x5832 (wsub .i64 9223372036854775807 x5828.W)) false) true :: .test (beqb (igt x5832 (wsub .i64 9223372036854775807 x5828.W)) false) true :: .test (beqb (igt x5832 (wsub .i64 9223372036854775807 x5828.W)) false) true :: .test (beqb (igt x5832 (wsub .i64 9223372036854775807 x5828.W)) false) true :: .test (inr x5828.From (len v5806)) true :: .test (beqb (igt x5832 (wsub .i64 9223372036854775807 x5828.W)) false) true :: .sub (flat (eInt .i64) v5806) (nidx x5828.From 1) 1 [(.lit (.int .i64 x5832))] :: .test (beqb (igt x5832 (wsub .i64 9223372036854775807 x5828.W)) false) true :: .test (beqb (igt x5832 (wsub .i64 9223372036854775807 x5828.W)) false) true :: .test (beqb (igt x5832 (wsub .i64 9223372036854775807 x5828.W)) false) true :: .int (wadd .i64 x5832 x5828.W) (wadd .i64 x5832 x5828.W) :: .test (beqb (igt x5832 (wsub .i64 9223372036854775807 x5828.W)) false) true :: .test (igt x5832 (wsub .i64 9223372036854775807 x5828.W)) false :: l) := fun z => ⟨(beqb_ff (igt_eq h5835)), (beqb_ff (igt_eq h5835)), (beqb_ff (igt_eq h5835)), (beqb_ff (igt_eq h5835)), h5836, (beqb_ff (igt_eq h5835)), ⟨rfl, sub_flat0 (eInt_len _) h5838 1 (by decide)⟩, (beqb_ff (igt_eq h5835)), (beqb_ff (igt_eq h5835)), (beqb_ff (igt_eq h5835)), (beqb_ff (igt_eq h5835)), (beqb_ff (igt_eq h5835)), h5831, (beqb_ff (igt_eq h5835)), ⟨rfl, sub_flat0 (eInt_len _) h5833 1 (by decide)⟩, (beqb_ff (igt_eq h5835)), (beqb_ff (igt_eq h5835)), (beqb_ff (igt_eq h5835)), rfl, (beqb_ff (igt_eq h5835)), (igt_eq h5835), z⟩
    refine cond_some hF (fun h5839 hF => ?_) (fun h5839 hF => ?_)
    ·
     obtain rfl := Option.some.inj hF
     have pz : HoldAll E H hn34 [.test (igt x5837 (wadd .i64 x5832 x5828.W)) true] := ⟨(igt_eq h5839), trivial⟩
     exact loop_endC (h := hn34) (l := 2) (c := c34_1) (ts := F34_l1_2_S v5801 v5802 v5803 v5804 v5805 v5806 v5807 v5824 v5825) (ts' := F34_l1_2_X0 v5801 v5802 v5803 v5804 v5805 v5806 v5807 ()) (ex := .ret) (pq5844 (pq5845 (pq5846 (pq5847 pz)))) (by kernel_rfl) trivial
    refine cond_some hF (fun h5840 hF => ?_) (fun h5840 hF => ?_)
    ·
     have pz : HoldAll E H hn34 [.test (igt x5837 (wadd .i64 x5832 x5828.W)) false, .test (beqb v5824 false) false, .test (beqb v5824 false) false, .test (beqb v5824 false) false, .test (beqb v5824 false) false, .test (beqb v5824 false) false, .test (beqb v5824 false) false, .test (beqb v5824 false) false, .test (beqb v5824 false) false, .test (beqb v5824 false) false, .test (beqb v5824 false) false, .test (beqb v5824 false) false, .test (beqb v5824 false) false, .test (beqb v5824 false) false, .test (beqb v5824 false) false, .test (beqb v5824 false) false, .test v5824 true, .int (wadd .i64 v5825 1) (wadd .i64 v5825 1)] := ⟨(igt_eq h5839), (beqb_ft h5840), (beqb_ft h5840), (beqb_ft h5840), (beqb_ft h5840), (beqb_ft h5840), (beqb_ft h5840), (beqb_ft h5840), (beqb_ft h5840), (beqb_ft h5840), (beqb_ft h5840), (beqb_ft h5840), (beqb_ft h5840), (beqb_ft h5840), (beqb_ft h5840), (beqb_ft h5840), h5840, rfl, trivial⟩
     have h0 := ih _ _ _ hF
     have hn := fun ex ts' => loop_nextC (h := hn34) (l := 2) (c := c34_1) (ts := F34_l1_2_S v5801 v5802 v5803 v5804 v5805 v5806 v5807 v5824 v5825) (ts1 := (F34_l1_2_S v5801 v5802 v5803 v5804 v5805 v5806 v5807 true (wadd .i64 v5825 1))) (ex := ex) (ts' := ts') (pq5844 (pq5845 (pq5846 (pq5847 pz)))) (by kernel_rfl)
     cases r with
     | inl w => exact hn _ _ h0
     | inr w => exact hn _ _ h0
    have pz : HoldAll E H hn34 [.test (igt x5837 (wadd .i64 x5832 x5828.W)) false, .test (beqb v5824 false) true, .test (beqb v5824 false) true, .test (beqb v5824 false) true, .test (beqb v5824 false) true, .test (inr v5807 (len v5806)) true, .test (beqb v5824 false) true, .sub (flat (eInt .i64) v5806) (nidx v5807 1) 1 [(.lit (.int .i64 x5837))], .test (beqb v5824 false) true, .test (beqb v5824 false) true, .test (beqb v5824 false) true, .test (beqb v5824 false) true, .test (beqb v5824 false) true, .test (inr x5828.From (len v5806)) true, .test (beqb v5824 false) true, .sub (flat (eInt .i64) v5806) (nidx x5828.From 1) 1 [(.lit (.int .i64 x5832))], .test (beqb v5824 false) true, .test (beqb v5824 false) true, .test (beqb v5824 false) true, .int (wadd .i64 x5832 x5828.W) (wadd .i64 x5832 x5828.W), .test (beqb v5824 false) true, .test v5824 false, .int (wadd .i64 v5825 1) (wadd .i64 v5825 1)] := ⟨(igt_eq h5839), (beqb_ff h5840), (beqb_ff h5840), (beqb_ff h5840), (beqb_ff h5840), h5836, (beqb_ff h5840), ⟨rfl, sub_flat0 (eInt_len _) h5838 1 (by decide)⟩, (beqb_ff h5840), (beqb_ff h5840), (beqb_ff h5840), (beqb_ff h5840), (beqb_ff h5840), h5831, (beqb_ff h5840), ⟨rfl, sub_flat0 (eInt_len _) h5833 1 (by decide)⟩, (beqb_ff h5840), (beqb_ff h5840), (beqb_ff h5840), rfl, (beqb_ff h5840), h5840, rfl, trivial⟩
    have h0 := ih _ _ _ hF
    have hn := fun ex ts' => loop_nextC (h := hn34) (l := 2) (c := c34_1) (ts := F34_l1_2_S v5801 v5802 v5803 v5804 v5805 v5806 v5807 v5824 v5825) (ts1 := (F34_l1_2_S v5801 v5802 v5803 v5804 v5805 v5806 v5807 (ieq x5837 (wadd .i64 x5832 x5828.W)) (wadd .i64 v5825 1))) (ex := ex) (ts' := ts') (pq5844 (pq5845 (pq5846 (pq5847 pz)))) (by kernel_rfl)
    cases r with
    | inl w => exact hn _ _ h0
    | inr w => exact hn _ _ h0
   have pz : HoldAll E H hn34 [.test (beqb (ine x5828.To v5807) false) false, .test (beqb (ine x5828.To v5807) false) false, .test (beqb (ine x5828.To v5807) false) false, .test (beqb (ine x5828.To v5807) false) false, .test (beqb (ine x5828.To v5807) false) false, .test (beqb (ine x5828.To v5807) false) false, .test (beqb (ine x5828.To v5807) false) false, .test (ine x5828.To v5807) true, .test true true, .int (wadd .i64 v5825 1) (wadd .i64 v5825 1)] := ⟨(beqb_ft (ine_f h5830)), (beqb_ft (ine_f h5830)), (beqb_ft (ine_f h5830)), (beqb_ft (ine_f h5830)), (beqb_ft (ine_f h5830)), (beqb_ft (ine_f h5830)), (beqb_ft (ine_f h5830)), (ine_f h5830), rfl, rfl, trivial⟩
   have h0 := ih _ _ _ hF
   have hn := fun ex ts' => loop_nextC (h := hn34) (l := 2) (c := c34_1) (ts := F34_l1_2_S v5801 v5802 v5803 v5804 v5805 v5806 v5807 v5824 v5825) (ts1 := (F34_l1_2_S v5801 v5802 v5803 v5804 v5805 v5806 v5807 v5824 (wadd .i64 v5825 1))) (ex := ex) (ts' := ts') (pq5844 pz) (by kernel_rfl)
   cases r with
   | inl w => exact hn _ _ h0
   | inr w => exact hn _ _ h0
  obtain rfl := Option.some.inj hF
  have pz : HoldAll E H hn34 [.int (nlen (len v5803)) (nlen (len v5803)), .test (ilt v5825 (nlen (len v5803))) false] := ⟨rfl, h5826, trivial⟩
  exact loop_endC (h := hn34) (l := 2) (c := c34_1) (ts := F34_l1_2_S v5801 v5802 v5803 v5804 v5805 v5806 v5807 v5824 v5825) (ts' := F34_l1_2_X1 v5801 v5802 v5803 v5804 v5805 v5806 v5807 v5824) (ex := (.exit 2)) pz (by kernel_rfl) trivial
def F34_l0_0 (K : Nat) (v5641 : Int) (v5642 : Int) (v5643 : List GEdge) (v5644 : Int) (v5645 : Int) (v5646 : List Int) : Nat → Int → Option ((Unit) ⊕ (Unit))
 | 0, _ => none
 | k + 1, v5749 =>
  bif (ilt v5749 v5642) then
   (bif (ieq v5749 v5641) then
    ((F34_l1_1 K v5641 v5642 v5643 v5644 v5645 v5646 v5749 K 0).bind fun y5795 =>
    Sum.elim (fun w5796 =>
     some (.inl ()))
     (fun w5797 =>
     F34_l0_0 K v5641 v5642 v5643 v5644 v5645 v5646 k (wadd .i64 v5749 1)) y5795)
   else
   bif (inr v5749 (len v5646)) then
   (elAt v5646 v5749).bind fun x5799 =>
   (F34_l1_2 K v5641 v5642 v5643 v5644 v5645 v5646 v5749 K (ieq x5799 9223372036854775807) 0).bind fun y5849 =>
   Sum.elim (fun w5850 =>
    some (.inl ()))
    (fun w5851 =>
    bif w5851 then
     (F34_l0_0 K v5641 v5642 v5643 v5644 v5645 v5646 k (wadd .i64 v5749 1))
    else
    some (.inl ())) y5849
   else none)
  else
  some (.inr ())
def F34_l0_0_S (v5641 : Int) (v5642 : Int) (v5643 : List GEdge) (v5644 : Int) (v5645 : Int) (v5646 : List Int) (v5749 : Int) : TS := .on [64, 65, 128, 129, 130, 320, 321, 322, 323, 384, 385] [(64, ⟨.one, 0, nob⟩), (65, ⟨.im, 0, (.lit (.int .i64 v5641))⟩), (128, ⟨(.box 62 2), 0, nob⟩), (129, ⟨.im, 0, (.lit (.int .i64 v5642))⟩), (130, ⟨.im, 0, (.sl (len v5643) (flat eGEdge v5643))⟩), (320, ⟨(.box 68 3), 0, nob⟩), (321, ⟨.im, 0, (.lit (.int .i64 v5644))⟩), (322, ⟨.im, 0, (.lit (.int .i64 v5645))⟩), (323, ⟨(.own 2), 0, (.sl (len v5646) (flat (eInt .i64) v5646))⟩), (384, ⟨.one, 0, nob⟩), (385, ⟨.im, 0, (.lit (.int .i64 v5749))⟩)]
def F34_l0_0_X0 (v5641 : Int) (v5642 : Int) (v5643 : List GEdge) (v5644 : Int) (v5645 : Int) (v5646 : List Int) (w5854 : Unit) : TS := .on [256, 257] [(256, ⟨.one, 0, nob⟩), (257, ⟨.im, 0, (.lit (.bool false))⟩)]
def F34_l0_0_X1 (v5641 : Int) (v5642 : Int) (v5643 : List GEdge) (v5644 : Int) (v5645 : Int) (v5646 : List Int) (w5855 : Unit) : TS := .on [] []
theorem F34_l0_0_ok (K : Nat) (v5641 : Int) (v5642 : Int) (v5643 : List GEdge) (v5644 : Int) (v5645 : Int) (v5646 : List Int) : ∀ (k : Nat) (v5749 : Int) (r : (Unit) ⊕ (Unit)), F34_l0_0 K v5641 v5642 v5643 v5644 v5645 v5646 k v5749 = some r → (Sum.elim (fun w => LoopEv E H hn34 0 c34_0 (F34_l0_0_S v5641 v5642 v5643 v5644 v5645 v5646 v5749) .ret (F34_l0_0_X0 v5641 v5642 v5643 v5644 v5645 v5646 w)) (fun w => LoopEv E H hn34 0 c34_0 (F34_l0_0_S v5641 v5642 v5643 v5644 v5645 v5646 v5749) (.exit 0) (F34_l0_0_X1 v5641 v5642 v5643 v5644 v5645 v5646 w))) r := by
 intro k
 induction k with
 | zero => intro v5749 r hF; cases hF
 | succ k ih =>
  intro v5749 r hF
  rw [F34_l0_0] at hF
  refine cond_some hF (fun h5750 hF => ?_) (fun h5750 hF => ?_)
  ·
   refine cond_some hF (fun h5751 hF => ?_) (fun h5751 hF => ?_)
   ·
    have pq5856 : ∀ {l : List Cond}, HoldAll E H hn34 l → HoldAll E H hn34 (.test (ilt v5749 v5642) true :: .test (beqb (ieq v5749 v5641) false) false :: .test (beqb (ieq v5749 v5641) false) false :: .test (beqb (ieq v5749 v5641) false) false :: .test (beqb (ieq v5749 v5641) false) false :: .test (beqb (ieq v5749 v5641) false) false :: .test (beqb (ieq v5749 v5641) false) false :: .test (ieq v5749 v5641) true :: l) := fun z => ⟨h5750, (beqb_ft h5751), (beqb_ft h5751), (beqb_ft h5751), (beqb_ft h5751), (beqb_ft h5751), (beqb_ft h5751), h5751, z⟩
    refine bind_some hF (fun y5795 h5794 hF => ?_)
    refine sum_some hF (fun w5796 hx hF => ?_) (fun w5797 hx hF => ?_)
    ·
     subst hx
     obtain rfl := Option.some.inj hF
     have pz : HoldAll E H hn34 [.loop 2 c34_1 (F34_l1_1_S v5641 v5642 v5643 v5644 v5645 v5646 v5749 0) .ret (F34_l1_1_X0 v5641 v5642 v5643 v5644 v5645 v5646 v5749 w5796)] := ⟨(F34_l1_1_ok K v5641 v5642 v5643 v5644 v5645 v5646 v5749 K 0 _ h5794), trivial⟩
     exact loop_endC (h := hn34) (l := 0) (c := c34_0) (ts := F34_l0_0_S v5641 v5642 v5643 v5644 v5645 v5646 v5749) (ts' := F34_l0_0_X0 v5641 v5642 v5643 v5644 v5645 v5646 ()) (ex := .ret) (pq5856 pz) (by kernel_rfl) trivial
    subst hx
    have pz : HoldAll E H hn34 [.loop 2 c34_1 (F34_l1_1_S v5641 v5642 v5643 v5644 v5645 v5646 v5749 0) (.exit 2) (F34_l1_1_X1 v5641 v5642 v5643 v5644 v5645 v5646 v5749 w5797), .test (bnot true) false, .int (wadd .i64 v5749 1) (wadd .i64 v5749 1)] := ⟨(F34_l1_1_ok K v5641 v5642 v5643 v5644 v5645 v5646 v5749 K 0 _ h5794), (bnot_t rfl), rfl, trivial⟩
    have h0 := ih _ _ hF
    have hn := fun ex ts' => loop_nextC (h := hn34) (l := 0) (c := c34_0) (ts := F34_l0_0_S v5641 v5642 v5643 v5644 v5645 v5646 v5749) (ts1 := (F34_l0_0_S v5641 v5642 v5643 v5644 v5645 v5646 (wadd .i64 v5749 1))) (ex := ex) (ts' := ts') (pq5856 pz) (by kernel_rfl)
    cases r with
    | inl w => exact hn _ _ h0
    | inr w => exact hn _ _ h0
   refine cond_some hF (fun h5798 hF => ?_) (fun _ hF => nomatch hF)
   refine bind_some hF (fun x5799 h5800 hF => ?_)
   have pq5857 : ∀ {l : List Cond}, HoldAll E H hn34 l → HoldAll E H hn34 (.test (ilt v5749 v5642) true :: .test (beqb (ieq v5749 v5641) false) true :: .test (beqb (ieq v5749 v5641) false) true :: .test (beqb (ieq v5749 v5641) false) true :: .test (beqb (ieq v5749 v5641) false) true :: .test (inr v5749 (len v5646)) true :: .test (beqb (ieq v5749 v5641) false) true :: .sub (flat (eInt .i64) v5646) (nidx v5749 1) 1 [(.lit (.int .i64 x5799))] :: .test (beqb (ieq v5749 v5641) false) true :: .test (ieq v5749 v5641) false :: l) := fun z => ⟨h5750, (beqb_ff h5751), (beqb_ff h5751), (beqb_ff h5751), (beqb_ff h5751), h5798, (beqb_ff h5751), ⟨rfl, sub_flat0 (eInt_len _) h5800 1 (by decide)⟩, (beqb_ff h5751), h5751, z⟩
   refine bind_some hF (fun y5849 h5848 hF => ?_)
   refine sum_some hF (fun w5850 hx hF => ?_) (fun w5851 hx hF => ?_)
   ·
    subst hx
    obtain rfl := Option.some.inj hF
    have pz : HoldAll E H hn34 [.loop 2 c34_1 (F34_l1_2_S v5641 v5642 v5643 v5644 v5645 v5646 v5749 (ieq x5799 9223372036854775807) 0) .ret (F34_l1_2_X0 v5641 v5642 v5643 v5644 v5645 v5646 v5749 w5850)] := ⟨(F34_l1_2_ok K v5641 v5642 v5643 v5644 v5645 v5646 v5749 K (ieq x5799 9223372036854775807) 0 _ h5848), trivial⟩
    exact loop_endC (h := hn34) (l := 0) (c := c34_0) (ts := F34_l0_0_S v5641 v5642 v5643 v5644 v5645 v5646 v5749) (ts' := F34_l0_0_X0 v5641 v5642 v5643 v5644 v5645 v5646 ()) (ex := .ret) (pq5857 pz) (by kernel_rfl) trivial
   subst hx
   refine cond_some hF (fun h5853 hF => ?_) (fun h5853 hF => ?_)
   ·
    have pz : HoldAll E H hn34 [.loop 2 c34_1 (F34_l1_2_S v5641 v5642 v5643 v5644 v5645 v5646 v5749 (ieq x5799 9223372036854775807) 0) (.exit 2) (F34_l1_2_X1 v5641 v5642 v5643 v5644 v5645 v5646 v5749 w5851), .test (bnot w5851) false, .int (wadd .i64 v5749 1) (wadd .i64 v5749 1)] := ⟨(F34_l1_2_ok K v5641 v5642 v5643 v5644 v5645 v5646 v5749 K (ieq x5799 9223372036854775807) 0 _ h5848), (bnot_t h5853), rfl, trivial⟩
    have h0 := ih _ _ hF
    have hn := fun ex ts' => loop_nextC (h := hn34) (l := 0) (c := c34_0) (ts := F34_l0_0_S v5641 v5642 v5643 v5644 v5645 v5646 v5749) (ts1 := (F34_l0_0_S v5641 v5642 v5643 v5644 v5645 v5646 (wadd .i64 v5749 1))) (ex := ex) (ts' := ts') (pq5857 pz) (by kernel_rfl)
    cases r with
    | inl w => exact hn _ _ h0
    | inr w => exact hn _ _ h0
   obtain rfl := Option.some.inj hF
   have pz : HoldAll E H hn34 [.loop 2 c34_1 (F34_l1_2_S v5641 v5642 v5643 v5644 v5645 v5646 v5749 (ieq x5799 9223372036854775807) 0) (.exit 2) (F34_l1_2_X1 v5641 v5642 v5643 v5644 v5645 v5646 v5749 w5851), .test (bnot w5851) true] := ⟨(F34_l1_2_ok K v5641 v5642 v5643 v5644 v5645 v5646 v5749 K (ieq x5799 9223372036854775807) 0 _ h5848), (bnot_f h5853), trivial⟩
   exact loop_endC (h := hn34) (l := 0) (c := c34_0) (ts := F34_l0_0_S v5641 v5642 v5643 v5644 v5645 v5646 v5749) (ts' := F34_l0_0_X0 v5641 v5642 v5643 v5644 v5645 v5646 ()) (ex := .ret) (pq5857 pz) (by kernel_rfl) trivial
  obtain rfl := Option.some.inj hF
  have pz : HoldAll E H hn34 [.test (ilt v5749 v5642) false] := ⟨h5750, trivial⟩
  exact loop_endC (h := hn34) (l := 0) (c := c34_0) (ts := F34_l0_0_S v5641 v5642 v5643 v5644 v5645 v5646 v5749) (ts' := F34_l0_0_X1 v5641 v5642 v5643 v5644 v5645 v5646 ()) (ex := (.exit 0)) pz (by kernel_rfl) trivial
def F34 (K : Nat) (a5626 : GGraph) (a5627 : Int) : Option (Bool) :=
 (F101 K a5626).bind fun r5628 =>
 bif r5628 then
  (some true)
 else
 (F110 K a5626 (GJob.mk 1 a5627 40 1)).bind fun r5631 =>
 bif (ieq r5631.Kind 1) then
  (bif (ieq (nlen (len r5631.Vals)) a5626.N) then
   (bif (ilt a5627 0) then
    (some false)
   else
   bif (ile a5626.N a5627) then
    (some false)
   else
   bif (inr a5627 (len r5631.Vals)) then
   (elAt r5631.Vals a5627).bind fun x5638 =>
   bif (ieq x5638 0) then
    ((F34_l0_0 K a5627 a5626.N a5626.Edges r5631.Kind r5631.Step r5631.Vals K 0).bind fun y5859 =>
    Sum.elim (fun w5860 =>
     some false)
     (fun w5861 =>
     some true) y5859)
   else
   some false
   else none)
  else
  some false)
 else
 bif (ieq r5631.Kind 4) then
  (some true)
 else
 bif (ieq r5631.Kind 2) then
  (some true)
 else
 bif (ieq r5631.Kind 3) then
  (some true)
 else
 some false
theorem F34_ok (K : Nat) (a5626 : GGraph) (a5627 : Int) (r : Bool) (hF : F34 K a5626 a5627 = some r) : Evt E H 34 [.agg (eGGraph a5626), .one (.lit (.int .i64 a5627))] (F34_res r) := by
 rw [F34] at hF
 refine bind_some hF (fun r5628 h5629 hF => ?_)
 refine cond_some hF (fun h5630 hF => ?_) (fun h5630 hF => ?_)
 ·
  obtain rfl := Option.some.inj hF
  have pz : HoldAll E H hn34 [.call 101 [.agg (eGGraph a5626)] (F101_res r5628), .test (leadsAny (Res.mk [(.one (.im (.lit (.bool r5628))))] [])) false, .test r5628 true, .call 103 [] (Res.mk [(.one (.im (.lit (.bool true))))] []), .test (leadsAny (Res.mk [(.one (.im (.lit (.bool true))))] [])) false] := ⟨(F101_ok K a5626 _ h5629), (leads_ok (by simp [leadsAny, RV.leads, RC.leads, leadsT, hasSl_lit])), h5630, knows103, (leads_ok (by simp [leadsAny, RV.leads, RC.leads, leadsT, hasSl_lit])), trivial⟩
  exact fn_playC hn34 (r := F34_res true) pz (by kernel_rfl) (by kernel_rfl)
 refine bind_some hF (fun r5631 h5632 hF => ?_)
 have pq5865 : ∀ {l : List Cond}, HoldAll E H hn34 l → HoldAll E H hn34 (.call 101 [.agg (eGGraph a5626)] (F101_res r5628) :: .test (leadsAny (Res.mk [(.one (.im (.lit (.bool r5628))))] [])) false :: .test r5628 false :: .call 110 [.agg (eGGraph a5626), .agg (eGJob (GJob.mk 1 a5627 40 1))] (F110_res r5631) :: .test (leadsAny (Res.mk [(.agg [(.im (.lit (.int .i64 r5631.Kind))), (.im (.lit (.int .i64 r5631.Step))), (.own 2 (.sl (len r5631.Vals) (flat (eInt .i64) r5631.Vals)))])] [])) false :: l) := fun z => ⟨(F101_ok K a5626 _ h5629), (leads_ok (by simp [leadsAny, RV.leads, RC.leads, leadsT, hasSl_lit, flat_ns (eInt_ns _), flat_ns eGJob_ns])), h5630, (F110_ok K a5626 (GJob.mk 1 a5627 40 1) _ h5632), (leads_ok (by simp [leadsAny, RV.leads, RC.leads, leadsT, hasSl_lit, flat_ns (eInt_ns _), flat_ns eGJob_ns])), z⟩
 refine cond_some hF (fun h5633 hF => ?_) (fun h5633 hF => ?_)
 ·
  refine cond_some hF (fun h5634 hF => ?_) (fun h5634 hF => ?_)
  ·
   have pq5866 : ∀ {l : List Cond}, HoldAll E H hn34 l → HoldAll E H hn34 (.test (ine r5631.Kind 1) false :: .int (nlen (len r5631.Vals)) (nlen (len r5631.Vals)) :: .test (beqb (ine (nlen (len r5631.Vals)) a5626.N) false) true :: .test (beqb (ine (nlen (len r5631.Vals)) a5626.N) false) true :: .test (ine (nlen (len r5631.Vals)) a5626.N) false :: l) := fun z => ⟨(ine_t h5633), rfl, (beqb_ff (ine_t h5634)), (beqb_ff (ine_t h5634)), (ine_t h5634), z⟩
   refine cond_some hF (fun h5635 hF => ?_) (fun h5635 hF => ?_)
   ·
    obtain rfl := Option.some.inj hF
    have pz : HoldAll E H hn34 [.test (beqb (ilt a5627 0) false) false, .test (beqb (ilt a5627 0) false) false, .test (beqb (ilt a5627 0) false) false, .test (beqb (ilt a5627 0) false) false, .test (ilt a5627 0) true, .test (beqb true false) false, .test (beqb true false) false, .test (beqb true false) false, .test (beqb true false) false, .test (beqb true false) false, .test (beqb true false) false, .test true true, .test true true] := ⟨(beqb_ft h5635), (beqb_ft h5635), (beqb_ft h5635), (beqb_ft h5635), h5635, (beqb_ft rfl), (beqb_ft rfl), (beqb_ft rfl), (beqb_ft rfl), (beqb_ft rfl), (beqb_ft rfl), rfl, rfl, trivial⟩
    exact fn_playC hn34 (r := F34_res false) (pq5865 (pq5866 pz)) (by kernel_rfl) (by kernel_rfl)
   have pq5867 : ∀ {l : List Cond}, HoldAll E H hn34 l → HoldAll E H hn34 (.test (beqb (ilt a5627 0) false) true :: .test (beqb (ilt a5627 0) false) true :: .test (beqb (ilt a5627 0) false) true :: .test (beqb (ilt a5627 0) false) true :: .test (ilt a5627 0) false :: l) := fun z => ⟨(beqb_ff h5635), (beqb_ff h5635), (beqb_ff h5635), (beqb_ff h5635), h5635, z⟩
   refine cond_some hF (fun h5636 hF => ?_) (fun h5636 hF => ?_)
   ·
    obtain rfl := Option.some.inj hF
    have pz : HoldAll E H hn34 [.test (beqb (ige a5627 a5626.N) false) false, .test (beqb (ige a5627 a5626.N) false) false, .test (beqb (ige a5627 a5626.N) false) false, .test (beqb (ige a5627 a5626.N) false) false, .test (beqb (ige a5627 a5626.N) false) false, .test (beqb (ige a5627 a5626.N) false) false, .test (ige a5627 a5626.N) true, .test true true] := ⟨(beqb_ft (ige_eq h5636)), (beqb_ft (ige_eq h5636)), (beqb_ft (ige_eq h5636)), (beqb_ft (ige_eq h5636)), (beqb_ft (ige_eq h5636)), (beqb_ft (ige_eq h5636)), (ige_eq h5636), rfl, trivial⟩
    exact fn_playC hn34 (r := F34_res false) (pq5865 (pq5866 (pq5867 pz))) (by kernel_rfl) (by kernel_rfl)
   refine cond_some hF (fun h5637 hF => ?_) (fun _ hF => nomatch hF)
   refine bind_some hF (fun x5638 h5639 hF => ?_)
   have pq5868 : ∀ {l : List Cond}, HoldAll E H hn34 l → HoldAll E H hn34 (.test (beqb (ige a5627 a5626.N) false) true :: .test (beqb (ige a5627 a5626.N) false) true :: .test (beqb (ige a5627 a5626.N) false) true :: .test (beqb (ige a5627 a5626.N) false) true :: .test (inr a5627 (len r5631.Vals)) true :: .test (beqb (ige a5627 a5626.N) false) true :: .sub (flat (eInt .i64) r5631.Vals) (nidx a5627 1) 1 [(.lit (.int .i64 x5638))] :: .test (beqb (ige a5627 a5626.N) false) true :: .test (ige a5627 a5626.N) false :: l) := fun z => ⟨(beqb_ff (ige_eq h5636)), (beqb_ff (ige_eq h5636)), (beqb_ff (ige_eq h5636)), (beqb_ff (ige_eq h5636)), h5637, (beqb_ff (ige_eq h5636)), ⟨rfl, sub_flat0 (eInt_len _) h5639 1 (by decide)⟩, (beqb_ff (ige_eq h5636)), (ige_eq h5636), z⟩
   refine cond_some hF (fun h5640 hF => ?_) (fun h5640 hF => ?_)
   ·
    refine bind_some hF (fun y5859 h5858 hF => ?_)
    refine sum_some hF (fun w5860 hx hF => ?_) (fun w5861 hx hF => ?_)
    ·
     subst hx
     obtain rfl := Option.some.inj hF
     have pz : HoldAll E H hn34 [.test (ine x5638 0) false, .loop 0 c34_0 (F34_l0_0_S a5627 a5626.N a5626.Edges r5631.Kind r5631.Step r5631.Vals 0) .ret (F34_l0_0_X0 a5627 a5626.N a5626.Edges r5631.Kind r5631.Step r5631.Vals w5860)] := ⟨(ine_t h5640), (F34_l0_0_ok K a5627 a5626.N a5626.Edges r5631.Kind r5631.Step r5631.Vals K 0 _ h5858), trivial⟩
     exact fn_playC hn34 (r := F34_res false) (pq5865 (pq5866 (pq5867 (pq5868 pz)))) (by kernel_rfl) (by kernel_rfl)
    subst hx
    obtain rfl := Option.some.inj hF
    have pz : HoldAll E H hn34 [.test (ine x5638 0) false, .loop 0 c34_0 (F34_l0_0_S a5627 a5626.N a5626.Edges r5631.Kind r5631.Step r5631.Vals 0) (.exit 0) (F34_l0_0_X1 a5627 a5626.N a5626.Edges r5631.Kind r5631.Step r5631.Vals w5861), .call 103 [] (Res.mk [(.one (.im (.lit (.bool true))))] []), .test (leadsAny (Res.mk [(.one (.im (.lit (.bool true))))] [])) false] := ⟨(ine_t h5640), (F34_l0_0_ok K a5627 a5626.N a5626.Edges r5631.Kind r5631.Step r5631.Vals K 0 _ h5858), knows103, (leads_ok (by simp [leadsAny, RV.leads, RC.leads, leadsT, hasSl_lit])), trivial⟩
    exact fn_playC hn34 (r := F34_res true) (pq5865 (pq5866 (pq5867 (pq5868 pz)))) (by kernel_rfl) (by kernel_rfl)
   obtain rfl := Option.some.inj hF
   have pz : HoldAll E H hn34 [.test (ine x5638 0) true] := ⟨(ine_f h5640), trivial⟩
   exact fn_playC hn34 (r := F34_res false) (pq5865 (pq5866 (pq5867 (pq5868 pz)))) (by kernel_rfl) (by kernel_rfl)
  obtain rfl := Option.some.inj hF
  have pz : HoldAll E H hn34 [.test (ine r5631.Kind 1) false, .int (nlen (len r5631.Vals)) (nlen (len r5631.Vals)), .test (beqb (ine (nlen (len r5631.Vals)) a5626.N) false) false, .test (beqb (ine (nlen (len r5631.Vals)) a5626.N) false) false, .test (ine (nlen (len r5631.Vals)) a5626.N) true, .test (beqb true false) false, .test (beqb true false) false, .test (beqb true false) false, .test (beqb true false) false, .test true true, .test (beqb true false) false, .test (beqb true false) false, .test (beqb true false) false, .test (beqb true false) false, .test (beqb true false) false, .test (beqb true false) false, .test true true, .test true true] := ⟨(ine_t h5633), rfl, (beqb_ft (ine_f h5634)), (beqb_ft (ine_f h5634)), (ine_f h5634), (beqb_ft rfl), (beqb_ft rfl), (beqb_ft rfl), (beqb_ft rfl), rfl, (beqb_ft rfl), (beqb_ft rfl), (beqb_ft rfl), (beqb_ft rfl), (beqb_ft rfl), (beqb_ft rfl), rfl, rfl, trivial⟩
  exact fn_playC hn34 (r := F34_res false) (pq5865 pz) (by kernel_rfl) (by kernel_rfl)
 refine cond_some hF (fun h5862 hF => ?_) (fun h5862 hF => ?_)
 ·
  obtain rfl := Option.some.inj hF
  have pz : HoldAll E H hn34 [.test (ine r5631.Kind 1) true, .test (beqb (ieq r5631.Kind 4) false) false, .test (beqb (ieq r5631.Kind 4) false) false, .test (beqb (ieq r5631.Kind 4) false) false, .test (ieq r5631.Kind 4) true, .test (beqb true false) false, .test (beqb true false) false, .test (beqb true false) false, .test true true, .test (beqb true true) true, .call 103 [] (Res.mk [(.one (.im (.lit (.bool true))))] []), .test (leadsAny (Res.mk [(.one (.im (.lit (.bool true))))] [])) false, .test true true] := ⟨(ine_f h5633), (beqb_ft h5862), (beqb_ft h5862), (beqb_ft h5862), h5862, (beqb_ft rfl), (beqb_ft rfl), (beqb_ft rfl), rfl, (beqb_t rfl), knows103, (leads_ok (by simp [leadsAny, RV.leads, RC.leads, leadsT, hasSl_lit])), rfl, trivial⟩
  exact fn_playC hn34 (r := F34_res true) (pq5865 pz) (by kernel_rfl) (by kernel_rfl)
 have pq5869 : ∀ {l : List Cond}, HoldAll E H hn34 l → HoldAll E H hn34 (.test (ine r5631.Kind 1) true :: .test (beqb (ieq r5631.Kind 4) false) true :: .test (beqb (ieq r5631.Kind 4) false) true :: .test (beqb (ieq r5631.Kind 4) false) true :: .test (ieq r5631.Kind 4) false :: l) := fun z => ⟨(ine_f h5633), (beqb_ff h5862), (beqb_ff h5862), (beqb_ff h5862), h5862, z⟩
 refine cond_some hF (fun h5863 hF => ?_) (fun h5863 hF => ?_)
 ·
  obtain rfl := Option.some.inj hF
  have pz : HoldAll E H hn34 [.test (beqb (ieq r5631.Kind 2) false) false, .test (beqb (ieq r5631.Kind 2) false) false, .test (beqb (ieq r5631.Kind 2) false) false, .test (ieq r5631.Kind 2) true, .test (beqb true true) true, .call 103 [] (Res.mk [(.one (.im (.lit (.bool true))))] []), .test (leadsAny (Res.mk [(.one (.im (.lit (.bool true))))] [])) false, .test true true] := ⟨(beqb_ft h5863), (beqb_ft h5863), (beqb_ft h5863), h5863, (beqb_t rfl), knows103, (leads_ok (by simp [leadsAny, RV.leads, RC.leads, leadsT, hasSl_lit])), rfl, trivial⟩
  exact fn_playC hn34 (r := F34_res true) (pq5865 (pq5869 pz)) (by kernel_rfl) (by kernel_rfl)
 have pq5870 : ∀ {l : List Cond}, HoldAll E H hn34 l → HoldAll E H hn34 (.test (beqb (ieq r5631.Kind 2) false) true :: .test (beqb (ieq r5631.Kind 2) false) true :: .test (beqb (ieq r5631.Kind 2) false) true :: .test (ieq r5631.Kind 2) false :: l) := fun z => ⟨(beqb_ff h5863), (beqb_ff h5863), (beqb_ff h5863), h5863, z⟩
 refine cond_some hF (fun h5864 hF => ?_) (fun h5864 hF => ?_)
 ·
  obtain rfl := Option.some.inj hF
  have pz : HoldAll E H hn34 [.test (beqb (ieq r5631.Kind 3) true) true, .call 103 [] (Res.mk [(.one (.im (.lit (.bool true))))] []), .test (leadsAny (Res.mk [(.one (.im (.lit (.bool true))))] [])) false, .test (ieq r5631.Kind 3) true] := ⟨(beqb_t h5864), knows103, (leads_ok (by simp [leadsAny, RV.leads, RC.leads, leadsT, hasSl_lit])), h5864, trivial⟩
  exact fn_playC hn34 (r := F34_res true) (pq5865 (pq5869 (pq5870 pz))) (by kernel_rfl) (by kernel_rfl)
 obtain rfl := Option.some.inj hF
 have pz : HoldAll E H hn34 [.test (beqb (ieq r5631.Kind 3) true) false, .test (ieq r5631.Kind 3) false] := ⟨(beqb_t h5864), h5864, trivial⟩
 exact fn_playC hn34 (r := F34_res false) (pq5865 (pq5869 (pq5870 pz))) (by kernel_rfl) (by kernel_rfl)
structure valsD (g : GGraph) (vals : List Int) (D : Int → Int) : Prop where
 at_ : ∀ u, 0 ≤ u → u < g.N → inr u (len vals) = true ∧ elAt vals u = some (D u)
 nn : ∀ u, 0 ≤ D u
 ed : ∀ e ∈ g.Edges, 0 ≤ e.From ∧ e.From < g.N ∧ 0 ≤ e.To ∧ e.To < g.N ∧ 0 ≤ e.W ∧ e.W ≤ 4611686018427387904
 aa : ∀ e ∈ g.Edges, D e.From ≠ far → D e.From + e.W ≤ far ∧ D e.To ≤ D e.From + e.W
theorem way_words {g : GGraph} {vals : List Int} {D : Int → Int} (h : valsD g vals D) {e : GEdge} (he : e ∈ g.Edges) (hf : D e.From ≠ far) :
   ilt (wsub .i64 9223372036854775807 e.W) (D e.From) = false ∧ wadd .i64 (D e.From) e.W = D e.From + e.W ∧ ilt (D e.From + e.W) (D e.To) = false := by
 obtain ⟨a, b⟩ := h.aa e he hf
 obtain ⟨_, _, _, _, w0, w1⟩ := h.ed e he
 have := h.nn e.From
 unfold far at a
 have hs : wsub .i64 9223372036854775807 e.W = 9223372036854775807 - e.W := by
   show IntKind.i64.wrap _ = _
   rw [IntKind.wrap_i64]; omega
 exact ⟨by rw [hs]; exact ilt_f.2 (by omega), wadd_i64 (by unfold i64; omega), ilt_f.2 (by omega)⟩
def st34_1 (vals : List Int) (v : Int) (x : GEdge) (_ : Unit) (c : Unit → Option (Unit ⊕ Unit)) : Option (Unit ⊕ Unit) :=
   bif (ieq x.To v) then
     (bif (inr x.From (len vals)) then
     (elAt vals x.From).bind fun d =>
     bif (ieq d 9223372036854775807) then c ()
     else bif (ilt (wsub .i64 9223372036854775807 x.W) d) then some (.inl ())
     else bif (inr v (len vals)) then
     (elAt vals v).bind fun y =>
     bif (ilt (wadd .i64 d x.W) y) then some (.inl ())
     else c ()
     else none
     else none)
   else c ()
theorem loop34_1 {K : Nat} {g : GGraph} {vals : List Int} {D : Int → Int} (h : valsD g vals D) (src n k st : Int) {v : Int} (hl : g.Edges.length ≤ 80) (hK : 1000 ≤ K) : F34_l1_1 K src n g.Edges k st vals v K 0 = some (.inr ()) := by
 have e := scanL (l := g.Edges) (L := fun q (_ : Unit) i => F34_l1_1 K src n g.Edges k st vals v q i) (st34_1 vals v) (fun _ => some (.inr ())) (fun q s i _ => rfl) (by omega) (K := K) (by omega) ()
 have hw : ∀ (l : List GEdge), (∀ x ∈ l, x ∈ g.Edges) → goL (st34_1 vals v) (fun _ => some (.inr ())) l () = some (.inr ()) := by
   intro l
   induction l with
   | nil => intro _; rfl
   | cons x l ih =>
     intro hm
     have hx := hm x List.mem_cons_self
     have nx := ih (fun y hy => hm y (List.mem_cons_of_mem _ hy))
     obtain ⟨f1, f2, f3, f4, _⟩ := h.ed x hx
     obtain ⟨a1, a2⟩ := h.at_ x.From f1 f2
     obtain ⟨a3, a4⟩ := h.at_ x.To f3 f4
     rw [goL]
     rw [st34_1]
     cases hq : ieq x.To v
     · exact nx
     · have hv := ieq_iff.1 hq
       subst hv
       rw [a1, a2, a3, a4]
       simp only [cond_true, Option.bind_some]
       cases hf : ieq (D x.From) 9223372036854775807
       · obtain ⟨w1, w2, w3⟩ := way_words h hx (ieq_f.1 hf)
         rw [w1, w2, w3]; exact nx
       · exact nx
 exact e.trans (hw _ (fun x hx => hx))
def st34_2 (vals : List Int) (v : Int) (x : GEdge) (b : Bool) (c : Bool → Option (Unit ⊕ Bool)) : Option (Unit ⊕ Bool) :=
   bif (ieq x.To v) then
     (bif (inr x.From (len vals)) then
     (elAt vals x.From).bind fun d =>
     bif (ieq d 9223372036854775807) then c b
     else bif (ilt (wsub .i64 9223372036854775807 x.W) d) then some (.inl ())
     else bif (inr v (len vals)) then
     (elAt vals v).bind fun y =>
     bif (ilt (wadd .i64 d x.W) y) then some (.inl ())
     else bif b then c true else c (ieq y (wadd .i64 d x.W))
     else none
     else none)
   else c b
def hitD (D : Int → Int) (v : Int) (e : GEdge) : Bool := ieq e.To v && (!(ieq (D e.From) 9223372036854775807) && ieq (D v) (D e.From + e.W))
theorem loop34_2 {K : Nat} {g : GGraph} {vals : List Int} {D : Int → Int} (h : valsD g vals D) (src n k st : Int) {v : Int} (b : Bool) (hl : g.Edges.length ≤ 80) (hK : 1000 ≤ K) : F34_l1_2 K src n g.Edges k st vals v K b 0 = some (.inr (b || g.Edges.any (hitD D v))) := by
 have e := scanL (l := g.Edges) (L := fun q b i => F34_l1_2 K src n g.Edges k st vals v q b i) (st34_2 vals v) (fun b => some (.inr b)) (fun q s i _ => rfl) (by omega) (K := K) (by omega) b
 have hw : ∀ (l : List GEdge) (b : Bool), (∀ x ∈ l, x ∈ g.Edges) → goL (st34_2 vals v) (fun b => some (.inr b)) l b = some (.inr (b || l.any (hitD D v))) := by
   intro l
   induction l with
   | nil => intro b _; rw [List.any_nil, Bool.or_false]; rfl
   | cons x l ih =>
     intro b hm
     have hx := hm x List.mem_cons_self
     have nx := fun b => ih b (fun y hy => hm y (List.mem_cons_of_mem _ hy))
     obtain ⟨f1, f2, f3, f4, _⟩ := h.ed x hx
     obtain ⟨a1, a2⟩ := h.at_ x.From f1 f2
     obtain ⟨a3, a4⟩ := h.at_ x.To f3 f4
     rw [goL, List.any_cons, hitD]
     rw [st34_2]
     cases hq : ieq x.To v
     · simp only [cond_false, Bool.false_and, Bool.false_or]; exact nx b
     · have hv := ieq_iff.1 hq
       subst hv
       rw [a1, a2, a3, a4]
       simp only [cond_true, Option.bind_some, Bool.true_and]
       cases hf : ieq (D x.From) 9223372036854775807
       · obtain ⟨w1, w2, w3⟩ := way_words h hx (ieq_f.1 hf)
         rw [w1, w2, w3]
         simp only [cond_false, Bool.not_false, Bool.true_and]
         cases b
         · simp only [cond_false, nx, Bool.false_or]
         · simp only [cond_true, nx, Bool.true_or]
       · simp only [cond_true, Bool.not_true, Bool.false_and, Bool.false_or]; exact nx b
 exact e.trans (hw _ b (fun x hx => hx))
def st34_0 (K : Nat) (g : GGraph) (vals : List Int) (src k st : Int) (i : Nat) (_ : Unit) (c : Unit → Option (Unit ⊕ Unit)) : Option (Unit ⊕ Unit) :=
   bif (ieq (i : Int) src) then
     ((F34_l1_1 K src g.N g.Edges k st vals (i : Int) K 0).bind fun y =>
     Sum.elim (fun w => some (.inl ())) (fun w => c ()) y)
   else
   bif (inr (i : Int) (len vals)) then
   (elAt vals (i : Int)).bind fun x =>
   (F34_l1_2 K src g.N g.Edges k st vals (i : Int) K (ieq x 9223372036854775807) 0).bind fun y =>
   Sum.elim (fun w => some (.inl ())) (fun w => bif w then c () else some (.inl ())) y
   else none
theorem loop34 {K : Nat} {g : GGraph} {vals : List Int} {D : Int → Int} (h : valsD g vals D) (src k st : Int) (hl : g.Edges.length ≤ 80) (hn : 0 ≤ g.N) (hn2 : g.N ≤ 24) (hK : 1000 ≤ K)
   (hee : ∀ v, 0 ≤ v → v < g.N → v ≠ src → D v ≠ far → ∃ e ∈ g.Edges, e.To = v ∧ D e.From ≠ far ∧ D e.From + e.W ≤ D v) : F34_l0_0 K src g.N g.Edges k st vals K 0 = some (.inr ()) := by
 have e := scanN (N := g.N) (L := fun q (_ : Unit) i => F34_l0_0 K src g.N g.Edges k st vals q i) (st34_0 K g vals src k st) (fun _ => some (.inr ())) (fun q s i _ => rfl) (by omega) (K := K) (by omega) ()
 have hw : ∀ (l : List Nat), (∀ v ∈ l, (v : Int) < g.N) → goL (st34_0 K g vals src k st) (fun _ => some (.inr ())) l () = some (.inr ()) := by
   intro l
   induction l with
   | nil => intro _; rfl
   | cons v l ih =>
     intro hm
     have hv := hm v List.mem_cons_self
     have nx := ih (fun y hy => hm y (List.mem_cons_of_mem _ hy))
     obtain ⟨a1, a2⟩ := h.at_ (v : Int) (by omega) hv
     rw [goL]
     rw [st34_0]
     cases hq : ieq (v : Int) src
     · rw [a1, a2]
       simp only [cond_true, cond_false, Option.bind_some, loop34_2 h src g.N k st _ hl hK, Sum.elim_inr]
       have hb : (ieq (D (v : Int)) 9223372036854775807 || g.Edges.any (hitD D (v : Int))) = true := by
         cases hf : ieq (D (v : Int)) 9223372036854775807
         · obtain ⟨x, hx, b1, b2, b3⟩ := hee (v : Int) (by omega) hv (ieq_f.1 hq) (ieq_f.1 hf)
           have b4 := (h.aa x hx b2).2
           rw [b1] at b4
           rw [Bool.false_or, List.any_eq_true]
           refine ⟨x, hx, ?_⟩
           rw [hitD, ieq_iff.2 b1, (ieq_f.2 b2 : ieq (D x.From) 9223372036854775807 = false), ieq_iff.2 (by omega : D (v : Int) = D x.From + x.W)]; rfl
         · rfl
       rw [hb]; exact nx
     · simp only [cond_true, loop34_1 h src g.N k st hl hK, Option.bind_some, Sum.elim_inr]; exact nx
 exact e.trans (hw _ (fun v hv => by have := List.mem_range.1 hv; omega))
theorem law34 (g : GGraph) (src : Int) (_ : WGGraph g) (_ : (Lit.int .i64 src).wf = true) : F34 1000 g src = some true := by
 generalize hq : 1000 = K
 have hK : 1000 ≤ K := by omega
 have ej : GJob.mk 1 src 40 1 = wayJ src := rfl
 rw [F34, F101, ej, F110_spec hK, Option.bind_some]
 cases igt (nlen (len g.Edges)) 200
 · rw [cond_false, Option.bind_some]
   cases hc : ieq (jcheck g (wayJ src)) 0
   · have e : runS g (wayJ src) = ([], GAnswer.mk 4 0 []) := by rw [runS, hc]; rfl
     rw [e]; rfl
   · obtain ⟨hg, _, _, p3, p4, _⟩ := jcheck_ok hc
     have p3' : 0 ≤ src := p3
     have p4' : src < g.N := p4
     obtain ⟨g1, g2, g3, g4⟩ := gcheck_ok hg
     obtain ⟨b1, b2⟩ := begin_good (j := wayJ src) hg
     have e : runS g (wayJ src) = runL g (wayJ src) 50 (beginS g (wayJ src)) := by rw [runS, hc]; rfl
     rcases way_run 50 (beginS g (wayJ src)) b1 (way_begin hc) (by simp [beginS]) (by omega) (by omega) with h | h | ⟨h, t, tg, tw, tr, ⟨tl1, tl2⟩, tv⟩
     · rw [e]
       generalize runL g (wayJ src) 50 (beginS g (wayJ src)) = r at *
       rw [h]; rfl
     · rw [e]
       generalize runL g (wayJ src) 50 (beginS g (wayJ src)) = r at *
       rw [h]; rfl
     · have hti : t.In = [] := by
         simp only [restsS, Bool.and_eq_true] at tr
         have := ieq_iff.1 tr.2
         cases hx : t.In with
         | nil => rfl
         | cons m l => rw [hx] at this; simp [nlen, len] at this; omega
       have hst : t.Step ≠ 0 := fun q => by
         simp only [restsS, Bool.and_eq_true] at tr
         have h0 := tw.rr q 0
         cases hx : t.Rest with
         | nil => rw [hx] at tl2; simp at tl2; omega
         | cons b l =>
           rw [hx] at h0 tr
           have h1 : b = false := h0
           rw [h1] at tr
           cases tr.1
       have hv : valsD g t.Vals (dist t) := by
         refine ⟨fun u h1 h2 => ?_, tw.nn, fun e hE => badE_ok (gchk_mem g4 e hE), fun e hE hf => ?_⟩
         · have eu : u = ((u.toNat : Nat) : Int) := by omega
           have := elAt_get (l := t.Vals) (i := u.toNat) (by omega) 0
           rw [← eu] at this
           exact this
         · rcases tw.aa e hE hf with ⟨q, _⟩ | ⟨q1, q2⟩
           · exact absurd q hst
           · refine ⟨q1, ?_⟩
             rcases q2 with q2 | ⟨m, hm, _⟩
             · exact q2
             · rw [hti] at hm; cases hm
       have lp := loop34 (K := K) hv src (runS g (wayJ src)).2.Kind (runS g (wayJ src)).2.Step g3 (by omega) g2 hK tw.ee
       have hk : (runS g (wayJ src)).2.Kind = 1 := by rw [e]; exact h
       have hvv : (runS g (wayJ src)).2.Vals = t.Vals := by rw [e]; exact tv
       obtain ⟨i1, i2⟩ := hv.at_ src p3' p4'
       have z1 : ieq (runS g (wayJ src)).2.Kind 1 = true := ieq_iff.2 hk
       have zl : ieq (nlen (len t.Vals)) g.N = true := ieq_iff.2 (by show (t.Vals.length : Int) = g.N; omega)
       have z0 : ieq (dist t src) 0 = true := ieq_iff.2 tw.zz
       rw [hvv, z1, zl, ilt_f.2 p3', ile_f.2 p4', i1, i2, cond_true, cond_true, cond_false, cond_false, cond_true, Option.bind_some, z0, cond_true, lp]; rfl
 · rfl
end Go.Proofs.Ytnjanliihnadjaa.Tm

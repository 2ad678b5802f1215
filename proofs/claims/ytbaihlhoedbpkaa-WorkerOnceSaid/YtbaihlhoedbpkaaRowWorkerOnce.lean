/- The row of WorkerOnce. Conditions: none. -/
import Derived.Test.YtbaihlhoedbpkaaRows
import Derived.Test.YtbaihlhoedbpkaaKb
import Derived.Test.YtbaihlhoedbpkaaEnv
import Derived.Test.YtbaihlhoedbpkaaRs
import Derived.Test.YtbaihlhoedbpkaaHead
import Derived.Test.YtbaihlhoedbpkaaBWorkerOnce2
import Derived.WalkKit
import Derived.ProofKit
import Derived.OpenShut
import Derived.ShutString
import Derived.ChangeOld
import Derived.Below
import Derived.SizedLaws
namespace Go.Proofs.Ytbaihlhoedbpkaa.WorkerOnce
open Go.ChangeShapes Go.WideShapes Go.ChangeAt Go.RowKit
set_option linter.unusedVariables false
theorem own : ownKnob Try.prog.godebug = none := by kernel_rfl
theorem laidOut : laidOutB Try.prog = true := by kernel_rfl
set_option maxRecDepth 100000 in
theorem lifted (os : Os) (started : os.Started) (H : Type) (enc : TypeId × Value → H) :
    ReturnsInHanded {} Try.checked os 4 .any (Rows.workerOnceSpec.pre6 enc Try.prog Try.f4 Rows.workerOnceRow.domain false) (Rows.workerOnceSpec.post enc Try.prog Try.f4 false true false false) := by
  refine returnsInHanded_of_change_sized (C := Try.checked) own started (by kernel_rfl) Try.func4
    (ChangeSpec.witness6 (enc := enc) (C := Try.checked) false ⟨#[], #[.agg #[.int .i64 0, .slice none 0 0], .agg #[.int .i64 0, .int .i64 0, .int .i64 0, .int .i64 0], .int .i64 0, .slice none 0 0], []⟩ 8 (by kernel_rfl) (by kernel_rfl) (by kernel_rfl) (by kernel_rfl)) ?_
  intro W base args ds gs before hval0 hW hcnd hsz0 _
  have hsz : (DataW.weightsEach Try.prog (Try.f4.params.toList ++ Rows.workerOnceSpec.plain.varTypes Try.prog) (ds ++ gs)).all (· ≤ reachBytes) = true := hsz0
  have hval : ∀ (j : Nat) t v, Try.f4.params[j]? = some t → args[j]? = some v → Value.okWide Try.prog W .any base t v := hval0
  have hW' := hW
  obtain ⟨p, q, hA0, hV, rfl, hfz, hnd⟩ := hW
  have hA : DataW.TrodAll enc Try.prog W 0 (fun _ => true) true Try.f4.params.toList args.toList ds p := hA0
  rw [Try.params4] at hA hval hsz
  obtain ⟨v0, vs0, d0, ds0, p0, q0, hargs, rfl, rfl, h0, r0⟩ := trodAll_cons hA
  obtain ⟨v1, vs1, d1, ds1, p1, q1, rfl, rfl, rfl, h1, r1⟩ := trodAll_cons r0
  obtain ⟨v2, vs2, d2, ds2, p2, q2, rfl, rfl, rfl, h2, r2⟩ := trodAll_cons r1
  obtain ⟨v3, vs3, d3, ds3, p3, q3, rfl, rfl, rfl, h3, r3⟩ := trodAll_cons r2
  obtain ⟨rfl, rfl, rfl⟩ := trodAll_nil r3
  obtain rfl : args = #[v0, v1, v2, v3] := by cases args; simp_all
  obtain ⟨rfl, rfl⟩ := trodVars_none hV
  have z0 := Tm.weight_at hsz (j := 0) (t := 24) (d := d0) rfl rfl
  obtain ⟨a0, w0, g0⟩ := Tm.arg_agg Try.underlying24 (hval 0 24 v0 rfl rfl) h0 z0 Tm.rd24
  have z1 := Tm.weight_at hsz (j := 1) (t := 26) (d := d1) rfl rfl
  obtain ⟨a1, w1, g1⟩ := Tm.arg_agg Try.underlying26 (hval 1 26 v1 rfl rfl) h1 z1 Tm.rd26
  have z2 := Tm.weight_at hsz (j := 2) (t := 3) (d := d2) rfl rfl
  obtain ⟨a2, w2, g2⟩ := Tm.arg_one (fun _ => rfl) (Tm.one_int Try.underlying3 (hval 2 3 v2 rfl rfl)) h2 z2 Tm.rd3
  have z3 := Tm.weight_at hsz (j := 3) (t := 27) (d := d3) rfl rfl
  obtain ⟨a3, w3, g3⟩ := Tm.arg_one (fun _ => rfl) (Tm.one_slice Try.underlying27 (hval 3 27 v3 rfl rfl)) h3 z3 Tm.rd27
  have hlt : ∀ x ∈ p0 ++ p1 ++ p2 ++ p3, x.block < W.heap.size := fun x hx => by simpa using hW'.lt x (by simpa using hx)
  clear hA0 hval0 hsz0 hsz
  refine (Tm.law_calls Tm.envOk (b := true) (Tm.F4_ok _ a0 a1 a2 a3 true (Tm.law4 a0 a1 a2 a3 w0 w1 w2 w3)) (w := W) (vs := [v0, v1, v2, v3]) ⟨g0, g1, g2, g3, trivial⟩).mono fun e W' ⟨he, bel⟩ => ?_
  subst he
  exact ⟨_, rfl, _, _, _, [], _, [], hW', trodAll_mk1 (shut_bool Try.underlying4 _), (trodAll_cons_mk (Below.trod laidOut (by kernel_rfl) (of_decide_eq_true (by kernel_rfl)) h0 bel (fun x hx => hlt x (by simp [hx]))) (trodAll_cons_mk (Below.trod laidOut (by kernel_rfl) (of_decide_eq_true (by kernel_rfl)) h1 bel (fun x hx => hlt x (by simp [hx]))) (trodAll_cons_mk (Below.trod laidOut (by kernel_rfl) (of_decide_eq_true (by kernel_rfl)) h2 bel (fun x hx => hlt x (by simp [hx]))) (trodAll_cons_mk (Below.trod laidOut (by kernel_rfl) (of_decide_eq_true (by kernel_rfl)) h3 bel (fun x hx => hlt x (by simp [hx]))) trodAll_mk0)))), rfl, bel.frame _, fun h => by cases h⟩
theorem facts : joinedFacts Try.prog 4 Try.f4 Rows.workerOnceSpec Rows.workerOnceRow = true := by
  have hm := mayEnter_ok
  have hl := lifts_ok
  have hk := make_ok
  generalize hP : Try.prog = P at *
  unfold joinedFacts
  rw [hm, hl, hk]
  clear hm hl hk
  subst hP
  refine Eq.trans (b := true) ?_ rfl
  kernel_rfl
theorem over : Rows.workerOnceRow.holds Try.pinned (OpenSpec.ofChange Rows.workerOnceSpec) :=
  OpenClaim.holds_of_wide 4 Try.f4 rfl rfl rfl rfl rfl rfl rfl ⟨rfl, rfl, rfl, rfl, rfl⟩ rfl rfl rfl rfl rfl (by kernel_rfl) Try.func4 facts
    (of_decide_eq_true (by kernel_rfl)) (by unfold Func.isWrapper; first | (rw [if_pos (by decide +kernel)]; kernel_rfl) | (rw [if_neg (by decide +kernel)]; exact ⟨rfl, rfl⟩))
    (fun os started H enc _ => lifted os started H enc)
end Go.Proofs.Ytbaihlhoedbpkaa.WorkerOnce
namespace Go.Proofs.Ytbaihlhoedbpkaa
/-- The row, under a short name, for the claim. -/
theorem workerOnce_holds : Rows.WorkerOnceSaid := WorkerOnce.over
end Go.Proofs.Ytbaihlhoedbpkaa

/- The readings of the rows' arguments: by program. Conditions: none. -/
import Derived.Test.YtbaihlhoedbpkaaKb
import Derived.Test.YtbaihlhoedbpkaaWf
import Derived.Test.YtbaihlhoedbpkaaEnv
import Derived.KernelRfl
set_option linter.unusedVariables false
namespace Go.Proofs.Ytbaihlhoedbpkaa.Tm
open Go
section
variable {w : World}
theorem cells3 : Try.prog.cellsOf 3 = 1 := by kernel_rfl
theorem bytes3 : Try.prog.bytesOf 3 = 8 := by kernel_rfl
theorem rd3 : Rd Try.prog w 3 (eInt .i64) (fun n : Int => (Lit.int .i64 n).wf = true) := rd_int Try.underlying3
theorem cells2 : Try.prog.cellsOf 2 = 1 := by kernel_rfl
theorem bytes2 : Try.prog.bytesOf 2 = 8 := by kernel_rfl
theorem rd2 : Rd Try.prog w 2 (eInt .i64) (fun n : Int => (Lit.int .i64 n).wf = true) := rd_int Try.underlying2
theorem cells132 : Try.prog.cellsOf 132 = 3 := by kernel_rfl
theorem bytes132 : Try.prog.bytesOf 132 = 24 := by kernel_rfl
theorem rd132 : Rd Try.prog w 132 eGEdge WGEdge := rd_map (fun x : Int × Int × Int × Unit => GEdge.mk x.1 x.2.1 x.2.2.1) (fun x => rfl) (fun x h => h) (rd_struct (fts := [(3, 0, 1), (3, 1, 1), (2, 2, 1)]) Try.underlying132 (by kernel_rfl) rfl cells132 (rdFs_cons rd3 (rdFs_cons rd3 (rdFs_cons rd2 rdFs_nil))))
theorem cells22 : Try.prog.cellsOf 22 = 1 := by kernel_rfl
theorem bytes22 : Try.prog.bytesOf 22 = 24 := by kernel_rfl
theorem rd22 : Rd Try.prog w 22 (eSl eGEdge) (fun l : List GEdge => l.length * 24 ≤ reachBytes ∧ ∀ y ∈ l, WGEdge y) := rd_slice Try.underlying22 cells132 bytes132 (fun _ => rfl) (by decide) rd132
theorem cells24 : Try.prog.cellsOf 24 = 2 := by kernel_rfl
theorem bytes24 : Try.prog.bytesOf 24 = 32 := by kernel_rfl
theorem rd24 : Rd Try.prog w 24 eGGraph WGGraph := rd_map (fun x : Int × (List GEdge) × Unit => GGraph.mk x.1 x.2.1) (fun x => rfl) (fun x h => h) (rd_struct (fts := [(3, 0, 1), (22, 1, 1)]) Try.underlying24 (by kernel_rfl) rfl cells24 (rdFs_cons rd3 (rdFs_cons rd22 rdFs_nil)))
theorem cells26 : Try.prog.cellsOf 26 = 4 := by kernel_rfl
theorem bytes26 : Try.prog.bytesOf 26 = 32 := by kernel_rfl
theorem rd26 : Rd Try.prog w 26 eGJob WGJob := rd_map (fun x : Int × Int × Int × Int × Unit => GJob.mk x.1 x.2.1 x.2.2.1 x.2.2.2.1) (fun x => rfl) (fun x h => h) (rd_struct (fts := [(3, 0, 1), (3, 1, 1), (3, 2, 1), (3, 3, 1)]) Try.underlying26 (by kernel_rfl) rfl cells26 (rdFs_cons rd3 (rdFs_cons rd3 (rdFs_cons rd3 (rdFs_cons rd3 rdFs_nil)))))
theorem cells30 : Try.prog.cellsOf 30 = 1 := by kernel_rfl
theorem bytes30 : Try.prog.bytesOf 30 = 24 := by kernel_rfl
theorem rd30 : Rd Try.prog w 30 (eSl (eInt .i64)) (fun l : List Int => l.length * 8 ≤ reachBytes ∧ ∀ y ∈ l, (fun n : Int => (Lit.int .i64 n).wf = true) y) := rd_slice Try.underlying30 cells3 bytes3 (fun _ => rfl) (by decide) rd3
theorem cells41 : Try.prog.cellsOf 41 = 1 := by kernel_rfl
theorem bytes41 : Try.prog.bytesOf 41 = 24 := by kernel_rfl
theorem rd41 : Rd Try.prog w 41 (eSl (eInt .i64)) (fun l : List Int => l.length * 8 ≤ reachBytes ∧ ∀ y ∈ l, (fun n : Int => (Lit.int .i64 n).wf = true) y) := rd_slice Try.underlying41 cells2 bytes2 (fun _ => rfl) (by decide) rd2
theorem cells4 : Try.prog.cellsOf 4 = 1 := by kernel_rfl
theorem bytes4 : Try.prog.bytesOf 4 = 1 := by kernel_rfl
theorem rd4 : Rd Try.prog w 4 eBool (fun _ : Bool => True) := rd_bool Try.underlying4
theorem cells42 : Try.prog.cellsOf 42 = 1 := by kernel_rfl
theorem bytes42 : Try.prog.bytesOf 42 = 24 := by kernel_rfl
theorem rd42 : Rd Try.prog w 42 (eSl eBool) (fun l : List Bool => l.length * 1 ≤ reachBytes ∧ ∀ y ∈ l, (fun _ : Bool => True) y) := rd_slice Try.underlying42 cells4 bytes4 (fun _ => rfl) (by decide) rd4
theorem cells78 : Try.prog.cellsOf 78 = 2 := by kernel_rfl
theorem bytes78 : Try.prog.bytesOf 78 = 16 := by kernel_rfl
theorem rd78 : Rd Try.prog w 78 eGMsg WGMsg := rd_map (fun x : Int × Int × Unit => GMsg.mk x.1 x.2.1) (fun x => rfl) (fun x h => h) (rd_struct (fts := [(3, 0, 1), (2, 1, 1)]) Try.underlying78 (by kernel_rfl) rfl cells78 (rdFs_cons rd3 (rdFs_cons rd2 rdFs_nil)))
theorem cells43 : Try.prog.cellsOf 43 = 1 := by kernel_rfl
theorem bytes43 : Try.prog.bytesOf 43 = 24 := by kernel_rfl
theorem rd43 : Rd Try.prog w 43 (eSl eGMsg) (fun l : List GMsg => l.length * 16 ≤ reachBytes ∧ ∀ y ∈ l, WGMsg y) := rd_slice Try.underlying43 cells78 bytes78 (fun _ => rfl) (by decide) rd78
theorem cells45 : Try.prog.cellsOf 45 = 5 := by kernel_rfl
theorem bytes45 : Try.prog.bytesOf 45 = 88 := by kernel_rfl
theorem rd45 : Rd Try.prog w 45 eGPart WGPart := rd_map (fun x : Int × Int × (List Int) × (List Bool) × (List GMsg) × Unit => GPart.mk x.1 x.2.1 x.2.2.1 x.2.2.2.1 x.2.2.2.2.1) (fun x => rfl) (fun x h => h) (rd_struct (fts := [(3, 0, 1), (3, 1, 1), (41, 2, 1), (42, 3, 1), (43, 4, 1)]) Try.underlying45 (by kernel_rfl) rfl cells45 (rdFs_cons rd3 (rdFs_cons rd3 (rdFs_cons rd41 (rdFs_cons rd42 (rdFs_cons rd43 rdFs_nil))))))
theorem cells47 : Try.prog.cellsOf 47 = 17 := by kernel_rfl
theorem bytes47 : Try.prog.bytesOf 47 = 248 := by kernel_rfl
theorem rd47 : Rd Try.prog w 47 eGMail WGMail := rd_map (fun x : Int × Int × Int × Int × Int × Int × Int × Int × (List Int) × (List Int) × (List Int) × GPart × (List GMsg) × Unit => GMail.mk x.1 x.2.1 x.2.2.1 x.2.2.2.1 x.2.2.2.2.1 x.2.2.2.2.2.1 x.2.2.2.2.2.2.1 x.2.2.2.2.2.2.2.1 x.2.2.2.2.2.2.2.2.1 x.2.2.2.2.2.2.2.2.2.1 x.2.2.2.2.2.2.2.2.2.2.1 x.2.2.2.2.2.2.2.2.2.2.2.1 x.2.2.2.2.2.2.2.2.2.2.2.2.1) (fun x => rfl) (fun x h => h) (rd_struct (fts := [(3, 0, 1), (3, 1, 1), (3, 2, 1), (3, 3, 1), (3, 4, 1), (3, 5, 1), (3, 6, 1), (3, 7, 1), (30, 8, 1), (30, 9, 1), (30, 10, 1), (45, 11, 5), (43, 16, 1)]) Try.underlying47 (by kernel_rfl) rfl cells47 (rdFs_cons rd3 (rdFs_cons rd3 (rdFs_cons rd3 (rdFs_cons rd3 (rdFs_cons rd3 (rdFs_cons rd3 (rdFs_cons rd3 (rdFs_cons rd3 (rdFs_cons rd30 (rdFs_cons rd30 (rdFs_cons rd30 (rdFs_cons rd45 (rdFs_cons rd43 rdFs_nil))))))))))))))
theorem cells49 : Try.prog.cellsOf 49 = 19 := by kernel_rfl
theorem bytes49 : Try.prog.bytesOf 49 = 264 := by kernel_rfl
theorem rd49 : Rd Try.prog w 49 eGAct WGAct := rd_map (fun x : Int × Int × GMail × Unit => GAct.mk x.1 x.2.1 x.2.2.1) (fun x => rfl) (fun x h => h) (rd_struct (fts := [(3, 0, 1), (3, 1, 1), (47, 2, 17)]) Try.underlying49 (by kernel_rfl) rfl cells49 (rdFs_cons rd3 (rdFs_cons rd3 (rdFs_cons rd47 rdFs_nil))))
theorem cells27 : Try.prog.cellsOf 27 = 1 := by kernel_rfl
theorem bytes27 : Try.prog.bytesOf 27 = 24 := by kernel_rfl
theorem rd27 : Rd Try.prog w 27 (eSl eGAct) (fun l : List GAct => l.length * 264 ≤ reachBytes ∧ ∀ y ∈ l, WGAct y) := rd_slice Try.underlying27 cells49 bytes49 (fun _ => rfl) (by decide) rd49
theorem cells74 : Try.prog.cellsOf 74 = 4 := by kernel_rfl
theorem bytes74 : Try.prog.bytesOf 74 = 80 := by kernel_rfl
theorem rd74 : Rd Try.prog w 74 eGState WGState := rd_map (fun x : Int × (List Int) × (List Bool) × (List GMsg) × Unit => GState.mk x.1 x.2.1 x.2.2.1 x.2.2.2.1) (fun x => rfl) (fun x h => h) (rd_struct (fts := [(3, 0, 1), (41, 1, 1), (42, 2, 1), (43, 3, 1)]) Try.underlying74 (by kernel_rfl) rfl cells74 (rdFs_cons rd3 (rdFs_cons rd41 (rdFs_cons rd42 (rdFs_cons rd43 rdFs_nil)))))
end
end Go.Proofs.Ytbaihlhoedbpkaa.Tm

/- The readings of the rows' arguments: by program. Conditions: none. -/
import Derived.Test.YtnjanliihnadjaaKb
import Derived.Test.YtnjanliihnadjaaWf
import Derived.Test.YtnjanliihnadjaaEnv
import Derived.KernelRfl
set_option linter.unusedVariables false
namespace Go.Proofs.Ytnjanliihnadjaa.Tm
open Go
section
variable {w : World}
theorem cells2 : Try.prog.cellsOf 2 = 1 := by kernel_rfl
theorem bytes2 : Try.prog.bytesOf 2 = 8 := by kernel_rfl
theorem rd2 : Rd Try.prog w 2 (eInt .i64) (fun n : Int => (Lit.int .i64 n).wf = true) := rd_int Try.underlying2
theorem cells3 : Try.prog.cellsOf 3 = 1 := by kernel_rfl
theorem bytes3 : Try.prog.bytesOf 3 = 8 := by kernel_rfl
theorem rd3 : Rd Try.prog w 3 (eInt .i64) (fun n : Int => (Lit.int .i64 n).wf = true) := rd_int Try.underlying3
theorem cells9 : Try.prog.cellsOf 9 = 1 := by kernel_rfl
theorem bytes9 : Try.prog.bytesOf 9 = 16 := by kernel_rfl
theorem rd9 : Rd Try.prog w 9 eStr (fun s : ByteArray => s.size ≤ reachBytes) := rd_string Try.underlying9
theorem cells38 : Try.prog.cellsOf 38 = 1 := by kernel_rfl
theorem bytes38 : Try.prog.bytesOf 38 = 24 := by kernel_rfl
theorem rd38 : Rd Try.prog w 38 (eSl (eInt .i64)) (fun l : List Int => l.length * 8 ≤ reachBytes ∧ ∀ y ∈ l, (fun n : Int => (Lit.int .i64 n).wf = true) y) := rd_slice Try.underlying38 cells2 bytes2 (fun _ => rfl) (by decide) rd2
theorem cells4 : Try.prog.cellsOf 4 = 1 := by kernel_rfl
theorem bytes4 : Try.prog.bytesOf 4 = 1 := by kernel_rfl
theorem rd4 : Rd Try.prog w 4 eBool (fun _ : Bool => True) := rd_bool Try.underlying4
theorem cells39 : Try.prog.cellsOf 39 = 1 := by kernel_rfl
theorem bytes39 : Try.prog.bytesOf 39 = 24 := by kernel_rfl
theorem rd39 : Rd Try.prog w 39 (eSl eBool) (fun l : List Bool => l.length * 1 ≤ reachBytes ∧ ∀ y ∈ l, (fun _ : Bool => True) y) := rd_slice Try.underlying39 cells4 bytes4 (fun _ => rfl) (by decide) rd4
theorem cells130 : Try.prog.cellsOf 130 = 2 := by kernel_rfl
theorem bytes130 : Try.prog.bytesOf 130 = 16 := by kernel_rfl
theorem rd130 : Rd Try.prog w 130 eGMsg WGMsg := rd_map (fun x : Int × Int × Unit => GMsg.mk x.1 x.2.1) (fun x => rfl) (fun x h => h) (rd_struct (fts := [(3, 0, 1), (2, 1, 1)]) Try.underlying130 (by kernel_rfl) rfl cells130 (rdFs_cons rd3 (rdFs_cons rd2 rdFs_nil)))
theorem cells40 : Try.prog.cellsOf 40 = 1 := by kernel_rfl
theorem bytes40 : Try.prog.bytesOf 40 = 24 := by kernel_rfl
theorem rd40 : Rd Try.prog w 40 (eSl eGMsg) (fun l : List GMsg => l.length * 16 ≤ reachBytes ∧ ∀ y ∈ l, WGMsg y) := rd_slice Try.underlying40 cells130 bytes130 (fun _ => rfl) (by decide) rd130
theorem cells42 : Try.prog.cellsOf 42 = 5 := by kernel_rfl
theorem bytes42 : Try.prog.bytesOf 42 = 88 := by kernel_rfl
theorem rd42 : Rd Try.prog w 42 eGPart WGPart := rd_map (fun x : Int × Int × (List Int) × (List Bool) × (List GMsg) × Unit => GPart.mk x.1 x.2.1 x.2.2.1 x.2.2.2.1 x.2.2.2.2.1) (fun x => rfl) (fun x h => h) (rd_struct (fts := [(3, 0, 1), (3, 1, 1), (38, 2, 1), (39, 3, 1), (40, 4, 1)]) Try.underlying42 (by kernel_rfl) rfl cells42 (rdFs_cons rd3 (rdFs_cons rd3 (rdFs_cons rd38 (rdFs_cons rd39 (rdFs_cons rd40 rdFs_nil))))))
theorem cells22 : Try.prog.cellsOf 22 = 1 := by kernel_rfl
theorem bytes22 : Try.prog.bytesOf 22 = 24 := by kernel_rfl
theorem rd22 : Rd Try.prog w 22 (eSl eGPart) (fun l : List GPart => l.length * 88 ≤ reachBytes ∧ ∀ y ∈ l, WGPart y) := rd_slice Try.underlying22 cells42 bytes42 (fun _ => rfl) (by decide) rd42
theorem cells24 : Try.prog.cellsOf 24 = 5 := by kernel_rfl
theorem bytes24 : Try.prog.bytesOf 24 = 56 := by kernel_rfl
theorem rd24 : Rd Try.prog w 24 eGBarrier WGBarrier := rd_map (fun x : Int × Int × Int × (List GPart) × Bool × Unit => GBarrier.mk x.1 x.2.1 x.2.2.1 x.2.2.2.1 x.2.2.2.2.1) (fun x => rfl) (fun x h => h) (rd_struct (fts := [(3, 0, 1), (3, 1, 1), (3, 2, 1), (22, 3, 1), (4, 4, 1)]) Try.underlying24 (by kernel_rfl) rfl cells24 (rdFs_cons rd3 (rdFs_cons rd3 (rdFs_cons rd3 (rdFs_cons rd22 (rdFs_cons rd4 rdFs_nil))))))
theorem cells44 : Try.prog.cellsOf 44 = 8 := by kernel_rfl
theorem bytes44 : Try.prog.bytesOf 44 = 112 := by kernel_rfl
theorem rd44 : Rd Try.prog w 44 eGAct WGAct := rd_map (fun x : Int × Int × Int × GPart × Unit => GAct.mk x.1 x.2.1 x.2.2.1 x.2.2.2.1) (fun x => rfl) (fun x h => h) (rd_struct (fts := [(3, 0, 1), (3, 1, 1), (3, 2, 1), (42, 3, 5)]) Try.underlying44 (by kernel_rfl) rfl cells44 (rdFs_cons rd3 (rdFs_cons rd3 (rdFs_cons rd3 (rdFs_cons rd42 rdFs_nil)))))
theorem cells35 : Try.prog.cellsOf 35 = 1 := by kernel_rfl
theorem bytes35 : Try.prog.bytesOf 35 = 24 := by kernel_rfl
theorem rd35 : Rd Try.prog w 35 (eSl eGAct) (fun l : List GAct => l.length * 112 ≤ reachBytes ∧ ∀ y ∈ l, WGAct y) := rd_slice Try.underlying35 cells44 bytes44 (fun _ => rfl) (by decide) rd44
theorem cells55 : Try.prog.cellsOf 55 = 1 := by kernel_rfl
theorem bytes55 : Try.prog.bytesOf 55 = 24 := by kernel_rfl
theorem rd55 : Rd Try.prog w 55 (eSl (eInt .i64)) (fun l : List Int => l.length * 8 ≤ reachBytes ∧ ∀ y ∈ l, (fun n : Int => (Lit.int .i64 n).wf = true) y) := rd_slice Try.underlying55 cells3 bytes3 (fun _ => rfl) (by decide) rd3
theorem cells89 : Try.prog.cellsOf 89 = 3 := by kernel_rfl
theorem bytes89 : Try.prog.bytesOf 89 = 24 := by kernel_rfl
theorem rd89 : Rd Try.prog w 89 eGEdge WGEdge := rd_map (fun x : Int × Int × Int × Unit => GEdge.mk x.1 x.2.1 x.2.2.1) (fun x => rfl) (fun x h => h) (rd_struct (fts := [(3, 0, 1), (3, 1, 1), (2, 2, 1)]) Try.underlying89 (by kernel_rfl) rfl cells89 (rdFs_cons rd3 (rdFs_cons rd3 (rdFs_cons rd2 rdFs_nil))))
theorem cells60 : Try.prog.cellsOf 60 = 1 := by kernel_rfl
theorem bytes60 : Try.prog.bytesOf 60 = 24 := by kernel_rfl
theorem rd60 : Rd Try.prog w 60 (eSl eGEdge) (fun l : List GEdge => l.length * 24 ≤ reachBytes ∧ ∀ y ∈ l, WGEdge y) := rd_slice Try.underlying60 cells89 bytes89 (fun _ => rfl) (by decide) rd89
theorem cells62 : Try.prog.cellsOf 62 = 2 := by kernel_rfl
theorem bytes62 : Try.prog.bytesOf 62 = 32 := by kernel_rfl
theorem rd62 : Rd Try.prog w 62 eGGraph WGGraph := rd_map (fun x : Int × (List GEdge) × Unit => GGraph.mk x.1 x.2.1) (fun x => rfl) (fun x h => h) (rd_struct (fts := [(3, 0, 1), (60, 1, 1)]) Try.underlying62 (by kernel_rfl) rfl cells62 (rdFs_cons rd3 (rdFs_cons rd60 rdFs_nil)))
theorem cells64 : Try.prog.cellsOf 64 = 4 := by kernel_rfl
theorem bytes64 : Try.prog.bytesOf 64 = 32 := by kernel_rfl
theorem rd64 : Rd Try.prog w 64 eGJob WGJob := rd_map (fun x : Int × Int × Int × Int × Unit => GJob.mk x.1 x.2.1 x.2.2.1 x.2.2.2.1) (fun x => rfl) (fun x h => h) (rd_struct (fts := [(3, 0, 1), (3, 1, 1), (3, 2, 1), (3, 3, 1)]) Try.underlying64 (by kernel_rfl) rfl cells64 (rdFs_cons rd3 (rdFs_cons rd3 (rdFs_cons rd3 (rdFs_cons rd3 rdFs_nil)))))
theorem cells74 : Try.prog.cellsOf 74 = 4 := by kernel_rfl
theorem bytes74 : Try.prog.bytesOf 74 = 80 := by kernel_rfl
theorem rd74 : Rd Try.prog w 74 eGState WGState := rd_map (fun x : Int × (List Int) × (List Bool) × (List GMsg) × Unit => GState.mk x.1 x.2.1 x.2.2.1 x.2.2.2.1) (fun x => rfl) (fun x h => h) (rd_struct (fts := [(3, 0, 1), (38, 1, 1), (39, 2, 1), (40, 3, 1)]) Try.underlying74 (by kernel_rfl) rfl cells74 (rdFs_cons rd3 (rdFs_cons rd38 (rdFs_cons rd39 (rdFs_cons rd40 rdFs_nil)))))
theorem cells107 : Try.prog.cellsOf 107 = 1 := by kernel_rfl
theorem bytes107 : Try.prog.bytesOf 107 = 24 := by kernel_rfl
theorem rd107 : Rd Try.prog w 107 (eSl (eSl eGMsg)) (fun l : List (List GMsg) => l.length * 24 ≤ reachBytes ∧ ∀ y ∈ l, (fun l : List GMsg => l.length * 16 ≤ reachBytes ∧ ∀ y ∈ l, WGMsg y) y) := rd_slice Try.underlying107 cells40 bytes40 (fun _ => rfl) (by decide) rd40
theorem cells122 : Try.prog.cellsOf 122 = 5 := by kernel_rfl
theorem bytes122 : Try.prog.bytesOf 122 = 40 := by kernel_rfl
theorem rd122 : Rd Try.prog w 122 eGAsked WGAsked := rd_map (fun x : Int × Int × Int × Int × Bool × Unit => GAsked.mk x.1 x.2.1 x.2.2.1 x.2.2.2.1 x.2.2.2.2.1) (fun x => rfl) (fun x h => h) (rd_struct (fts := [(3, 0, 1), (3, 1, 1), (2, 2, 1), (2, 3, 1), (4, 4, 1)]) Try.underlying122 (by kernel_rfl) rfl cells122 (rdFs_cons rd3 (rdFs_cons rd3 (rdFs_cons rd2 (rdFs_cons rd2 (rdFs_cons rd4 rdFs_nil))))))
end
end Go.Proofs.Ytnjanliihnadjaa.Tm

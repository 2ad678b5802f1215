/- The tables are the program's own: types, functions. Conditions: none. -/
import Derived.Test.YtnjanliihnadjaaTab
import Derived.Test.YtnjanliihnadjaaKb
import Derived.Test.YtnjanliihnadjaaChecked
import Derived.KernelRfl
namespace Go.Proofs.Ytnjanliihnadjaa.Tm
open Go
def zeroIn (o : Option TypeInfo) : Value := match o with
  | some i => i.zero.getD .nilFunc
  | none => .nilFunc
def placed (P : Program) : TypeDesc → Bool
  | .struct fs => (fs.toList.mapM (fun f => (P.info? f.type).map fun i => (f.offset, i.size))).isSome
  | _ => true
theorem tyOk_of {P : Program} {k : Nat} {y : Ty} (h1 : P.underlying k = some y.d) (h2 : (P.info? k).map (fun i => (i.size, i.bytes, i.zero)) = some (y.size, y.bytes, some (zeroIn (P.info? k)))) (h3 : (zeroIn (P.info? k)).cells.toList = y.zero)
    (h4 : Nat.beq y.zero.length y.size = true) (h5 : y.zero.all isOne = true) (h6 : placed P y.d = true) : TyOk P k y := by
  refine ⟨h1, ?_, (beq_iff _ _).1 h4, h5, ?_⟩
  · cases hi : P.info? k with
    | none => rw [hi] at h2; cases h2
    | some i =>
      rw [hi] at h2 h3
      simp only [Option.map_some, Option.some.injEq, Prod.mk.injEq] at h2
      exact ⟨i, _, rfl, h2.1, h2.2.1, h2.2.2, h3⟩
  · intro fs hf
    rw [hf] at h6
    exact h6
theorem lookT_mem {l : List (Nat × Ty)} {k : Nat} {y : Ty} (h : lookT l k = some y) : (k, y) ∈ l := by
  induction l with
  | nil => cases h
  | cons x r ih =>
    obtain ⟨j, z⟩ := x
    unfold lookT at h
    cases hb : Nat.beq j k with
    | true => rw [hb, cond_true] at h; cases h; have := (beq_iff _ _).1 hb; subst this; exact List.mem_cons_self
    | false => rw [hb, cond_false] at h; exact List.mem_cons_of_mem _ (ih h)
theorem lookF_mem {l : List (Nat × Func)} {k : Nat} {y : Func} (h : lookF l k = some y) : (k, y) ∈ l := by
  induction l with
  | nil => cases h
  | cons x r ih =>
    obtain ⟨j, z⟩ := x
    unfold lookF at h
    cases hb : Nat.beq j k with
    | true => rw [hb, cond_true] at h; cases h; have := (beq_iff _ _).1 hb; subst this; exact List.mem_cons_self
    | false => rw [hb, cond_false] at h; exact List.mem_cons_of_mem _ (ih h)
theorem named_of {f : Func} (h : decide (f.name = "runtime.NumGoroutine") = false) : f.name ≠ "runtime.NumGoroutine" := of_decide_eq_false h
theorem tyOk3 : TyOk Try.prog 3 ty3 := tyOk_of (by kernel_rfl) (by kernel_rfl) (by kernel_rfl) (by kernel_rfl) (by kernel_rfl) (by kernel_rfl)
theorem tyOk4 : TyOk Try.prog 4 ty4 := tyOk_of (by kernel_rfl) (by kernel_rfl) (by kernel_rfl) (by kernel_rfl) (by kernel_rfl) (by kernel_rfl)
theorem tyOk62 : TyOk Try.prog 62 ty62 := tyOk_of (by kernel_rfl) (by kernel_rfl) (by kernel_rfl) (by kernel_rfl) (by kernel_rfl) (by kernel_rfl)
theorem tyOk2 : TyOk Try.prog 2 ty2 := tyOk_of (by kernel_rfl) (by kernel_rfl) (by kernel_rfl) (by kernel_rfl) (by kernel_rfl) (by kernel_rfl)
theorem tyOk40 : TyOk Try.prog 40 ty40 := tyOk_of (by kernel_rfl) (by kernel_rfl) (by kernel_rfl) (by kernel_rfl) (by kernel_rfl) (by kernel_rfl)
theorem tyOk64 : TyOk Try.prog 64 ty64 := tyOk_of (by kernel_rfl) (by kernel_rfl) (by kernel_rfl) (by kernel_rfl) (by kernel_rfl) (by kernel_rfl)
theorem tyOk42 : TyOk Try.prog 42 ty42 := tyOk_of (by kernel_rfl) (by kernel_rfl) (by kernel_rfl) (by kernel_rfl) (by kernel_rfl) (by kernel_rfl)
theorem tyOk25 : TyOk Try.prog 25 ty25 := tyOk_of (by kernel_rfl) (by kernel_rfl) (by kernel_rfl) (by kernel_rfl) (by kernel_rfl) (by kernel_rfl)
theorem tyOk74 : TyOk Try.prog 74 ty74 := tyOk_of (by kernel_rfl) (by kernel_rfl) (by kernel_rfl) (by kernel_rfl) (by kernel_rfl) (by kernel_rfl)
theorem tyOk38 : TyOk Try.prog 38 ty38 := tyOk_of (by kernel_rfl) (by kernel_rfl) (by kernel_rfl) (by kernel_rfl) (by kernel_rfl) (by kernel_rfl)
theorem tyOk22 : TyOk Try.prog 22 ty22 := tyOk_of (by kernel_rfl) (by kernel_rfl) (by kernel_rfl) (by kernel_rfl) (by kernel_rfl) (by kernel_rfl)
theorem tyOk24 : TyOk Try.prog 24 ty24 := tyOk_of (by kernel_rfl) (by kernel_rfl) (by kernel_rfl) (by kernel_rfl) (by kernel_rfl) (by kernel_rfl)
theorem tyOk60 : TyOk Try.prog 60 ty60 := tyOk_of (by kernel_rfl) (by kernel_rfl) (by kernel_rfl) (by kernel_rfl) (by kernel_rfl) (by kernel_rfl)
theorem tyOk39 : TyOk Try.prog 39 ty39 := tyOk_of (by kernel_rfl) (by kernel_rfl) (by kernel_rfl) (by kernel_rfl) (by kernel_rfl) (by kernel_rfl)
theorem tyOk9 : TyOk Try.prog 9 ty9 := tyOk_of (by kernel_rfl) (by kernel_rfl) (by kernel_rfl) (by kernel_rfl) (by kernel_rfl) (by kernel_rfl)
theorem tyOk89 : TyOk Try.prog 89 ty89 := tyOk_of (by kernel_rfl) (by kernel_rfl) (by kernel_rfl) (by kernel_rfl) (by kernel_rfl) (by kernel_rfl)
theorem tyOk130 : TyOk Try.prog 130 ty130 := tyOk_of (by kernel_rfl) (by kernel_rfl) (by kernel_rfl) (by kernel_rfl) (by kernel_rfl) (by kernel_rfl)
theorem tyOk28 : TyOk Try.prog 28 ty28 := tyOk_of (by kernel_rfl) (by kernel_rfl) (by kernel_rfl) (by kernel_rfl) (by kernel_rfl) (by kernel_rfl)
theorem tyOk107 : TyOk Try.prog 107 ty107 := tyOk_of (by kernel_rfl) (by kernel_rfl) (by kernel_rfl) (by kernel_rfl) (by kernel_rfl) (by kernel_rfl)
theorem tyOk192 : TyOk Try.prog 192 ty192 := tyOk_of (by kernel_rfl) (by kernel_rfl) (by kernel_rfl) (by kernel_rfl) (by kernel_rfl) (by kernel_rfl)
theorem tyOk68 : TyOk Try.prog 68 ty68 := tyOk_of (by kernel_rfl) (by kernel_rfl) (by kernel_rfl) (by kernel_rfl) (by kernel_rfl) (by kernel_rfl)
theorem tyOk55 : TyOk Try.prog 55 ty55 := tyOk_of (by kernel_rfl) (by kernel_rfl) (by kernel_rfl) (by kernel_rfl) (by kernel_rfl) (by kernel_rfl)
theorem tyOk126 : TyOk Try.prog 126 ty126 := tyOk_of (by kernel_rfl) (by kernel_rfl) (by kernel_rfl) (by kernel_rfl) (by kernel_rfl) (by kernel_rfl)
theorem tyOk66 : TyOk Try.prog 66 ty66 := tyOk_of (by kernel_rfl) (by kernel_rfl) (by kernel_rfl) (by kernel_rfl) (by kernel_rfl) (by kernel_rfl)
theorem tyOk176 : TyOk Try.prog 176 ty176 := tyOk_of (by kernel_rfl) (by kernel_rfl) (by kernel_rfl) (by kernel_rfl) (by kernel_rfl) (by kernel_rfl)
theorem tyOk141 : TyOk Try.prog 141 ty141 := tyOk_of (by kernel_rfl) (by kernel_rfl) (by kernel_rfl) (by kernel_rfl) (by kernel_rfl) (by kernel_rfl)
theorem tyOk35 : TyOk Try.prog 35 ty35 := tyOk_of (by kernel_rfl) (by kernel_rfl) (by kernel_rfl) (by kernel_rfl) (by kernel_rfl) (by kernel_rfl)
theorem tyOk57 : TyOk Try.prog 57 ty57 := tyOk_of (by kernel_rfl) (by kernel_rfl) (by kernel_rfl) (by kernel_rfl) (by kernel_rfl) (by kernel_rfl)
theorem tyOk5 : TyOk Try.prog 5 ty5 := tyOk_of (by kernel_rfl) (by kernel_rfl) (by kernel_rfl) (by kernel_rfl) (by kernel_rfl) (by kernel_rfl)
theorem tyOk122 : TyOk Try.prog 122 ty122 := tyOk_of (by kernel_rfl) (by kernel_rfl) (by kernel_rfl) (by kernel_rfl) (by kernel_rfl) (by kernel_rfl)
theorem tyOk161 : TyOk Try.prog 161 ty161 := tyOk_of (by kernel_rfl) (by kernel_rfl) (by kernel_rfl) (by kernel_rfl) (by kernel_rfl) (by kernel_rfl)
theorem tyOk199 : TyOk Try.prog 199 ty199 := tyOk_of (by kernel_rfl) (by kernel_rfl) (by kernel_rfl) (by kernel_rfl) (by kernel_rfl) (by kernel_rfl)
theorem tyOk202 : TyOk Try.prog 202 ty202 := tyOk_of (by kernel_rfl) (by kernel_rfl) (by kernel_rfl) (by kernel_rfl) (by kernel_rfl) (by kernel_rfl)
theorem tyOk44 : TyOk Try.prog 44 ty44 := tyOk_of (by kernel_rfl) (by kernel_rfl) (by kernel_rfl) (by kernel_rfl) (by kernel_rfl) (by kernel_rfl)
theorem tyOk173 : TyOk Try.prog 173 ty173 := tyOk_of (by kernel_rfl) (by kernel_rfl) (by kernel_rfl) (by kernel_rfl) (by kernel_rfl) (by kernel_rfl)
theorem tyOk152 : TyOk Try.prog 152 ty152 := tyOk_of (by kernel_rfl) (by kernel_rfl) (by kernel_rfl) (by kernel_rfl) (by kernel_rfl) (by kernel_rfl)
theorem tyOk167 : TyOk Try.prog 167 ty167 := tyOk_of (by kernel_rfl) (by kernel_rfl) (by kernel_rfl) (by kernel_rfl) (by kernel_rfl) (by kernel_rfl)
theorem tyOk198 : TyOk Try.prog 198 ty198 := tyOk_of (by kernel_rfl) (by kernel_rfl) (by kernel_rfl) (by kernel_rfl) (by kernel_rfl) (by kernel_rfl)
theorem tyOk166 : TyOk Try.prog 166 ty166 := tyOk_of (by kernel_rfl) (by kernel_rfl) (by kernel_rfl) (by kernel_rfl) (by kernel_rfl) (by kernel_rfl)
theorem tyOk188 : TyOk Try.prog 188 ty188 := tyOk_of (by kernel_rfl) (by kernel_rfl) (by kernel_rfl) (by kernel_rfl) (by kernel_rfl) (by kernel_rfl)
theorem tyOk115 : TyOk Try.prog 115 ty115 := tyOk_of (by kernel_rfl) (by kernel_rfl) (by kernel_rfl) (by kernel_rfl) (by kernel_rfl) (by kernel_rfl)
theorem tyOk174 : TyOk Try.prog 174 ty174 := tyOk_of (by kernel_rfl) (by kernel_rfl) (by kernel_rfl) (by kernel_rfl) (by kernel_rfl) (by kernel_rfl)
def AllT (P : Program) : List (Nat × Ty) → Prop
  | [] => True
  | x :: r => TyOk P x.1 x.2 ∧ AllT P r
theorem allT_mem {P : Program} : ∀ {l : List (Nat × Ty)}, AllT P l → ∀ x ∈ l, TyOk P x.1 x.2
  | [], _, x, h => by cases h
  | y :: l, a, x, h => by
    rcases List.mem_cons.1 h with h | h
    · subst h; exact a.1
    · exact allT_mem a.2 x h
def AllF (P : Program) : List (Nat × Func) → Prop
  | [] => True
  | x :: r => (P.funcs[x.1]? = some x.2 ∧ x.2.name ≠ "runtime.NumGoroutine") ∧ AllF P r
theorem allF_mem {P : Program} : ∀ {l : List (Nat × Func)}, AllF P l → ∀ x ∈ l, P.funcs[x.1]? = some x.2 ∧ x.2.name ≠ "runtime.NumGoroutine"
  | [], _, x, h => by cases h
  | y :: l, a, x, h => by
    rcases List.mem_cons.1 h with h | h
    · subst h; exact a.1
    · exact allF_mem a.2 x h
theorem allT : AllT Try.prog tyTab := ⟨tyOk3, tyOk4, tyOk62, tyOk2, tyOk40, tyOk64, tyOk42, tyOk25, tyOk74, tyOk38, tyOk22, tyOk24, tyOk60, tyOk39, tyOk9, tyOk89, tyOk130, tyOk28, tyOk107, tyOk192, tyOk68, tyOk55, tyOk126, tyOk66, tyOk176, tyOk141, tyOk35, tyOk57, tyOk5, tyOk122, tyOk161, tyOk199, tyOk202, tyOk44, tyOk173, tyOk152, tyOk167, tyOk198, tyOk166, tyOk188, tyOk115, tyOk174, trivial⟩
theorem allF : AllF Try.prog fnTab := ⟨⟨Try.func3, named_of (by kernel_rfl)⟩, ⟨Try.func4, named_of (by kernel_rfl)⟩, ⟨Try.func5, named_of (by kernel_rfl)⟩, ⟨Try.func6, named_of (by kernel_rfl)⟩, ⟨Try.func7, named_of (by kernel_rfl)⟩, ⟨Try.func8, named_of (by kernel_rfl)⟩, ⟨Try.func9, named_of (by kernel_rfl)⟩, ⟨Try.func10, named_of (by kernel_rfl)⟩, ⟨Try.func11, named_of (by kernel_rfl)⟩, ⟨Try.func12, named_of (by kernel_rfl)⟩, ⟨Try.func13, named_of (by kernel_rfl)⟩, ⟨Try.func14, named_of (by kernel_rfl)⟩, ⟨Try.func15, named_of (by kernel_rfl)⟩, ⟨Try.func16, named_of (by kernel_rfl)⟩, ⟨Try.func17, named_of (by kernel_rfl)⟩, ⟨Try.func18, named_of (by kernel_rfl)⟩, ⟨Try.func19, named_of (by kernel_rfl)⟩, ⟨Try.func20, named_of (by kernel_rfl)⟩, ⟨Try.func21, named_of (by kernel_rfl)⟩, ⟨Try.func22, named_of (by kernel_rfl)⟩, ⟨Try.func23, named_of (by kernel_rfl)⟩, ⟨Try.func24, named_of (by kernel_rfl)⟩, ⟨Try.func25, named_of (by kernel_rfl)⟩, ⟨Try.func26, named_of (by kernel_rfl)⟩, ⟨Try.func27, named_of (by kernel_rfl)⟩, ⟨Try.func28, named_of (by kernel_rfl)⟩, ⟨Try.func29, named_of (by kernel_rfl)⟩, ⟨Try.func30, named_of (by kernel_rfl)⟩, ⟨Try.func31, named_of (by kernel_rfl)⟩, ⟨Try.func32, named_of (by kernel_rfl)⟩, ⟨Try.func33, named_of (by kernel_rfl)⟩, ⟨Try.func34, named_of (by kernel_rfl)⟩, ⟨Try.func35, named_of (by kernel_rfl)⟩, ⟨Try.func36, named_of (by kernel_rfl)⟩, ⟨Try.func37, named_of (by kernel_rfl)⟩, ⟨Try.func38, named_of (by kernel_rfl)⟩, ⟨Try.func39, named_of (by kernel_rfl)⟩, ⟨Try.func40, named_of (by kernel_rfl)⟩, ⟨Try.func41, named_of (by kernel_rfl)⟩, ⟨Try.func42, named_of (by kernel_rfl)⟩, ⟨Try.func43, named_of (by kernel_rfl)⟩, ⟨Try.func44, named_of (by kernel_rfl)⟩, ⟨Try.func45, named_of (by kernel_rfl)⟩, ⟨Try.func46, named_of (by kernel_rfl)⟩, ⟨Try.func47, named_of (by kernel_rfl)⟩, ⟨Try.func48, named_of (by kernel_rfl)⟩, ⟨Try.func49, named_of (by kernel_rfl)⟩, ⟨Try.func50, named_of (by kernel_rfl)⟩, ⟨Try.func51, named_of (by kernel_rfl)⟩, ⟨Try.func52, named_of (by kernel_rfl)⟩, ⟨Try.func53, named_of (by kernel_rfl)⟩, ⟨Try.func54, named_of (by kernel_rfl)⟩, ⟨Try.func55, named_of (by kernel_rfl)⟩, ⟨Try.func56, named_of (by kernel_rfl)⟩, ⟨Try.func57, named_of (by kernel_rfl)⟩, ⟨Try.func58, named_of (by kernel_rfl)⟩, ⟨Try.func59, named_of (by kernel_rfl)⟩, ⟨Try.func60, named_of (by kernel_rfl)⟩, ⟨Try.func61, named_of (by kernel_rfl)⟩, ⟨Try.func62, named_of (by kernel_rfl)⟩, ⟨Try.func63, named_of (by kernel_rfl)⟩, ⟨Try.func64, named_of (by kernel_rfl)⟩, ⟨Try.func65, named_of (by kernel_rfl)⟩, ⟨Try.func66, named_of (by kernel_rfl)⟩, ⟨Try.func67, named_of (by kernel_rfl)⟩, ⟨Try.func68, named_of (by kernel_rfl)⟩, ⟨Try.func69, named_of (by kernel_rfl)⟩, ⟨Try.func70, named_of (by kernel_rfl)⟩, ⟨Try.func71, named_of (by kernel_rfl)⟩, ⟨Try.func72, named_of (by kernel_rfl)⟩, ⟨Try.func73, named_of (by kernel_rfl)⟩, ⟨Try.func74, named_of (by kernel_rfl)⟩, ⟨Try.func75, named_of (by kernel_rfl)⟩, ⟨Try.func76, named_of (by kernel_rfl)⟩, ⟨Try.func77, named_of (by kernel_rfl)⟩, ⟨Try.func78, named_of (by kernel_rfl)⟩, ⟨Try.func79, named_of (by kernel_rfl)⟩, ⟨Try.func80, named_of (by kernel_rfl)⟩, ⟨Try.func81, named_of (by kernel_rfl)⟩, ⟨Try.func82, named_of (by kernel_rfl)⟩, ⟨Try.func83, named_of (by kernel_rfl)⟩, ⟨Try.func84, named_of (by kernel_rfl)⟩, ⟨Try.func85, named_of (by kernel_rfl)⟩, ⟨Try.func86, named_of (by kernel_rfl)⟩, ⟨Try.func87, named_of (by kernel_rfl)⟩, ⟨Try.func88, named_of (by kernel_rfl)⟩, ⟨Try.func89, named_of (by kernel_rfl)⟩, ⟨Try.func90, named_of (by kernel_rfl)⟩, ⟨Try.func91, named_of (by kernel_rfl)⟩, ⟨Try.func92, named_of (by kernel_rfl)⟩, ⟨Try.func93, named_of (by kernel_rfl)⟩, ⟨Try.func94, named_of (by kernel_rfl)⟩, ⟨Try.func95, named_of (by kernel_rfl)⟩, ⟨Try.func96, named_of (by kernel_rfl)⟩, ⟨Try.func97, named_of (by kernel_rfl)⟩, ⟨Try.func98, named_of (by kernel_rfl)⟩, ⟨Try.func99, named_of (by kernel_rfl)⟩, ⟨Try.func100, named_of (by kernel_rfl)⟩, ⟨Try.func101, named_of (by kernel_rfl)⟩, ⟨Try.func102, named_of (by kernel_rfl)⟩, ⟨Try.func103, named_of (by kernel_rfl)⟩, ⟨Try.func104, named_of (by kernel_rfl)⟩, ⟨Try.func105, named_of (by kernel_rfl)⟩, ⟨Try.func106, named_of (by kernel_rfl)⟩, ⟨Try.func107, named_of (by kernel_rfl)⟩, ⟨Try.func108, named_of (by kernel_rfl)⟩, ⟨Try.func109, named_of (by kernel_rfl)⟩, ⟨Try.func110, named_of (by kernel_rfl)⟩, ⟨Try.func111, named_of (by kernel_rfl)⟩, ⟨Try.func112, named_of (by kernel_rfl)⟩, ⟨Try.func113, named_of (by kernel_rfl)⟩, ⟨Try.func114, named_of (by kernel_rfl)⟩, ⟨Try.func115, named_of (by kernel_rfl)⟩, ⟨Try.func116, named_of (by kernel_rfl)⟩, ⟨Try.func117, named_of (by kernel_rfl)⟩, ⟨Try.func118, named_of (by kernel_rfl)⟩, ⟨Try.func119, named_of (by kernel_rfl)⟩, ⟨Try.func120, named_of (by kernel_rfl)⟩, ⟨Try.func121, named_of (by kernel_rfl)⟩, ⟨Try.func122, named_of (by kernel_rfl)⟩, ⟨Try.func123, named_of (by kernel_rfl)⟩, ⟨Try.func124, named_of (by kernel_rfl)⟩, ⟨Try.func125, named_of (by kernel_rfl)⟩, ⟨Try.func126, named_of (by kernel_rfl)⟩, ⟨Try.func127, named_of (by kernel_rfl)⟩, ⟨Try.func128, named_of (by kernel_rfl)⟩, ⟨Try.func129, named_of (by kernel_rfl)⟩, ⟨Try.func130, named_of (by kernel_rfl)⟩, ⟨Try.func131, named_of (by kernel_rfl)⟩, ⟨Try.func132, named_of (by kernel_rfl)⟩, ⟨Try.func133, named_of (by kernel_rfl)⟩, ⟨Try.func134, named_of (by kernel_rfl)⟩, ⟨Try.func135, named_of (by kernel_rfl)⟩, ⟨Try.func136, named_of (by kernel_rfl)⟩, ⟨Try.func137, named_of (by kernel_rfl)⟩, ⟨Try.func138, named_of (by kernel_rfl)⟩, ⟨Try.func139, named_of (by kernel_rfl)⟩, ⟨Try.func140, named_of (by kernel_rfl)⟩, ⟨Try.func141, named_of (by kernel_rfl)⟩, ⟨Try.func142, named_of (by kernel_rfl)⟩, ⟨Try.func143, named_of (by kernel_rfl)⟩, ⟨Try.func144, named_of (by kernel_rfl)⟩, ⟨Try.func145, named_of (by kernel_rfl)⟩, ⟨Try.func146, named_of (by kernel_rfl)⟩, ⟨Try.func147, named_of (by kernel_rfl)⟩, ⟨Try.func148, named_of (by kernel_rfl)⟩, ⟨Try.func149, named_of (by kernel_rfl)⟩, ⟨Try.func150, named_of (by kernel_rfl)⟩, ⟨Try.func151, named_of (by kernel_rfl)⟩, ⟨Try.func152, named_of (by kernel_rfl)⟩, ⟨Try.func153, named_of (by kernel_rfl)⟩, ⟨Try.func154, named_of (by kernel_rfl)⟩, ⟨Try.func155, named_of (by kernel_rfl)⟩, ⟨Try.func156, named_of (by kernel_rfl)⟩, ⟨Try.func157, named_of (by kernel_rfl)⟩, ⟨Try.func158, named_of (by kernel_rfl)⟩, ⟨Try.func159, named_of (by kernel_rfl)⟩, ⟨Try.func160, named_of (by kernel_rfl)⟩, ⟨Try.func161, named_of (by kernel_rfl)⟩, ⟨Try.func162, named_of (by kernel_rfl)⟩, ⟨Try.func163, named_of (by kernel_rfl)⟩, ⟨Try.func164, named_of (by kernel_rfl)⟩, ⟨Try.func165, named_of (by kernel_rfl)⟩, ⟨Try.func166, named_of (by kernel_rfl)⟩, ⟨Try.func167, named_of (by kernel_rfl)⟩, ⟨Try.func168, named_of (by kernel_rfl)⟩, ⟨Try.func169, named_of (by kernel_rfl)⟩, ⟨Try.func170, named_of (by kernel_rfl)⟩, ⟨Try.func171, named_of (by kernel_rfl)⟩, ⟨Try.func172, named_of (by kernel_rfl)⟩, ⟨Try.func173, named_of (by kernel_rfl)⟩, ⟨Try.func174, named_of (by kernel_rfl)⟩, ⟨Try.func175, named_of (by kernel_rfl)⟩, trivial⟩
theorem envOk : EnvOk Try.prog E where
  ty k y h := allT_mem allT (k, y) (lookT_mem h)
  fn k f h := allF_mem allF (k, f) (lookF_mem h)
  mixed := Checked.mixed Try.checked
  eq t ht := by
    have h : ∀ t ∈ [89, 130], Try.prog.stoodInHeld t = false ∧ Try.prog.eqGuardType Try.prog.depth t = false := by
      intro t ht
      simp only [List.mem_cons, List.not_mem_nil, or_false] at ht
      rcases ht with rfl | rfl
      · exact ⟨by kernel_rfl, by kernel_rfl⟩
      · exact ⟨by kernel_rfl, by kernel_rfl⟩
    exact h t ht
end Go.Proofs.Ytnjanliihnadjaa.Tm

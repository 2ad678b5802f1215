/- The tables are the program's own: types, functions. Conditions: none. -/
import Derived.Test.YtbaihlhoedbpkaaTab
import Derived.Test.YtbaihlhoedbpkaaKb
import Derived.Test.YtbaihlhoedbpkaaChecked
import Derived.KernelRfl
namespace Go.Proofs.Ytbaihlhoedbpkaa.Tm
open Go
def zeroIn (o : Option TypeInfo) : Value := match o with
  | some i => i.zero.getD .nilFunc
  | none => .nilFunc
def placed (P : Program) : TypeDesc → Bool
  | .struct fs => (fs.toList.mapM (fun f => (P.info? f.type).map fun i => (f.offset, i.size))).isSome
  | _ => true
theorem tyOk_of {P : Program} {k : Nat} {y : Ty} (h1 : P.underlying k = some y.d) (h2 : (P.info? k).map (fun i => (i.size, i.bytes, i.zero)) = some (y.size, y.bytes, some (zeroIn (P.info? k)))) (h3 : (zeroIn (P.info? k)).cells.toList = y.zero)
    (h4 : Nat.beq y.zero.length y.size = true) (h5 : y.zero.all isOne = true) (h6 : placed P y.d = true) (h7 : (isAggD y.d || isOne (zeroIn (P.info? k))) = true) : TyOk P k y := by
  refine ⟨h1, ?_, (beq_iff _ _).1 h4, h5, ?_, ?_⟩
  · cases hi : P.info? k with
    | none => rw [hi] at h2; cases h2
    | some i =>
      rw [hi] at h2 h3
      simp only [Option.map_some, Option.some.injEq, Prod.mk.injEq] at h2
      exact ⟨i, _, rfl, h2.1, h2.2.1, h2.2.2, h3⟩
  · intro hf i z hi hz
    rw [hf, Bool.false_or, hi] at h7
    simp only [zeroIn, hz, Option.getD_some] at h7
    exact h7
  · intro fs hf
    rw [hf] at h6
    exact h6
theorem lookT_mem {l : List (Nat × Ty)} {k : Nat} {y : Ty} (h : lookT l k = some y) : (k, y) ∈ l := by
  induction l with
  | nil => cases h
  | cons x r ih =>
    obtain ⟨j, z⟩ := x
    unfold lookT at h
    cases hb : Nat.beq j k with
    | true => rw [hb, cond_true] at h; cases h; have := (beq_iff _ _).1 hb; subst this; exact List.mem_cons_self
    | false => rw [hb, cond_false] at h; exact List.mem_cons_of_mem _ (ih h)
theorem lookF_mem {l : List (Nat × Func)} {k : Nat} {y : Func} (h : lookF l k = some y) : (k, y) ∈ l := by
  induction l with
  | nil => cases h
  | cons x r ih =>
    obtain ⟨j, z⟩ := x
    unfold lookF at h
    cases hb : Nat.beq j k with
    | true => rw [hb, cond_true] at h; cases h; have := (beq_iff _ _).1 hb; subst this; exact List.mem_cons_self
    | false => rw [hb, cond_false] at h; exact List.mem_cons_of_mem _ (ih h)
theorem named_of {f : Func} (h : decide (f.name = "runtime.NumGoroutine") = false) : f.name ≠ "runtime.NumGoroutine" := of_decide_eq_false h
theorem tyOk3 : TyOk Try.prog 3 ty3 := tyOk_of (by kernel_rfl) (by kernel_rfl) (by kernel_rfl) (by kernel_rfl) (by kernel_rfl) (by kernel_rfl) (by kernel_rfl)
theorem tyOk4 : TyOk Try.prog 4 ty4 := tyOk_of (by kernel_rfl) (by kernel_rfl) (by kernel_rfl) (by kernel_rfl) (by kernel_rfl) (by kernel_rfl) (by kernel_rfl)
theorem tyOk43 : TyOk Try.prog 43 ty43 := tyOk_of (by kernel_rfl) (by kernel_rfl) (by kernel_rfl) (by kernel_rfl) (by kernel_rfl) (by kernel_rfl) (by kernel_rfl)
theorem tyOk2 : TyOk Try.prog 2 ty2 := tyOk_of (by kernel_rfl) (by kernel_rfl) (by kernel_rfl) (by kernel_rfl) (by kernel_rfl) (by kernel_rfl) (by kernel_rfl)
theorem tyOk38 : TyOk Try.prog 38 ty38 := tyOk_of (by kernel_rfl) (by kernel_rfl) (by kernel_rfl) (by kernel_rfl) (by kernel_rfl) (by kernel_rfl) (by kernel_rfl)
theorem tyOk30 : TyOk Try.prog 30 ty30 := tyOk_of (by kernel_rfl) (by kernel_rfl) (by kernel_rfl) (by kernel_rfl) (by kernel_rfl) (by kernel_rfl) (by kernel_rfl)
theorem tyOk24 : TyOk Try.prog 24 ty24 := tyOk_of (by kernel_rfl) (by kernel_rfl) (by kernel_rfl) (by kernel_rfl) (by kernel_rfl) (by kernel_rfl) (by kernel_rfl)
theorem tyOk26 : TyOk Try.prog 26 ty26 := tyOk_of (by kernel_rfl) (by kernel_rfl) (by kernel_rfl) (by kernel_rfl) (by kernel_rfl) (by kernel_rfl) (by kernel_rfl)
theorem tyOk45 : TyOk Try.prog 45 ty45 := tyOk_of (by kernel_rfl) (by kernel_rfl) (by kernel_rfl) (by kernel_rfl) (by kernel_rfl) (by kernel_rfl) (by kernel_rfl)
theorem tyOk47 : TyOk Try.prog 47 ty47 := tyOk_of (by kernel_rfl) (by kernel_rfl) (by kernel_rfl) (by kernel_rfl) (by kernel_rfl) (by kernel_rfl) (by kernel_rfl)
theorem tyOk74 : TyOk Try.prog 74 ty74 := tyOk_of (by kernel_rfl) (by kernel_rfl) (by kernel_rfl) (by kernel_rfl) (by kernel_rfl) (by kernel_rfl) (by kernel_rfl)
theorem tyOk98 : TyOk Try.prog 98 ty98 := tyOk_of (by kernel_rfl) (by kernel_rfl) (by kernel_rfl) (by kernel_rfl) (by kernel_rfl) (by kernel_rfl) (by kernel_rfl)
theorem tyOk33 : TyOk Try.prog 33 ty33 := tyOk_of (by kernel_rfl) (by kernel_rfl) (by kernel_rfl) (by kernel_rfl) (by kernel_rfl) (by kernel_rfl) (by kernel_rfl)
theorem tyOk78 : TyOk Try.prog 78 ty78 := tyOk_of (by kernel_rfl) (by kernel_rfl) (by kernel_rfl) (by kernel_rfl) (by kernel_rfl) (by kernel_rfl) (by kernel_rfl)
theorem tyOk41 : TyOk Try.prog 41 ty41 := tyOk_of (by kernel_rfl) (by kernel_rfl) (by kernel_rfl) (by kernel_rfl) (by kernel_rfl) (by kernel_rfl) (by kernel_rfl)
theorem tyOk36 : TyOk Try.prog 36 ty36 := tyOk_of (by kernel_rfl) (by kernel_rfl) (by kernel_rfl) (by kernel_rfl) (by kernel_rfl) (by kernel_rfl) (by kernel_rfl)
theorem tyOk192 : TyOk Try.prog 192 ty192 := tyOk_of (by kernel_rfl) (by kernel_rfl) (by kernel_rfl) (by kernel_rfl) (by kernel_rfl) (by kernel_rfl) (by kernel_rfl)
theorem tyOk32 : TyOk Try.prog 32 ty32 := tyOk_of (by kernel_rfl) (by kernel_rfl) (by kernel_rfl) (by kernel_rfl) (by kernel_rfl) (by kernel_rfl) (by kernel_rfl)
theorem tyOk42 : TyOk Try.prog 42 ty42 := tyOk_of (by kernel_rfl) (by kernel_rfl) (by kernel_rfl) (by kernel_rfl) (by kernel_rfl) (by kernel_rfl) (by kernel_rfl)
theorem tyOk141 : TyOk Try.prog 141 ty141 := tyOk_of (by kernel_rfl) (by kernel_rfl) (by kernel_rfl) (by kernel_rfl) (by kernel_rfl) (by kernel_rfl) (by kernel_rfl)
theorem tyOk132 : TyOk Try.prog 132 ty132 := tyOk_of (by kernel_rfl) (by kernel_rfl) (by kernel_rfl) (by kernel_rfl) (by kernel_rfl) (by kernel_rfl) (by kernel_rfl)
theorem tyOk22 : TyOk Try.prog 22 ty22 := tyOk_of (by kernel_rfl) (by kernel_rfl) (by kernel_rfl) (by kernel_rfl) (by kernel_rfl) (by kernel_rfl) (by kernel_rfl)
theorem tyOk79 : TyOk Try.prog 79 ty79 := tyOk_of (by kernel_rfl) (by kernel_rfl) (by kernel_rfl) (by kernel_rfl) (by kernel_rfl) (by kernel_rfl) (by kernel_rfl)
theorem tyOk90 : TyOk Try.prog 90 ty90 := tyOk_of (by kernel_rfl) (by kernel_rfl) (by kernel_rfl) (by kernel_rfl) (by kernel_rfl) (by kernel_rfl) (by kernel_rfl)
theorem tyOk34 : TyOk Try.prog 34 ty34 := tyOk_of (by kernel_rfl) (by kernel_rfl) (by kernel_rfl) (by kernel_rfl) (by kernel_rfl) (by kernel_rfl) (by kernel_rfl)
theorem tyOk61 : TyOk Try.prog 61 ty61 := tyOk_of (by kernel_rfl) (by kernel_rfl) (by kernel_rfl) (by kernel_rfl) (by kernel_rfl) (by kernel_rfl) (by kernel_rfl)
theorem tyOk50 : TyOk Try.prog 50 ty50 := tyOk_of (by kernel_rfl) (by kernel_rfl) (by kernel_rfl) (by kernel_rfl) (by kernel_rfl) (by kernel_rfl) (by kernel_rfl)
theorem tyOk35 : TyOk Try.prog 35 ty35 := tyOk_of (by kernel_rfl) (by kernel_rfl) (by kernel_rfl) (by kernel_rfl) (by kernel_rfl) (by kernel_rfl) (by kernel_rfl)
theorem tyOk69 : TyOk Try.prog 69 ty69 := tyOk_of (by kernel_rfl) (by kernel_rfl) (by kernel_rfl) (by kernel_rfl) (by kernel_rfl) (by kernel_rfl) (by kernel_rfl)
theorem tyOk112 : TyOk Try.prog 112 ty112 := tyOk_of (by kernel_rfl) (by kernel_rfl) (by kernel_rfl) (by kernel_rfl) (by kernel_rfl) (by kernel_rfl) (by kernel_rfl)
theorem tyOk59 : TyOk Try.prog 59 ty59 := tyOk_of (by kernel_rfl) (by kernel_rfl) (by kernel_rfl) (by kernel_rfl) (by kernel_rfl) (by kernel_rfl) (by kernel_rfl)
theorem tyOk123 : TyOk Try.prog 123 ty123 := tyOk_of (by kernel_rfl) (by kernel_rfl) (by kernel_rfl) (by kernel_rfl) (by kernel_rfl) (by kernel_rfl) (by kernel_rfl)
theorem tyOk142 : TyOk Try.prog 142 ty142 := tyOk_of (by kernel_rfl) (by kernel_rfl) (by kernel_rfl) (by kernel_rfl) (by kernel_rfl) (by kernel_rfl) (by kernel_rfl)
theorem tyOk56 : TyOk Try.prog 56 ty56 := tyOk_of (by kernel_rfl) (by kernel_rfl) (by kernel_rfl) (by kernel_rfl) (by kernel_rfl) (by kernel_rfl) (by kernel_rfl)
theorem tyOk138 : TyOk Try.prog 138 ty138 := tyOk_of (by kernel_rfl) (by kernel_rfl) (by kernel_rfl) (by kernel_rfl) (by kernel_rfl) (by kernel_rfl) (by kernel_rfl)
theorem tyOk92 : TyOk Try.prog 92 ty92 := tyOk_of (by kernel_rfl) (by kernel_rfl) (by kernel_rfl) (by kernel_rfl) (by kernel_rfl) (by kernel_rfl) (by kernel_rfl)
theorem tyOk58 : TyOk Try.prog 58 ty58 := tyOk_of (by kernel_rfl) (by kernel_rfl) (by kernel_rfl) (by kernel_rfl) (by kernel_rfl) (by kernel_rfl) (by kernel_rfl)
theorem tyOk27 : TyOk Try.prog 27 ty27 := tyOk_of (by kernel_rfl) (by kernel_rfl) (by kernel_rfl) (by kernel_rfl) (by kernel_rfl) (by kernel_rfl) (by kernel_rfl)
theorem tyOk57 : TyOk Try.prog 57 ty57 := tyOk_of (by kernel_rfl) (by kernel_rfl) (by kernel_rfl) (by kernel_rfl) (by kernel_rfl) (by kernel_rfl) (by kernel_rfl)
theorem tyOk113 : TyOk Try.prog 113 ty113 := tyOk_of (by kernel_rfl) (by kernel_rfl) (by kernel_rfl) (by kernel_rfl) (by kernel_rfl) (by kernel_rfl) (by kernel_rfl)
theorem tyOk86 : TyOk Try.prog 86 ty86 := tyOk_of (by kernel_rfl) (by kernel_rfl) (by kernel_rfl) (by kernel_rfl) (by kernel_rfl) (by kernel_rfl) (by kernel_rfl)
theorem tyOk49 : TyOk Try.prog 49 ty49 := tyOk_of (by kernel_rfl) (by kernel_rfl) (by kernel_rfl) (by kernel_rfl) (by kernel_rfl) (by kernel_rfl) (by kernel_rfl)
theorem tyOk107 : TyOk Try.prog 107 ty107 := tyOk_of (by kernel_rfl) (by kernel_rfl) (by kernel_rfl) (by kernel_rfl) (by kernel_rfl) (by kernel_rfl) (by kernel_rfl)
theorem tyOk55 : TyOk Try.prog 55 ty55 := tyOk_of (by kernel_rfl) (by kernel_rfl) (by kernel_rfl) (by kernel_rfl) (by kernel_rfl) (by kernel_rfl) (by kernel_rfl)
theorem tyOk117 : TyOk Try.prog 117 ty117 := tyOk_of (by kernel_rfl) (by kernel_rfl) (by kernel_rfl) (by kernel_rfl) (by kernel_rfl) (by kernel_rfl) (by kernel_rfl)
theorem tyOk193 : TyOk Try.prog 193 ty193 := tyOk_of (by kernel_rfl) (by kernel_rfl) (by kernel_rfl) (by kernel_rfl) (by kernel_rfl) (by kernel_rfl) (by kernel_rfl)
theorem tyOk66 : TyOk Try.prog 66 ty66 := tyOk_of (by kernel_rfl) (by kernel_rfl) (by kernel_rfl) (by kernel_rfl) (by kernel_rfl) (by kernel_rfl) (by kernel_rfl)
theorem tyOk116 : TyOk Try.prog 116 ty116 := tyOk_of (by kernel_rfl) (by kernel_rfl) (by kernel_rfl) (by kernel_rfl) (by kernel_rfl) (by kernel_rfl) (by kernel_rfl)
theorem tyOk196 : TyOk Try.prog 196 ty196 := tyOk_of (by kernel_rfl) (by kernel_rfl) (by kernel_rfl) (by kernel_rfl) (by kernel_rfl) (by kernel_rfl) (by kernel_rfl)
theorem tyOk135 : TyOk Try.prog 135 ty135 := tyOk_of (by kernel_rfl) (by kernel_rfl) (by kernel_rfl) (by kernel_rfl) (by kernel_rfl) (by kernel_rfl) (by kernel_rfl)
theorem tyOk105 : TyOk Try.prog 105 ty105 := tyOk_of (by kernel_rfl) (by kernel_rfl) (by kernel_rfl) (by kernel_rfl) (by kernel_rfl) (by kernel_rfl) (by kernel_rfl)
theorem tyOk154 : TyOk Try.prog 154 ty154 := tyOk_of (by kernel_rfl) (by kernel_rfl) (by kernel_rfl) (by kernel_rfl) (by kernel_rfl) (by kernel_rfl) (by kernel_rfl)
theorem tyOk64 : TyOk Try.prog 64 ty64 := tyOk_of (by kernel_rfl) (by kernel_rfl) (by kernel_rfl) (by kernel_rfl) (by kernel_rfl) (by kernel_rfl) (by kernel_rfl)
theorem tyOk110 : TyOk Try.prog 110 ty110 := tyOk_of (by kernel_rfl) (by kernel_rfl) (by kernel_rfl) (by kernel_rfl) (by kernel_rfl) (by kernel_rfl) (by kernel_rfl)
theorem tyOk191 : TyOk Try.prog 191 ty191 := tyOk_of (by kernel_rfl) (by kernel_rfl) (by kernel_rfl) (by kernel_rfl) (by kernel_rfl) (by kernel_rfl) (by kernel_rfl)
theorem tyOk172 : TyOk Try.prog 172 ty172 := tyOk_of (by kernel_rfl) (by kernel_rfl) (by kernel_rfl) (by kernel_rfl) (by kernel_rfl) (by kernel_rfl) (by kernel_rfl)
theorem tyOk136 : TyOk Try.prog 136 ty136 := tyOk_of (by kernel_rfl) (by kernel_rfl) (by kernel_rfl) (by kernel_rfl) (by kernel_rfl) (by kernel_rfl) (by kernel_rfl)
theorem tyOk134 : TyOk Try.prog 134 ty134 := tyOk_of (by kernel_rfl) (by kernel_rfl) (by kernel_rfl) (by kernel_rfl) (by kernel_rfl) (by kernel_rfl) (by kernel_rfl)
def AllT (P : Program) : List (Nat × Ty) → Prop
  | [] => True
  | x :: r => TyOk P x.1 x.2 ∧ AllT P r
theorem allT_mem {P : Program} : ∀ {l : List (Nat × Ty)}, AllT P l → ∀ x ∈ l, TyOk P x.1 x.2
  | [], _, x, h => by cases h
  | y :: l, a, x, h => by
    rcases List.mem_cons.1 h with h | h
    · subst h; exact a.1
    · exact allT_mem a.2 x h
def AllF (P : Program) : List (Nat × Func) → Prop
  | [] => True
  | x :: r => (P.funcs[x.1]? = some x.2 ∧ x.2.name ≠ "runtime.NumGoroutine") ∧ AllF P r
theorem allF_mem {P : Program} : ∀ {l : List (Nat × Func)}, AllF P l → ∀ x ∈ l, P.funcs[x.1]? = some x.2 ∧ x.2.name ≠ "runtime.NumGoroutine"
  | [], _, x, h => by cases h
  | y :: l, a, x, h => by
    rcases List.mem_cons.1 h with h | h
    · subst h; exact a.1
    · exact allF_mem a.2 x h
theorem allT : AllT Try.prog tyTab := ⟨tyOk3, tyOk4, tyOk43, tyOk2, tyOk38, tyOk30, tyOk24, tyOk26, tyOk45, tyOk47, tyOk74, tyOk98, tyOk33, tyOk78, tyOk41, tyOk36, tyOk192, tyOk32, tyOk42, tyOk141, tyOk132, tyOk22, tyOk79, tyOk90, tyOk34, tyOk61, tyOk50, tyOk35, tyOk69, tyOk112, tyOk59, tyOk123, tyOk142, tyOk56, tyOk138, tyOk92, tyOk58, tyOk27, tyOk57, tyOk113, tyOk86, tyOk49, tyOk107, tyOk55, tyOk117, tyOk193, tyOk66, tyOk116, tyOk196, tyOk135, tyOk105, tyOk154, tyOk64, tyOk110, tyOk191, tyOk172, tyOk136, tyOk134, trivial⟩
theorem allF : AllF Try.prog fnTab := ⟨⟨Try.func3, named_of (by kernel_rfl)⟩, ⟨Try.func4, named_of (by kernel_rfl)⟩, ⟨Try.func5, named_of (by kernel_rfl)⟩, ⟨Try.func6, named_of (by kernel_rfl)⟩, ⟨Try.func7, named_of (by kernel_rfl)⟩, ⟨Try.func8, named_of (by kernel_rfl)⟩, ⟨Try.func9, named_of (by kernel_rfl)⟩, ⟨Try.func10, named_of (by kernel_rfl)⟩, ⟨Try.func11, named_of (by kernel_rfl)⟩, ⟨Try.func12, named_of (by kernel_rfl)⟩, ⟨Try.func13, named_of (by kernel_rfl)⟩, ⟨Try.func14, named_of (by kernel_rfl)⟩, ⟨Try.func15, named_of (by kernel_rfl)⟩, ⟨Try.func16, named_of (by kernel_rfl)⟩, ⟨Try.func17, named_of (by kernel_rfl)⟩, ⟨Try.func18, named_of (by kernel_rfl)⟩, ⟨Try.func19, named_of (by kernel_rfl)⟩, ⟨Try.func20, named_of (by kernel_rfl)⟩, ⟨Try.func21, named_of (by kernel_rfl)⟩, ⟨Try.func22, named_of (by kernel_rfl)⟩, ⟨Try.func23, named_of (by kernel_rfl)⟩, ⟨Try.func24, named_of (by kernel_rfl)⟩, ⟨Try.func25, named_of (by kernel_rfl)⟩, ⟨Try.func26, named_of (by kernel_rfl)⟩, ⟨Try.func27, named_of (by kernel_rfl)⟩, ⟨Try.func28, named_of (by kernel_rfl)⟩, ⟨Try.func29, named_of (by kernel_rfl)⟩, ⟨Try.func30, named_of (by kernel_rfl)⟩, ⟨Try.func31, named_of (by kernel_rfl)⟩, ⟨Try.func32, named_of (by kernel_rfl)⟩, ⟨Try.func33, named_of (by kernel_rfl)⟩, ⟨Try.func34, named_of (by kernel_rfl)⟩, ⟨Try.func35, named_of (by kernel_rfl)⟩, ⟨Try.func36, named_of (by kernel_rfl)⟩, ⟨Try.func37, named_of (by kernel_rfl)⟩, ⟨Try.func38, named_of (by kernel_rfl)⟩, ⟨Try.func39, named_of (by kernel_rfl)⟩, ⟨Try.func40, named_of (by kernel_rfl)⟩, ⟨Try.func41, named_of (by kernel_rfl)⟩, ⟨Try.func42, named_of (by kernel_rfl)⟩, ⟨Try.func43, named_of (by kernel_rfl)⟩, ⟨Try.func44, named_of (by kernel_rfl)⟩, ⟨Try.func45, named_of (by kernel_rfl)⟩, ⟨Try.func46, named_of (by kernel_rfl)⟩, ⟨Try.func47, named_of (by kernel_rfl)⟩, ⟨Try.func48, named_of (by kernel_rfl)⟩, ⟨Try.func49, named_of (by kernel_rfl)⟩, ⟨Try.func50, named_of (by kernel_rfl)⟩, ⟨Try.func51, named_of (by kernel_rfl)⟩, ⟨Try.func52, named_of (by kernel_rfl)⟩, ⟨Try.func53, named_of (by kernel_rfl)⟩, ⟨Try.func54, named_of (by kernel_rfl)⟩, ⟨Try.func55, named_of (by kernel_rfl)⟩, ⟨Try.func56, named_of (by kernel_rfl)⟩, ⟨Try.func57, named_of (by kernel_rfl)⟩, ⟨Try.func58, named_of (by kernel_rfl)⟩, ⟨Try.func59, named_of (by kernel_rfl)⟩, ⟨Try.func60, named_of (by kernel_rfl)⟩, ⟨Try.func61, named_of (by kernel_rfl)⟩, ⟨Try.func62, named_of (by kernel_rfl)⟩, ⟨Try.func63, named_of (by kernel_rfl)⟩, ⟨Try.func64, named_of (by kernel_rfl)⟩, ⟨Try.func65, named_of (by kernel_rfl)⟩, ⟨Try.func66, named_of (by kernel_rfl)⟩, ⟨Try.func67, named_of (by kernel_rfl)⟩, ⟨Try.func68, named_of (by kernel_rfl)⟩, ⟨Try.func69, named_of (by kernel_rfl)⟩, ⟨Try.func70, named_of (by kernel_rfl)⟩, ⟨Try.func71, named_of (by kernel_rfl)⟩, ⟨Try.func72, named_of (by kernel_rfl)⟩, ⟨Try.func73, named_of (by kernel_rfl)⟩, ⟨Try.func74, named_of (by kernel_rfl)⟩, ⟨Try.func75, named_of (by kernel_rfl)⟩, ⟨Try.func76, named_of (by kernel_rfl)⟩, ⟨Try.func77, named_of (by kernel_rfl)⟩, ⟨Try.func78, named_of (by kernel_rfl)⟩, ⟨Try.func79, named_of (by kernel_rfl)⟩, ⟨Try.func80, named_of (by kernel_rfl)⟩, ⟨Try.func81, named_of (by kernel_rfl)⟩, ⟨Try.func82, named_of (by kernel_rfl)⟩, ⟨Try.func83, named_of (by kernel_rfl)⟩, ⟨Try.func84, named_of (by kernel_rfl)⟩, ⟨Try.func85, named_of (by kernel_rfl)⟩, ⟨Try.func86, named_of (by kernel_rfl)⟩, ⟨Try.func87, named_of (by kernel_rfl)⟩, ⟨Try.func88, named_of (by kernel_rfl)⟩, ⟨Try.func89, named_of (by kernel_rfl)⟩, ⟨Try.func90, named_of (by kernel_rfl)⟩, ⟨Try.func91, named_of (by kernel_rfl)⟩, ⟨Try.func92, named_of (by kernel_rfl)⟩, ⟨Try.func93, named_of (by kernel_rfl)⟩, ⟨Try.func94, named_of (by kernel_rfl)⟩, ⟨Try.func95, named_of (by kernel_rfl)⟩, ⟨Try.func96, named_of (by kernel_rfl)⟩, ⟨Try.func97, named_of (by kernel_rfl)⟩, ⟨Try.func98, named_of (by kernel_rfl)⟩, ⟨Try.func99, named_of (by kernel_rfl)⟩, ⟨Try.func100, named_of (by kernel_rfl)⟩, ⟨Try.func101, named_of (by kernel_rfl)⟩, ⟨Try.func102, named_of (by kernel_rfl)⟩, ⟨Try.func103, named_of (by kernel_rfl)⟩, ⟨Try.func104, named_of (by kernel_rfl)⟩, ⟨Try.func105, named_of (by kernel_rfl)⟩, ⟨Try.func106, named_of (by kernel_rfl)⟩, ⟨Try.func107, named_of (by kernel_rfl)⟩, ⟨Try.func108, named_of (by kernel_rfl)⟩, ⟨Try.func109, named_of (by kernel_rfl)⟩, ⟨Try.func110, named_of (by kernel_rfl)⟩, ⟨Try.func111, named_of (by kernel_rfl)⟩, ⟨Try.func112, named_of (by kernel_rfl)⟩, ⟨Try.func113, named_of (by kernel_rfl)⟩, ⟨Try.func114, named_of (by kernel_rfl)⟩, ⟨Try.func115, named_of (by kernel_rfl)⟩, ⟨Try.func116, named_of (by kernel_rfl)⟩, trivial⟩
theorem envOk : EnvOk Try.prog E where
  ty k y h := allT_mem allT (k, y) (lookT_mem h)
  fn k f h := allF_mem allF (k, f) (lookF_mem h)
  mixed := Checked.mixed Try.checked
  eq t ht := by
    have h : ∀ t ∈ [66, 78], Try.prog.stoodInHeld t = false ∧ Try.prog.eqGuardType Try.prog.depth t = false := by
      intro t ht
      simp only [List.mem_cons, List.not_mem_nil, or_false] at ht
      rcases ht with rfl | rfl
      · exact ⟨by kernel_rfl, by kernel_rfl⟩
      · exact ⟨by kernel_rfl, by kernel_rfl⟩
    exact h t ht
end Go.Proofs.Ytbaihlhoedbpkaa.Tm

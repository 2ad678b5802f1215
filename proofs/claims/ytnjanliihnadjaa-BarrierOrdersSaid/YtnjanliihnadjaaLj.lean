/- The plain law of BarrierSays. Conditions: none. -/
import Derived.Test.YtnjanliihnadjaaLi
import Derived.Test.YtnjanliihnadjaaSq
import Derived.Test.YtnjanliihnadjaaFL5
set_option linter.unusedVariables false
namespace Go.Proofs.Ytnjanliihnadjaa.Tm
open Go

def rests (rest : List Bool) (n : Nat) : Bool := rest.all id && ieq (nlen n) 0
def quiet (x : GPart) : Bool := rests x.Rest (len x.In)

theorem F123_spec (K : Nat) (x : GPart) (h : x.Rest.length < 4611686018427387904) (hK : x.Rest.length < K) : F123 K x = some (quiet x) := by
  have e : F123_l0_0 K x K 0 = _ := scanL (L := fun k (_ : Unit) i => F123_l0_0 K x k i) (fun r _ c => bif r then c () else some (.inl ())) (fun _ => some (.inr ())) (fun k s i _ => rfl) h hK ()
  have e2 : ∀ l : List Bool, goL (fun r (_ : Unit) c => bif r then c () else some (.inl ())) (fun _ => some (.inr ())) l () = (some (bif l.all id then .inr () else .inl ()) : Option (Unit ⊕ Unit)) := by
    intro l
    induction l with
    | nil => rfl
    | cons r l ih => cases r <;> simp [goL, ih]
  rw [F123, e, e2]
  unfold quiet rests
  cases x.Rest.all id <;> rfl

theorem F106_spec (K : Nat) (x : GState) (h : x.Rest.length < 4611686018427387904) (hK : x.Rest.length < K) : F106 K x = some (rests x.Rest (len x.In)) := by
  have e : F106_l0_0 K x K 0 = _ := scanL (L := fun k (_ : Unit) i => F106_l0_0 K x k i) (fun r _ c => bif r then c () else some (.inl ())) (fun _ => some (.inr ())) (fun k s i _ => rfl) h hK ()
  have e2 : ∀ l : List Bool, goL (fun r (_ : Unit) c => bif r then c () else some (.inl ())) (fun _ => some (.inr ())) l () = (some (bif l.all id then .inr () else .inl ()) : Option (Unit ⊕ Unit)) := by
    intro l
    induction l with
    | nil => rfl
    | cons r l ih => cases r <;> simp [goL, ih]
  rw [F106, e, e2]
  unfold rests
  cases x.Rest.all id <;> rfl

theorem F124_spec (K : Nat) (x : GPart) (h : x.Rest.length < 4611686018427387904) (hK : x.Rest.length < K) : F124 K x = some (quiet x) := by
  rw [F124, F106_spec _ _ h hK]; rfl

end Go.Proofs.Ytnjanliihnadjaa.Tm

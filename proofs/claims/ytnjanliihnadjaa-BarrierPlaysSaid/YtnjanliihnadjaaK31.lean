/- The tree machine: a law called at the row's arguments. Conditions: none. -/
import Derived.Test.YtnjanliihnadjaaK30
import Derived.Below
namespace Go.Proofs.Ytnjanliihnadjaa.Tm
open Go Go.RowKit

/-- All that stands is fixed. -/
def owAll (w : World) : Nat → Ow := fun b => if b < w.heap.size then .st else .no
theorem owAll_st {w : World} {b : Nat} : owAll w b = .st ↔ b < w.heap.size := by
  unfold owAll; split <;> simp_all

/-- An argument that stands for v. -/
def ArgIs (w : World) : AD → Value → Prop
  | .one t, v => RT w (fun b => b < w.heap.size) t v
  | .agg ts, v => ∃ us, v = .agg us.toArray ∧ RTs w (fun b => b < w.heap.size) ts us
  | .box _ _, _ => False

def ArgsAre (w : World) : List AD → List Value → Prop
  | [], [] => True
  | a :: as, v :: vs => ArgIs w a v ∧ ArgsAre w as vs
  | _, _ => False

theorem argsAre_get {w : World} : ∀ {as : List AD} {vs : List Value}, ArgsAre w as vs → vs.length = as.length ∧ ∀ (i : Nat) a v, as[i]? = some a → vs[i]? = some v → ArgIs w a v
  | [], [], _ => ⟨rfl, fun i a v h => by simp at h⟩
  | a :: as, v :: vs, h => by
    obtain ⟨e, g⟩ := argsAre_get h.2
    refine ⟨by simp [e], fun i b u hb hu => ?_⟩
    cases i with
    | zero => simp at hb hu; subst hb; subst hu; exact h.1
    | succ i => exact g i b u (by simpa using hb) (by simpa using hu)
  | [], _ :: _, h => h.elim
  | _ :: _, [], h => h.elim

theorem entry_of {P : Program} {w : World} {as : List AD} {vs : List Value} (h : ArgsAre w as vs) : Entry P as vs w (owAll w) := by
  obtain ⟨e, g⟩ := argsAre_get h
  refine ⟨e, fun b hb => ?_, fun b i => ?_, fun i a v ha hv => ?_⟩
  · unfold owAll at hb; split at hb
    · assumption
    · exact absurd rfl hb
  · unfold owAll; split <;> exact fun h => by cases h
  · have hx : (fun b => owAll w b = .st) = fun b => b < w.heap.size := funext fun b => propext owAll_st
    have := g i a v ha hv
    cases a with
    | one t => show RT w _ t v; rw [hx]; exact this
    | agg ts => obtain ⟨us, e1, e2⟩ := this; exact ⟨us, e1, by rw [hx]; exact e2⟩
    | box _ _ => exact this.elim

theorem law_calls {P : Program} {E : Env} {H : FuncId → Hint} (hE : EnvOk P E) {g : FuncId} {as : List AD} {b : Bool} (he : Evt E H g as ⟨[.one (.im (.lit (.bool b)))], []⟩) {vs : List Value} {w : World} (ha : ArgsAre w as vs) :
    Calls P g vs.toArray w fun e w' => e = .returned (.bool b) ∧ Below w.heap.size w w' := by
  obtain ⟨N, hN⟩ := he
  have h1 := hN N N (Nat.le_refl _) (Nat.le_refl _)
  refine ((fnN_meets hE H N N g as _ h1).2 vs w (owAll w) (entry_of ha)).mono fun e w' hh => ?_
  obtain ⟨v, ow', rfl, hl⟩ := hh
  obtain ⟨us, hu, hv, hr⟩ := hl.vals
  have e1 : us.length = 1 := hu
  match us, e1 with
  | [u], _ =>
    have h2 : RCOk P w' ow' (.pd 0) (.im (.lit (.bool b))) u := hr 0 _ u rfl rfl
    have h3 : u = .bool b := by
      have h4 : RT w' (fun k => ow' k = .st) (.lit (.bool b)) u := h2
      cases h4; rfl
    have h5 : v = u := hv
    refine ⟨by rw [h5, h3], hl.keep.os, hl.keep.tape, hl.keep.output, hl.keep.size, fun k hk => hl.keep.block k hk ?_⟩
    rintro ⟨q, hq⟩
    unfold owAll at hq
    split at hq <;> cases hq

end Go.Proofs.Ytnjanliihnadjaa.Tm

/- What the row of WorkerOnce leans on: printed functions and plain laws. Conditions: none. -/
import Derived.Test.YtbaihlhoedbpkaaTy
import Derived.Test.YtbaihlhoedbpkaaTab
import Derived.Test.YtbaihlhoedbpkaaKn
import Derived.Test.YtbaihlhoedbpkaaWf
import Derived.IntWalk
import Derived.KernelRfl
import Derived.OpenShut
set_option linter.unusedVariables false
set_option linter.unusedSimpArgs false
namespace Go.Proofs.Ytbaihlhoedbpkaa.Tm
open Go
noncomputable section
theorem bS {α β : Type} (a : α) (f : α → Option β) : (some a).bind f = f a := rfl
theorem cT {α : Type} (a b : α) : (bif true then a else b) = a := rfl
theorem cF {α : Type} (a b : α) : (bif false then a else b) = b := rfl
theorem om {p : Prop} (h : p := by omega) : p := h
abbrev PQ (h : Hint) (f : List Cond → List Cond) : Prop := ∀ {l : List Cond}, HoldAll E H h l → HoldAll E H h (f l)
abbrev HA (h : Hint) (l : List Cond) : Prop := HoldAll E H h l
abbrev tt (b : Bool) : Cond := .test b true
abbrev ff (b : Bool) : Cond := .test b false
abbrev bt : Cond := .test (beqb true false) false
abbrev bf (b : Bool) : Cond := .test (beqb b false) false
abbrev bg (b : Bool) : Cond := .test (beqb b false) true
abbrev bh (b : Bool) : Cond := .test (beqb b true) true
abbrev bk (b : Bool) : Cond := .test (beqb b true) false
abbrev nl {α : Type} (l : List α) : Int := nlen (len l)
abbrev i6 (n : Int) : T := .lit (.int .i64 n)
abbrev e6 : Int → List T := eInt .i64
abbrev sE {α : Type} (e : α → List T) (l : List α) : T := .sl (len l) (flat e l)
abbrev uI (n : Int) : Ent := ⟨.im, 0, i6 n⟩
abbrev uB (b : Bool) : Ent := ⟨.im, 0, .lit (.bool b)⟩
abbrev uS {α : Type} (e : α → List T) (l : List α) : Ent := ⟨.im, 0, sE e l⟩
abbrev uO {α : Type} (n : Nat) (e : α → List T) (l : List α) : Ent := ⟨.own n, 0, sE e l⟩
abbrev uN (n : Nat) : Ent := ⟨.own n, 0, .sl 0 []⟩
abbrev uX (a b : Nat) : Ent := ⟨.box a b, 0, nob⟩
abbrev u0 : Ent := ⟨.one, 0, nob⟩
abbrev mI (n : Int) : RC := .im (i6 n)
abbrev mB (b : Bool) : RC := .im (.lit (.bool b))
abbrev mS {α : Type} (e : α → List T) (l : List α) : RC := .im (sE e l)
def sq : Nat → List Ent → List (Nat × Ent) → List (Nat × Ent)
 | _, [], r => r
 | k, e :: l, r => (k, e) :: sq (k + 1) l r
def kq : Nat → Nat → List Nat → List Nat
 | _, 0, r => r
 | k, n + 1, r => k :: kq (k + 1) n r
abbrev on (l : List (Nat × Ent)) : TS := .on (l.map (·.1)) l
theorem sj {α : Type} {a b : α} (h : some a = some b) : a = b := Option.some.inj h
theorem br : beqb true false = false := rfl
theorem bA {c : Bool} (h : c = true) : beqb c false = false := beqb_ft h
theorem bB {c : Bool} (h : c = false) : beqb c false = true := beqb_ff h
theorem bC {c v : Bool} (h : c = v) : beqb c true = v := beqb_t h
theorem lk {r : Res} {v : Bool} (h : leadsAny r = v := by simp [leadsAny, RV.leads, RC.leads, leadsT, hasSl_lit, flat_ns (eInt_ns _), flat_ns eBool_ns, flat_ns eGEdge_ns, flat_ns eGJob_ns, flat_ns eGMsg_ns]) : leadsAny r = v := h
theorem fpC (h : Hint) {f : FuncId} {ads : List AD} {r : Res} {cs : List Cond} (hc : HA h cs) (hh : hintT E H f ads = h := by kernel_rfl) (hp : (fnT E H f ads).play (ansL cs) = some (.res r, cs) := by kernel_rfl) : Evt E H f ads r := fn_playC h hc hh hp
theorem lE {h : Hint} {l : Nat} {c : Code} {ts ts' : TS} {ex : Ex} {cs : List Cond} (hc : HA h cs) (hp : (roundF E h l c ts).play (ansL cs) = some (.code ex ts', cs) := by kernel_rfl) (hx : match ex with | .normal => False | _ => True := by trivial) : LoopEv E H h l c ts ex ts' := loop_endC hc hp (by cases ex <;> first | exact hx | trivial)
theorem lN1 {h : Hint} {l : Nat} {c : Code} {ts ts1 ts' : TS} {ex : Ex} {cs : List Cond} (hc : HA h cs) (hn : LoopEv E H h l c ts1 ex ts') (hp : (roundF E h l c ts).play (ansL cs) = some (.code .normal ts1, cs) := by kernel_rfl) : LoopEv E H h l c ts ex ts' := loop_nextC hc hp hn
theorem lN2 {α β : Type} {r : α ⊕ β} {h : Hint} {l : Nat} {c : Code} {ts ts1 : TS} {x : α → TS} {y : β → TS} {ex ey : Ex} {cs : List Cond} (hc : HA h cs) (hn : Sum.elim (fun w => LoopEv E H h l c ts1 ex (x w)) (fun w => LoopEv E H h l c ts1 ey (y w)) r) (hp : (roundF E h l c ts).play (ansL cs) = some (.code .normal ts1, cs) := by kernel_rfl) : Sum.elim (fun w => LoopEv E H h l c ts ex (x w)) (fun w => LoopEv E H h l c ts ey (y w)) r := by cases r <;> exact loop_nextC hc hp hn
theorem jr {α : Type} {P : α → Prop} {a r : α} (h : some a = some r) (p : P a) : P r := sj h ▸ p
theorem jc {α : Type} {G : Prop} {c : Bool} {a b : Option α} {r : α} (h : (bif c then a else b) = some r) (f : c = true → a = some r → G) (g : c = false → b = some r → G) : G := cond_some h f g
theorem jn {α : Type} {G : Prop} {c : Bool} {a : Option α} {r : α} (h : (bif c then a else none) = some r) (f : c = true → a = some r → G) : G := cond_some h f fun _ x => nomatch x
theorem jb {α β : Type} {G : Prop} {o : Option α} {f : α → Option β} {r : β} (h : o.bind f = some r) (k : ∀ x, o = some x → f x = some r → G) : G := bind_some h k
theorem js {α β γ : Type} {G : Prop} {x : α ⊕ β} {f : α → Option γ} {g : β → Option γ} {r : γ} (h : Sum.elim f g x = some r) (h1 : ∀ a, x = .inl a → f a = some r → G) (h2 : ∀ b, x = .inr b → g b = some r → G) : G := sum_some h h1 h2
section
variable {h : Hint} {l : List Cond} {c : Bool}
theorem z0 : HA h [] := trivial
theorem zX (x : Cond) (p : x.Holds E H h) (z : HA h l) : HA h (x :: l) := ⟨p, z⟩
theorem zY (x : Cond) (z : HA h l) (p : x.Holds E H h := by first | exact rfl | (unfold Cond.Holds; decide)) : HA h (x :: l) := ⟨p, z⟩
theorem zT (p : c = true) (z : HA h l) : HA h (tt c :: l) := ⟨p, z⟩
theorem zF (p : c = false) (z : HA h l) : HA h (ff c :: l) := ⟨p, z⟩
theorem zi (n : Int) (z : HA h l) : HA h (.int n n :: l) := ⟨rfl, z⟩
theorem zc {f : FuncId} {ds : List AD} {r : Res} (p : Evt E H f ds r) (z : HA h l) : HA h (.call f ds r :: l) := ⟨p, z⟩
theorem zl {f : FuncId} {ds : List AD} {r : Res} (p : Evt E H f ds r) (z : HA h l) (y : leadsAny r = false := by show leadsAny (Res.mk _ _) = _; simp [leadsAny, RV.leads, RC.leads, leadsT, hasSl_lit, flat_ns (eInt_ns _), flat_ns eBool_ns, flat_ns eGEdge_ns, flat_ns eGJob_ns, flat_ns eGMsg_ns]) : HA h (.call f ds r :: ff (leadsAny r) :: l) := ⟨p, y, z⟩
theorem zo {n : Nat} {k : Code} {t u : TS} {e : Ex} (p : LoopEv E H h n k t e u) (z : HA h l) : HA h (.loop n k t e u :: l) := ⟨p, z⟩
theorem zV {m n : Nat} {a b : List T} (p : m = n ∧ a = b) (z : HA h l) : HA h (.sl m a n b :: l) := ⟨p, z⟩
theorem zS {α : Type} {e : α → List T} {m : Nat} (q : ∀ x, (e x).length = m) {t : List α} {i : Int} {x : α} (hx : elAt t i = some x) (n : Nat) (z : HA h l) (hn : n ≤ m := by decide) : HA h (.sub (flat e t) (nidx i m) n ((e x).take n) :: l) := ⟨⟨by rw [List.length_take, q]; omega, sub_flat0 q hx n hn⟩, z⟩
theorem zU {α : Type} {e : α → List T} {m : Nat} (q : ∀ x, (e x).length = m) {t : List α} {i : Int} {x : α} (hx : elAt t i = some x) (o n : Nat) (z : HA h l) (hn : o + n ≤ m := by decide) : HA h (.sub (flat e t) (nadd (nidx i m) o) n (((e x).drop o).take n) :: l) := ⟨⟨by rw [List.length_take, List.length_drop, q]; omega, sub_flat q hx o n hn⟩, z⟩
theorem zt1 (z : HA h l) : HA h (bt :: l) := ⟨br, z⟩
theorem zt2 (z : HA h l) : HA h (bt :: bt :: l) := ⟨br, br, z⟩
theorem zt3 (z : HA h l) : HA h (bt :: bt :: bt :: l) := ⟨br, br, br, z⟩
theorem zt4 (z : HA h l) : HA h (bt :: bt :: bt :: bt :: l) := ⟨br, br, br, br, z⟩
theorem zt5 (z : HA h l) : HA h (bt :: bt :: bt :: bt :: bt :: l) := ⟨br, br, br, br, br, z⟩
theorem zt6 (z : HA h l) : HA h (bt :: bt :: bt :: bt :: bt :: bt :: l) := ⟨br, br, br, br, br, br, z⟩
theorem zk1 (z : HA h l) : HA h (bk false :: l) := ⟨bC rfl, z⟩
theorem zk2 (z : HA h l) : HA h (bk false :: bk false :: l) := ⟨bC rfl, bC rfl, z⟩
theorem zk3 (z : HA h l) : HA h (bk false :: bk false :: bk false :: l) := ⟨bC rfl, bC rfl, bC rfl, z⟩
theorem zk4 (z : HA h l) : HA h (bk false :: bk false :: bk false :: bk false :: l) := ⟨bC rfl, bC rfl, bC rfl, bC rfl, z⟩
theorem zk5 (z : HA h l) : HA h (bk false :: bk false :: bk false :: bk false :: bk false :: l) := ⟨bC rfl, bC rfl, bC rfl, bC rfl, bC rfl, z⟩
theorem zk6 (z : HA h l) : HA h (bk false :: bk false :: bk false :: bk false :: bk false :: bk false :: l) := ⟨bC rfl, bC rfl, bC rfl, bC rfl, bC rfl, bC rfl, z⟩
theorem zr1 (z : HA h l) : HA h (tt true :: l) := ⟨rfl, z⟩
theorem zr2 (z : HA h l) : HA h (tt true :: tt true :: l) := ⟨rfl, rfl, z⟩
theorem zr3 (z : HA h l) : HA h (tt true :: tt true :: tt true :: l) := ⟨rfl, rfl, rfl, z⟩
theorem zr4 (z : HA h l) : HA h (tt true :: tt true :: tt true :: tt true :: l) := ⟨rfl, rfl, rfl, rfl, z⟩
theorem zr5 (z : HA h l) : HA h (tt true :: tt true :: tt true :: tt true :: tt true :: l) := ⟨rfl, rfl, rfl, rfl, rfl, z⟩
theorem zr6 (z : HA h l) : HA h (tt true :: tt true :: tt true :: tt true :: tt true :: tt true :: l) := ⟨rfl, rfl, rfl, rfl, rfl, rfl, z⟩
theorem zf1 (z : HA h l) : HA h (ff false :: l) := ⟨rfl, z⟩
theorem zf2 (z : HA h l) : HA h (ff false :: ff false :: l) := ⟨rfl, rfl, z⟩
theorem zf3 (z : HA h l) : HA h (ff false :: ff false :: ff false :: l) := ⟨rfl, rfl, rfl, z⟩
theorem zf4 (z : HA h l) : HA h (ff false :: ff false :: ff false :: ff false :: l) := ⟨rfl, rfl, rfl, rfl, z⟩
theorem zf5 (z : HA h l) : HA h (ff false :: ff false :: ff false :: ff false :: ff false :: l) := ⟨rfl, rfl, rfl, rfl, rfl, z⟩
theorem zf6 (z : HA h l) : HA h (ff false :: ff false :: ff false :: ff false :: ff false :: ff false :: l) := ⟨rfl, rfl, rfl, rfl, rfl, rfl, z⟩
theorem zn1 (z : HA h l) : HA h (ff (bnot true) :: l) := ⟨bnot_t rfl, z⟩
theorem zn2 (z : HA h l) : HA h (ff (bnot true) :: ff (bnot true) :: l) := ⟨bnot_t rfl, bnot_t rfl, z⟩
theorem zn3 (z : HA h l) : HA h (ff (bnot true) :: ff (bnot true) :: ff (bnot true) :: l) := ⟨bnot_t rfl, bnot_t rfl, bnot_t rfl, z⟩
theorem zn4 (z : HA h l) : HA h (ff (bnot true) :: ff (bnot true) :: ff (bnot true) :: ff (bnot true) :: l) := ⟨bnot_t rfl, bnot_t rfl, bnot_t rfl, bnot_t rfl, z⟩
theorem zn5 (z : HA h l) : HA h (ff (bnot true) :: ff (bnot true) :: ff (bnot true) :: ff (bnot true) :: ff (bnot true) :: l) := ⟨bnot_t rfl, bnot_t rfl, bnot_t rfl, bnot_t rfl, bnot_t rfl, z⟩
theorem zn6 (z : HA h l) : HA h (ff (bnot true) :: ff (bnot true) :: ff (bnot true) :: ff (bnot true) :: ff (bnot true) :: ff (bnot true) :: l) := ⟨bnot_t rfl, bnot_t rfl, bnot_t rfl, bnot_t rfl, bnot_t rfl, bnot_t rfl, z⟩
theorem zA1 (p : c = true) (z : HA h l) : HA h (bf c :: l) := ⟨bA p, z⟩
theorem E4 (p : c = true) (z : HA h l) : HA h (bf c :: tt c :: l) := ⟨bA p, p, z⟩
theorem zA2 (p : c = true) (z : HA h l) : HA h (bf c :: bf c :: l) := ⟨bA p, bA p, z⟩
theorem B5 (p : c = true) (z : HA h l) : HA h (bf c :: bf c :: tt c :: l) := ⟨bA p, bA p, p, z⟩
theorem zA3 (p : c = true) (z : HA h l) : HA h (bf c :: bf c :: bf c :: l) := ⟨bA p, bA p, bA p, z⟩
theorem Ag (p : c = true) (z : HA h l) : HA h (bf c :: bf c :: bf c :: tt c :: l) := ⟨bA p, bA p, bA p, p, z⟩
theorem zA4 (p : c = true) (z : HA h l) : HA h (bf c :: bf c :: bf c :: bf c :: l) := ⟨bA p, bA p, bA p, bA p, z⟩
theorem DF (p : c = true) (z : HA h l) : HA h (bf c :: bf c :: bf c :: bf c :: tt c :: l) := ⟨bA p, bA p, bA p, bA p, p, z⟩
theorem zA5 (p : c = true) (z : HA h l) : HA h (bf c :: bf c :: bf c :: bf c :: bf c :: l) := ⟨bA p, bA p, bA p, bA p, bA p, z⟩
theorem Cn (p : c = true) (z : HA h l) : HA h (bf c :: bf c :: bf c :: bf c :: bf c :: tt c :: l) := ⟨bA p, bA p, bA p, bA p, bA p, p, z⟩
theorem zA6 (p : c = true) (z : HA h l) : HA h (bf c :: bf c :: bf c :: bf c :: bf c :: bf c :: l) := ⟨bA p, bA p, bA p, bA p, bA p, bA p, z⟩
theorem Hz (p : c = true) (z : HA h l) : HA h (bf c :: bf c :: bf c :: bf c :: bf c :: bf c :: tt c :: l) := ⟨bA p, bA p, bA p, bA p, bA p, bA p, p, z⟩
theorem zB1 (p : c = false) (z : HA h l) : HA h (bg c :: l) := ⟨bB p, z⟩
theorem Cg (p : c = false) (z : HA h l) : HA h (bg c :: ff c :: l) := ⟨bB p, p, z⟩
theorem zB2 (p : c = false) (z : HA h l) : HA h (bg c :: bg c :: l) := ⟨bB p, bB p, z⟩
theorem Cv (p : c = false) (z : HA h l) : HA h (bg c :: bg c :: ff c :: l) := ⟨bB p, bB p, p, z⟩
theorem zB3 (p : c = false) (z : HA h l) : HA h (bg c :: bg c :: bg c :: l) := ⟨bB p, bB p, bB p, z⟩
theorem Af (p : c = false) (z : HA h l) : HA h (bg c :: bg c :: bg c :: ff c :: l) := ⟨bB p, bB p, bB p, p, z⟩
theorem zB4 (p : c = false) (z : HA h l) : HA h (bg c :: bg c :: bg c :: bg c :: l) := ⟨bB p, bB p, bB p, bB p, z⟩
theorem Fz (p : c = false) (z : HA h l) : HA h (bg c :: bg c :: bg c :: bg c :: ff c :: l) := ⟨bB p, bB p, bB p, bB p, p, z⟩
theorem zB5 (p : c = false) (z : HA h l) : HA h (bg c :: bg c :: bg c :: bg c :: bg c :: l) := ⟨bB p, bB p, bB p, bB p, bB p, z⟩
theorem CT (p : c = false) (z : HA h l) : HA h (bg c :: bg c :: bg c :: bg c :: bg c :: ff c :: l) := ⟨bB p, bB p, bB p, bB p, bB p, p, z⟩
theorem zB6 (p : c = false) (z : HA h l) : HA h (bg c :: bg c :: bg c :: bg c :: bg c :: bg c :: l) := ⟨bB p, bB p, bB p, bB p, bB p, bB p, z⟩
theorem PA (p : c = false) (z : HA h l) : HA h (bg c :: bg c :: bg c :: bg c :: bg c :: bg c :: ff c :: l) := ⟨bB p, bB p, bB p, bB p, bB p, bB p, p, z⟩
theorem zC1 (p : c = true) (z : HA h l) : HA h (bh c :: l) := ⟨bC p, z⟩
theorem Dc (p : c = true) (z : HA h l) : HA h (bh c :: tt c :: l) := ⟨bC p, p, z⟩
theorem zC2 (p : c = true) (z : HA h l) : HA h (bh c :: bh c :: l) := ⟨bC p, bC p, z⟩
theorem IU (p : c = true) (z : HA h l) : HA h (bh c :: bh c :: tt c :: l) := ⟨bC p, bC p, p, z⟩
theorem zC3 (p : c = true) (z : HA h l) : HA h (bh c :: bh c :: bh c :: l) := ⟨bC p, bC p, bC p, z⟩
theorem DX (p : c = true) (z : HA h l) : HA h (bh c :: bh c :: bh c :: tt c :: l) := ⟨bC p, bC p, bC p, p, z⟩
theorem zC4 (p : c = true) (z : HA h l) : HA h (bh c :: bh c :: bh c :: bh c :: l) := ⟨bC p, bC p, bC p, bC p, z⟩
theorem Gh (p : c = true) (z : HA h l) : HA h (bh c :: bh c :: bh c :: bh c :: tt c :: l) := ⟨bC p, bC p, bC p, bC p, p, z⟩
theorem zC5 (p : c = true) (z : HA h l) : HA h (bh c :: bh c :: bh c :: bh c :: bh c :: l) := ⟨bC p, bC p, bC p, bC p, bC p, z⟩
theorem Mk (p : c = true) (z : HA h l) : HA h (bh c :: bh c :: bh c :: bh c :: bh c :: tt c :: l) := ⟨bC p, bC p, bC p, bC p, bC p, p, z⟩
theorem zC6 (p : c = true) (z : HA h l) : HA h (bh c :: bh c :: bh c :: bh c :: bh c :: bh c :: l) := ⟨bC p, bC p, bC p, bC p, bC p, bC p, z⟩
theorem Hq (p : c = true) (z : HA h l) : HA h (bh c :: bh c :: bh c :: bh c :: bh c :: bh c :: tt c :: l) := ⟨bC p, bC p, bC p, bC p, bC p, bC p, p, z⟩
theorem zD1 (p : c = false) (z : HA h l) : HA h (bk c :: l) := ⟨bC p, z⟩
theorem IF (p : c = false) (z : HA h l) : HA h (bk c :: ff c :: l) := ⟨bC p, p, z⟩
theorem zD2 (p : c = false) (z : HA h l) : HA h (bk c :: bk c :: l) := ⟨bC p, bC p, z⟩
theorem H4 (p : c = false) (z : HA h l) : HA h (bk c :: bk c :: ff c :: l) := ⟨bC p, bC p, p, z⟩
theorem zD3 (p : c = false) (z : HA h l) : HA h (bk c :: bk c :: bk c :: l) := ⟨bC p, bC p, bC p, z⟩
theorem CO (p : c = false) (z : HA h l) : HA h (bk c :: bk c :: bk c :: ff c :: l) := ⟨bC p, bC p, bC p, p, z⟩
theorem zD4 (p : c = false) (z : HA h l) : HA h (bk c :: bk c :: bk c :: bk c :: l) := ⟨bC p, bC p, bC p, bC p, z⟩
theorem Et (p : c = false) (z : HA h l) : HA h (bk c :: bk c :: bk c :: bk c :: ff c :: l) := ⟨bC p, bC p, bC p, bC p, p, z⟩
theorem zD5 (p : c = false) (z : HA h l) : HA h (bk c :: bk c :: bk c :: bk c :: bk c :: l) := ⟨bC p, bC p, bC p, bC p, bC p, z⟩
theorem Au (p : c = false) (z : HA h l) : HA h (bk c :: bk c :: bk c :: bk c :: bk c :: ff c :: l) := ⟨bC p, bC p, bC p, bC p, bC p, p, z⟩
theorem zD6 (p : c = false) (z : HA h l) : HA h (bk c :: bk c :: bk c :: bk c :: bk c :: bk c :: l) := ⟨bC p, bC p, bC p, bC p, bC p, bC p, z⟩
theorem Fc (p : c = false) (z : HA h l) : HA h (bk c :: bk c :: bk c :: bk c :: bk c :: bk c :: ff c :: l) := ⟨bC p, bC p, bC p, bC p, bC p, bC p, p, z⟩
end
abbrev b0 (k : Nat) (x : GWorker) (r : List (Nat × Ent)) : List (Nat × Ent) := sq k [(uX 38 11), (uI x.Id), (uI x.Goal), (uI x.Until), (uI x.T.Epoch), (uS e6 x.T.Owners), (uS e6 x.T.Ids), (uS e6 x.T.Incs), (uO 69 eGHeld x.Held), (uO 112 eGData x.Buf), (uO 113 eGComing x.Coming), (uO 86 eGPost x.Out)] r
abbrev b1 (k : Nat) (x : GGraph) (r : List (Nat × Ent)) : List (Nat × Ent) := sq k [(uX 24 2), (uI x.N), (uS eGEdge x.Edges)] r
abbrev b2 (k : Nat) (x : GJob) (r : List (Nat × Ent)) : List (Nat × Ent) := sq k [(uX 26 4), (uI x.Prog), (uI x.Source), (uI x.Limit), (uI x.Parts)] r
abbrev b4 (k : Nat) (r : List (Nat × Ent)) : List (Nat × Ent) := sq k [(uX 45 5), (uI 0), (uI 0), (uN 2), (uN 4), (uN 78)] r
abbrev b5 (k : Nat) (x : GMail) (r : List (Nat × Ent)) : List (Nat × Ent) := sq k [(uX 47 17), (uI x.Kind), (uI x.Epoch), (uI x.Fresh), (uI x.Step), (uI x.P), (uI x.Q), (uI x.To), (uI x.E), (uS e6 x.Owners), (uS e6 x.Ids), (uS e6 x.Incs), (uI x.X.P), (uI x.X.Step), (uS e6 x.X.Vals), (uS eBool x.X.Rest), (uS eGMsg x.X.In), (uS eGMsg x.Msgs)] r
abbrev b7 (k : Nat) (x : GPart) (r : List (Nat × Ent)) : List (Nat × Ent) := sq k [(uX 45 5), (uI x.P), (uI x.Step), (uS e6 x.Vals), (uS eBool x.Rest), (uS eGMsg x.In)] r
abbrev b10 (k : Nat) (x : GTable) (r : List (Nat × Ent)) : List (Nat × Ent) := sq k [(uX 32 4), (uI x.Epoch), (uS e6 x.Owners), (uS e6 x.Ids), (uS e6 x.Incs)] r
abbrev b11 (k : Nat) (r : List (Nat × Ent)) : List (Nat × Ent) := sq k [(uX 38 11), (uI 0), (uI 0), (uI 0), (uI 0), (uN 3), (uN 3), (uN 3), (uN 69), (uN 112), (uN 113), (uN 86)] r
abbrev wl0 (x : GWorker) : List RC := [(mI x.Id), (mI x.Goal), (mI x.Until), (mI x.T.Epoch), (mS e6 x.T.Owners), (mS e6 x.T.Ids), (mS e6 x.T.Incs), (.own 69 (sE eGHeld x.Held)), (.own 112 (sE eGData x.Buf)), (.own 113 (sE eGComing x.Coming)), (.own 86 (sE eGPost x.Out))]
theorem CC {α : Type} (l : List α) : nlen (len l) = (l.length : Int) := rfl
theorem BD {α : Type} (l : List α) (i : Nat) : elAt l (i : Int) = l[i]? := by simp [elAt]
theorem He {a b : Int} (h1 : -9223372036854775808 ≤ a + b) (h2 : a + b < 9223372036854775808) : wadd .i64 a b = a + b := by
 show IntKind.i64.wrap (a + b) = a + b
 rw [IntKind.wrap_i64]
 omega
theorem FS {i : Nat} (h : i < 4611686018427387904) : wadd .i64 (i : Int) 1 = ((i + 1 : Nat) : Int) := by
 rw [He om om]; simp
theorem F5 {α : Type} (l : List α) (i : Nat) :
 (∃ x, l.drop i = x :: l.drop (i + 1) ∧ ilt (i : Int) (nlen (len l)) = true ∧ inr (i : Int) (len l) = true ∧ elAt l (i : Int) = some x) ∨
 (l.drop i = [] ∧ ilt (i : Int) (nlen (len l)) = false) := by
 by_cases h : i < l.length
 · left
   refine ⟨l[i], List.drop_eq_getElem_cons h, ?_, ?_, ?_⟩
   · simp [ilt, nlen, len]; omega
   · simp [inr, len]; omega
   · rw [BD]; simp [h]
 · right
   refine ⟨List.drop_eq_nil_of_le om, ?_⟩
   simp [ilt, nlen, len]; omega
def hn9 : Hint := { H 9 with nt := 7, prot := 0, kp := 0 }
def MF (r6 : Bool) : Res := ⟨[(.one (mB r6))], []⟩
def F9 (K : Nat) (a5 : GGraph) : Option (Bool) :=
 some (igt (nlen (len a5.Edges)) 200)
theorem H8 (K : Nat) (a5 : GGraph) (r : Bool) (F : F9 K a5 = some r) : Evt E H 9 [.agg (eGGraph a5)] (MF r) := by
 rw [F9] at F
 apply jr F
 exact fpC hn9 <| zi (nl a5.Edges) <| z0
def OX : Hint := { H 11 with nt := 5, prot := 0, kp := 0 }
def Ku (r11 : GWorker) : Res := ⟨[(.agg [(mI r11.Id), (mI r11.Goal), (mI r11.Until), (mI r11.T.Epoch), (.own 3 (sE e6 r11.T.Owners)), (.own 3 (sE e6 r11.T.Ids)), (.own 3 (sE e6 r11.T.Incs)), (.own 69 (sE eGHeld r11.Held)), (.own 112 (sE eGData r11.Buf)), (.own 113 (sE eGComing r11.Coming)), (.own 86 (sE eGPost r11.Out))])], []⟩
def F11 (K : Nat) (a10 : Int) : Option (GWorker) :=
 some (GWorker.mk a10 (-1) 0 (GTable.mk 0 [] [] []) [] [] [] [])
theorem Pf (K : Nat) (a10 : Int) (r : GWorker) (F : F11 K a10 = some r) : Evt E H 11 [.one (i6 a10)] (Ku r) := by
 rw [F11] at F
 apply jr F
 exact fpC OX <| z0
def GN : Hint := { H 12 with nt := 48, prot := 0, kp := 0 }
def O6 : Code := loopOf E 12 0
def K7 (r41 : Int) : Res := ⟨[(.one (mI r41))], []⟩
def DI (K : Nat)  : Nat → Int → List Int → Int → Option (Int)
 | 0, _, _, _ => none
 | k + 1, v26, v27, v28 =>
  bif (ilt v28 (nlen (len v27))) then
   (bif (inr v28 (len v27)) then
   (elAt v27 v28).bind fun x31 =>
   bif (ilt v26 x31) then
    (DI K  k x31 v27 (wadd .i64 v28 1))
   else
   DI K  k v26 v27 (wadd .i64 v28 1)
   else none)
  else
  some v26
def Kz  (v26 : Int) (v27 : List Int) (v28 : Int) : TS := .on (kq 192 2 <| kq 256 2 <| kq 320 2 <| []) <| sq 192 [u0, (uI v26)] <| sq 256 [u0, (uO 3 e6 v27)] <| sq 320 [u0, (uI v28)] []
def O7  (w34 : Int) : TS := .on (kq 192 2 <| []) <| sq 192 [u0, (uI w34)] []
theorem Pm (K : Nat)  : ∀ (k : Nat) (v26 : Int) (v27 : List Int) (v28 : Int) (r : Int), DI K  k v26 v27 v28 = some r → LoopEv E H GN 0 O6 (Kz  v26 v27 v28) (.exit 0) (O7  r) := by
 intro k
 induction k with
 | zero => intro v26 v27 v28 r F; cases F
 | succ k ih =>
  intro v26 v27 v28 r F
  rw [DI] at F
  apply jc F <;> intro h29 F
  apply jn F; intro h30 F
  apply jb F; intro x31 h32 F
  have pq36 {l} (z : HA GN l) := zi (nl v27) <| zT h29 <| zT h30 <| zX (.sub (flat e6 v27) (nidx v28 1) 1 [(i6 x31)]) ⟨rfl, sub_flat0 (eInt_len _) h32 1 (by decide)⟩ <| z
  apply jc F <;> intro h33 F
  exact lN1 (pq36 <| zT (igt_eq h33) <| zT h30 <| zX (.sub (flat e6 v27) (nidx v28 1) 1 [(i6 x31)]) ⟨rfl, sub_flat0 (eInt_len _) h32 1 (by decide)⟩ <| zi (wadd .i64 v28 1) <| z0) (ih _ _ _ _ F)
  exact lN1 (pq36 <| zF (igt_eq h33) <| zi (wadd .i64 v28 1) <| z0) (ih _ _ _ _ F)
  apply jr F
  exact lE <| zi (nl v27) <| zF h29 <| z0
def F12 (K : Nat) (a18 : GMail) : Option (Int) :=
 (DI K  K (nlen (len a18.Owners)) [(nlen (len a18.Ids)), (nlen (len a18.Incs)), (nlen (len a18.X.Vals)), (nlen (len a18.X.Rest)), (nlen (len a18.X.In)), (nlen (len a18.Msgs))] 0).bind fun w39 =>
 some w39
theorem O4 (K : Nat) (a18 : GMail) (r : Int) (F : F12 K a18 = some r) : Evt E H 12 [.agg (eGMail a18)] (K7 r) := by
 rw [F12] at F
 apply jb F; intro w39 h37 F
 apply jr F
 exact fpC GN <| zi (nl a18.Owners) <| zi (nl a18.Ids) <| zi (nl a18.Incs) <| zi (nl a18.X.Vals) <| zi (nl a18.X.Rest) <| zi (nl a18.X.In) <| zi (nl a18.Msgs) <| zo (Pm K  K (nl a18.Owners) [(nl a18.Ids), (nl a18.Incs), (nl a18.X.Vals), (nl a18.X.Rest), (nl a18.X.In), (nl a18.Msgs)] 0 _ h37) <| z0
def Pv : Hint := { H 30 with nt := 24, prot := 0, kp := 0 }
def LF (r59 : GWorker) : Res := ⟨[(.agg (wl0 r59))], []⟩
def F30 (K : Nat) (a54 : GWorker) : Option (GWorker) :=
 bif (apok 0 (len a54.Held) 96) then
 bif (apok 0 (len a54.Buf) 56) then
 bif (apok 0 (len a54.Coming) 96) then
 bif (apok 0 (len a54.Out) 264) then
 some (GWorker.mk a54.Id a54.Goal a54.Until a54.T (appL [] a54.Held) (appL [] a54.Buf) (appL [] a54.Coming) (appL [] a54.Out))
 else none
 else none
 else none
 else none
theorem FX (K : Nat) (a54 : GWorker) (r : GWorker) (F : F30 K a54 = some r) : Evt E H 30 [.agg (eGWorker a54)] (LF r) := by
 rw [F30] at F
 apply jn F; intro h55 F
 apply jn F; intro h56 F
 apply jn F; intro h57 F
 apply jn F; intro h58 F
 apply jr F
 exact fpC Pv <| zX (tt (leqm (flat eGHeld a54.Held) (len a54.Held) 7)) (leqm_flat eGHeld_len _) <| zT h55 <| zV (app_ok (enc := eGHeld) ([] : List GHeld) a54.Held) <| zX (tt (leqm (flat eGData a54.Buf) (len a54.Buf) 5)) (leqm_flat eGData_len _) <| zT h56 <| zV (app_ok (enc := eGData) ([] : List GData) a54.Buf) <| zX (tt (leqm (flat eGComing a54.Coming) (len a54.Coming) 6)) (leqm_flat eGComing_len _) <| zT h57 <| zV (app_ok (enc := eGComing) ([] : List GComing) a54.Coming) <| zX (tt (leqm (flat eGPost a54.Out) (len a54.Out) 19)) (leqm_flat eGPost_len _) <| zT h58 <| zV (app_ok (enc := eGPost) ([] : List GPost) a54.Out) <| z0
def Cw : Hint := { H 79 with nt := 35, prot := 0, kp := 0 }
def ON (r84 : Int) : Res := ⟨[(.one (mI r84))], []⟩
def F79 (K : Nat) (a72 : GEdge) (a73 : Int) : Option (Int) :=
 bif (ilt a72.From 0) then
  (some 4)
 else
 bif (ile a73 a72.From) then
  (some 4)
 else
 bif (ilt a72.To 0) then
  (some 4)
 else
 bif (ile a73 a72.To) then
  (some 4)
 else
 bif (ilt a72.W 0) then
  (some 1)
 else
 bif (ilt 4611686018427387904 a72.W) then
  (some 1)
 else
 some 0
theorem LH (K : Nat) (a72 : GEdge) (a73 : Int) (r : Int) (F : F79 K a72 a73 = some r) : Evt E H 79 [.agg (eGEdge a72), .one (i6 a73)] (ON r) := by
 rw [F79] at F
 apply jc F <;> intro h74 F
 apply jr F
 exact fpC Cw <| DF h74 <| zt3 <| zr1 <| zt4 <| zr2 <| z0
 have pq80 {l} (z : HA Cw l) := Fz h74 <| z
 apply jc F <;> intro h75 F
 apply jr F
 exact fpC Cw <| pq80 <| Ag (ige_eq h75) <| zt4 <| zr2 <| z0
 have pq81 {l} (z : HA Cw l) := Af (ige_eq h75) <| z
 apply jc F <;> intro h76 F
 apply jr F
 exact fpC Cw <| pq80 <| pq81 <| DF h76 <| zr1 <| z0
 have pq82 {l} (z : HA Cw l) := Fz h76 <| z
 apply jc F <;> intro h77 F
 apply jr F
 exact fpC Cw <| pq80 <| pq81 <| pq82 <| zT (ige_eq h77) <| z0
 apply jc F <;> intro h78 F
 apply jr F
 exact fpC Cw <| pq80 <| pq81 <| pq82 <| zF (ige_eq h77) <| Ag h78 <| zr1 <| z0
 have pq83 {l} (z : HA Cw l) := zF (ige_eq h77) <| Af h78 <| z
 apply jc F <;> intro h79 F
 apply jr F
 exact fpC Cw <| pq80 <| pq81 <| pq82 <| pq83 <| zT (igt_eq h79) <| z0
 apply jr F
 exact fpC Cw <| pq80 <| pq81 <| pq82 <| pq83 <| zF (igt_eq h79) <| z0
def HP : Hint := { H 80 with nt := 20, prot := 0, kp := 0 }
def Pl (r1 : Int) : Res := ⟨[(.one (mI r1))], []⟩
def F80 (K : Nat) (a1 : GEdge) (a2 : GEdge) : Option (Int) :=
 bif (ieq a1.From a2.From) then
  (some (wsub .i64 a1.To a2.To))
 else
 some (wsub .i64 a1.From a2.From)
theorem Oa (K : Nat) (a1 : GEdge) (a2 : GEdge) (r : Int) (F : F80 K a1 a2 = some r) : Evt E H 80 [.agg (eGEdge a1), .agg (eGEdge a2)] (Pl r) := by
 rw [F80] at F
 apply jc F <;> intro h3 F
 apply jr F
 exact fpC HP <| zF (ine_t h3) <| zi (wsub .i64 a1.To a2.To) <| z0
 apply jr F
 exact fpC HP <| zT (ine_f h3) <| zi (wsub .i64 a1.From a2.From) <| z0
def CE : Hint := { H 56 with nt := 51, prot := 0, kp := 0 }
def HL : Code := loopOf E 56 0
def JX (r1 : Int) : Res := ⟨[(.one (mI r1))], []⟩
def DK (K : Nat) (a64 : GGraph) : Nat → Int → Option ((Int) ⊕ (Unit))
 | 0, _ => none
 | k + 1, v88 =>
  bif (ilt v88 (nlen (len a64.Edges))) then
   (bif (inr v88 (len a64.Edges)) then
   (elAt a64.Edges v88).bind fun x91 =>
   (F79 K x91 a64.N).bind fun r93 =>
   bif (ieq r93 0) then
    (bif (ieq v88 0) then
     (DK K a64 k (wadd .i64 v88 1))
    else
    bif (inr (wsub .i64 v88 1) (len a64.Edges)) then
    (elAt a64.Edges (wsub .i64 v88 1)).bind fun x98 =>
    (F80 K x98 x91).bind fun r1 =>
    bif (ieq r1 0) then
     (some (.inl 5))
    else
    bif (ilt 0 r1) then
     (some (.inl 6))
    else
    DK K a64 k (wadd .i64 v88 1)
    else none)
   else
   some (.inl r93)
   else none)
  else
  some (.inr ())
def Jb (a64 : GGraph) (v88 : Int) : TS := .on (kq 64 3 <| kq 1216 1 <| kq 1280 2 <| kq 1344 2 <| kq 1408 2 <| []) <| b1 64 a64 <| sq 1216 [⟨(.ad 1 0 1), 0, nob⟩] <| sq 1280 [u0, (uS eGEdge a64.Edges)] <| sq 1344 [u0, (uI (nlen (len a64.Edges)))] <| sq 1408 [u0, (uI v88)] []
def JF (a64 : GGraph) (w1 : Int) : TS := .on (kq 128 2 <| []) <| sq 128 [u0, (uI w1)] []
def OT (a64 : GGraph) (w1 : Unit) : TS := .on [] []
theorem Jc (K : Nat) (a64 : GGraph) : ∀ (k : Nat) (v88 : Int) (r : (Int) ⊕ (Unit)), DK K a64 k v88 = some r → (Sum.elim (fun w => LoopEv E H CE 0 HL (Jb a64 v88) .ret (JF a64 w)) (fun w => LoopEv E H CE 0 HL (Jb a64 v88) (.exit 0) (OT a64 w))) r := by
 intro k
 induction k with
 | zero => intro v88 r F; cases F
 | succ k ih =>
  intro v88 r F
  rw [DK] at F
  apply jc F <;> intro h89 F
  apply jn F; intro h90 F
  apply jb F; intro x91 h92 F
  apply jb F; intro r93 h94 F
  have q5 {l} (z : HA CE l) := zT h89 <| zT h90 <| zS eGEdge_len h92 3 <| zl (LH K x91 a64.N _ h94) <| z
  apply jc F <;> intro h95 F
  apply jc F <;> intro h96 F
  exact lN2 (q5 <| zF (ine_t h95) <| zT h96 <| zi (wadd .i64 v88 1) <| z0) (ih _ _ F)
  apply jn F; intro h97 F
  apply jb F; intro x98 h99 F
  apply jb F; intro r1 h2 F
  have q6 {l} (z : HA CE l) := zF (ine_t h95) <| zF h96 <| zi (wsub .i64 v88 1) <| zT h97 <| zS eGEdge_len h99 3 <| zl (Oa K x98 x91 _ h2) <| z
  apply jc F <;> intro h3 F
  apply jr F
  exact lE <| q5 <| q6 <| zT h3 <| z0
  apply jc F <;> intro h4 F
  apply jr F
  exact lE <| q5 <| q6 <| zF h3 <| zT (igt_eq h4) <| z0
  exact lN2 (q5 <| q6 <| zF h3 <| zF (igt_eq h4) <| zi (wadd .i64 v88 1) <| z0) (ih _ _ F)
  apply jr F
  exact lE <| q5 <| zT (ine_f h95) <| z0
  apply jr F
  exact lE <| zF h89 <| z0
def F56 (K : Nat) (a64 : GGraph) : Option (Int) :=
 bif (ilt a64.N 1) then
  (some 1)
 else
 bif (ilt 24 a64.N) then
  (some 1)
 else
 bif (ilt 80 (nlen (len a64.Edges))) then
  (some 3)
 else
 (DK K a64 K 0).bind fun y1 =>
 Sum.elim (fun w2 =>
  some w2)
  (fun w3 =>
  some 0) y1
theorem Fv (K : Nat) (a64 : GGraph) (r : Int) (F : F56 K a64 = some r) : Evt E H 56 [.agg (eGGraph a64)] (JX r) := by
 rw [F56] at F
 apply jc F <;> intro h65 F
 apply jr F
 exact fpC CE <| Ag h65 <| zr1 <| z0
 have q5 {l} (z : HA CE l) := Af h65 <| z
 apply jc F <;> intro h66 F
 apply jr F
 exact fpC CE <| q5 <| zT (igt_eq h66) <| z0
 apply jc F <;> intro h67 F
 apply jr F
 exact fpC CE <| q5 <| zF (igt_eq h66) <| zi (nl a64.Edges) <| zT (igt_eq h67) <| z0
 have q6 {l} (z : HA CE l) := zF (igt_eq h66) <| zi (nl a64.Edges) <| zF (igt_eq h67) <| zi (nl a64.Edges) <| z
 apply jb F; intro y2 h1 F
 refine js F (fun w3 hx F => ?_) fun w4 hx F => ?_
 subst hx
 apply jr F
 exact fpC CE <| q5 <| q6 <| zo (Jc K a64 K 0 _ h1) <| z0
 subst hx
 apply jr F
 exact fpC CE <| q5 <| q6 <| zo (Jc K a64 K 0 _ h1) <| z0
def DQ : Hint := { H 57 with nt := 21, prot := 0, kp := 0 }
def B1 (r1 : Grule × Bool) : Res := ⟨[(.agg [(.im (.lit r1.1.start_)), (.im (.lit r1.1.better_)), (mB r1.1.only_), (.im (.lit r1.1.send_))]), (.one (mB r1.2))], []⟩
def Pa (r1 : Grule × Bool) : Res := ⟨[(.agg [(.im (.lit (fnV 81))), (.im (.lit (fnV 82))), (mB r1.1.only_), (.im (.lit (fnV 83)))]), (.one (mB r1.2))], []⟩
def LC (r1 : Grule × Bool) : Res := ⟨[(.agg [(.im (.lit (fnV 81))), (.im (.lit (fnV 82))), (mB r1.1.only_), (.im (.lit (fnV 85)))]), (.one (mB r1.2))], []⟩
def Ln (r1 : Grule × Bool) : Res := ⟨[(.agg [(.im (.lit (fnV 86))), (.im (.lit (fnV 82))), (mB r1.1.only_), (.im (.lit (fnV 87)))]), (.one (mB r1.2))], []⟩
def MY (r1 : Grule × Bool) : Res := ⟨[(.agg [(.im (.lit (fnV 88))), (.im (.lit (fnV 89))), (mB r1.1.only_), (.im (.lit (fnV 87)))]), (.one (mB r1.2))], []⟩
def NC (r1 : Grule × Bool) : Res := ⟨[(.agg [(.im (.lit (fnV 90))), (.im (.lit .nilFunc)), (mB r1.1.only_), (.im (.lit (fnV 87)))]), (.one (mB r1.2))], []⟩
def MO (r1 : Grule × Bool) : Res := ⟨[(.agg [(.im (.lit .nilFunc)), (.im (.lit .nilFunc)), (mB r1.1.only_), (.im (.lit .nilFunc))]), (.one (mB r1.2))], []⟩
def F57 (K : Nat) (a1 : Int) : Option (Grule × Bool) :=
 bif (ieq a1 1) then
  (some ((Grule.mk (fnV 81) (fnV 82) true (fnV 83)), true))
 else
 bif (ieq a1 3) then
  (some ((Grule.mk (fnV 81) (fnV 82) true (fnV 85)), true))
 else
 bif (ieq a1 2) then
  (some ((Grule.mk (fnV 86) (fnV 82) false (fnV 87)), true))
 else
 bif (ieq a1 4) then
  (some ((Grule.mk (fnV 88) (fnV 89) false (fnV 87)), true))
 else
 bif (ieq a1 5) then
  (some ((Grule.mk (fnV 90) .nilFunc false (fnV 87)), true))
 else
 some ((Grule.mk .nilFunc .nilFunc false .nilFunc), false)
theorem Aj (K : Nat) (a1 : Int) (r : Grule × Bool) (F : F57 K a1 = some r) : Evt E H 57 [.one (i6 a1)] (B1 r) := by
 rw [F57] at F
 apply jc F <;> intro h2 F
 apply jr F
 exact fpC DQ <| zT h2 <| z0
 apply jc F <;> intro h3 F
 apply jr F
 exact fpC DQ <| zF h2 <| zT h3 <| z0
 apply jc F <;> intro h4 F
 apply jr F
 exact fpC DQ <| zF h2 <| zF h3 <| zT h4 <| z0
 have q7 {l} (z : HA DQ l) := zF h2 <| zF h3 <| zF h4 <| z
 apply jc F <;> intro h5 F
 apply jr F
 exact fpC DQ <| q7 <| zT h5 <| z0
 apply jc F <;> intro h6 F
 apply jr F
 exact fpC DQ <| q7 <| zF h5 <| zT h6 <| z0
 apply jr F
 exact fpC DQ <| q7 <| zF h5 <| zF h6 <| z0
theorem Ef {ads : List AD} (r3 : Grule × Bool) (e : areFns [r3.1.start_, r3.1.better_, r3.1.send_] [81, 82, 83] = true) (h : Evt E H 57 ads (B1 r3)) : Evt E H 57 ads (Pa r3) := by
 obtain ⟨q0, e⟩ := areFns_cons e
 obtain ⟨q1, e⟩ := areFns_cons e
 obtain ⟨q2, e⟩ := areFns_cons e
 unfold B1 at h
 rw [q0, q1, q2] at h
 exact h
theorem D8 {ads : List AD} (r3 : Grule × Bool) (e : areFns [r3.1.start_, r3.1.better_, r3.1.send_] [81, 82, 85] = true) (h : Evt E H 57 ads (B1 r3)) : Evt E H 57 ads (LC r3) := by
 obtain ⟨q0, e⟩ := areFns_cons e
 obtain ⟨q1, e⟩ := areFns_cons e
 obtain ⟨q2, e⟩ := areFns_cons e
 unfold B1 at h
 rw [q0, q1, q2] at h
 exact h
theorem Em {ads : List AD} (r3 : Grule × Bool) (e : areFns [r3.1.start_, r3.1.better_, r3.1.send_] [86, 82, 87] = true) (h : Evt E H 57 ads (B1 r3)) : Evt E H 57 ads (Ln r3) := by
 obtain ⟨q0, e⟩ := areFns_cons e
 obtain ⟨q1, e⟩ := areFns_cons e
 obtain ⟨q2, e⟩ := areFns_cons e
 unfold B1 at h
 rw [q0, q1, q2] at h
 exact h
theorem Ec {ads : List AD} (r3 : Grule × Bool) (e : areFns [r3.1.start_, r3.1.better_, r3.1.send_] [88, 89, 87] = true) (h : Evt E H 57 ads (B1 r3)) : Evt E H 57 ads (MY r3) := by
 obtain ⟨q0, e⟩ := areFns_cons e
 obtain ⟨q1, e⟩ := areFns_cons e
 obtain ⟨q2, e⟩ := areFns_cons e
 unfold B1 at h
 rw [q0, q1, q2] at h
 exact h
theorem Ey {ads : List AD} (r3 : Grule × Bool) (e : areFns [r3.1.start_, r3.1.better_, r3.1.send_] [90, 0, 87] = true) (h : Evt E H 57 ads (B1 r3)) : Evt E H 57 ads (NC r3) := by
 obtain ⟨q0, e⟩ := areFns_cons e
 obtain ⟨q1, e⟩ := areFns_cons e
 obtain ⟨q2, e⟩ := areFns_cons e
 unfold B1 at h
 rw [q0, q1, q2] at h
 exact h
theorem EB {ads : List AD} (r3 : Grule × Bool) (e : areFns [r3.1.start_, r3.1.better_, r3.1.send_] [0, 0, 0] = true) (h : Evt E H 57 ads (B1 r3)) : Evt E H 57 ads (MO r3) := by
 obtain ⟨q0, e⟩ := areFns_cons e
 obtain ⟨q1, e⟩ := areFns_cons e
 obtain ⟨q2, e⟩ := areFns_cons e
 unfold B1 at h
 rw [q0, q1, q2] at h
 exact h
def Ab : Hint := { H 31 with nt := 53, prot := 0, kp := 0 }
def KA (r1 : Int) : Res := ⟨[(.one (mI r1))], []⟩
def F31 (K : Nat) (a62 : GGraph) (a63 : GJob) : Option (Int) :=
 (F56 K a62).bind fun r1 =>
 bif (ieq r1 0) then
  ((F57 K a63.Prog).bind fun r2 =>
  bif (areFns [r2.1.start_, r2.1.better_, r2.1.send_] [81, 82, 83]) then
   (bif r2.2 then
    (bif (ilt a63.Source 0) then
     (some 1)
    else
    bif (ile a62.N a63.Source) then
     (some 1)
    else
    bif (ilt a63.Limit 0) then
     (some 1)
    else
    bif (ilt 40 a63.Limit) then
     (some 1)
    else
    bif (ilt a63.Parts 1) then
     (some 1)
    else
    bif (ilt 6 a63.Parts) then
     (some 1)
    else
    some 0)
   else
   some 1)
  else
  bif (areFns [r2.1.start_, r2.1.better_, r2.1.send_] [81, 82, 85]) then
   (bif r2.2 then
    (bif (ilt a63.Source 0) then
     (some 1)
    else
    bif (ile a62.N a63.Source) then
     (some 1)
    else
    bif (ilt a63.Limit 0) then
     (some 1)
    else
    bif (ilt 40 a63.Limit) then
     (some 1)
    else
    bif (ilt a63.Parts 1) then
     (some 1)
    else
    bif (ilt 6 a63.Parts) then
     (some 1)
    else
    some 0)
   else
   some 1)
  else
  bif (areFns [r2.1.start_, r2.1.better_, r2.1.send_] [86, 82, 87]) then
   (bif r2.2 then
    (bif (ilt a63.Source 0) then
     (some 1)
    else
    bif (ile a62.N a63.Source) then
     (some 1)
    else
    bif (ilt a63.Limit 0) then
     (some 1)
    else
    bif (ilt 40 a63.Limit) then
     (some 1)
    else
    bif (ilt a63.Parts 1) then
     (some 1)
    else
    bif (ilt 6 a63.Parts) then
     (some 1)
    else
    some 0)
   else
   some 1)
  else
  bif (areFns [r2.1.start_, r2.1.better_, r2.1.send_] [88, 89, 87]) then
   (bif r2.2 then
    (bif (ilt a63.Source 0) then
     (some 1)
    else
    bif (ile a62.N a63.Source) then
     (some 1)
    else
    bif (ilt a63.Limit 0) then
     (some 1)
    else
    bif (ilt 40 a63.Limit) then
     (some 1)
    else
    bif (ilt a63.Parts 1) then
     (some 1)
    else
    bif (ilt 6 a63.Parts) then
     (some 1)
    else
    some 0)
   else
   some 1)
  else
  bif (areFns [r2.1.start_, r2.1.better_, r2.1.send_] [90, 0, 87]) then
   (bif r2.2 then
    (bif (ilt a63.Source 0) then
     (some 1)
    else
    bif (ile a62.N a63.Source) then
     (some 1)
    else
    bif (ilt a63.Limit 0) then
     (some 1)
    else
    bif (ilt 40 a63.Limit) then
     (some 1)
    else
    bif (ilt a63.Parts 1) then
     (some 1)
    else
    bif (ilt 6 a63.Parts) then
     (some 1)
    else
    some 0)
   else
   some 1)
  else
  bif (areFns [r2.1.start_, r2.1.better_, r2.1.send_] [0, 0, 0]) then
  bif r2.2 then
   (bif (ilt a63.Source 0) then
    (some 1)
   else
   bif (ile a62.N a63.Source) then
    (some 1)
   else
   bif (ilt a63.Limit 0) then
    (some 1)
   else
   bif (ilt 40 a63.Limit) then
    (some 1)
   else
   bif (ilt a63.Parts 1) then
    (some 1)
   else
   bif (ilt 6 a63.Parts) then
    (some 1)
   else
   some 0)
  else
  some 1
  else none)
 else
 some r1
theorem B4 (K : Nat) (a62 : GGraph) (a63 : GJob) (r : Int) (F : F31 K a62 a63 = some r) : Evt E H 31 [.agg (eGGraph a62), .agg (eGJob a63)] (KA r) := by
 rw [F31] at F
 apply jb F; intro r1 h2 F
 apply jc F <;> intro h3 F
 apply jb F; intro r4 h5 F
 have q54 {l} (z : HA Ab l) := zl (Fv K a62 _ h2) <| zF (ine_t h3) <| z
 apply jc F <;> intro h6 F
 apply jc F <;> intro h7 F
 have q55 {l} (z : HA Ab l) := zl (Ef _ h6 (Aj K a63.Prog _ h5)) <| Af (bnot_t h7) <| z
 apply jc F <;> intro h8 F
 apply jr F
 exact fpC Ab <| q54 <| q55 <| Cn h8 <| zt3 <| zr1 <| zt3 <| zr1 <| zt3 <| zr1 <| zt3 <| zr2 <| z0
 have q56 {l} (z : HA Ab l) := CT h8 <| z
 apply jc F <;> intro h9 F
 apply jr F
 exact fpC Ab <| q54 <| q55 <| q56 <| Ag (ige_eq h9) <| zt3 <| zr1 <| zt3 <| zr1 <| zt3 <| zr2 <| z0
 have q57 {l} (z : HA Ab l) := Af (ige_eq h9) <| z
 apply jc F <;> intro h10 F
 apply jr F
 exact fpC Ab <| q54 <| q55 <| q56 <| q57 <| Ag h10 <| zt3 <| zr1 <| zt3 <| zr2 <| z0
 have q58 {l} (z : HA Ab l) := Af h10 <| z
 apply jc F <;> intro h11 F
 apply jr F
 exact fpC Ab <| q54 <| q55 <| q56 <| q57 <| q58 <| Ag (igt_eq h11) <| zt3 <| zr2 <| z0
 have q59 {l} (z : HA Ab l) := Af (igt_eq h11) <| z
 apply jc F <;> intro h12 F
 apply jr F
 exact fpC Ab <| q54 <| q55 <| q56 <| q57 <| q58 <| q59 <| Ag h12 <| zr1 <| z0
 have q60 {l} (z : HA Ab l) := Af h12 <| z
 apply jc F <;> intro h13 F
 apply jr F
 exact fpC Ab <| q54 <| q55 <| q56 <| q57 <| q58 <| q59 <| q60 <| zT (igt_eq h13) <| z0
 apply jr F
 exact fpC Ab <| q54 <| q55 <| q56 <| q57 <| q58 <| q59 <| q60 <| zF (igt_eq h13) <| z0
 apply jr F
 exact fpC Ab <| q54 <| zl (Ef _ h6 (Aj K a63.Prog _ h5)) <| Ag (bnot_f h7) <| zt5 <| zr1 <| zt3 <| zr1 <| zt3 <| zr1 <| zt3 <| zr1 <| zt3 <| zr2 <| z0
 apply jc F <;> intro h14 F
 apply jc F <;> intro h15 F
 have q61 {l} (z : HA Ab l) := zl (D8 _ h14 (Aj K a63.Prog _ h5)) <| Af (bnot_t h15) <| z
 apply jc F <;> intro h16 F
 apply jr F
 exact fpC Ab <| q54 <| q61 <| Cn h16 <| zt3 <| zr1 <| zt3 <| zr1 <| zt3 <| zr1 <| zt3 <| zr2 <| z0
 have q64 {l} (z : HA Ab l) := CT h16 <| z
 apply jc F <;> intro h17 F
 apply jr F
 exact fpC Ab <| q54 <| q61 <| q64 <| Ag (ige_eq h17) <| zt3 <| zr1 <| zt3 <| zr1 <| zt3 <| zr2 <| z0
 have q65 {l} (z : HA Ab l) := Af (ige_eq h17) <| z
 apply jc F <;> intro h18 F
 apply jr F
 exact fpC Ab <| q54 <| q61 <| q64 <| q65 <| Ag h18 <| zt3 <| zr1 <| zt3 <| zr2 <| z0
 have q66 {l} (z : HA Ab l) := Af h18 <| z
 apply jc F <;> intro h19 F
 apply jr F
 exact fpC Ab <| q54 <| q61 <| q64 <| q65 <| q66 <| Ag (igt_eq h19) <| zt3 <| zr2 <| z0
 have q67 {l} (z : HA Ab l) := Af (igt_eq h19) <| z
 apply jc F <;> intro h20 F
 apply jr F
 exact fpC Ab <| q54 <| q61 <| q64 <| q65 <| q66 <| q67 <| Ag h20 <| zr1 <| z0
 have q68 {l} (z : HA Ab l) := Af h20 <| z
 apply jc F <;> intro h21 F
 apply jr F
 exact fpC Ab <| q54 <| q61 <| q64 <| q65 <| q66 <| q67 <| q68 <| zT (igt_eq h21) <| z0
 apply jr F
 exact fpC Ab <| q54 <| q61 <| q64 <| q65 <| q66 <| q67 <| q68 <| zF (igt_eq h21) <| z0
 apply jr F
 exact fpC Ab <| q54 <| zl (D8 _ h14 (Aj K a63.Prog _ h5)) <| Ag (bnot_f h15) <| zt5 <| zr1 <| zt3 <| zr1 <| zt3 <| zr1 <| zt3 <| zr1 <| zt3 <| zr2 <| z0
 apply jc F <;> intro h22 F
 apply jc F <;> intro h23 F
 have q69 {l} (z : HA Ab l) := zl (Em _ h22 (Aj K a63.Prog _ h5)) <| Af (bnot_t h23) <| z
 apply jc F <;> intro h24 F
 apply jr F
 exact fpC Ab <| q54 <| q69 <| Cn h24 <| zt3 <| zr1 <| zt3 <| zr1 <| zt3 <| zr1 <| zt3 <| zr2 <| z0
 have q70 {l} (z : HA Ab l) := CT h24 <| z
 apply jc F <;> intro h25 F
 apply jr F
 exact fpC Ab <| q54 <| q69 <| q70 <| Ag (ige_eq h25) <| zt3 <| zr1 <| zt3 <| zr1 <| zt3 <| zr2 <| z0
 have q71 {l} (z : HA Ab l) := Af (ige_eq h25) <| z
 apply jc F <;> intro h26 F
 apply jr F
 exact fpC Ab <| q54 <| q69 <| q70 <| q71 <| Ag h26 <| zt3 <| zr1 <| zt3 <| zr2 <| z0
 have q72 {l} (z : HA Ab l) := Af h26 <| z
 apply jc F <;> intro h27 F
 apply jr F
 exact fpC Ab <| q54 <| q69 <| q70 <| q71 <| q72 <| Ag (igt_eq h27) <| zt3 <| zr2 <| z0
 have q73 {l} (z : HA Ab l) := Af (igt_eq h27) <| z
 apply jc F <;> intro h28 F
 apply jr F
 exact fpC Ab <| q54 <| q69 <| q70 <| q71 <| q72 <| q73 <| Ag h28 <| zr1 <| z0
 have q74 {l} (z : HA Ab l) := Af h28 <| z
 apply jc F <;> intro h29 F
 apply jr F
 exact fpC Ab <| q54 <| q69 <| q70 <| q71 <| q72 <| q73 <| q74 <| zT (igt_eq h29) <| z0
 apply jr F
 exact fpC Ab <| q54 <| q69 <| q70 <| q71 <| q72 <| q73 <| q74 <| zF (igt_eq h29) <| z0
 apply jr F
 exact fpC Ab <| q54 <| zl (Em _ h22 (Aj K a63.Prog _ h5)) <| Ag (bnot_f h23) <| zt5 <| zr1 <| zt3 <| zr1 <| zt3 <| zr1 <| zt3 <| zr1 <| zt3 <| zr2 <| z0
 apply jc F <;> intro h30 F
 apply jc F <;> intro h31 F
 have q75 {l} (z : HA Ab l) := zl (Ec _ h30 (Aj K a63.Prog _ h5)) <| Af (bnot_t h31) <| z
 apply jc F <;> intro h32 F
 apply jr F
 exact fpC Ab <| q54 <| q75 <| Cn h32 <| zt3 <| zr1 <| zt3 <| zr1 <| zt3 <| zr1 <| zt3 <| zr2 <| z0
 have q76 {l} (z : HA Ab l) := CT h32 <| z
 apply jc F <;> intro h33 F
 apply jr F
 exact fpC Ab <| q54 <| q75 <| q76 <| Ag (ige_eq h33) <| zt3 <| zr1 <| zt3 <| zr1 <| zt3 <| zr2 <| z0
 have q77 {l} (z : HA Ab l) := Af (ige_eq h33) <| z
 apply jc F <;> intro h34 F
 apply jr F
 exact fpC Ab <| q54 <| q75 <| q76 <| q77 <| Ag h34 <| zt3 <| zr1 <| zt3 <| zr2 <| z0
 have q78 {l} (z : HA Ab l) := Af h34 <| z
 apply jc F <;> intro h35 F
 apply jr F
 exact fpC Ab <| q54 <| q75 <| q76 <| q77 <| q78 <| Ag (igt_eq h35) <| zt3 <| zr2 <| z0
 have q79 {l} (z : HA Ab l) := Af (igt_eq h35) <| z
 apply jc F <;> intro h36 F
 apply jr F
 exact fpC Ab <| q54 <| q75 <| q76 <| q77 <| q78 <| q79 <| Ag h36 <| zr1 <| z0
 have q80 {l} (z : HA Ab l) := Af h36 <| z
 apply jc F <;> intro h37 F
 apply jr F
 exact fpC Ab <| q54 <| q75 <| q76 <| q77 <| q78 <| q79 <| q80 <| zT (igt_eq h37) <| z0
 apply jr F
 exact fpC Ab <| q54 <| q75 <| q76 <| q77 <| q78 <| q79 <| q80 <| zF (igt_eq h37) <| z0
 apply jr F
 exact fpC Ab <| q54 <| zl (Ec _ h30 (Aj K a63.Prog _ h5)) <| Ag (bnot_f h31) <| zt5 <| zr1 <| zt3 <| zr1 <| zt3 <| zr1 <| zt3 <| zr1 <| zt3 <| zr2 <| z0
 apply jc F <;> intro h38 F
 apply jc F <;> intro h39 F
 have q81 {l} (z : HA Ab l) := zl (Ey _ h38 (Aj K a63.Prog _ h5)) <| Af (bnot_t h39) <| z
 apply jc F <;> intro h40 F
 apply jr F
 exact fpC Ab <| q54 <| q81 <| Cn h40 <| zt3 <| zr1 <| zt3 <| zr1 <| zt3 <| zr1 <| zt3 <| zr2 <| z0
 have q82 {l} (z : HA Ab l) := CT h40 <| z
 apply jc F <;> intro h41 F
 apply jr F
 exact fpC Ab <| q54 <| q81 <| q82 <| Ag (ige_eq h41) <| zt3 <| zr1 <| zt3 <| zr1 <| zt3 <| zr2 <| z0
 have q83 {l} (z : HA Ab l) := Af (ige_eq h41) <| z
 apply jc F <;> intro h42 F
 apply jr F
 exact fpC Ab <| q54 <| q81 <| q82 <| q83 <| Ag h42 <| zt3 <| zr1 <| zt3 <| zr2 <| z0
 have q84 {l} (z : HA Ab l) := Af h42 <| z
 apply jc F <;> intro h43 F
 apply jr F
 exact fpC Ab <| q54 <| q81 <| q82 <| q83 <| q84 <| Ag (igt_eq h43) <| zt3 <| zr2 <| z0
 have q85 {l} (z : HA Ab l) := Af (igt_eq h43) <| z
 apply jc F <;> intro h44 F
 apply jr F
 exact fpC Ab <| q54 <| q81 <| q82 <| q83 <| q84 <| q85 <| Ag h44 <| zr1 <| z0
 have q86 {l} (z : HA Ab l) := Af h44 <| z
 apply jc F <;> intro h45 F
 apply jr F
 exact fpC Ab <| q54 <| q81 <| q82 <| q83 <| q84 <| q85 <| q86 <| zT (igt_eq h45) <| z0
 apply jr F
 exact fpC Ab <| q54 <| q81 <| q82 <| q83 <| q84 <| q85 <| q86 <| zF (igt_eq h45) <| z0
 apply jr F
 exact fpC Ab <| q54 <| zl (Ey _ h38 (Aj K a63.Prog _ h5)) <| Ag (bnot_f h39) <| zt5 <| zr1 <| zt3 <| zr1 <| zt3 <| zr1 <| zt3 <| zr1 <| zt3 <| zr2 <| z0
 apply jn F; intro h46 F
 apply jc F <;> intro h47 F
 have q87 {l} (z : HA Ab l) := zl (EB _ h46 (Aj K a63.Prog _ h5)) <| Af (bnot_t h47) <| z
 apply jc F <;> intro h48 F
 apply jr F
 exact fpC Ab <| q54 <| q87 <| Cn h48 <| zt3 <| zr1 <| zt3 <| zr1 <| zt3 <| zr1 <| zt3 <| zr2 <| z0
 have q88 {l} (z : HA Ab l) := CT h48 <| z
 apply jc F <;> intro h49 F
 apply jr F
 exact fpC Ab <| q54 <| q87 <| q88 <| Ag (ige_eq h49) <| zt3 <| zr1 <| zt3 <| zr1 <| zt3 <| zr2 <| z0
 have q89 {l} (z : HA Ab l) := Af (ige_eq h49) <| z
 apply jc F <;> intro h50 F
 apply jr F
 exact fpC Ab <| q54 <| q87 <| q88 <| q89 <| Ag h50 <| zt3 <| zr1 <| zt3 <| zr2 <| z0
 have q90 {l} (z : HA Ab l) := Af h50 <| z
 apply jc F <;> intro h51 F
 apply jr F
 exact fpC Ab <| q54 <| q87 <| q88 <| q89 <| q90 <| Ag (igt_eq h51) <| zt3 <| zr2 <| z0
 have q91 {l} (z : HA Ab l) := Af (igt_eq h51) <| z
 apply jc F <;> intro h52 F
 apply jr F
 exact fpC Ab <| q54 <| q87 <| q88 <| q89 <| q90 <| q91 <| Ag h52 <| zr1 <| z0
 have q92 {l} (z : HA Ab l) := Af h52 <| z
 apply jc F <;> intro h53 F
 apply jr F
 exact fpC Ab <| q54 <| q87 <| q88 <| q89 <| q90 <| q91 <| q92 <| zT (igt_eq h53) <| z0
 apply jr F
 exact fpC Ab <| q54 <| q87 <| q88 <| q89 <| q90 <| q91 <| q92 <| zF (igt_eq h53) <| z0
 apply jr F
 exact fpC Ab <| q54 <| zl (EB _ h46 (Aj K a63.Prog _ h5)) <| Ag (bnot_f h47) <| zt5 <| zr1 <| zt3 <| zr1 <| zt3 <| zr1 <| zt3 <| zr1 <| zt3 <| zr2 <| z0
 apply jr F
 exact fpC Ab <| zl (Fv K a62 _ h2) <| zT (ine_f h3) <| z0
def EW : Hint := { H 108 with nt := 19, prot := 0, kp := 0 }
def Hv : Code := loopOf E 108 0
def Kl (r1 : Int) : Res := ⟨[(.one (mI r1))], []⟩
def Eb (K : Nat) (a1 : List Int) (a2 : Int) : Nat → Int → Option ((Int) ⊕ (Unit))
 | 0, _ => none
 | k + 1, v3 =>
  bif (ilt v3 (nlen (len a1))) then
   (bif (inr v3 (len a1)) then
   (elAt a1 v3).bind fun x4 =>
   bif (ieq x4 a2) then
    (some (.inl v3))
   else
   Eb K a1 a2 k (wadd .i64 v3 1)
   else none)
  else
  some (.inr ())
def HK (a1 : List Int) (a2 : Int) (v3 : Int) : TS := .on (kq 0 2 <| kq 64 2 <| kq 448 2 <| kq 512 2 <| kq 576 2 <| []) <| sq 0 [u0, (uS e6 a1)] <| sq 64 [u0, (uI a2)] <| sq 448 [u0, (uS e6 a1)] <| sq 512 [u0, (uI (nlen (len a1)))] <| sq 576 [u0, (uI v3)] []
def NO (a1 : List Int) (a2 : Int) (w3 : Int) : TS := .on (kq 256 2 <| []) <| sq 256 [u0, (uI w3)] []
def K8 (a1 : List Int) (a2 : Int) (w3 : Unit) : TS := .on [] []
theorem Ht (K : Nat) (a1 : List Int) (a2 : Int) : ∀ (k : Nat) (v3 : Int) (r : (Int) ⊕ (Unit)), Eb K a1 a2 k v3 = some r → (Sum.elim (fun w => LoopEv E H EW 0 Hv (HK a1 a2 v3) .ret (NO a1 a2 w)) (fun w => LoopEv E H EW 0 Hv (HK a1 a2 v3) (.exit 0) (K8 a1 a2 w))) r := by
 intro k
 induction k with
 | zero => intro v3 r F; cases F
 | succ k ih =>
  intro v3 r F
  rw [Eb] at F
  apply jc F <;> intro h4 F
  apply jn F; intro h5 F
  apply jb F; intro x6 h7 F
  have q9 {l} (z : HA EW l) := zT h4 <| zT h5 <| zX (.sub (flat e6 a1) (nidx v3 1) 1 [(i6 x6)]) ⟨rfl, sub_flat0 (eInt_len _) h7 1 (by decide)⟩ <| z
  apply jc F <;> intro h8 F
  apply jr F
  exact lE <| q9 <| zT h8 <| z0
  exact lN2 (q9 <| zF h8 <| zi (wadd .i64 v3 1) <| z0) (ih _ _ F)
  apply jr F
  exact lE <| zF h4 <| z0
def Dl (K : Nat) (a1 : List Int) (a2 : Int) : Option (Int) :=
 (Eb K a1 a2 K 0).bind fun y3 =>
 Sum.elim (fun w4 =>
  some w4)
  (fun w5 =>
  some (-1)) y3
theorem H9 (K : Nat) (a1 : List Int) (a2 : Int) (r : Int) (F : Dl K a1 a2 = some r) : Evt E H 108 [.one (sE e6 a1), .one (i6 a2)] (Kl r) := by
 rw [Dl] at F
 apply jb F; intro y4 h3 F
 refine js F (fun w5 hx F => ?_) fun w6 hx F => ?_
 subst hx
 apply jr F
 exact fpC EW <| zi (nl a1) <| zo (Ht K a1 a2 K 0 _ h3) <| z0
 subst hx
 apply jr F
 exact fpC EW <| zi (nl a1) <| zo (Ht K a1 a2 K 0 _ h3) <| z0
def AG : Hint := { H 100 with nt := 83, prot := 0, kp := 0 }
def H7 : Code := loopOf E 100 0
def HH : Code := loopOf E 100 1
def Pg (r1 : Bool) : Res := ⟨[(.one (mB r1))], []⟩
def Dx (K : Nat) (v1 : Int) (v2 : List Int) (v3 : List Int) (v4 : List Int) : Nat → Int → Int → Option ((Unit) ⊕ (Unit))
 | 0, _, _ => none
 | k + 1, v5, v6 =>
  bif (ilt v6 (nlen (len v3))) then
   (bif (inr v6 (len v3)) then
   (elAt v3 v6).bind fun x7 =>
   bif (ile x7 v5) then
    (some (.inl ()))
   else
   bif (ilt 99 x7) then
    (some (.inl ()))
   else
   bif (inr v6 (len v4)) then
   (elAt v4 v6).bind fun x8 =>
   bif (ilt x8 1) then
    (some (.inl ()))
   else
   bif (ilt 1099511627776 x8) then
    (some (.inl ()))
   else
   Dx K v1 v2 v3 v4 k x7 (wadd .i64 v6 1)
   else none
   else none)
  else
  some (.inr ())
def I1 (v1 : Int) (v2 : List Int) (v3 : List Int) (v4 : List Int) (v5 : Int) (v6 : Int) : TS := .on (kq 64 5 <| kq 192 2 <| kq 2368 1 <| kq 2432 2 <| kq 2496 2 <| kq 2560 2 <| []) <| sq 64 [(uX 32 4), (uI v1), (uS e6 v2), (uS e6 v3), (uS e6 v4)] <| sq 192 [u0, (uI v5)] <| sq 2368 [⟨(.ad 1 0 2), 0, nob⟩] <| sq 2432 [u0, (uS e6 v3)] <| sq 2496 [u0, (uI (nlen (len v3)))] <| sq 2560 [u0, (uI v6)] []
def Lc (v1 : Int) (v2 : List Int) (v3 : List Int) (v4 : List Int) (w5 : Unit) : TS := .on (kq 128 2 <| []) <| sq 128 [u0, (uB false)] []
def LU (v1 : Int) (v2 : List Int) (v3 : List Int) (v4 : List Int) (w5 : Unit) : TS := .on (kq 64 5 <| []) <| sq 64 [(uX 32 4), (uI v1), (uS e6 v2), (uS e6 v3), (uS e6 v4)] []
theorem Jo (K : Nat) (v1 : Int) (v2 : List Int) (v3 : List Int) (v4 : List Int) : ∀ (k : Nat) (v5 : Int) (v6 : Int) (r : (Unit) ⊕ (Unit)), Dx K v1 v2 v3 v4 k v5 v6 = some r → (Sum.elim (fun w => LoopEv E H AG 0 H7 (I1 v1 v2 v3 v4 v5 v6) .ret (Lc v1 v2 v3 v4 w)) (fun w => LoopEv E H AG 0 H7 (I1 v1 v2 v3 v4 v5 v6) (.exit 0) (LU v1 v2 v3 v4 w))) r := by
 intro k
 induction k with
 | zero => intro v5 v6 r F; cases F
 | succ k ih =>
  intro v5 v6 r F
  rw [Dx] at F
  apply jc F <;> intro h7 F
  apply jn F; intro h8 F
  apply jb F; intro x9 h10 F
  have q18 {l} (z : HA AG l) := zT h7 <| zT h8 <| zX (.sub (flat e6 v3) (nidx v6 1) 1 [(i6 x9)]) ⟨rfl, sub_flat0 (eInt_len _) h10 1 (by decide)⟩ <| z
  apply jc F <;> intro h11 F
  apply jr F
  exact lE <| q18 <| B5 h11 <| zt6 <| zr1 <| zt6 <| zr2 <| z0
  have q19 {l} (z : HA AG l) := Cv h11 <| z
  apply jc F <;> intro h12 F
  apply jr F
  exact lE <| q18 <| q19 <| Hz (igt_eq h12) <| zt6 <| zr2 <| z0
  apply jn F; intro h13 F
  apply jb F; intro x14 h15 F
  have q20 {l} (z : HA AG l) := zB4 (igt_eq h12) <| zT h13 <| zB1 (igt_eq h12) <| zX (.sub (flat e6 v4) (nidx v6 1) 1 [(i6 x14)]) ⟨rfl, sub_flat0 (eInt_len _) h15 1 (by decide)⟩ <| Cg (igt_eq h12) <| z
  apply jc F <;> intro h16 F
  apply jr F
  exact lE <| q18 <| q19 <| q20 <| Hz h16 <| zr1 <| z0
  have q21 {l} (z : HA AG l) := zB4 h16 <| zT h13 <| zB1 h16 <| zX (.sub (flat e6 v4) (nidx v6 1) 1 [(i6 x14)]) ⟨rfl, sub_flat0 (eInt_len _) h15 1 (by decide)⟩ <| Cg h16 <| z
  apply jc F <;> intro h17 F
  apply jr F
  exact lE <| q18 <| q19 <| q20 <| q21 <| zT (igt_eq h17) <| z0
  exact lN2 (q18 <| q19 <| q20 <| q21 <| zF (igt_eq h17) <| zi (wadd .i64 v6 1) <| z0) (ih _ _ _ F)
  apply jr F
  exact lE <| zF h7 <| z0
def EG (K : Nat) (v1 : Int) (v2 : List Int) (v3 : List Int) (v4 : List Int) : Nat → Int → Option ((Unit) ⊕ (Unit))
 | 0, _ => none
 | k + 1, v5 =>
  bif (ilt v5 (nlen (len v2))) then
   (bif (inr v5 (len v2)) then
   (elAt v2 v5).bind fun x6 =>
   (Dl K v3 x6).bind fun r7 =>
   bif (ilt r7 0) then
    (some (.inl ()))
   else
   EG K v1 v2 v3 v4 k (wadd .i64 v5 1)
   else none)
  else
  some (.inr ())
def Iw (v1 : Int) (v2 : List Int) (v3 : List Int) (v4 : List Int) (v5 : Int) : TS := .on (kq 64 5 <| kq 4480 1 <| kq 4544 2 <| kq 4608 2 <| kq 4672 2 <| []) <| sq 64 [(uX 32 4), (uI v1), (uS e6 v2), (uS e6 v3), (uS e6 v4)] <| sq 4480 [⟨(.ad 1 0 1), 0, nob⟩] <| sq 4544 [u0, (uS e6 v2)] <| sq 4608 [u0, (uI (nlen (len v2)))] <| sq 4672 [u0, (uI v5)] []
def K9 (v1 : Int) (v2 : List Int) (v3 : List Int) (v4 : List Int) (w5 : Unit) : TS := .on (kq 128 2 <| []) <| sq 128 [u0, (uB false)] []
def K5 (v1 : Int) (v2 : List Int) (v3 : List Int) (v4 : List Int) (w5 : Unit) : TS := .on [] []
theorem Jw (K : Nat) (v1 : Int) (v2 : List Int) (v3 : List Int) (v4 : List Int) : ∀ (k : Nat) (v5 : Int) (r : (Unit) ⊕ (Unit)), EG K v1 v2 v3 v4 k v5 = some r → (Sum.elim (fun w => LoopEv E H AG 2 HH (Iw v1 v2 v3 v4 v5) .ret (K9 v1 v2 v3 v4 w)) (fun w => LoopEv E H AG 2 HH (Iw v1 v2 v3 v4 v5) (.exit 2) (K5 v1 v2 v3 v4 w))) r := by
 intro k
 induction k with
 | zero => intro v5 r F; cases F
 | succ k ih =>
  intro v5 r F
  rw [EG] at F
  apply jc F <;> intro h6 F
  apply jn F; intro h7 F
  apply jb F; intro x8 h9 F
  apply jb F; intro r10 h11 F
  have q13 {l} (z : HA AG l) := zT h6 <| zT h7 <| zX (.sub (flat e6 v2) (nidx v5 1) 1 [(i6 x8)]) ⟨rfl, sub_flat0 (eInt_len _) h9 1 (by decide)⟩ <| zl (H9 K v3 x8 _ h11) <| z
  apply jc F <;> intro h12 F
  apply jr F
  exact lE <| q13 <| zT h12 <| z0
  exact lN2 (q13 <| zF h12 <| zi (wadd .i64 v5 1) <| z0) (ih _ _ F)
  apply jr F
  exact lE <| zF h6 <| z0
def Er (K : Nat) (a1 : GTable) : Option (Bool) :=
 bif (ilt a1.Epoch 0) then
  (some false)
 else
 bif (ilt 1099511627776 a1.Epoch) then
  (some false)
 else
 bif (ilt 5 (nlen (len a1.Ids))) then
  (some false)
 else
 bif (ieq (nlen (len a1.Incs)) (nlen (len a1.Ids))) then
  (bif (ilt 6 (nlen (len a1.Owners))) then
   (some false)
  else
  (Dx K a1.Epoch a1.Owners a1.Ids a1.Incs K 0 0).bind fun y2 =>
  Sum.elim (fun w3 =>
   some false)
   (fun w4 =>
   (EG K a1.Epoch a1.Owners a1.Ids a1.Incs K 0).bind fun y5 =>
   Sum.elim (fun w6 =>
    some false)
    (fun w7 =>
    some true) y5) y2)
 else
 some false
theorem Fs (K : Nat) (a1 : GTable) (r : Bool) (F : Er K a1 = some r) : Evt E H 100 [.agg (eGTable a1)] (Pg r) := by
 rw [Er] at F
 apply jc F <;> intro h2 F
 apply jr F
 exact fpC AG <| Ag h2 <| zt4 <| zr1 <| zt6 <| zt1 <| zr1 <| zt4 <| zr2 <| z0
 have q15 {l} (z : HA AG l) := Af h2 <| z
 apply jc F <;> intro h3 F
 apply jr F
 exact fpC AG <| q15 <| DF (igt_eq h3) <| zt6 <| zt1 <| zr1 <| zt4 <| zr2 <| z0
 have q16 {l} (z : HA AG l) := zB3 (igt_eq h3) <| zi (nl a1.Ids) <| Cg (igt_eq h3) <| z
 apply jc F <;> intro h4 F
 apply jr F
 exact fpC AG <| q15 <| q16 <| zA6 (igt_eq h4) <| E4 (igt_eq h4) <| zt4 <| zr2 <| z0
 have q17 {l} (z : HA AG l) := zB3 (igt_eq h4) <| zi (nl a1.Incs) <| zB3 (igt_eq h4) <| zi (nl a1.Ids) <| Cg (igt_eq h4) <| z
 apply jc F <;> intro h5 F
 have q18 {l} (z : HA AG l) := zB3 (ine_t h5) <| zi (nl a1.Owners) <| Cg (ine_t h5) <| z
 apply jc F <;> intro h6 F
 apply jr F
 exact fpC AG <| q15 <| q16 <| q17 <| q18 <| zT (igt_eq h6) <| z0
 apply jb F; intro y8 h7 F
 refine js F (fun w9 hx F => ?_) fun w10 hx F => ?_
 subst hx
 apply jr F
 exact fpC AG <| q15 <| q16 <| q17 <| q18 <| zF (igt_eq h6) <| zi (nl a1.Ids) <| zo (Jo K a1.Epoch a1.Owners a1.Ids a1.Incs K 0 0 _ h7) <| z0
 subst hx
 have q19 {l} (z : HA AG l) := zF (igt_eq h6) <| zi (nl a1.Ids) <| zo (Jo K a1.Epoch a1.Owners a1.Ids a1.Incs K 0 0 _ h7) <| zi (nl a1.Owners) <| z
 apply jb F; intro y12 h11 F
 refine js F (fun w13 hx F => ?_) fun w14 hx F => ?_
 subst hx
 apply jr F
 exact fpC AG <| q15 <| q16 <| q17 <| q18 <| q19 <| zo (Jw K a1.Epoch a1.Owners a1.Ids a1.Incs K 0 _ h11) <| z0
 subst hx
 apply jr F
 exact fpC AG <| q15 <| q16 <| q17 <| q18 <| q19 <| zo (Jw K a1.Epoch a1.Owners a1.Ids a1.Incs K 0 _ h11) <| z0
 apply jr F
 exact fpC AG <| q15 <| q16 <| q17 <| DF (ine_f h5) <| zr1 <| z0
def FZ : Hint := { H 68 with nt := 32, prot := 0, kp := 0 }
def Nw (r1 : GTable × Bool) : Res := ⟨[(.agg [(mI r1.1.Epoch), (mS e6 r1.1.Owners), (mS e6 r1.1.Ids), (mS e6 r1.1.Incs)]), (.one (mB r1.2))], []⟩
def F68 (K : Nat) (a1 : GJob) (a2 : Int) (a3 : GMail) : Option (GTable × Bool) :=
 (Er K (GTable.mk a2 a3.Owners a3.Ids a3.Incs)).bind fun r4 =>
 bif r4 then
  (bif (ilt 0 a2) then
   (some ((GTable.mk a2 a3.Owners a3.Ids a3.Incs), (ieq (nlen (len a3.Owners)) a1.Parts)))
  else
  some ((GTable.mk a2 a3.Owners a3.Ids a3.Incs), false))
 else
 some ((GTable.mk a2 a3.Owners a3.Ids a3.Incs), false)
theorem FP (K : Nat) (a1 : GJob) (a2 : Int) (a3 : GMail) (r : GTable × Bool) (F : F68 K a1 a2 a3 = some r) : Evt E H 68 [.agg (eGJob a1), .one (i6 a2), .agg (eGMail a3)] (Nw r) := by
 rw [F68] at F
 apply jb F; intro r4 h5 F
 apply jc F <;> intro h6 F
 have q8 {l} (z : HA FZ l) := zl (Fs K (GTable.mk a2 a3.Owners a3.Ids a3.Incs) _ h5) <| IU h6 <| z
 apply jc F <;> intro h7 F
 apply jr F
 exact fpC FZ <| q8 <| zC3 (igt_eq h7) <| zi (nl a3.Owners) <| DX (igt_eq h7) <| z0
 apply jr F
 exact fpC FZ <| q8 <| Fc (igt_eq h7) <| z0
 apply jr F
 exact fpC FZ <| zl (Fs K (GTable.mk a2 a3.Owners a3.Ids a3.Incs) _ h5) <| H4 h6 <| zk6 <| zf1 <| z0
def Fj : Hint := { H 69 with nt := 54, prot := 1, kp := 0 }
def Oh : Code := loopOf E 69 0
def NT : Code := loopOf E 69 1
def Og (r1 : GWorker) : Res := ⟨[], [(wl0 r1)]⟩
def DD (K : Nat) (a1 : GWorker) (a2 : Int) : Nat → List GData → Int → Option (List GData)
 | 0, _, _ => none
 | k + 1, v3, v4 =>
  bif (ilt v4 (nlen (len a1.Buf))) then
   (bif (inr v4 (len a1.Buf)) then
   (elAt a1.Buf v4).bind fun x5 =>
   bif (ile a2 x5.Epoch) then
    (bif (apok (len v3) 1 56) then
    DD K a1 a2 k (appL v3 [x5]) (wadd .i64 v4 1)
    else none)
   else
   DD K a1 a2 k v3 (wadd .i64 v4 1)
   else none)
  else
  some v3
def N6 (a1 : GWorker) (a2 : Int) (v3 : List GData) (v4 : Int) : TS := .on (kq 0 12 <| kq 64 2 <| kq 256 2 <| kq 640 1 <| kq 704 1 <| kq 768 1 <| kq 832 2 <| kq 896 2 <| kq 960 2 <| []) <| b0 0 a1 <| sq 64 [u0, (uI a2)] <| sq 256 [u0, (uO 112 eGData v3)] <| sq 640 [⟨(.ad 0 0 0), 0, nob⟩] <| sq 704 [⟨(.ad 0 0 0), 0, nob⟩] <| sq 768 [⟨(.ad 0 0 8), 0, nob⟩] <| sq 832 [u0, ⟨(.vw 9 0), 0, nob⟩] <| sq 896 [u0, (uI (nlen (len a1.Buf)))] <| sq 960 [u0, (uI v4)] []
def Om (a1 : GWorker) (a2 : Int) (w3 : List GData) : TS := .on (kq 0 12 <| kq 64 2 <| kq 256 2 <| []) <| b0 0 a1 <| sq 64 [u0, (uI a2)] <| sq 256 [u0, (uO 112 eGData w3)] []
theorem OY (K : Nat) (a1 : GWorker) (a2 : Int) : ∀ (k : Nat) (v3 : List GData) (v4 : Int) (r : List GData), DD K a1 a2 k v3 v4 = some r → LoopEv E H Fj 0 Oh (N6 a1 a2 v3 v4) (.exit 0) (Om a1 a2 r) := by
 intro k
 induction k with
 | zero => intro v3 v4 r F; cases F
 | succ k ih =>
  intro v3 v4 r F
  rw [DD] at F
  apply jc F <;> intro h5 F
  apply jn F; intro h6 F
  apply jb F; intro x7 h8 F
  have q11 {l} (z : HA Fj l) := zT h5 <| zT h6 <| zS eGData_len h8 5 <| z
  apply jc F <;> intro h9 F
  apply jn F; intro h10 F
  exact lN1 (q11 <| zT (ige_eq h9) <| zX (tt (leqm [(i6 x7.Epoch), (i6 x7.Step), (i6 x7.Q), (i6 x7.P), (sE eGMsg x7.Msgs)] 1 5)) rfl <| zT h10 <| zV (app_ok (enc := eGData) (v3 : List GData) [x7]) <| zi (wadd .i64 v4 1) <| z0) (ih _ _ _ F)
  exact lN1 (q11 <| zF (ige_eq h9) <| zi (wadd .i64 v4 1) <| z0) (ih _ _ _ F)
  apply jr F
  exact lE <| zF h5 <| z0
def DR (K : Nat) (a1 : GWorker) (a2 : Int) (w3 : List GData) : Nat → List GComing → Int → Option (List GComing)
 | 0, _, _ => none
 | k + 1, v4, v5 =>
  bif (ilt v5 (nlen (len a1.Coming))) then
   (bif (inr v5 (len a1.Coming)) then
   (elAt a1.Coming v5).bind fun x6 =>
   bif (ile a2 x6.Epoch) then
    (bif (apok (len v4) 1 96) then
    DR K a1 a2 w3 k (appL v4 [x6]) (wadd .i64 v5 1)
    else none)
   else
   DR K a1 a2 w3 k v4 (wadd .i64 v5 1)
   else none)
  else
  some v4
def MQ (a1 : GWorker) (a2 : Int) (w3 : List GData) (v4 : List GComing) (v5 : Int) : TS := .on (kq 0 12 <| kq 64 2 <| kq 256 2 <| kq 448 2 <| kq 1792 1 <| kq 1856 1 <| kq 1920 1 <| kq 1984 2 <| kq 2048 2 <| kq 2112 2 <| []) <| b0 0 a1 <| sq 64 [u0, (uI a2)] <| sq 256 [u0, (uO 112 eGData w3)] <| sq 448 [u0, (uO 113 eGComing v4)] <| sq 1792 [⟨(.ad 0 0 0), 0, nob⟩] <| sq 1856 [⟨(.ad 0 0 0), 0, nob⟩] <| sq 1920 [⟨(.ad 0 0 9), 0, nob⟩] <| sq 1984 [u0, ⟨(.vw 10 0), 0, nob⟩] <| sq 2048 [u0, (uI (nlen (len a1.Coming)))] <| sq 2112 [u0, (uI v5)] []
def LI (a1 : GWorker) (a2 : Int) (w3 : List GData) (w4 : List GComing) : TS := .on (kq 0 12 <| kq 256 2 <| kq 448 2 <| []) <| b0 0 a1 <| sq 256 [u0, (uO 112 eGData w3)] <| sq 448 [u0, (uO 113 eGComing w4)] []
theorem Pr (K : Nat) (a1 : GWorker) (a2 : Int) (w3 : List GData) : ∀ (k : Nat) (v4 : List GComing) (v5 : Int) (r : List GComing), DR K a1 a2 w3 k v4 v5 = some r → LoopEv E H Fj 2 NT (MQ a1 a2 w3 v4 v5) (.exit 2) (LI a1 a2 w3 r) := by
 intro k
 induction k with
 | zero => intro v4 v5 r F; cases F
 | succ k ih =>
  intro v4 v5 r F
  rw [DR] at F
  apply jc F <;> intro h6 F
  apply jn F; intro h7 F
  apply jb F; intro x8 h9 F
  have q12 {l} (z : HA Fj l) := zT h6 <| zT h7 <| zS eGComing_len h9 6 <| z
  apply jc F <;> intro h10 F
  apply jn F; intro h11 F
  exact lN1 (q12 <| zT (ige_eq h10) <| zX (tt (leqm [(i6 x8.Epoch), (i6 x8.X.P), (i6 x8.X.Step), (sE e6 x8.X.Vals), (sE eBool x8.X.Rest), (sE eGMsg x8.X.In)] 1 6)) rfl <| zT h11 <| zV (app_ok (enc := eGComing) (v4 : List GComing) [x8]) <| zi (wadd .i64 v5 1) <| z0) (ih _ _ _ F)
  exact lN1 (q12 <| zF (ige_eq h10) <| zi (wadd .i64 v5 1) <| z0) (ih _ _ _ F)
  apply jr F
  exact lE <| zF h6 <| z0
def DT (K : Nat) (a1 : GWorker) (a2 : Int) : Option (GWorker) :=
 (DD K a1 a2 K [] 0).bind fun w3 =>
 (DR K a1 a2 w3 K [] 0).bind fun w4 =>
 some (GWorker.mk a1.Id a1.Goal a1.Until a1.T a1.Held w3 w4 a1.Out)
theorem IH (K : Nat) (a1 : GWorker) (a2 : Int) (r : GWorker) (F : DT K a1 a2 = some r) : Evt E H 69 [.box 38 (wl0 a1), .one (i6 a2)] (Og r) := by
 rw [DT] at F
 apply jb F; intro w4 h3 F
 apply jb F; intro w6 h5 F
 apply jr F
 exact fpC Fj <| zi (nl a1.Buf) <| zo (OY K a1 a2 K [] 0 _ h3) <| zi (nl a1.Coming) <| zo (Pr K a1 a2 w4 K [] 0 _ h5) <| z0
def Hm : Hint := { H 96 with nt := 23, prot := 0, kp := 0 }
def NX (r1 : GTable) : Res := ⟨[(.agg [(mI r1.Epoch), (.own 3 (sE e6 r1.Owners)), (.own 3 (sE e6 r1.Ids)), (.own 3 (sE e6 r1.Incs))])], []⟩
def F96 (K : Nat) (a1 : GTable) : Option (GTable) :=
 (Er K a1).bind fun r2 =>
 bif r2 then
  (bif (apok 0 (len a1.Owners) 8) then
  bif (apok 0 (len a1.Ids) 8) then
  bif (apok 0 (len a1.Incs) 8) then
  some (GTable.mk a1.Epoch (appL [] a1.Owners) (appL [] a1.Ids) (appL [] a1.Incs))
  else none
  else none
  else none)
 else
 some (GTable.mk 0 [] [] [])
theorem F3 (K : Nat) (a1 : GTable) (r : GTable) (F : F96 K a1 = some r) : Evt E H 96 [.agg (eGTable a1)] (NX r) := by
 rw [F96] at F
 apply jb F; intro r2 h3 F
 apply jc F <;> intro h4 F
 apply jn F; intro h5 F
 apply jn F; intro h6 F
 apply jn F; intro h7 F
 apply jr F
 exact fpC Hm <| zl (Fs K a1 _ h3) <| zF (bnot_t h4) <| zX (tt (leqm (flat e6 a1.Owners) (len a1.Owners) 1)) (leqm_flat (eInt_len _) _) <| zT h5 <| zV (app_ok (enc := e6) ([] : List Int) a1.Owners) <| zX (tt (leqm (flat e6 a1.Ids) (len a1.Ids) 1)) (leqm_flat (eInt_len _) _) <| zT h6 <| zV (app_ok (enc := e6) ([] : List Int) a1.Ids) <| zX (tt (leqm (flat e6 a1.Incs) (len a1.Incs) 1)) (leqm_flat (eInt_len _) _) <| zT h7 <| zV (app_ok (enc := e6) ([] : List Int) a1.Incs) <| z0
 apply jr F
 exact fpC Hm <| zl (Fs K a1 _ h3) <| zT (bnot_f h4) <| z0
def Gx : Hint := { H 97 with nt := 19, prot := 0, kp := 0 }
def JV (r1 : Int) : Res := ⟨[(.one (mI r1))], []⟩
def F97 (K : Nat) (a1 : GTable) (a2 : Int) : Option (Int) :=
 (F96 K a1).bind fun r3 =>
 (Dl K r3.Ids a2).bind fun r4 =>
 bif (ilt r4 0) then
  (some 0)
 else
 bif (inr r4 (len r3.Incs)) then
 (elAt r3.Incs r4).bind fun x5 =>
 some x5
 else none
theorem KK (K : Nat) (a1 : GTable) (a2 : Int) (r : Int) (F : F97 K a1 a2 = some r) : Evt E H 97 [.agg (eGTable a1), .one (i6 a2)] (JV r) := by
 rw [F97] at F
 apply jb F; intro r3 h4 F
 apply jb F; intro r5 h6 F
 have q11 {l} (z : HA Gx l) := zl (F3 K a1 _ h4) <| zl (H9 K r3.Ids a2 _ h6) <| z
 apply jc F <;> intro h7 F
 apply jr F
 exact fpC Gx <| q11 <| zT h7 <| z0
 apply jn F; intro h8 F
 apply jb F; intro x9 h10 F
 apply jr F
 exact fpC Gx <| q11 <| zF h7 <| zT h8 <| zX (.sub (flat e6 r3.Incs) (nidx r5 1) 1 [(i6 x9)]) ⟨rfl, sub_flat0 (eInt_len _) h10 1 (by decide)⟩ <| z0
def FA : Hint := { H 60 with nt := 30, prot := 0, kp := 0 }
def Lk (r1 : Int × Int × Int) : Res := ⟨[(.one (mI r1.1)), (.one (mI r1.2.1)), (.one (mI r1.2.2))], []⟩
def F60 (K : Nat) (a1 : GTable) (a2 : Int) : Option (Int × Int × Int) :=
 (F96 K a1).bind fun r3 =>
 bif (ilt a2 0) then
  (some (0, (0, 4)))
 else
 bif (ile (nlen (len r3.Owners)) a2) then
  (some (0, (0, 4)))
 else
 bif (inr a2 (len r3.Owners)) then
 (elAt r3.Owners a2).bind fun x4 =>
 (F97 K r3 x4).bind fun r5 =>
 some (x4, (r5, 0))
 else none
theorem GI (K : Nat) (a1 : GTable) (a2 : Int) (r : Int × Int × Int) (F : F60 K a1 a2 = some r) : Evt E H 60 [.agg (eGTable a1), .one (i6 a2)] (Lk r) := by
 rw [F60] at F
 apply jb F; intro r3 h4 F
 apply jc F <;> intro h5 F
 apply jr F
 exact fpC FA <| zl (F3 K a1 _ h4) <| Cn h5 <| zr1 <| z0
 have q12 {l} (z : HA FA l) := zl (F3 K a1 _ h4) <| zB4 h5 <| zi (nl r3.Owners) <| Cg h5 <| z
 apply jc F <;> intro h6 F
 apply jr F
 exact fpC FA <| q12 <| zT (ige_eq h6) <| z0
 apply jn F; intro h7 F
 apply jb F; intro x8 h9 F
 apply jb F; intro r10 h11 F
 apply jr F
 exact fpC FA <| q12 <| zF (ige_eq h6) <| zT h7 <| zX (.sub (flat e6 r3.Owners) (nidx a2 1) 1 [(i6 x8)]) ⟨rfl, sub_flat0 (eInt_len _) h9 1 (by decide)⟩ <| zT h7 <| zX (.sub (flat e6 r3.Owners) (nidx a2 1) 1 [(i6 x8)]) ⟨rfl, sub_flat0 (eInt_len _) h9 1 (by decide)⟩ <| zl (KK K r3 x8 _ h11) <| z0
def FN : Hint := { H 110 with nt := 22, prot := 0, kp := 0 }
def JG (r1 : Int) : Res := ⟨[(.one (mI r1))], []⟩
def FO (K : Nat) (a1 : Int) (a2 : Int) (a3 : Int) : Option (Int) :=
 bif (ilt a3 0) then
  (some 0)
 else
 bif (ile a2 a3) then
  (some 0)
 else
 bif (izero a2) then none else
 some (wquo .i64 (wsub .i64 (wadd .i64 (wsub .i64 a1 a3) a2) 1) a2)
theorem M3 (K : Nat) (a1 : Int) (a2 : Int) (a3 : Int) (r : Int) (F : FO K a1 a2 a3 = some r) : Evt E H 110 [.one (i6 a1), .one (i6 a2), .one (i6 a3)] (JG r) := by
 rw [FO] at F
 apply jc F <;> intro h4 F
 apply jr F
 exact fpC FN <| Ag h4 <| zr1 <| z0
 have q7 {l} (z : HA FN l) := Af h4 <| z
 apply jc F <;> intro h5 F
 apply jr F
 exact fpC FN <| q7 <| zT (ige_eq h5) <| z0
 refine cond_some F (fun _ F => nomatch F) (fun h6 F => ?_)
 apply jr F
 exact fpC FN <| q7 <| zF (ige_eq h5) <| zi (wsub .i64 a1 a3) <| zi (wadd .i64 (wsub .i64 a1 a3) a2) <| zi (wsub .i64 (wadd .i64 (wsub .i64 a1 a3) a2) 1) <| zF h6 <| zi (wquo .i64 (wsub .i64 (wadd .i64 (wsub .i64 a1 a3) a2) 1) a2) <| z0
def FI : Hint := { H 103 with nt := 18, prot := 0, kp := 0 }
def Od (r1 : Int) : Res := ⟨[(.one (mI r1))], []⟩
def EV (K : Nat) (a1 : GGraph) (a2 : GJob) (a3 : Int) : Option (Int) :=
 (F31 K a1 a2).bind fun r4 =>
 bif (ieq r4 0) then
  ((FO K a1.N a2.Parts a3).bind fun r5 =>
  bif (ilt 0 r5) then
   (some r5)
  else
  some 0)
 else
 some 0
theorem Lz (K : Nat) (a1 : GGraph) (a2 : GJob) (a3 : Int) (r : Int) (F : EV K a1 a2 a3 = some r) : Evt E H 103 [.agg (eGGraph a1), .agg (eGJob a2), .one (i6 a3)] (Od r) := by
 rw [EV] at F
 apply jb F; intro r4 h5 F
 apply jc F <;> intro h6 F
 apply jb F; intro r7 h8 F
 have q10 {l} (z : HA FI l) := zl (B4 K a1 a2 _ h5) <| zF (ine_t h6) <| zl (M3 K a1.N a2.Parts a3 _ h8) <| z
 apply jc F <;> intro h9 F
 apply jr F
 exact fpC FI <| q10 <| zT (igt_eq h9) <| z0
 apply jr F
 exact fpC FI <| q10 <| zF (igt_eq h9) <| z0
 apply jr F
 exact fpC FI <| zl (B4 K a1 a2 _ h5) <| zT (ine_f h6) <| z0
def AK : Hint := { H 91 with nt := 85, prot := 0, kp := 0 }
def G6 : Code := loopOf E 91 0
def Lb (r1 : Bool) : Res := ⟨[(.one (mB r1))], []⟩
def D5 (K : Nat) (a1 : GGraph) (a2 : GJob) (a3 : GPart) : Nat → Int → Int → Option ((Unit) ⊕ (Unit))
 | 0, _, _ => none
 | k + 1, v4, v5 =>
  bif (ilt v5 (nlen (len a3.In))) then
   (bif (inr v5 (len a3.In)) then
   (elAt a3.In v5).bind fun x6 =>
   bif (ile x6.To v4) then
    (some (.inl ()))
   else
   bif (ile a1.N x6.To) then
    (some (.inl ()))
   else
   bif (izero a2.Parts) then none else
   bif (ieq (wrem x6.To a2.Parts) a3.P) then
    (D5 K a1 a2 a3 k x6.To (wadd .i64 v5 1))
   else
   some (.inl ())
   else none)
  else
  some (.inr ())
def Ia (a1 : GGraph) (a2 : GJob) (a3 : GPart) (v4 : Int) (v5 : Int) : TS := .on (kq 192 3 <| kq 256 5 <| kq 320 6 <| kq 512 2 <| kq 3456 1 <| kq 3520 2 <| kq 3584 2 <| kq 3648 2 <| []) <| b1 192 a1 <| b2 256 a2 <| b7 320 a3 <| sq 512 [u0, (uI v4)] <| sq 3456 [⟨(.ad 5 0 4), 0, nob⟩] <| sq 3520 [u0, (uS eGMsg a3.In)] <| sq 3584 [u0, (uI (nlen (len a3.In)))] <| sq 3648 [u0, (uI v5)] []
def K3 (a1 : GGraph) (a2 : GJob) (a3 : GPart) (w4 : Unit) : TS := .on (kq 384 2 <| []) <| sq 384 [u0, (uB false)] []
def JL (a1 : GGraph) (a2 : GJob) (a3 : GPart) (w4 : Unit) : TS := .on [] []
theorem Hk (K : Nat) (a1 : GGraph) (a2 : GJob) (a3 : GPart) : ∀ (k : Nat) (v4 : Int) (v5 : Int) (r : (Unit) ⊕ (Unit)), D5 K a1 a2 a3 k v4 v5 = some r → (Sum.elim (fun w => LoopEv E H AK 0 G6 (Ia a1 a2 a3 v4 v5) .ret (K3 a1 a2 a3 w)) (fun w => LoopEv E H AK 0 G6 (Ia a1 a2 a3 v4 v5) (.exit 0) (JL a1 a2 a3 w))) r := by
 intro k
 induction k with
 | zero => intro v4 v5 r F; cases F
 | succ k ih =>
  intro v4 v5 r F
  rw [D5] at F
  apply jc F <;> intro h6 F
  apply jn F; intro h7 F
  apply jb F; intro x8 h9 F
  have q14 {l} (z : HA AK l) := zT h6 <| zT h7 <| zS eGMsg_len h9 2 <| z
  apply jc F <;> intro h10 F
  apply jr F
  exact lE <| q14 <| Cn h10 <| zt6 <| zt2 <| zr2 <| z0
  have q15 {l} (z : HA AK l) := CT h10 <| z
  apply jc F <;> intro h11 F
  apply jr F
  exact lE <| q14 <| q15 <| zA6 (ige_eq h11) <| B5 (ige_eq h11) <| zr1 <| z0
  refine cond_some F (fun _ F => nomatch F) (fun h12 F => ?_)
  have q16 {l} (z : HA AK l) := zB5 (ige_eq h11) <| zF h12 <| zi (wrem x8.To a2.Parts) <| Af (ige_eq h11) <| z
  apply jc F <;> intro h13 F
  exact lN2 (q14 <| q15 <| q16 <| zF (ine_t h13) <| zi (wadd .i64 v5 1) <| z0) (ih _ _ _ F)
  apply jr F
  exact lE <| q14 <| q15 <| q16 <| zT (ine_f h13) <| z0
  apply jr F
  exact lE <| zF h6 <| z0
def F91 (K : Nat) (a1 : GGraph) (a2 : GJob) (a3 : GPart) : Option (Bool) :=
 (F31 K a1 a2).bind fun r4 =>
 bif (ieq r4 0) then
  (bif (ilt a3.P 0) then
   (some false)
  else
  bif (ile a2.Parts a3.P) then
   (some false)
  else
  bif (ilt a3.Step 0) then
   (some false)
  else
  bif (ilt 40 a3.Step) then
   (some false)
  else
  (EV K a1 a2 a3.P).bind fun r5 =>
  bif (ieq (nlen (len a3.Vals)) r5) then
   (bif (ieq (nlen (len a3.Rest)) r5) then
    ((D5 K a1 a2 a3 K (-1) 0).bind fun y6 =>
    Sum.elim (fun w7 =>
     some false)
     (fun w8 =>
     some true) y6)
   else
   some false)
  else
  some false)
 else
 some false
theorem Gl (K : Nat) (a1 : GGraph) (a2 : GJob) (a3 : GPart) (r : Bool) (F : F91 K a1 a2 a3 = some r) : Evt E H 91 [.agg (eGGraph a1), .agg (eGJob a2), .agg (eGPart a3)] (Lb r) := by
 rw [F91] at F
 apply jb F; intro r4 h5 F
 apply jc F <;> intro h6 F
 have q19 {l} (z : HA AK l) := zl (B4 K a1 a2 _ h5) <| Af (ine_t h6) <| z
 apply jc F <;> intro h7 F
 apply jr F
 exact fpC AK <| q19 <| Cn h7 <| zt3 <| zr1 <| zt3 <| zr2 <| z0
 have q20 {l} (z : HA AK l) := CT h7 <| z
 apply jc F <;> intro h8 F
 apply jr F
 exact fpC AK <| q19 <| q20 <| Ag (ige_eq h8) <| zt3 <| zr2 <| z0
 have q21 {l} (z : HA AK l) := Af (ige_eq h8) <| z
 apply jc F <;> intro h9 F
 apply jr F
 exact fpC AK <| q19 <| q20 <| q21 <| Ag h9 <| zr1 <| z0
 have q22 {l} (z : HA AK l) := Af h9 <| z
 apply jc F <;> intro h10 F
 apply jr F
 exact fpC AK <| q19 <| q20 <| q21 <| q22 <| zT (igt_eq h10) <| z0
 apply jb F; intro r11 h12 F
 have q23 {l} (z : HA AK l) := zF (igt_eq h10) <| zl (Lz K a1 a2 a3.P _ h12) <| zi (nl a3.Vals) <| z
 apply jc F <;> intro h13 F
 have q24 {l} (z : HA AK l) := zB3 (ine_t h13) <| zi (nl a3.Rest) <| Cv (ine_t h13) <| z
 apply jc F <;> intro h14 F
 apply jb F; intro y16 h15 F
 refine js F (fun w17 hx F => ?_) fun w18 hx F => ?_
 subst hx
 apply jr F
 exact fpC AK <| q19 <| q20 <| q21 <| q22 <| q23 <| q24 <| zF (ine_t h14) <| zi (nl a3.In) <| zo (Hk K a1 a2 a3 K (-1) 0 _ h15) <| z0
 subst hx
 apply jr F
 exact fpC AK <| q19 <| q20 <| q21 <| q22 <| q23 <| q24 <| zF (ine_t h14) <| zi (nl a3.In) <| zo (Hk K a1 a2 a3 K (-1) 0 _ h15) <| z0
 apply jr F
 exact fpC AK <| q19 <| q20 <| q21 <| q22 <| q23 <| q24 <| zT (ine_f h14) <| z0
 apply jr F
 exact fpC AK <| q19 <| q20 <| q21 <| q22 <| q23 <| Cn (ine_f h13) <| zr1 <| z0
 apply jr F
 exact fpC AK <| zl (B4 K a1 a2 _ h5) <| Ag (ine_f h6) <| zt5 <| zr1 <| zt3 <| zr1 <| zt3 <| zr2 <| z0
def Fd : Hint := { H 72 with nt := 24, prot := 1, kp := 0 }
def ID : Code := loopOf E 72 0
def Lp (r1 : Int × GWorker) : Res := ⟨[(.one (mI r1.1))], [(wl0 r1.2)]⟩
def ED (K : Nat) (a1 : GWorker) (a2 : Int) : Nat → Int → Option ((Int) ⊕ (Unit))
 | 0, _ => none
 | k + 1, v3 =>
  bif (ilt v3 (nlen (len a1.Held))) then
   (bif (inr v3 (len a1.Held)) then
   (elAt a1.Held v3).bind fun x4 =>
   bif (ieq x4.X.P a2) then
    (some (.inl v3))
   else
   ED K a1 a2 k (wadd .i64 v3 1)
   else none)
  else
  some (.inr ())
def Ie (a1 : GWorker) (a2 : Int) (v3 : Int) : TS := .on (kq 0 12 <| kq 64 2 <| kq 448 1 <| kq 512 1 <| kq 576 1 <| kq 640 2 <| kq 704 2 <| kq 768 2 <| []) <| b0 0 a1 <| sq 64 [u0, (uI a2)] <| sq 448 [⟨(.ad 0 0 0), 0, nob⟩] <| sq 512 [⟨(.ad 0 0 0), 0, nob⟩] <| sq 576 [⟨(.ad 0 0 7), 0, nob⟩] <| sq 640 [u0, ⟨(.vw 8 0), 0, nob⟩] <| sq 704 [u0, (uI (nlen (len a1.Held)))] <| sq 768 [u0, (uI v3)] []
def Oj (a1 : GWorker) (a2 : Int) (w3 : Int) : TS := .on (kq 0 12 <| kq 256 2 <| []) <| b0 0 a1 <| sq 256 [u0, (uI w3)] []
def OR (a1 : GWorker) (a2 : Int) (w3 : Unit) : TS := .on (kq 0 12 <| []) <| b0 0 a1 []
theorem Je (K : Nat) (a1 : GWorker) (a2 : Int) : ∀ (k : Nat) (v3 : Int) (r : (Int) ⊕ (Unit)), ED K a1 a2 k v3 = some r → (Sum.elim (fun w => LoopEv E H Fd 0 ID (Ie a1 a2 v3) .ret (Oj a1 a2 w)) (fun w => LoopEv E H Fd 0 ID (Ie a1 a2 v3) (.exit 0) (OR a1 a2 w))) r := by
 intro k
 induction k with
 | zero => intro v3 r F; cases F
 | succ k ih =>
  intro v3 r F
  rw [ED] at F
  apply jc F <;> intro h4 F
  apply jn F; intro h5 F
  apply jb F; intro x6 h7 F
  have q9 {l} (z : HA Fd l) := zT h4 <| zT h5 <| zS eGHeld_len h7 7 <| z
  apply jc F <;> intro h8 F
  apply jr F
  exact lE <| q9 <| zT h8 <| z0
  exact lN2 (q9 <| zF h8 <| zi (wadd .i64 v3 1) <| z0) (ih _ _ F)
  apply jr F
  exact lE <| zF h4 <| z0
def El (K : Nat) (a1 : GWorker) (a2 : Int) : Option (Int × GWorker) :=
 (ED K a1 a2 K 0).bind fun y3 =>
 Sum.elim (fun w4 =>
  some (w4, a1))
  (fun w5 =>
  some ((-1), a1)) y3
theorem GC (K : Nat) (a1 : GWorker) (a2 : Int) (r : Int × GWorker) (F : El K a1 a2 = some r) : Evt E H 72 [.box 38 (wl0 a1), .one (i6 a2)] (Lp r) := by
 rw [El] at F
 apply jb F; intro y4 h3 F
 refine js F (fun w5 hx F => ?_) fun w6 hx F => ?_
 subst hx
 apply jr F
 exact fpC Fd <| zi (nl a1.Held) <| zo (Je K a1 a2 K 0 _ h3) <| z0
 subst hx
 apply jr F
 exact fpC Fd <| zi (nl a1.Held) <| zo (Je K a1 a2 K 0 _ h3) <| z0
def EC : Hint := { H 70 with nt := 46, prot := 1, kp := 0 }
def J6 (r1 : Bool × GWorker) : Res := ⟨[(.one (mB r1.1))], [(wl0 r1.2)]⟩
def CN (K : Nat) (a1 : GWorker) (a2 : GGraph) (a3 : GJob) (a4 : GPart) : Option (Bool × GWorker) :=
 (F60 K a1.T a4.P).bind fun r5 =>
 bif (ieq r5.2.2 0) then
  (bif (ieq r5.1 a1.Id) then
   ((F91 K a2 a3 a4).bind fun r6 =>
   bif r6 then
    ((El K a1 a4.P).bind fun r7 =>
    some ((ilt r7.1 0), r7.2))
   else
   some (false, a1))
  else
  some (false, a1))
 else
 some (false, a1)
theorem GU (K : Nat) (a1 : GWorker) (a2 : GGraph) (a3 : GJob) (a4 : GPart) (r : Bool × GWorker) (F : CN K a1 a2 a3 a4 = some r) : Evt E H 70 [.box 38 (wl0 a1), .agg (eGGraph a2), .agg (eGJob a3), .agg (eGPart a4)] (J6 r) := by
 rw [CN] at F
 apply jb F; intro r5 h6 F
 apply jc F <;> intro h7 F
 have q14 {l} (z : HA EC l) := zl (GI K a1.T a4.P _ h6) <| Hq h7 <| z
 apply jc F <;> intro h8 F
 apply jb F; intro r9 h10 F
 have q15 {l} (z : HA EC l) := zC4 h8 <| zl (Gl K a2 a3 a4 _ h10) <| zT h8 <| z
 apply jc F <;> intro h11 F
 apply jb F; intro r12 h13 F
 apply jr F
 exact fpC EC <| q14 <| q15 <| zC4 h11 <| zc (GC K a1 a4.P _ h13) <| Dc h11 <| z0
 apply jr F
 exact fpC EC <| q14 <| q15 <| Au h11 <| z0
 apply jr F
 exact fpC EC <| q14 <| Et h8 <| zk5 <| zf1 <| z0
 apply jr F
 exact fpC EC <| zl (GI K a1.T a4.P _ h6) <| Fc h7 <| zk4 <| zf1 <| zk5 <| zf1 <| z0
def Ga : Hint := { H 71 with nt := 53, prot := 1, kp := 0 }
def Ov : Code := loopOf E 71 0
def Nv (r1 : GWorker) : Res := ⟨[], [(wl0 r1)]⟩
def Du (K : Nat) (a1 : GWorker) (a2 : GPart) : Nat → Int → Option (Int)
 | 0, _ => none
 | k + 1, v3 =>
  bif (ilt v3 (nlen (len a1.Held))) then
   (bif (inr v3 (len a1.Held)) then
   (elAt a1.Held v3).bind fun x4 =>
   bif (ilt x4.X.P a2.P) then
    (Du K a1 a2 k (wadd .i64 v3 1))
   else
   some v3
   else none)
  else
  some v3
def KZ (a1 : GWorker) (a2 : GPart) (v3 : Int) : TS := .on (kq 0 12 <| kq 192 6 <| kq 256 2 <| []) <| b0 0 a1 <| b7 192 a2 <| sq 256 [u0, (uI v3)] []
def MN (a1 : GWorker) (a2 : GPart) (w3 : Int) : TS := .on (kq 0 12 <| kq 192 6 <| kq 256 2 <| []) <| b0 0 a1 <| b7 192 a2 <| sq 256 [u0, (uI w3)] []
theorem MK (K : Nat) (a1 : GWorker) (a2 : GPart) : ∀ (k : Nat) (v3 : Int) (r : Int), Du K a1 a2 k v3 = some r → LoopEv E H Ga 0 Ov (KZ a1 a2 v3) (.exit 0) (MN a1 a2 r) := by
 intro k
 induction k with
 | zero => intro v3 r F; cases F
 | succ k ih =>
  intro v3 r F
  rw [Du] at F
  apply jc F <;> intro h4 F
  apply jn F; intro h5 F
  apply jb F; intro x6 h7 F
  have q9 {l} (z : HA Ga l) := zi (nl a1.Held) <| zC6 h4 <| zT h5 <| zC3 h4 <| zU eGHeld_len h7 0 1 <| DX h4 <| z
  apply jc F <;> intro h8 F
  exact lN1 (q9 <| zT h8 <| zi (wadd .i64 v3 1) <| z0) (ih _ _ F)
  apply jr F
  exact lE <| q9 <| zF h8 <| z0
  apply jr F
  exact lE <| zi (nl a1.Held) <| zD6 h4 <| Fc h4 <| zf1 <| z0
def CK (K : Nat) (a1 : GWorker) (a2 : GPart) : Option (GWorker) :=
 (Du K a1 a2 K 0).bind fun w3 =>
 bif (bnd w3 (nlen (len a1.Held)) (len a1.Held)) then
 bif (apok 0 (len (α := GHeld) (subL a1.Held w3 (nlen (len a1.Held)))) 96) then
 bif (bnd 0 w3 (len a1.Held)) then
 bif (ieq w3 w3) then
 bif (apok (len (α := GHeld) (subL a1.Held 0 w3)) 1 96) then
 bif (apok (len (α := GHeld) (appL (subL a1.Held 0 w3) [(GHeld.mk a2 false false)])) (len (α := GHeld) (appL [] (subL a1.Held w3 (nlen (len a1.Held))))) 96) then
 some (GWorker.mk a1.Id a1.Goal a1.Until a1.T (appL (appL (subL a1.Held 0 w3) [(GHeld.mk a2 false false)]) (appL [] (subL a1.Held w3 (nlen (len a1.Held))))) a1.Buf a1.Coming a1.Out)
 else none
 else none
 else none
 else none
 else none
 else none
theorem Gk (K : Nat) (a1 : GWorker) (a2 : GPart) (r : GWorker) (F : CK K a1 a2 = some r) : Evt E H 71 [.box 38 (wl0 a1), .agg (eGPart a2)] (Nv r) := by
 rw [CK] at F
 apply jb F; intro w4 h3 F
 apply jn F; intro h5 F
 apply jn F; intro h6 F
 apply jn F; intro h7 F
 apply jn F; intro h8 F
 apply jn F; intro h9 F
 apply jn F; intro h10 F
 apply jr F
 exact fpC Ga <| zo (MK K a1 a2 K 0 _ h3) <| zT h5 <| zV (sub_ok eGHeld_len h5) <| zX (tt (leqm (flat eGHeld (subL a1.Held w4 (nl a1.Held))) (len (α := GHeld) (subL a1.Held w4 (nl a1.Held))) 7)) (leqm_flat eGHeld_len _) <| zT h6 <| zV (app_ok (enc := eGHeld) ([] : List GHeld) (subL a1.Held w4 (nl a1.Held))) <| zT h7 <| zT h8 <| zV (sub_ok eGHeld_len h7) <| zX (tt (leqm [(i6 a2.P), (i6 a2.Step), (sE e6 a2.Vals), (sE eBool a2.Rest), (sE eGMsg a2.In), (.lit (.bool false)), (.lit (.bool false))] 1 7)) rfl <| zX (tt (leqm (flat eGHeld (subL a1.Held 0 w4)) (len (α := GHeld) (subL a1.Held 0 w4)) 7)) (leqm_flat eGHeld_len _) <| zT h9 <| zY (tt (lle 1 1)) <| zV (app_ok (enc := eGHeld) ((subL a1.Held 0 w4) : List GHeld) [(GHeld.mk a2 false false)]) <| zX (tt (leqm (flat eGHeld (appL [] (subL a1.Held w4 (nl a1.Held)))) (len (α := GHeld) (appL [] (subL a1.Held w4 (nl a1.Held)))) 7)) (leqm_flat eGHeld_len _) <| zT h10 <| zV (app_ok (enc := eGHeld) ((appL (subL a1.Held 0 w4) [(GHeld.mk a2 false false)]) : List GHeld) (appL [] (subL a1.Held w4 (nl a1.Held)))) <| z0
def Np : Hint := { H 63 with nt := 15, prot := 1, kp := 1792 }
def KC (r1 : GWorker) : Res := ⟨[], [(wl0 r1)]⟩
def CU (K : Nat) (a1 : GWorker) (a2 : GMail) : Option (GWorker) :=
 bif (apok (len a1.Out) 1 264) then
 some (GWorker.mk a1.Id a1.Goal a1.Until a1.T a1.Held a1.Buf a1.Coming (appL a1.Out [(GPost.mk 0 0 a2)]))
 else none
theorem E9 (K : Nat) (a1 : GWorker) (a2 : GMail) (r : GWorker) (F : CU K a1 a2 = some r) : Evt E H 63 [.box 38 (wl0 a1), .agg (eGMail a2)] (KC r) := by
 rw [CU] at F
 apply jn F; intro h3 F
 apply jr F
 exact fpC Np <| zX (tt (leqm [(i6 0), (i6 0), (i6 a2.Kind), (i6 a2.Epoch), (i6 a2.Fresh), (i6 a2.Step), (i6 a2.P), (i6 a2.Q), (i6 a2.To), (i6 a2.E), (sE e6 a2.Owners), (sE e6 a2.Ids), (sE e6 a2.Incs), (i6 a2.X.P), (i6 a2.X.Step), (sE e6 a2.X.Vals), (sE eBool a2.X.Rest), (sE eGMsg a2.X.In), (sE eGMsg a2.Msgs)] 1 19)) rfl <| zT h3 <| zV (app_ok (enc := eGPost) (a1.Out : List GPost) [(GPost.mk 0 0 a2)]) <| z0
def CR : Hint := { H 41 with nt := 73, prot := 1, kp := 0 }
def Mm (r1 : GWorker) : Res := ⟨[], [(wl0 r1)]⟩
def EZ (K : Nat) (a1 : GWorker) (a2 : GGraph) (a3 : GJob) (a4 : GMail) : Option (GWorker) :=
 (F68 K a3 a4.Epoch a4).bind fun r5 =>
 bif r5.2 then
  (bif (ilt a4.Epoch a1.T.Epoch) then
   (some a1)
  else
  bif (ilt a1.T.Epoch a4.Epoch) then
   ((DT K (GWorker.mk a1.Id (-1) a1.Until r5.1 [] a1.Buf a1.Coming []) a4.Epoch).bind fun r6 =>
   (CN K r6 a2 a3 a4.X).bind fun r7 =>
   bif r7.1 then
    ((CK K r7.2 a4.X).bind fun r8 =>
    (CU K r8 (GMail.mk 2 a4.Epoch 0 0 a4.X.P 0 0 0 [] [] [] (GPart.mk 0 0 [] [] []) [])).bind fun r9 =>
    some r9)
   else
   some r7.2)
  else
  (CN K a1 a2 a3 a4.X).bind fun r10 =>
  bif r10.1 then
   ((CK K r10.2 a4.X).bind fun r11 =>
   (CU K r11 (GMail.mk 2 a4.Epoch 0 0 a4.X.P 0 0 0 [] [] [] (GPart.mk 0 0 [] [] []) [])).bind fun r12 =>
   some r12)
  else
  some r10.2)
 else
 some a1
theorem Nj (K : Nat) (a1 : GWorker) (a2 : GGraph) (a3 : GJob) (a4 : GMail) (r : GWorker) (F : EZ K a1 a2 a3 a4 = some r) : Evt E H 41 [.box 38 (wl0 a1), .agg (eGGraph a2), .agg (eGJob a3), .agg (eGMail a4)] (Mm r) := by
 rw [EZ] at F
 apply jb F; intro r5 h6 F
 apply jc F <;> intro h7 F
 have q26 {l} (z : HA CR l) := zc (FP K a3 a4.Epoch a4 _ h6) <| zB6 (bnot_t h7) <| Cv (bnot_t h7) <| z
 apply jc F <;> intro h8 F
 apply jr F
 exact fpC CR <| q26 <| zT h8 <| z0
 apply jc F <;> intro h9 F
 apply jb F; intro r10 h11 F
 apply jb F; intro r12 h13 F
 have q27 {l} (z : HA CR l) := zF h8 <| zT (igt_eq h9) <| zc (IH K (GWorker.mk a1.Id (-1) a1.Until r5.1 [] a1.Buf a1.Coming []) a4.Epoch _ h11) <| zc (GU K r10 a2 a3 a4.X _ h13) <| z
 apply jc F <;> intro h14 F
 apply jb F; intro r15 h16 F
 apply jb F; intro r17 h18 F
 apply jr F
 exact fpC CR <| q26 <| q27 <| zT h14 <| zc (Gk K r12.2 a4.X _ h16) <| zc (E9 K r15 (GMail.mk 2 a4.Epoch 0 0 a4.X.P 0 0 0 [] [] [] (GPart.mk 0 0 [] [] []) []) _ h18) <| z0
 apply jr F
 exact fpC CR <| q26 <| q27 <| zF h14 <| z0
 apply jb F; intro r19 h20 F
 have q28 {l} (z : HA CR l) := zF h8 <| zF (igt_eq h9) <| zc (GU K a1 a2 a3 a4.X _ h20) <| z
 apply jc F <;> intro h21 F
 apply jb F; intro r22 h23 F
 apply jb F; intro r24 h25 F
 apply jr F
 exact fpC CR <| q26 <| q28 <| zT h21 <| zc (Gk K r19.2 a4.X _ h23) <| zc (E9 K r22 (GMail.mk 2 a4.Epoch 0 0 a4.X.P 0 0 0 [] [] [] (GPart.mk 0 0 [] [] []) []) _ h25) <| z0
 apply jr F
 exact fpC CR <| q26 <| q28 <| zF h21 <| z0
 apply jr F
 exact fpC CR <| zc (FP K a3 a4.Epoch a4 _ h6) <| zA6 (bnot_f h7) <| B5 (bnot_f h7) <| zr1 <| z0
def Jq : Hint := { H 42 with nt := 21, prot := 1, kp := 0 }
def Nf (r1 : GWorker) : Res := ⟨[], [(wl0 r1)]⟩
def E8 (K : Nat) (a1 : GWorker) (a2 : GGraph) (a3 : GJob) (a4 : GMail) : Option (GWorker) :=
 bif (ieq a4.Epoch a1.T.Epoch) then
  (some (GWorker.mk a1.Id a4.Step a1.Until a1.T a1.Held a1.Buf a1.Coming a1.Out))
 else
 some a1
theorem Mr (K : Nat) (a1 : GWorker) (a2 : GGraph) (a3 : GJob) (a4 : GMail) (r : GWorker) (F : E8 K a1 a2 a3 a4 = some r) : Evt E H 42 [.box 38 (wl0 a1), .agg (eGGraph a2), .agg (eGJob a3), .agg (eGMail a4)] (Nf r) := by
 rw [E8] at F
 apply jc F <;> intro h5 F
 apply jr F
 exact fpC Jq <| zT h5 <| z0
 apply jr F
 exact fpC Jq <| zF h5 <| z0
def Ci : Hint := { H 46 with nt := 119, prot := 1, kp := 0 }
def Km : Code := loopOf E 46 0
def NL : Code := loopOf E 46 1
def Kw : Code := loopOf E 46 2
def Ld (r1 : GWorker) : Res := ⟨[], [(wl0 r1)]⟩
def C2 (K : Nat) (a1 : GWorker) (a2 : GGraph) (a3 : GJob) (a4 : GMail) (r5 : GTable × Bool) : Nat → List GPart → Int → Option (List GPart)
 | 0, _, _ => none
 | k + 1, v6, v7 =>
  bif (ilt v7 (nlen (len a1.Held))) then
   (bif (inr v7 (len a1.Held)) then
   (elAt a1.Held v7).bind fun x8 =>
   bif (ieq a4.Epoch a1.T.Epoch) then
    (bif x8.Wait then
     (C2 K a1 a2 a3 a4 r5 k v6 (wadd .i64 v7 1))
    else
    bif x8.Given then
     (C2 K a1 a2 a3 a4 r5 k v6 (wadd .i64 v7 1))
    else
    bif (apok (len v6) 1 88) then
    C2 K a1 a2 a3 a4 r5 k (appL v6 [x8.X]) (wadd .i64 v7 1)
    else none)
   else
   C2 K a1 a2 a3 a4 r5 k v6 (wadd .i64 v7 1)
   else none)
  else
  some v6
def JW (a1 : GWorker) (a2 : GGraph) (a3 : GJob) (a4 : GMail) (r5 : GTable × Bool) (v6 : List GPart) (v7 : Int) : TS := .on (kq 0 12 <| kq 320 3 <| kq 384 5 <| kq 448 18 <| kq 512 5 <| kq 640 2 <| kq 2368 1 <| kq 2432 1 <| kq 2496 1 <| kq 2560 2 <| kq 2624 2 <| kq 2688 2 <| []) <| b0 0 a1 <| b1 320 a2 <| b2 384 a3 <| b5 448 a4 <| b10 512 r5.1 <| sq 640 [u0, (uO 45 eGPart v6)] <| sq 2368 [⟨(.ad 0 0 0), 0, nob⟩] <| sq 2432 [⟨(.ad 0 0 0), 0, nob⟩] <| sq 2496 [⟨(.ad 0 0 7), 0, nob⟩] <| sq 2560 [u0, ⟨(.vw 8 0), 0, nob⟩] <| sq 2624 [u0, (uI (nlen (len a1.Held)))] <| sq 2688 [u0, (uI v7)] []
def KH (a1 : GWorker) (a2 : GGraph) (a3 : GJob) (a4 : GMail) (r5 : GTable × Bool) (w6 : List GPart) : TS := .on (kq 0 12 <| kq 320 3 <| kq 384 5 <| kq 448 18 <| kq 512 5 <| kq 640 2 <| []) <| b0 0 a1 <| b1 320 a2 <| b2 384 a3 <| b5 448 a4 <| b10 512 r5.1 <| sq 640 [u0, (uO 45 eGPart w6)] []
theorem Mv (K : Nat) (a1 : GWorker) (a2 : GGraph) (a3 : GJob) (a4 : GMail) (r5 : GTable × Bool) : ∀ (k : Nat) (v6 : List GPart) (v7 : Int) (r : List GPart), C2 K a1 a2 a3 a4 r5 k v6 v7 = some r → LoopEv E H Ci 0 Km (JW a1 a2 a3 a4 r5 v6 v7) (.exit 0) (KH a1 a2 a3 a4 r5 r) := by
 intro k
 induction k with
 | zero => intro v6 v7 r F; cases F
 | succ k ih =>
  intro v6 v7 r F
  rw [C2] at F
  apply jc F <;> intro h8 F
  apply jn F; intro h9 F
  apply jb F; intro x10 h11 F
  have q16 {l} (z : HA Ci l) := zT h8 <| zT h9 <| zS eGHeld_len h11 7 <| z
  apply jc F <;> intro h12 F
  have q17 {l} (z : HA Ci l) := DX h12 <| z
  apply jc F <;> intro h13 F
  exact lN1 (q16 <| q17 <| CO (bnot_t h13) <| zf1 <| zi (wadd .i64 v7 1) <| z0) (ih _ _ _ F)
  have q18 {l} (z : HA Ci l) := DX (bnot_f h13) <| z
  apply jc F <;> intro h14 F
  exact lN1 (q16 <| q17 <| q18 <| zF (bnot_t h14) <| zi (wadd .i64 v7 1) <| z0) (ih _ _ _ F)
  apply jn F; intro h15 F
  exact lN1 (q16 <| q17 <| q18 <| zT (bnot_f h14) <| zX (tt (leqm [(i6 x10.X.P), (i6 x10.X.Step), (sE e6 x10.X.Vals), (sE eBool x10.X.Rest), (sE eGMsg x10.X.In)] 1 5)) rfl <| zT h15 <| zV (app_ok (enc := eGPart) (v6 : List GPart) [x10.X]) <| zi (wadd .i64 v7 1) <| z0) (ih _ _ _ F)
  exact lN1 (q16 <| CO h12 <| zk3 <| zf2 <| zi (wadd .i64 v7 1) <| z0) (ih _ _ _ F)
  apply jr F
  exact lE <| zF h8 <| z0
def DP (K : Nat) (a1 : GWorker) (a2 : GGraph) (a3 : GJob) (a4 : GMail) (r5 : GTable × Bool) : Nat → List GPart → Int → Option (List GPart)
 | 0, _, _ => none
 | k + 1, v6, v7 =>
  bif (ilt v7 (nlen (len a1.Coming))) then
   (bif (inr v7 (len a1.Coming)) then
   (elAt a1.Coming v7).bind fun x8 =>
   bif (ieq x8.Epoch a4.Epoch) then
    (bif (apok (len v6) 1 88) then
    DP K a1 a2 a3 a4 r5 k (appL v6 [x8.X]) (wadd .i64 v7 1)
    else none)
   else
   DP K a1 a2 a3 a4 r5 k v6 (wadd .i64 v7 1)
   else none)
  else
  some v6
def L7 (a1 : GWorker) (a2 : GGraph) (a3 : GJob) (a4 : GMail) (r5 : GTable × Bool) (v6 : List GPart) (v7 : Int) : TS := .on (kq 0 12 <| kq 320 3 <| kq 384 5 <| kq 448 18 <| kq 512 5 <| kq 640 2 <| kq 4480 1 <| kq 4544 1 <| kq 4608 1 <| kq 4672 2 <| kq 4736 2 <| kq 4800 2 <| []) <| b0 0 a1 <| b1 320 a2 <| b2 384 a3 <| b5 448 a4 <| b10 512 r5.1 <| sq 640 [u0, (uO 45 eGPart v6)] <| sq 4480 [⟨(.ad 0 0 0), 0, nob⟩] <| sq 4544 [⟨(.ad 0 0 0), 0, nob⟩] <| sq 4608 [⟨(.ad 0 0 9), 0, nob⟩] <| sq 4672 [u0, ⟨(.vw 10 0), 0, nob⟩] <| sq 4736 [u0, (uI (nlen (len a1.Coming)))] <| sq 4800 [u0, (uI v7)] []
def MS (a1 : GWorker) (a2 : GGraph) (a3 : GJob) (a4 : GMail) (r5 : GTable × Bool) (w6 : List GPart) : TS := .on (kq 0 12 <| kq 320 3 <| kq 384 5 <| kq 448 18 <| kq 512 5 <| kq 640 2 <| []) <| b0 0 a1 <| b1 320 a2 <| b2 384 a3 <| b5 448 a4 <| b10 512 r5.1 <| sq 640 [u0, (uO 45 eGPart w6)] []
theorem Nk (K : Nat) (a1 : GWorker) (a2 : GGraph) (a3 : GJob) (a4 : GMail) (r5 : GTable × Bool) : ∀ (k : Nat) (v6 : List GPart) (v7 : Int) (r : List GPart), DP K a1 a2 a3 a4 r5 k v6 v7 = some r → LoopEv E H Ci 2 NL (L7 a1 a2 a3 a4 r5 v6 v7) (.exit 2) (MS a1 a2 a3 a4 r5 r) := by
 intro k
 induction k with
 | zero => intro v6 v7 r F; cases F
 | succ k ih =>
  intro v6 v7 r F
  rw [DP] at F
  apply jc F <;> intro h8 F
  apply jn F; intro h9 F
  apply jb F; intro x10 h11 F
  have q14 {l} (z : HA Ci l) := zT h8 <| zT h9 <| zS eGComing_len h11 6 <| z
  apply jc F <;> intro h12 F
  apply jn F; intro h13 F
  exact lN1 (q14 <| zT h12 <| zX (tt (leqm [(i6 x10.X.P), (i6 x10.X.Step), (sE e6 x10.X.Vals), (sE eBool x10.X.Rest), (sE eGMsg x10.X.In)] 1 5)) rfl <| zT h13 <| zV (app_ok (enc := eGPart) (v6 : List GPart) [x10.X]) <| zi (wadd .i64 v7 1) <| z0) (ih _ _ _ F)
  exact lN1 (q14 <| zF h12 <| zi (wadd .i64 v7 1) <| z0) (ih _ _ _ F)
  apply jr F
  exact lE <| zF h8 <| z0
def Db (K : Nat) (a1 : GGraph) (a2 : GJob) (a3 : GMail) (w4 : List GPart) : Nat → Int → Int → Int → Int → List Int → List Int → List Int → List GHeld → List GData → List GComing → List GPost → Int → Option (Int × Int × Int × Int × List Int × List Int × List Int × List GHeld × List GData × List GComing × List GPost)
 | 0, _, _, _, _, _, _, _, _, _, _, _, _ => none
 | k + 1, v5, v6, v7, v8, v9, v10, v11, v12, v13, v14, v15, v16 =>
  bif (ilt v16 (nlen (len w4))) then
   (bif (inr v16 (len w4)) then
   (elAt w4 v16).bind fun x17 =>
   (CN K (GWorker.mk v5 v6 v7 (GTable.mk v8 v9 v10 v11) v12 v13 v14 v15) a1 a2 x17).bind fun r18 =>
   bif r18.1 then
    ((CK K r18.2 x17).bind fun r19 =>
    Db K a1 a2 a3 w4 k r19.Id r19.Goal r19.Until r19.T.Epoch r19.T.Owners r19.T.Ids r19.T.Incs r19.Held r19.Buf r19.Coming r19.Out (wadd .i64 v16 1))
   else
   Db K a1 a2 a3 w4 k r18.2.Id r18.2.Goal r18.2.Until r18.2.T.Epoch r18.2.T.Owners r18.2.T.Ids r18.2.T.Incs r18.2.Held r18.2.Buf r18.2.Coming r18.2.Out (wadd .i64 v16 1)
   else none)
  else
  some (v5, (v6, (v7, (v8, (v9, (v10, (v11, (v12, (v13, (v14, v15))))))))))
def LE (a1 : GGraph) (a2 : GJob) (a3 : GMail) (w4 : List GPart) (v5 : Int) (v6 : Int) (v7 : Int) (v8 : Int) (v9 : List Int) (v10 : List Int) (v11 : List Int) (v12 : List GHeld) (v13 : List GData) (v14 : List GComing) (v15 : List GPost) (v16 : Int) : TS := .on (kq 0 12 <| kq 320 3 <| kq 384 5 <| kq 448 18 <| kq 640 2 <| kq 6400 2 <| kq 6464 2 <| kq 6528 2 <| []) <| sq 0 [(uX 38 11), (uI v5), (uI v6), (uI v7), (uI v8), (uS e6 v9), (uS e6 v10), (uS e6 v11), (uO 69 eGHeld v12), (uO 112 eGData v13), (uO 113 eGComing v14), (uO 86 eGPost v15)] <| b1 320 a1 <| b2 384 a2 <| b5 448 a3 <| sq 640 [u0, (uO 45 eGPart w4)] <| sq 6400 [u0, ⟨(.vw 641 0), 0, nob⟩] <| sq 6464 [u0, (uI (nlen (len w4)))] <| sq 6528 [u0, (uI v16)] []
def O1 (a1 : GGraph) (a2 : GJob) (a3 : GMail) (w4 : List GPart) (w5 : Int × Int × Int × Int × List Int × List Int × List Int × List GHeld × List GData × List GComing × List GPost) : TS := .on (kq 0 12 <| kq 448 18 <| []) <| sq 0 [(uX 38 11), (uI w5.1), (uI w5.2.1), (uI w5.2.2.1), (uI w5.2.2.2.1), (uS e6 w5.2.2.2.2.1), (uS e6 w5.2.2.2.2.2.1), (uS e6 w5.2.2.2.2.2.2.1), (uO 69 eGHeld w5.2.2.2.2.2.2.2.1), (uO 112 eGData w5.2.2.2.2.2.2.2.2.1), (uO 113 eGComing w5.2.2.2.2.2.2.2.2.2.1), (uO 86 eGPost w5.2.2.2.2.2.2.2.2.2.2)] <| b5 448 a3 []
theorem Nm (K : Nat) (a1 : GGraph) (a2 : GJob) (a3 : GMail) (w4 : List GPart) : ∀ (k : Nat) (v5 : Int) (v6 : Int) (v7 : Int) (v8 : Int) (v9 : List Int) (v10 : List Int) (v11 : List Int) (v12 : List GHeld) (v13 : List GData) (v14 : List GComing) (v15 : List GPost) (v16 : Int) (r : Int × Int × Int × Int × List Int × List Int × List Int × List GHeld × List GData × List GComing × List GPost), Db K a1 a2 a3 w4 k v5 v6 v7 v8 v9 v10 v11 v12 v13 v14 v15 v16 = some r → LoopEv E H Ci 4 Kw (LE a1 a2 a3 w4 v5 v6 v7 v8 v9 v10 v11 v12 v13 v14 v15 v16) (.exit 4) (O1 a1 a2 a3 w4 r) := by
 intro k
 induction k with
 | zero => intro v5 v6 v7 v8 v9 v10 v11 v12 v13 v14 v15 v16 r F; cases F
 | succ k ih =>
  intro v5 v6 v7 v8 v9 v10 v11 v12 v13 v14 v15 v16 r F
  rw [Db] at F
  apply jc F <;> intro h17 F
  apply jn F; intro h18 F
  apply jb F; intro x19 h20 F
  apply jb F; intro r21 h22 F
  have q26 {l} (z : HA Ci l) := zT h17 <| zT h18 <| zS eGPart_len h20 5 <| zc (GU K (GWorker.mk v5 v6 v7 (GTable.mk v8 v9 v10 v11) v12 v13 v14 v15) a1 a2 x19 _ h22) <| z
  apply jc F <;> intro h23 F
  apply jb F; intro r24 h25 F
  exact lN1 (q26 <| zT h23 <| zc (Gk K r21.2 x19 _ h25) <| zi (wadd .i64 v16 1) <| z0) (ih _ _ _ _ _ _ _ _ _ _ _ _ _ F)
  exact lN1 (q26 <| zF h23 <| zi (wadd .i64 v16 1) <| z0) (ih _ _ _ _ _ _ _ _ _ _ _ _ _ F)
  apply jr F
  exact lE <| zF h17 <| z0
def EO (K : Nat) (a1 : GWorker) (a2 : GGraph) (a3 : GJob) (a4 : GMail) : Option (GWorker) :=
 (F68 K a3 a4.Fresh a4).bind fun r5 =>
 bif r5.2 then
  (bif (ile a4.Fresh a1.T.Epoch) then
   (some a1)
  else
  (C2 K a1 a2 a3 a4 r5 K [] 0).bind fun w6 =>
  (DP K a1 a2 a3 a4 r5 K w6 0).bind fun w7 =>
  (Db K a2 a3 a4 w7 K a1.Id (-1) a1.Until r5.1.Epoch r5.1.Owners r5.1.Ids r5.1.Incs [] a1.Buf a1.Coming a1.Out 0).bind fun w8 =>
  (DT K (GWorker.mk w8.1 w8.2.1 w8.2.2.1 (GTable.mk w8.2.2.2.1 w8.2.2.2.2.1 w8.2.2.2.2.2.1 w8.2.2.2.2.2.2.1) w8.2.2.2.2.2.2.2.1 w8.2.2.2.2.2.2.2.2.1 w8.2.2.2.2.2.2.2.2.2.1 w8.2.2.2.2.2.2.2.2.2.2) a4.Fresh).bind fun r9 =>
  some r9)
 else
 some a1
theorem J2 (K : Nat) (a1 : GWorker) (a2 : GGraph) (a3 : GJob) (a4 : GMail) (r : GWorker) (F : EO K a1 a2 a3 a4 = some r) : Evt E H 46 [.box 38 (wl0 a1), .agg (eGGraph a2), .agg (eGJob a3), .agg (eGMail a4)] (Ld r) := by
 rw [EO] at F
 apply jb F; intro r5 h6 F
 apply jc F <;> intro h7 F
 have q17 {l} (z : HA Ci l) := zc (FP K a3 a4.Fresh a4 _ h6) <| zB6 (bnot_t h7) <| Cv (bnot_t h7) <| z
 apply jc F <;> intro h8 F
 apply jr F
 exact fpC Ci <| q17 <| zT h8 <| z0
 apply jb F; intro w10 h9 F
 apply jb F; intro w12 h11 F
 apply jb F; intro w14 h13 F
 apply jb F; intro r15 h16 F
 apply jr F
 exact fpC Ci <| q17 <| zF h8 <| zi (nl a1.Held) <| zo (Mv K a1 a2 a3 a4 r5 K [] 0 _ h9) <| zi (nl a1.Coming) <| zo (Nk K a1 a2 a3 a4 r5 K w10 0 _ h11) <| zi (nl w12) <| zo (Nm K a2 a3 a4 w12 K a1.Id (-1) a1.Until r5.1.Epoch r5.1.Owners r5.1.Ids r5.1.Incs [] a1.Buf a1.Coming a1.Out 0 _ h13) <| zc (IH K (GWorker.mk w14.1 w14.2.1 w14.2.2.1 (GTable.mk w14.2.2.2.1 w14.2.2.2.2.1 w14.2.2.2.2.2.1 w14.2.2.2.2.2.2.1) w14.2.2.2.2.2.2.2.1 w14.2.2.2.2.2.2.2.2.1 w14.2.2.2.2.2.2.2.2.2.1 w14.2.2.2.2.2.2.2.2.2.2) a4.Fresh _ h16) <| z0
 apply jr F
 exact fpC Ci <| zc (FP K a3 a4.Fresh a4 _ h6) <| zA6 (bnot_f h7) <| B5 (bnot_f h7) <| zr1 <| z0
def EF : Hint := { H 66 with nt := 24, prot := 0, kp := 0 }
def Hw : Code := loopOf E 66 0
def OJ (r1 : Bool) : Res := ⟨[(.one (mB r1))], []⟩
def D7 (K : Nat) (a1 : Int) (a2 : List Int) : Nat → Int → Option ((Unit) ⊕ (Unit))
 | 0, _ => none
 | k + 1, v3 =>
  bif (ilt v3 (nlen (len a2))) then
   (bif (inr v3 (len a2)) then
   (elAt a2 v3).bind fun x4 =>
   bif (ilt x4 0) then
    (some (.inl ()))
   else
   bif (ilt 1099511627776 x4) then
    (some (.inl ()))
   else
   D7 K a1 a2 k (wadd .i64 v3 1)
   else none)
  else
  some (.inr ())
def HB (a1 : Int) (a2 : List Int) (v3 : Int) : TS := .on (kq 0 2 <| kq 64 2 <| kq 448 2 <| kq 512 2 <| kq 576 2 <| []) <| sq 0 [u0, (uI a1)] <| sq 64 [u0, (uS e6 a2)] <| sq 448 [u0, (uS e6 a2)] <| sq 512 [u0, (uI (nlen (len a2)))] <| sq 576 [u0, (uI v3)] []
def N5 (a1 : Int) (a2 : List Int) (w3 : Unit) : TS := .on (kq 256 2 <| []) <| sq 256 [u0, (uB false)] []
def LS (a1 : Int) (a2 : List Int) (w3 : Unit) : TS := .on (kq 0 2 <| kq 64 2 <| []) <| sq 0 [u0, (uI a1)] <| sq 64 [u0, (uS e6 a2)] []
theorem Iu (K : Nat) (a1 : Int) (a2 : List Int) : ∀ (k : Nat) (v3 : Int) (r : (Unit) ⊕ (Unit)), D7 K a1 a2 k v3 = some r → (Sum.elim (fun w => LoopEv E H EF 0 Hw (HB a1 a2 v3) .ret (N5 a1 a2 w)) (fun w => LoopEv E H EF 0 Hw (HB a1 a2 v3) (.exit 0) (LS a1 a2 w))) r := by
 intro k
 induction k with
 | zero => intro v3 r F; cases F
 | succ k ih =>
  intro v3 r F
  rw [D7] at F
  apply jc F <;> intro h4 F
  apply jn F; intro h5 F
  apply jb F; intro x6 h7 F
  have q10 {l} (z : HA EF l) := zT h4 <| zT h5 <| zX (.sub (flat e6 a2) (nidx v3 1) 1 [(i6 x6)]) ⟨rfl, sub_flat0 (eInt_len _) h7 1 (by decide)⟩ <| z
  apply jc F <;> intro h8 F
  apply jr F
  exact lE <| q10 <| B5 h8 <| zr1 <| z0
  have q11 {l} (z : HA EF l) := Cv h8 <| z
  apply jc F <;> intro h9 F
  apply jr F
  exact lE <| q10 <| q11 <| zT (igt_eq h9) <| z0
  exact lN2 (q10 <| q11 <| zF (igt_eq h9) <| zi (wadd .i64 v3 1) <| z0) (ih _ _ F)
  apply jr F
  exact lE <| zF h4 <| z0
def F66 (K : Nat) (a1 : Int) (a2 : List Int) : Option (Bool) :=
 (D7 K a1 a2 K 0).bind fun y3 =>
 Sum.elim (fun w4 =>
  some false)
  (fun w5 =>
  some (ile (nlen (len a2)) a1)) y3
theorem Ff (K : Nat) (a1 : Int) (a2 : List Int) (r : Bool) (F : F66 K a1 a2 = some r) : Evt E H 66 [.one (i6 a1), .one (sE e6 a2)] (OJ r) := by
 rw [F66] at F
 apply jb F; intro y4 h3 F
 refine js F (fun w5 hx F => ?_) fun w6 hx F => ?_
 subst hx
 apply jr F
 exact fpC EF <| zi (nl a2) <| zo (Iu K a1 a2 K 0 _ h3) <| z0
 subst hx
 apply jr F
 exact fpC EF <| zi (nl a2) <| zo (Iu K a1 a2 K 0 _ h3) <| zi (nl a2) <| z0
def Fe : Hint := { H 67 with nt := 20, prot := 0, kp := 0 }
def I2 : Code := loopOf E 67 0
def Ka (r1 : Bool) : Res := ⟨[(.one (mB r1))], []⟩
def En (K : Nat) (a1 : List GMsg) : Nat → Int → Option ((Unit) ⊕ (Unit))
 | 0, _ => none
 | k + 1, v2 =>
  bif (ilt v2 (nlen (len a1))) then
   (bif (inr v2 (len a1)) then
   (elAt a1 v2).bind fun x3 =>
   (F66 K 1 [x3.To]).bind fun r4 =>
   bif r4 then
    (En K a1 k (wadd .i64 v2 1))
   else
   some (.inl ())
   else none)
  else
  some (.inr ())
def Hn (a1 : List GMsg) (v2 : Int) : TS := .on (kq 0 2 <| kq 320 2 <| kq 384 2 <| kq 448 2 <| []) <| sq 0 [u0, (uS eGMsg a1)] <| sq 320 [u0, (uS eGMsg a1)] <| sq 384 [u0, (uI (nlen (len a1)))] <| sq 448 [u0, (uI v2)] []
def ME (a1 : List GMsg) (w2 : Unit) : TS := .on (kq 128 2 <| []) <| sq 128 [u0, (uB false)] []
def KL (a1 : List GMsg) (w2 : Unit) : TS := .on (kq 0 2 <| []) <| sq 0 [u0, (uS eGMsg a1)] []
theorem IZ (K : Nat) (a1 : List GMsg) : ∀ (k : Nat) (v2 : Int) (r : (Unit) ⊕ (Unit)), En K a1 k v2 = some r → (Sum.elim (fun w => LoopEv E H Fe 0 I2 (Hn a1 v2) .ret (ME a1 w)) (fun w => LoopEv E H Fe 0 I2 (Hn a1 v2) (.exit 0) (KL a1 w))) r := by
 intro k
 induction k with
 | zero => intro v2 r F; cases F
 | succ k ih =>
  intro v2 r F
  rw [En] at F
  apply jc F <;> intro h3 F
  apply jn F; intro h4 F
  apply jb F; intro x5 h6 F
  apply jb F; intro r7 h8 F
  have q10 {l} (z : HA Fe l) := zT h3 <| zT h4 <| zS eGMsg_len h6 2 <| zl (Ff K 1 [x5.To] _ h8) <| z
  apply jc F <;> intro h9 F
  exact lN2 (q10 <| zF (bnot_t h9) <| zi (wadd .i64 v2 1) <| z0) (ih _ _ F)
  apply jr F
  exact lE <| q10 <| zT (bnot_f h9) <| z0
  apply jr F
  exact lE <| zF h3 <| z0
def F67 (K : Nat) (a1 : List GMsg) : Option (Bool) :=
 (En K a1 K 0).bind fun y2 =>
 Sum.elim (fun w3 =>
  some false)
  (fun w4 =>
  some (ile (nlen (len a1)) 24)) y2
theorem Hu (K : Nat) (a1 : List GMsg) (r : Bool) (F : F67 K a1 = some r) : Evt E H 67 [.one (sE eGMsg a1)] (Ka r) := by
 rw [F67] at F
 apply jb F; intro y3 h2 F
 refine js F (fun w4 hx F => ?_) fun w5 hx F => ?_
 subst hx
 apply jr F
 exact fpC Fe <| zi (nl a1) <| zo (IZ K a1 K 0 _ h2) <| z0
 subst hx
 apply jr F
 exact fpC Fe <| zi (nl a1) <| zo (IZ K a1 K 0 _ h2) <| zi (nl a1) <| z0
def AL : Hint := { H 40 with nt := 91, prot := 0, kp := 0 }
def Ll (r1 : Bool) : Res := ⟨[(.one (mB r1))], []⟩
def F40 (K : Nat) (a1 : GMail) : Option (Bool) :=
 bif (ile 1 a1.Kind) then
  (bif (ile a1.Kind 11) then
   ((F66 K 9 [a1.Epoch, a1.Fresh, a1.Step, a1.P, a1.Q, a1.To, a1.E, a1.X.P, a1.X.Step]).bind fun r2 =>
   bif r2 then
    ((F66 K 6 a1.Owners).bind fun r3 =>
    bif r3 then
     ((F66 K 5 a1.Ids).bind fun r4 =>
     bif r4 then
      ((F66 K (nlen (len a1.Ids)) a1.Incs).bind fun r5 =>
      bif r5 then
       (bif (ieq (nlen (len a1.Incs)) (nlen (len a1.Ids))) then
        (bif (ile (nlen (len a1.X.Vals)) 24) then
         (bif (ieq (nlen (len a1.X.Rest)) (nlen (len a1.X.Vals))) then
          ((F67 K a1.X.In).bind fun r6 =>
          bif r6 then
           ((F67 K a1.Msgs).bind fun r7 =>
           some r7)
          else
          some false)
         else
         some false)
        else
        some false)
       else
       some false)
      else
      some false)
     else
     some false)
    else
    some false)
   else
   some false)
  else
  some false)
 else
 some false
theorem NB (K : Nat) (a1 : GMail) (r : Bool) (F : F40 K a1 = some r) : Evt E H 40 [.agg (eGMail a1)] (Ll r) := by
 rw [F40] at F
 apply jc F <;> intro h2 F
 have q24 {l} (z : HA AL l) := DX (ige_eq h2) <| z
 apply jc F <;> intro h3 F
 apply jb F; intro r4 h5 F
 have q25 {l} (z : HA AL l) := zC6 h3 <| zC6 h3 <| zC6 h3 <| zC4 h3 <| zl (Ff K 9 [a1.Epoch, a1.Fresh, a1.Step, a1.P, a1.Q, a1.To, a1.E, a1.X.P, a1.X.Step] _ h5) <| zT h3 <| z
 apply jc F <;> intro h6 F
 apply jb F; intro r7 h8 F
 have q26 {l} (z : HA AL l) := zC3 h6 <| zl (Ff K 6 a1.Owners _ h8) <| zT h6 <| z
 apply jc F <;> intro h9 F
 apply jb F; intro r10 h11 F
 have q27 {l} (z : HA AL l) := zC3 h9 <| zl (Ff K 5 a1.Ids _ h11) <| zT h9 <| z
 apply jc F <;> intro h12 F
 apply jb F; intro r13 h14 F
 have q28 {l} (z : HA AL l) := zC3 h12 <| zi (nl a1.Ids) <| zC3 h12 <| zl (Ff K (nl a1.Ids) a1.Incs _ h14) <| zT h12 <| z
 apply jc F <;> intro h15 F
 have q29 {l} (z : HA AL l) := zC3 h15 <| zi (nl a1.Incs) <| zC3 h15 <| zi (nl a1.Ids) <| Dc h15 <| z
 apply jc F <;> intro h16 F
 have q30 {l} (z : HA AL l) := zC4 h16 <| zi (nl a1.X.Vals) <| Dc h16 <| z
 apply jc F <;> intro h17 F
 have q31 {l} (z : HA AL l) := zC4 h17 <| zi (nl a1.X.Rest) <| zC4 h17 <| zi (nl a1.X.Vals) <| Dc h17 <| z
 apply jc F <;> intro h18 F
 apply jb F; intro r19 h20 F
 have q32 {l} (z : HA AL l) := zC4 h18 <| zl (Hu K a1.X.In _ h20) <| zT h18 <| z
 apply jc F <;> intro h21 F
 apply jb F; intro r22 h23 F
 apply jr F
 exact fpC AL <| q24 <| q25 <| q26 <| q27 <| q28 <| q29 <| q30 <| q31 <| q32 <| zC3 h21 <| zl (Hu K a1.Msgs _ h23) <| zT h21 <| z0
 apply jr F
 exact fpC AL <| q24 <| q25 <| q26 <| q27 <| q28 <| q29 <| q30 <| q31 <| q32 <| CO h21 <| z0
 apply jr F
 exact fpC AL <| q24 <| q25 <| q26 <| q27 <| q28 <| q29 <| q30 <| q31 <| Et h18 <| zk3 <| zf1 <| z0
 apply jr F
 exact fpC AL <| q24 <| q25 <| q26 <| q27 <| q28 <| q29 <| q30 <| zD6 h17 <| CO h17 <| zk4 <| zf1 <| zk3 <| zf1 <| z0
 apply jr F
 exact fpC AL <| q24 <| q25 <| q26 <| q27 <| q28 <| q29 <| Au h16 <| zk6 <| zk3 <| zf1 <| zk4 <| zf1 <| zk3 <| zf1 <| z0
 apply jr F
 exact fpC AL <| q24 <| q25 <| q26 <| q27 <| q28 <| zD6 h15 <| IF h15 <| zk5 <| zf1 <| zk6 <| zk3 <| zf1 <| zk4 <| zf1 <| zk3 <| zf1 <| z0
 apply jr F
 exact fpC AL <| q24 <| q25 <| q26 <| q27 <| Fc h12 <| zk6 <| zk1 <| zf1 <| zk5 <| zf1 <| zk6 <| zk3 <| zf1 <| zk4 <| zf1 <| zk3 <| zf1 <| z0
 apply jr F
 exact fpC AL <| q24 <| q25 <| q26 <| CO h9 <| zk6 <| zf1 <| zk6 <| zk1 <| zf1 <| zk5 <| zf1 <| zk6 <| zk3 <| zf1 <| zk4 <| zf1 <| zk3 <| zf1 <| z0
 apply jr F
 exact fpC AL <| q24 <| q25 <| CO h6 <| zk3 <| zf1 <| zk6 <| zf1 <| zk6 <| zk1 <| zf1 <| zk5 <| zf1 <| zk6 <| zk3 <| zf1 <| zk4 <| zf1 <| zk3 <| zf1 <| z0
 apply jr F
 exact fpC AL <| q24 <| zD6 h3 <| zD6 h3 <| zD6 h3 <| Et h3 <| zk3 <| zf1 <| zk3 <| zf1 <| zk6 <| zf1 <| zk6 <| zk1 <| zf1 <| zk5 <| zf1 <| zk6 <| zk3 <| zf1 <| zk4 <| zf1 <| zk3 <| zf1 <| z0
 apply jr F
 exact fpC AL <| CO (ige_eq h2) <| zk6 <| zk6 <| zk6 <| zk4 <| zf1 <| zk3 <| zf1 <| zk3 <| zf1 <| zk6 <| zf1 <| zk6 <| zk1 <| zf1 <| zk5 <| zf1 <| zk6 <| zk3 <| zf1 <| zk4 <| zf1 <| zk3 <| zf1 <| z0
def Dj : Hint := { H 61 with nt := 47, prot := 1, kp := 3840 }
def HN : Code := loopOf E 61 0
def M6 (r1 : Int × GWorker) : Res := ⟨[(.one (mI r1.1))], [(wl0 r1.2)]⟩
def CZ (K : Nat) (a1 : GWorker) (a2 : Int) (a3 : Int) (a4 : Int) (a5 : Int) : Nat → Int → Option ((Int) ⊕ (Unit))
 | 0, _ => none
 | k + 1, v6 =>
  bif (ilt v6 (nlen (len a1.Buf))) then
   (bif (inr v6 (len a1.Buf)) then
   (elAt a1.Buf v6).bind fun x7 =>
   bif (ieq x7.Epoch a2) then
    (bif (ieq x7.Step a3) then
     (bif (ieq x7.Q a4) then
      (bif (ieq x7.P a5) then
       (some (.inl v6))
      else
      CZ K a1 a2 a3 a4 a5 k (wadd .i64 v6 1))
     else
     CZ K a1 a2 a3 a4 a5 k (wadd .i64 v6 1))
    else
    CZ K a1 a2 a3 a4 a5 k (wadd .i64 v6 1))
   else
   CZ K a1 a2 a3 a4 a5 k (wadd .i64 v6 1)
   else none)
  else
  some (.inr ())
def Ii (a1 : GWorker) (a2 : Int) (a3 : Int) (a4 : Int) (a5 : Int) (v6 : Int) : TS := .on (kq 0 12 <| kq 64 2 <| kq 128 2 <| kq 192 2 <| kq 256 2 <| kq 832 1 <| kq 896 1 <| kq 960 1 <| kq 1024 2 <| kq 1088 2 <| kq 1152 2 <| []) <| b0 0 a1 <| sq 64 [u0, (uI a2)] <| sq 128 [u0, (uI a3)] <| sq 192 [u0, (uI a4)] <| sq 256 [u0, (uI a5)] <| sq 832 [⟨(.ad 0 0 0), 0, nob⟩] <| sq 896 [⟨(.ad 0 0 0), 0, nob⟩] <| sq 960 [⟨(.ad 0 0 8), 0, nob⟩] <| sq 1024 [u0, ⟨(.vw 9 0), 0, nob⟩] <| sq 1088 [u0, (uI (nlen (len a1.Buf)))] <| sq 1152 [u0, (uI v6)] []
def KM (a1 : GWorker) (a2 : Int) (a3 : Int) (a4 : Int) (a5 : Int) (w6 : Int) : TS := .on (kq 0 12 <| kq 640 2 <| []) <| b0 0 a1 <| sq 640 [u0, (uI w6)] []
def OM (a1 : GWorker) (a2 : Int) (a3 : Int) (a4 : Int) (a5 : Int) (w6 : Unit) : TS := .on (kq 0 12 <| []) <| b0 0 a1 []
theorem Hp (K : Nat) (a1 : GWorker) (a2 : Int) (a3 : Int) (a4 : Int) (a5 : Int) : ∀ (k : Nat) (v6 : Int) (r : (Int) ⊕ (Unit)), CZ K a1 a2 a3 a4 a5 k v6 = some r → (Sum.elim (fun w => LoopEv E H Dj 0 HN (Ii a1 a2 a3 a4 a5 v6) .ret (KM a1 a2 a3 a4 a5 w)) (fun w => LoopEv E H Dj 0 HN (Ii a1 a2 a3 a4 a5 v6) (.exit 0) (OM a1 a2 a3 a4 a5 w))) r := by
 intro k
 induction k with
 | zero => intro v6 r F; cases F
 | succ k ih =>
  intro v6 r F
  rw [CZ] at F
  apply jc F <;> intro h7 F
  apply jn F; intro h8 F
  apply jb F; intro x9 h10 F
  have q15 {l} (z : HA Dj l) := zT h7 <| zT h8 <| zS eGData_len h10 5 <| z
  apply jc F <;> intro h11 F
  have q16 {l} (z : HA Dj l) := Gh h11 <| z
  apply jc F <;> intro h12 F
  have q17 {l} (z : HA Dj l) := Gh h12 <| z
  apply jc F <;> intro h13 F
  have q18 {l} (z : HA Dj l) := Gh h13 <| z
  apply jc F <;> intro h14 F
  apply jr F
  exact lE <| q15 <| q16 <| q17 <| q18 <| zT h14 <| z0
  exact lN2 (q15 <| q16 <| q17 <| q18 <| zF h14 <| zi (wadd .i64 v6 1) <| z0) (ih _ _ F)
  exact lN2 (q15 <| q16 <| q17 <| Et h13 <| zf1 <| zi (wadd .i64 v6 1) <| z0) (ih _ _ F)
  exact lN2 (q15 <| q16 <| Et h12 <| zk4 <| zf2 <| zi (wadd .i64 v6 1) <| z0) (ih _ _ F)
  exact lN2 (q15 <| Et h11 <| zk4 <| zf1 <| zk4 <| zf2 <| zi (wadd .i64 v6 1) <| z0) (ih _ _ F)
  apply jr F
  exact lE <| zF h7 <| z0
def Di (K : Nat) (a1 : GWorker) (a2 : Int) (a3 : Int) (a4 : Int) (a5 : Int) : Option (Int × GWorker) :=
 (CZ K a1 a2 a3 a4 a5 K 0).bind fun y6 =>
 Sum.elim (fun w7 =>
  some (w7, a1))
  (fun w8 =>
  some ((-1), a1)) y6
theorem GL (K : Nat) (a1 : GWorker) (a2 : Int) (a3 : Int) (a4 : Int) (a5 : Int) (r : Int × GWorker) (F : Di K a1 a2 a3 a4 a5 = some r) : Evt E H 61 [.box 38 (wl0 a1), .one (i6 a2), .one (i6 a3), .one (i6 a4), .one (i6 a5)] (M6 r) := by
 rw [Di] at F
 apply jb F; intro y7 h6 F
 refine js F (fun w8 hx F => ?_) fun w9 hx F => ?_
 subst hx
 apply jr F
 exact fpC Dj <| zi (nl a1.Buf) <| zo (Hp K a1 a2 a3 a4 a5 K 0 _ h6) <| z0
 subst hx
 apply jr F
 exact fpC Dj <| zi (nl a1.Buf) <| zo (Hp K a1 a2 a3 a4 a5 K 0 _ h6) <| z0
def FL : Hint := { H 43 with nt := 49, prot := 1, kp := 256 }
def Mj (r1 : GWorker) : Res := ⟨[], [(wl0 r1)]⟩
def DN (K : Nat) (a1 : GWorker) (a2 : GGraph) (a3 : GJob) (a4 : GMail) : Option (GWorker) :=
 bif (ile a1.T.Epoch a4.Epoch) then
  ((Di K a1 a4.Epoch a4.Step a4.Q a4.P).bind fun r5 =>
  bif (ilt r5.1 0) then
   (bif (apok (len r5.2.Buf) 1 56) then
   some (GWorker.mk r5.2.Id r5.2.Goal r5.2.Until r5.2.T r5.2.Held (appL r5.2.Buf [(GData.mk a4.Epoch a4.Step a4.Q a4.P a4.Msgs)]) r5.2.Coming r5.2.Out)
   else none)
  else
  some r5.2)
 else
 some a1
theorem GZ (K : Nat) (a1 : GWorker) (a2 : GGraph) (a3 : GJob) (a4 : GMail) (r : GWorker) (F : DN K a1 a2 a3 a4 = some r) : Evt E H 43 [.box 38 (wl0 a1), .agg (eGGraph a2), .agg (eGJob a3), .agg (eGMail a4)] (Mj r) := by
 rw [DN] at F
 apply jc F <;> intro h5 F
 apply jb F; intro r6 h7 F
 have q10 {l} (z : HA FL l) := zC6 (ige_eq h5) <| zC4 (ige_eq h5) <| zc (GL K a1 a4.Epoch a4.Step a4.Q a4.P _ h7) <| Dc (ige_eq h5) <| z
 apply jc F <;> intro h8 F
 apply jn F; intro h9 F
 apply jr F
 exact fpC FL <| q10 <| zT h8 <| zX (tt (leqm [(i6 a4.Epoch), (i6 a4.Step), (i6 a4.Q), (i6 a4.P), (sE eGMsg a4.Msgs)] 1 5)) rfl <| zT h9 <| zV (app_ok (enc := eGData) (r6.2.Buf : List GData) [(GData.mk a4.Epoch a4.Step a4.Q a4.P a4.Msgs)]) <| z0
 apply jr F
 exact fpC FL <| q10 <| zF h8 <| z0
 apply jr F
 exact fpC FL <| zD6 (ige_eq h5) <| Au (ige_eq h5) <| zf1 <| z0
def Cb : Hint := { H 44 with nt := 95, prot := 1, kp := 0 }
def IA : Code := loopOf E 44 0
def MA (r1 : GWorker) : Res := ⟨[], [(wl0 r1)]⟩
def Ei (K : Nat) (a1 : GMail) (r2 : Int × GWorker) : Nat → Int → Option (((List GHeld × List GPost)) ⊕ (Unit))
 | 0, _ => none
 | k + 1, v3 =>
  bif (ilt v3 (nlen (len a1.Ids))) then
   (bif (inr v3 (len a1.Ids)) then
   (elAt a1.Ids v3).bind fun x4 =>
   bif (ieq x4 a1.To) then
    (bif (inr r2.1 (len r2.2.Held)) then
    (elAt r2.2.Held r2.1).bind fun x5 =>
    bif (inr v3 (len a1.Incs)) then
    (elAt a1.Incs v3).bind fun x6 =>
    bif (inr r2.1 (len (α := GHeld) (putAt r2.2.Held r2.1 (GHeld.mk x5.X x5.Wait true)))) then
    (elAt (putAt r2.2.Held r2.1 (GHeld.mk x5.X x5.Wait true)) r2.1).bind fun x7 =>
    bif (apok (len r2.2.Out) 1 264) then
    some (.inl ((putAt r2.2.Held r2.1 (GHeld.mk x5.X x5.Wait true)), (appL r2.2.Out [(GPost.mk a1.To x6 (GMail.mk 7 a1.Epoch 0 0 0 0 0 0 [] [] [] x7.X []))])))
    else none
    else none
    else none
    else none)
   else
   Ei K a1 r2 k (wadd .i64 v3 1)
   else none)
  else
  some (.inr ())
def I8 (a1 : GMail) (r2 : Int × GWorker) (v3 : Int) : TS := .on (kq 0 12 <| kq 448 18 <| kq 512 2 <| kq 3008 1 <| kq 3072 2 <| kq 3136 2 <| kq 3200 2 <| []) <| b0 0 r2.2 <| b5 448 a1 <| sq 512 [u0, (uI r2.1)] <| sq 3008 [⟨(.ad 7 0 9), 0, nob⟩] <| sq 3072 [u0, (uS e6 a1.Ids)] <| sq 3136 [u0, (uI (nlen (len a1.Ids)))] <| sq 3200 [u0, (uI v3)] []
def LV (a1 : GMail) (r2 : Int × GWorker) (w3 : List GHeld × List GPost) : TS := .on (kq 0 12 <| []) <| sq 0 [(uX 38 11), (uI r2.2.Id), (uI r2.2.Goal), (uI r2.2.Until), (uI r2.2.T.Epoch), (uS e6 r2.2.T.Owners), (uS e6 r2.2.T.Ids), (uS e6 r2.2.T.Incs), (uO 69 eGHeld w3.1), (uO 112 eGData r2.2.Buf), (uO 113 eGComing r2.2.Coming), (uO 86 eGPost w3.2)] []
def Nn (a1 : GMail) (r2 : Int × GWorker) (w3 : Unit) : TS := .on (kq 0 12 <| []) <| b0 0 r2.2 []
theorem Jr (K : Nat) (a1 : GMail) (r2 : Int × GWorker) : ∀ (k : Nat) (v3 : Int) (r : ((List GHeld × List GPost)) ⊕ (Unit)), Ei K a1 r2 k v3 = some r → (Sum.elim (fun w => LoopEv E H Cb 0 IA (I8 a1 r2 v3) .ret (LV a1 r2 w)) (fun w => LoopEv E H Cb 0 IA (I8 a1 r2 v3) (.exit 0) (Nn a1 r2 w))) r := by
 intro k
 induction k with
 | zero => intro v3 r F; cases F
 | succ k ih =>
  intro v3 r F
  rw [Ei] at F
  apply jc F <;> intro h4 F
  apply jn F; intro h5 F
  apply jb F; intro x6 h7 F
  have q19 {l} (z : HA Cb l) := zT h4 <| zT h5 <| zX (.sub (flat e6 a1.Ids) (nidx v3 1) 1 [(i6 x6)]) ⟨rfl, sub_flat0 (eInt_len _) h7 1 (by decide)⟩ <| z
  apply jc F <;> intro h8 F
  apply jn F; intro h9 F
  apply jb F; intro x10 h11 F
  apply jn F; intro h12 F
  apply jb F; intro x13 h14 F
  apply jn F; intro h15 F
  apply jb F; intro x16 h17 F
  apply jn F; intro h18 F
  apply jr F
  exact lE <| q19 <| zT h8 <| zT h9 <| zX (tt (lfits (nadd (nidx r2.1 7) 6) 1 (flat eGHeld r2.2.Held))) (lfits_flat eGHeld_len h11 6 _ (by decide)) <| zX (.sl (len r2.2.Held) (lset (flat eGHeld r2.2.Held) (nadd (nidx r2.1 7) 6) [(.lit (.bool true))]) (len (α := GHeld) (putAt r2.2.Held r2.1 (GHeld.mk x10.X x10.Wait true))) (flat eGHeld (putAt r2.2.Held r2.1 (GHeld.mk x10.X x10.Wait true)))) (set_ok eGHeld_len h11 6 _ (by simp) rfl) <| zT h12 <| zX (.sub (flat e6 a1.Incs) (nidx v3 1) 1 [(i6 x13)]) ⟨rfl, sub_flat0 (eInt_len _) h14 1 (by decide)⟩ <| zT h15 <| zU eGHeld_len h17 0 5 <| zX (tt (leqm [(i6 a1.To), (i6 x13), (i6 7), (i6 a1.Epoch), (i6 0), (i6 0), (i6 0), (i6 0), (i6 0), (i6 0), (.sl 0 []), (.sl 0 []), (.sl 0 []), (i6 x16.X.P), (i6 x16.X.Step), (sE e6 x16.X.Vals), (sE eBool x16.X.Rest), (sE eGMsg x16.X.In), (.sl 0 [])] 1 19)) rfl <| zT h18 <| zV (app_ok (enc := eGPost) (r2.2.Out : List GPost) [(GPost.mk a1.To x13 (GMail.mk 7 a1.Epoch 0 0 0 0 0 0 [] [] [] x16.X []))]) <| z0
  exact lN2 (q19 <| zF h8 <| zi (wadd .i64 v3 1) <| z0) (ih _ _ F)
  apply jr F
  exact lE <| zF h4 <| z0
def Fb (K : Nat) (a1 : GWorker) (a2 : GGraph) (a3 : GJob) (a4 : GMail) : Option (GWorker) :=
 (El K a1 a4.P).bind fun r5 =>
 bif (ieq a4.Epoch r5.2.T.Epoch) then
  (bif (ilt r5.1 0) then
   (some r5.2)
  else
  bif (inr r5.1 (len r5.2.Held)) then
  (elAt r5.2.Held r5.1).bind fun x6 =>
  bif x6.Wait then
   (some r5.2)
  else
  bif x6.Given then
   (some r5.2)
  else
  (Ei K a4 r5 K 0).bind fun y7 =>
  Sum.elim (fun w8 =>
   some (GWorker.mk r5.2.Id r5.2.Goal r5.2.Until r5.2.T w8.1 r5.2.Buf r5.2.Coming w8.2))
   (fun w9 =>
   some r5.2) y7
  else none)
 else
 some r5.2
theorem LP (K : Nat) (a1 : GWorker) (a2 : GGraph) (a3 : GJob) (a4 : GMail) (r : GWorker) (F : Fb K a1 a2 a3 a4 = some r) : Evt E H 44 [.box 38 (wl0 a1), .agg (eGGraph a2), .agg (eGJob a3), .agg (eGMail a4)] (MA r) := by
 rw [Fb] at F
 apply jb F; intro r5 h6 F
 apply jc F <;> intro h7 F
 have q18 {l} (z : HA Cb l) := zc (GC K a1 a4.P _ h6) <| Cv (ine_t h7) <| z
 apply jc F <;> intro h8 F
 apply jr F
 exact fpC Cb <| q18 <| zA6 h8 <| B5 h8 <| zt6 <| zt2 <| zr2 <| z0
 apply jn F; intro h9 F
 apply jb F; intro x10 h11 F
 have q19 {l} (z : HA Cb l) := zB6 h8 <| zT h9 <| zB2 h8 <| zU eGHeld_len h11 5 1 <| zF h8 <| z
 apply jc F <;> intro h12 F
 apply jr F
 exact fpC Cb <| q18 <| q19 <| zA6 h12 <| B5 h12 <| zr1 <| z0
 have q20 {l} (z : HA Cb l) := zB6 h12 <| zT h9 <| zB2 h12 <| zU eGHeld_len h11 6 1 <| zF h12 <| z
 apply jc F <;> intro h13 F
 apply jr F
 exact fpC Cb <| q18 <| q19 <| q20 <| zT h13 <| z0
 apply jb F; intro y15 h14 F
 refine js F (fun w16 hx F => ?_) fun w17 hx F => ?_
 subst hx
 apply jr F
 exact fpC Cb <| q18 <| q19 <| q20 <| zF h13 <| zi (nl a4.Ids) <| zo (Jr K a4 r5 K 0 _ h14) <| z0
 subst hx
 apply jr F
 exact fpC Cb <| q18 <| q19 <| q20 <| zF h13 <| zi (nl a4.Ids) <| zo (Jr K a4 r5 K 0 _ h14) <| z0
 apply jr F
 exact fpC Cb <| zc (GC K a1 a4.P _ h6) <| B5 (ine_f h7) <| zt6 <| zt2 <| zr1 <| zt6 <| zt2 <| zr2 <| z0
def Dv : Hint := { H 45 with nt := 64, prot := 1, kp := 0 }
def G8 : Code := loopOf E 45 0
def LQ (r1 : GWorker) : Res := ⟨[], [(wl0 r1)]⟩
def Dw (K : Nat) (a1 : GWorker) (a2 : GMail) : Nat → Int → Option ((Unit) ⊕ (Unit))
 | 0, _ => none
 | k + 1, v3 =>
  bif (ilt v3 (nlen (len a1.Coming))) then
   (bif (inr v3 (len a1.Coming)) then
   (elAt a1.Coming v3).bind fun x4 =>
   bif (ieq x4.Epoch a2.Epoch) then
    (bif (ieq x4.X.P a2.X.P) then
     (some (.inl ()))
    else
    Dw K a1 a2 k (wadd .i64 v3 1))
   else
   Dw K a1 a2 k (wadd .i64 v3 1)
   else none)
  else
  some (.inr ())
def IX (a1 : GWorker) (a2 : GMail) (v3 : Int) : TS := .on (kq 0 12 <| kq 448 18 <| kq 1152 1 <| kq 1216 1 <| kq 1280 1 <| kq 1344 2 <| kq 1408 2 <| kq 1472 2 <| []) <| b0 0 a1 <| b5 448 a2 <| sq 1152 [⟨(.ad 0 0 0), 0, nob⟩] <| sq 1216 [⟨(.ad 0 0 0), 0, nob⟩] <| sq 1280 [⟨(.ad 0 0 9), 0, nob⟩] <| sq 1344 [u0, ⟨(.vw 10 0), 0, nob⟩] <| sq 1408 [u0, (uI (nlen (len a1.Coming)))] <| sq 1472 [u0, (uI v3)] []
def Kk (a1 : GWorker) (a2 : GMail) (w3 : Unit) : TS := .on (kq 0 12 <| kq 448 18 <| []) <| b0 0 a1 <| b5 448 a2 []
def JZ (a1 : GWorker) (a2 : GMail) (w3 : Unit) : TS := .on (kq 0 12 <| kq 448 18 <| []) <| b0 0 a1 <| b5 448 a2 []
theorem Hx (K : Nat) (a1 : GWorker) (a2 : GMail) : ∀ (k : Nat) (v3 : Int) (r : (Unit) ⊕ (Unit)), Dw K a1 a2 k v3 = some r → (Sum.elim (fun w => LoopEv E H Dv 0 G8 (IX a1 a2 v3) .ret (Kk a1 a2 w)) (fun w => LoopEv E H Dv 0 G8 (IX a1 a2 v3) (.exit 0) (JZ a1 a2 w))) r := by
 intro k
 induction k with
 | zero => intro v3 r F; cases F
 | succ k ih =>
  intro v3 r F
  rw [Dw] at F
  apply jc F <;> intro h4 F
  apply jn F; intro h5 F
  apply jb F; intro x6 h7 F
  have q10 {l} (z : HA Dv l) := zT h4 <| zT h5 <| zS eGComing_len h7 6 <| z
  apply jc F <;> intro h8 F
  have q11 {l} (z : HA Dv l) := zC6 h8 <| Dc h8 <| z
  apply jc F <;> intro h9 F
  apply jr F
  exact lE <| q10 <| q11 <| zT h9 <| z0
  exact lN2 (q10 <| q11 <| zF h9 <| zi (wadd .i64 v3 1) <| z0) (ih _ _ F)
  exact lN2 (q10 <| zD6 h8 <| IF h8 <| zf1 <| zi (wadd .i64 v3 1) <| z0) (ih _ _ F)
  apply jr F
  exact lE <| zF h4 <| z0
def Fk (K : Nat) (a1 : GWorker) (a2 : GGraph) (a3 : GJob) (a4 : GMail) : Option (GWorker) :=
 bif (ilt a4.Epoch a1.T.Epoch) then
  (some a1)
 else
 (Dw K a1 a4 K 0).bind fun y5 =>
 Sum.elim (fun w6 =>
  some a1)
  (fun w7 =>
  bif (apok (len a1.Coming) 1 96) then
  (CU K (GWorker.mk a1.Id a1.Goal a1.Until a1.T a1.Held a1.Buf (appL a1.Coming [(GComing.mk a4.Epoch a4.X)]) a1.Out) (GMail.mk 8 a4.Epoch 0 0 a4.X.P 0 0 0 [] [] [] (GPart.mk 0 0 [] [] []) [])).bind fun r8 =>
  some r8
  else none) y5
theorem ND (K : Nat) (a1 : GWorker) (a2 : GGraph) (a3 : GJob) (a4 : GMail) (r : GWorker) (F : Fk K a1 a2 a3 a4 = some r) : Evt E H 45 [.box 38 (wl0 a1), .agg (eGGraph a2), .agg (eGJob a3), .agg (eGMail a4)] (LQ r) := by
 rw [Fk] at F
 apply jc F <;> intro h5 F
 apply jr F
 exact fpC Dv <| zT h5 <| z0
 apply jb F; intro y7 h6 F
 refine js F (fun w8 hx F => ?_) fun w9 hx F => ?_
 subst hx
 apply jr F
 exact fpC Dv <| zF h5 <| zi (nl a1.Coming) <| zo (Hx K a1 a4 K 0 _ h6) <| z0
 subst hx
 apply jn F; intro h10 F
 apply jb F; intro r11 h12 F
 apply jr F
 exact fpC Dv <| zF h5 <| zi (nl a1.Coming) <| zo (Hx K a1 a4 K 0 _ h6) <| zX (tt (leqm [(i6 a4.Epoch), (i6 a4.X.P), (i6 a4.X.Step), (sE e6 a4.X.Vals), (sE eBool a4.X.Rest), (sE eGMsg a4.X.In)] 1 6)) rfl <| zT h10 <| zV (app_ok (enc := eGComing) (a1.Coming : List GComing) [(GComing.mk a4.Epoch a4.X)]) <| zc (E9 K (GWorker.mk a1.Id a1.Goal a1.Until a1.T a1.Held a1.Buf (appL a1.Coming [(GComing.mk a4.Epoch a4.X)]) a1.Out) (GMail.mk 8 a4.Epoch 0 0 a4.X.P 0 0 0 [] [] [] (GPart.mk 0 0 [] [] []) []) _ h12) <| z0
def BX : Hint := { H 18 with nt := 43, prot := 0, kp := 0 }
def Nq (r1 : GWorker) : Res := ⟨[(.agg (wl0 r1))], []⟩
def F18 (K : Nat) (a50 : GGraph) (a51 : GJob) (a52 : GWorker) (a53 : GMail) : Option (GWorker) :=
 (F30 K a52).bind fun r60 =>
 (F31 K a50 a51).bind fun r1 =>
 bif (ieq r1 0) then
  ((F40 K a53).bind fun r2 =>
  bif r2 then
   (bif (ieq a53.Kind 1) then
    ((EZ K r60 a50 a51 a53).bind fun r3 =>
    some r3)
   else
   bif (ieq a53.Kind 3) then
    ((E8 K r60 a50 a51 a53).bind fun r4 =>
    some r4)
   else
   bif (ieq a53.Kind 4) then
    ((DN K r60 a50 a51 a53).bind fun r5 =>
    some r5)
   else
   bif (ieq a53.Kind 6) then
    ((Fb K r60 a50 a51 a53).bind fun r6 =>
    some r6)
   else
   bif (ieq a53.Kind 7) then
    ((Fk K r60 a50 a51 a53).bind fun r7 =>
    some r7)
   else
   bif (ieq a53.Kind 9) then
    ((EO K r60 a50 a51 a53).bind fun r8 =>
    some r8)
   else
   some r60)
  else
  some r60)
 else
 some r60
theorem JY (K : Nat) (a50 : GGraph) (a51 : GJob) (a52 : GWorker) (a53 : GMail) (r : GWorker) (F : F18 K a50 a51 a52 a53 = some r) : Evt E H 18 [.agg (eGGraph a50), .agg (eGJob a51), .agg (eGWorker a52), .agg (eGMail a53)] (Nq r) := by
 rw [F18] at F
 apply jb F; intro r60 h61 F
 apply jb F; intro r1 h2 F
 have q25 {l} (z : HA BX l) := zc (FX K a52 _ h61) <| zl (B4 K a50 a51 _ h2) <| z
 apply jc F <;> intro h3 F
 apply jb F; intro r4 h5 F
 have q26 {l} (z : HA BX l) := zB2 (ine_t h3) <| zl (NB K a53 _ h5) <| Cg (ine_t h3) <| z
 apply jc F <;> intro h6 F
 apply jc F <;> intro h7 F
 apply jb F; intro r8 h9 F
 apply jr F
 exact fpC BX <| q25 <| q26 <| zF (bnot_t h6) <| zT h7 <| zX (tt (bnot false)) (bnot_f rfl) <| zc (Nj K r60 a50 a51 a53 _ h9) <| z0
 apply jc F <;> intro h10 F
 apply jb F; intro r11 h12 F
 apply jr F
 exact fpC BX <| q25 <| q26 <| zF (bnot_t h6) <| zF h7 <| zT h10 <| zX (tt (bnot false)) (bnot_f rfl) <| zc (Mr K r60 a50 a51 a53 _ h12) <| z0
 have q27 {l} (z : HA BX l) := zF (bnot_t h6) <| zF h7 <| zF h10 <| z
 apply jc F <;> intro h13 F
 apply jb F; intro r14 h15 F
 apply jr F
 exact fpC BX <| q25 <| q26 <| q27 <| zT h13 <| zX (tt (bnot false)) (bnot_f rfl) <| zc (GZ K r60 a50 a51 a53 _ h15) <| z0
 apply jc F <;> intro h16 F
 apply jb F; intro r17 h18 F
 apply jr F
 exact fpC BX <| q25 <| q26 <| q27 <| zF h13 <| zT h16 <| zX (tt (bnot false)) (bnot_f rfl) <| zc (LP K r60 a50 a51 a53 _ h18) <| z0
 apply jc F <;> intro h19 F
 apply jb F; intro r20 h21 F
 apply jr F
 exact fpC BX <| q25 <| q26 <| q27 <| zF h13 <| zF h16 <| zT h19 <| zX (tt (bnot false)) (bnot_f rfl) <| zc (ND K r60 a50 a51 a53 _ h21) <| z0
 have q28 {l} (z : HA BX l) := zF h13 <| zF h16 <| zF h19 <| z
 apply jc F <;> intro h22 F
 apply jb F; intro r23 h24 F
 apply jr F
 exact fpC BX <| q25 <| q26 <| q27 <| q28 <| zT h22 <| zX (tt (bnot false)) (bnot_f rfl) <| zc (J2 K r60 a50 a51 a53 _ h24) <| z0
 apply jr F
 exact fpC BX <| q25 <| q26 <| q27 <| q28 <| zF h22 <| zn1 <| z0
 apply jr F
 exact fpC BX <| q25 <| q26 <| zT (bnot_f h6) <| z0
 apply jr F
 exact fpC BX <| q25 <| Ag (ine_f h3) <| zr1 <| z0
def Kc : Hint := { H 32 with nt := 8, prot := 0, kp := 0 }
def Mp (r1 : Bool) : Res := ⟨[(.one (mB r1))], []⟩
def F32 (K : Nat) (a1 : Int) (a2 : Int) : Option (Bool) :=
 some (ilt a1 a2)
theorem Ly (K : Nat) (a1 : Int) (a2 : Int) (r : Bool) (F : F32 K a1 a2 = some r) : Evt E H 32 [.one (i6 a1), .one (i6 a2)] (Mp r) := by
 rw [F32] at F
 apply jr F
 exact fpC Kc <| z0
def Fg : Hint := { H 92 with nt := 21, prot := 0, kp := 0 }
def Hj : Code := loopOf E 92 0
def Ol (r1 : Int × Bool) : Res := ⟨[(.one (mI r1.1)), (.one (mB r1.2))], []⟩
def D9 (K : Nat) (a1 : List GMsg) (a2 : Int) : Nat → Int → Option ((Int) ⊕ (Unit))
 | 0, _ => none
 | k + 1, v3 =>
  bif (ilt v3 (nlen (len a1))) then
   (bif (inr v3 (len a1)) then
   (elAt a1 v3).bind fun x4 =>
   bif (ieq x4.To a2) then
    (some (.inl x4.V))
   else
   D9 K a1 a2 k (wadd .i64 v3 1)
   else none)
  else
  some (.inr ())
def Io (a1 : List GMsg) (a2 : Int) (v3 : Int) : TS := .on (kq 0 2 <| kq 64 2 <| kq 512 2 <| kq 576 2 <| kq 640 2 <| []) <| sq 0 [u0, (uS eGMsg a1)] <| sq 64 [u0, (uI a2)] <| sq 512 [u0, (uS eGMsg a1)] <| sq 576 [u0, (uI (nlen (len a1)))] <| sq 640 [u0, (uI v3)] []
def JM (a1 : List GMsg) (a2 : Int) (w3 : Int) : TS := .on (kq 256 2 <| kq 320 2 <| []) <| sq 256 [u0, (uI w3)] <| sq 320 [u0, (uB true)] []
def JR (a1 : List GMsg) (a2 : Int) (w3 : Unit) : TS := .on [] []
theorem IM (K : Nat) (a1 : List GMsg) (a2 : Int) : ∀ (k : Nat) (v3 : Int) (r : (Int) ⊕ (Unit)), D9 K a1 a2 k v3 = some r → (Sum.elim (fun w => LoopEv E H Fg 0 Hj (Io a1 a2 v3) .ret (JM a1 a2 w)) (fun w => LoopEv E H Fg 0 Hj (Io a1 a2 v3) (.exit 0) (JR a1 a2 w))) r := by
 intro k
 induction k with
 | zero => intro v3 r F; cases F
 | succ k ih =>
  intro v3 r F
  rw [D9] at F
  apply jc F <;> intro h4 F
  apply jn F; intro h5 F
  apply jb F; intro x6 h7 F
  have q9 {l} (z : HA Fg l) := zT h4 <| zT h5 <| zS eGMsg_len h7 2 <| z
  apply jc F <;> intro h8 F
  apply jr F
  exact lE <| q9 <| zT h8 <| z0
  exact lN2 (q9 <| zF h8 <| zi (wadd .i64 v3 1) <| z0) (ih _ _ F)
  apply jr F
  exact lE <| zF h4 <| z0
def F92 (K : Nat) (a1 : List GMsg) (a2 : Int) : Option (Int × Bool) :=
 (D9 K a1 a2 K 0).bind fun y3 =>
 Sum.elim (fun w4 =>
  some (w4, true))
  (fun w5 =>
  some (0, false)) y3
theorem Ms (K : Nat) (a1 : List GMsg) (a2 : Int) (r : Int × Bool) (F : F92 K a1 a2 = some r) : Evt E H 92 [.one (sE eGMsg a1), .one (i6 a2)] (Ol r) := by
 rw [F92] at F
 apply jb F; intro y4 h3 F
 refine js F (fun w5 hx F => ?_) fun w6 hx F => ?_
 subst hx
 apply jr F
 exact fpC Fg <| zi (nl a1) <| zo (IM K a1 a2 K 0 _ h3) <| z0
 subst hx
 apply jr F
 exact fpC Fg <| zi (nl a1) <| zo (IM K a1 a2 K 0 _ h3) <| z0
def Fu : Hint := { H 104 with nt := 28, prot := 0, kp := 0 }
def Kg : Code := loopOf E 104 0
def JN (r1 : List GEdge) : Res := ⟨[(.one (.own 132 (sE eGEdge r1)))], []⟩
def DV (K : Nat) (a1 : GGraph) (a2 : Int) : Nat → List GEdge → Int → Option (List GEdge)
 | 0, _, _ => none
 | k + 1, v3, v4 =>
  bif (ilt v4 (nlen (len a1.Edges))) then
   (bif (inr v4 (len a1.Edges)) then
   (elAt a1.Edges v4).bind fun x5 =>
   bif (ieq x5.From a2) then
    (bif (apok (len v3) 1 24) then
    DV K a1 a2 k (appL v3 [x5]) (wadd .i64 v4 1)
    else none)
   else
   DV K a1 a2 k v3 (wadd .i64 v4 1)
   else none)
  else
  some v3
def LA (a1 : GGraph) (a2 : Int) (v3 : List GEdge) (v4 : Int) : TS := .on (kq 64 2 <| kq 128 3 <| kq 320 2 <| kq 704 1 <| kq 768 2 <| kq 832 2 <| kq 896 2 <| []) <| sq 64 [u0, (uI a2)] <| b1 128 a1 <| sq 320 [u0, (uO 132 eGEdge v3)] <| sq 704 [⟨(.ad 2 0 1), 0, nob⟩] <| sq 768 [u0, (uS eGEdge a1.Edges)] <| sq 832 [u0, (uI (nlen (len a1.Edges)))] <| sq 896 [u0, (uI v4)] []
def Md (a1 : GGraph) (a2 : Int) (w3 : List GEdge) : TS := .on (kq 320 2 <| []) <| sq 320 [u0, (uO 132 eGEdge w3)] []
theorem Ma (K : Nat) (a1 : GGraph) (a2 : Int) : ∀ (k : Nat) (v3 : List GEdge) (v4 : Int) (r : List GEdge), DV K a1 a2 k v3 v4 = some r → LoopEv E H Fu 0 Kg (LA a1 a2 v3 v4) (.exit 0) (Md a1 a2 r) := by
 intro k
 induction k with
 | zero => intro v3 v4 r F; cases F
 | succ k ih =>
  intro v3 v4 r F
  rw [DV] at F
  apply jc F <;> intro h5 F
  apply jn F; intro h6 F
  apply jb F; intro x7 h8 F
  have q11 {l} (z : HA Fu l) := zT h5 <| zT h6 <| zS eGEdge_len h8 3 <| z
  apply jc F <;> intro h9 F
  apply jn F; intro h10 F
  exact lN1 (q11 <| zT h9 <| zX (tt (leqm [(i6 x7.From), (i6 x7.To), (i6 x7.W)] 1 3)) rfl <| zT h10 <| zV (app_ok (enc := eGEdge) (v3 : List GEdge) [x7]) <| zi (wadd .i64 v4 1) <| z0) (ih _ _ _ F)
  exact lN1 (q11 <| zF h9 <| zi (wadd .i64 v4 1) <| z0) (ih _ _ _ F)
  apply jr F
  exact lE <| zF h5 <| z0
def BB (K : Nat) (a1 : GGraph) (a2 : Int) : Option (List GEdge) :=
 (F56 K a1).bind fun r3 =>
 bif (ieq r3 0) then
  ((DV K a1 a2 K [] 0).bind fun w4 =>
  some w4)
 else
 some []
theorem Ch (K : Nat) (a1 : GGraph) (a2 : Int) (r : List GEdge) (F : BB K a1 a2 = some r) : Evt E H 104 [.agg (eGGraph a1), .one (i6 a2)] (JN r) := by
 rw [BB] at F
 apply jb F; intro r3 h4 F
 apply jc F <;> intro h5 F
 apply jb F; intro w7 h6 F
 apply jr F
 exact fpC Fu <| zl (Fv K a1 _ h4) <| zF (ine_t h5) <| zi (nl a1.Edges) <| zo (Ma K a1 a2 K [] 0 _ h6) <| z0
 apply jr F
 exact fpC Fu <| zl (Fv K a1 _ h4) <| zT (ine_f h5) <| z0
def OW : Hint := { H 82 with nt := 8, prot := 0, kp := 0 }
def K0 (r1 : Bool) : Res := ⟨[(.one (mB r1))], []⟩
def F82 (K : Nat) (a1 : Int) (a2 : Int) : Option (Bool) :=
 some (ilt a1 a2)
theorem B8 (K : Nat) (a1 : Int) (a2 : Int) (r : Bool) (F : F82 K a1 a2 = some r) : Evt E H 82 [.one (i6 a1), .one (i6 a2)] (K0 r) := by
 rw [F82] at F
 apply jr F
 exact fpC OW <| z0
def FM : Hint := { H 84 with nt := 23, prot := 0, kp := 0 }
def LG (r1 : Int × Bool) : Res := ⟨[(.one (mI r1.1)), (.one (mB r1.2))], []⟩
def F84 (K : Nat) (a1 : Int) (a2 : Int) : Option (Int × Bool) :=
 bif (beqb (ige a1 0) (ige a2 0)) then
  (bif (beqb (ige (wadd .i64 a1 a2) 0) (ige a1 0)) then
   (some ((wadd .i64 a1 a2), true))
  else
  some (0, false))
 else
 some ((wadd .i64 a1 a2), true)
theorem EX (K : Nat) (a1 : Int) (a2 : Int) (r : Int × Bool) (F : F84 K a1 a2 = some r) : Evt E H 84 [.one (i6 a1), .one (i6 a2)] (LG r) := by
 rw [F84] at F
 apply jc F <;> intro h3 F
 have q5 {l} (z : HA FM l) := zi (wadd .i64 a1 a2) <| Mk h3 <| z
 apply jc F <;> intro h4 F
 apply jr F
 exact fpC FM <| q5 <| zF (bnot_t h4) <| z0
 apply jr F
 exact fpC FM <| q5 <| zT (bnot_f h4) <| z0
 apply jr F
 exact fpC FM <| zi (wadd .i64 a1 a2) <| Au h3 <| zf1 <| z0
def Ps : Hint := { H 83 with nt := 12, prot := 0, kp := 0 }
def Mh (r1 : Int × Bool) : Res := ⟨[(.one (mI r1.1)), (.one (mB r1.2))], []⟩
def F83 (K : Nat) (a1 : Int) (a2 : GEdge) : Option (Int × Bool) :=
 (F84 K a1 a2.W).bind fun r3 =>
 some (r3.1, r3.2)
theorem Ny (K : Nat) (a1 : Int) (a2 : GEdge) (r : Int × Bool) (F : F83 K a1 a2 = some r) : Evt E H 83 [.one (i6 a1), .agg (eGEdge a2)] (Mh r) := by
 rw [F83] at F
 apply jb F; intro r3 h4 F
 apply jr F
 exact fpC Ps <| zl (EX K a1 a2.W _ h4) <| z0
def Mt : Hint := { H 85 with nt := 10, prot := 0, kp := 0 }
def OD (r1 : Int × Bool) : Res := ⟨[(.one (mI r1.1)), (.one (mB r1.2))], []⟩
def F85 (K : Nat) (a1 : Int) (a2 : GEdge) : Option (Int × Bool) :=
 (F84 K a1 1).bind fun r3 =>
 some (r3.1, r3.2)
theorem KT (K : Nat) (a1 : Int) (a2 : GEdge) (r : Int × Bool) (F : F85 K a1 a2 = some r) : Evt E H 85 [.one (i6 a1), .agg (eGEdge a2)] (OD r) := by
 rw [F85] at F
 apply jb F; intro r3 h4 F
 apply jr F
 exact fpC Mt <| zl (EX K a1 1 _ h4) <| z0
def NN : Hint := { H 87 with nt := 7, prot := 0, kp := 0 }
def Oc (r1 : Int × Bool) : Res := ⟨[(.one (mI r1.1)), (.one (mB r1.2))], []⟩
def F87 (K : Nat) (a1 : Int) (a2 : GEdge) : Option (Int × Bool) :=
 some (a1, true)
theorem G2 (K : Nat) (a1 : Int) (a2 : GEdge) (r : Int × Bool) (F : F87 K a1 a2 = some r) : Evt E H 87 [.one (i6 a1), .agg (eGEdge a2)] (Oc r) := by
 rw [F87] at F
 apply jr F
 exact fpC NN <| z0
def Oi : Hint := { H 89 with nt := 8, prot := 0, kp := 0 }
def O5 (r1 : Bool) : Res := ⟨[(.one (mB r1))], []⟩
def F89 (K : Nat) (a1 : Int) (a2 : Int) : Option (Bool) :=
 some (igt a1 a2)
theorem Fq (K : Nat) (a1 : Int) (a2 : Int) (r : Bool) (F : F89 K a1 a2 = some r) : Evt E H 89 [.one (i6 a1), .one (i6 a2)] (O5 r) := by
 rw [F89] at F
 apply jr F
 exact fpC Oi <| z0
def Ic : Hint := { H 116 with nt := 12, prot := 0, kp := 0 }
def Ki (r1 : Int) : Res := ⟨[(.one (.im (.lit (.int .u64 r1))))], []⟩
def DB (K : Nat) (a1 : Int) : Option (Int) :=
 bif (ilt a1 0) then
  (some (wadd .u64 (wconv .u64 (wneg .i64 (wadd .i64 a1 1))) 1))
 else
 some (wconv .u64 a1)
theorem H3 (K : Nat) (a1 : Int) (r : Int) (F : DB K a1 = some r) : Evt E H 116 [.one (i6 a1)] (Ki r) := by
 rw [DB] at F
 apply jc F <;> intro h2 F
 apply jr F
 exact fpC Ic <| zT h2 <| zi (wadd .i64 a1 1) <| zi (wneg .i64 (wadd .i64 a1 1)) <| zi (wconv .u64 (wneg .i64 (wadd .i64 a1 1))) <| zi (wadd .u64 (wconv .u64 (wneg .i64 (wadd .i64 a1 1))) 1) <| z0
 apply jr F
 exact fpC Ic <| zF h2 <| zi (wconv .u64 a1) <| z0
def MR : Hint := { H 115 with nt := 60, prot := 0, kp := 0 }
def Lq (r2 : GA193) : Res := ⟨[(.agg [(.im (.lit (.int .u64 r2.x0))), (.im (.lit (.int .u64 r2.x1)))])], []⟩
def Fi (K : Nat) (a1 : Int) (a2 : Int) : Option (GA193) :=
 some (GA193.mk (wadd .u64 (wadd .u64 (wadd .u64 (wmul .u64 (wquo .u64 a1 4294967296) (wquo .u64 a2 4294967296)) (wquo .u64 (wmul .u64 (wquo .u64 a1 4294967296) (wrem a2 4294967296)) 4294967296)) (wquo .u64 (wmul .u64 (wrem a1 4294967296) (wquo .u64 a2 4294967296)) 4294967296)) (wquo .u64 (wadd .u64 (wadd .u64 (wquo .u64 (wmul .u64 (wrem a1 4294967296) (wrem a2 4294967296)) 4294967296) (wrem (wmul .u64 (wquo .u64 a1 4294967296) (wrem a2 4294967296)) 4294967296)) (wrem (wmul .u64 (wrem a1 4294967296) (wquo .u64 a2 4294967296)) 4294967296)) 4294967296)) (wadd .u64 (wmul .u64 (wrem (wadd .u64 (wadd .u64 (wquo .u64 (wmul .u64 (wrem a1 4294967296) (wrem a2 4294967296)) 4294967296) (wrem (wmul .u64 (wquo .u64 a1 4294967296) (wrem a2 4294967296)) 4294967296)) (wrem (wmul .u64 (wrem a1 4294967296) (wquo .u64 a2 4294967296)) 4294967296)) 4294967296) 4294967296) (wrem (wmul .u64 (wrem a1 4294967296) (wrem a2 4294967296)) 4294967296)))
theorem N8 (K : Nat) (a1 : Int) (a2 : Int) (r : GA193) (F : Fi K a1 a2 = some r) : Evt E H 115 [.one (.lit (.int .u64 a1)), .one (.lit (.int .u64 a2))] (Lq r) := by
 rw [Fi] at F
 apply jr F
 exact fpC MR <| zY (ff (izero 4294967296)) <| zi (wquo .u64 a1 4294967296) <| zY (ff (izero 4294967296)) <| zi (wquo .u64 a2 4294967296) <| zi (wmul .u64 (wquo .u64 a1 4294967296) (wquo .u64 a2 4294967296)) <| zY (ff (izero 4294967296)) <| zi (wquo .u64 a1 4294967296) <| zY (ff (izero 4294967296)) <| zi (wrem a2 4294967296) <| zi (wmul .u64 (wquo .u64 a1 4294967296) (wrem a2 4294967296)) <| zY (ff (izero 4294967296)) <| zi (wrem a1 4294967296) <| zY (ff (izero 4294967296)) <| zi (wquo .u64 a2 4294967296) <| zi (wmul .u64 (wrem a1 4294967296) (wquo .u64 a2 4294967296)) <| zY (ff (izero 4294967296)) <| zi (wrem a1 4294967296) <| zY (ff (izero 4294967296)) <| zi (wrem a2 4294967296) <| zi (wmul .u64 (wrem a1 4294967296) (wrem a2 4294967296)) <| zY (ff (ieq 3 0)) <| zY (ff (ieq 3 1)) <| zY (ff (ieq 3 2)) <| zY (tt (ieq 3 3)) <| zY (ff (izero 4294967296)) <| zi (wquo .u64 (wmul .u64 (wrem a1 4294967296) (wrem a2 4294967296)) 4294967296) <| zY (ff (ieq 1 0)) <| zY (tt (ieq 1 1)) <| zY (ff (izero 4294967296)) <| zi (wrem (wmul .u64 (wquo .u64 a1 4294967296) (wrem a2 4294967296)) 4294967296) <| zi (wadd .u64 (wquo .u64 (wmul .u64 (wrem a1 4294967296) (wrem a2 4294967296)) 4294967296) (wrem (wmul .u64 (wquo .u64 a1 4294967296) (wrem a2 4294967296)) 4294967296)) <| zY (ff (ieq 2 0)) <| zY (ff (ieq 2 1)) <| zY (tt (ieq 2 2)) <| zY (ff (izero 4294967296)) <| zi (wrem (wmul .u64 (wrem a1 4294967296) (wquo .u64 a2 4294967296)) 4294967296) <| zi (wadd .u64 (wadd .u64 (wquo .u64 (wmul .u64 (wrem a1 4294967296) (wrem a2 4294967296)) 4294967296) (wrem (wmul .u64 (wquo .u64 a1 4294967296) (wrem a2 4294967296)) 4294967296)) (wrem (wmul .u64 (wrem a1 4294967296) (wquo .u64 a2 4294967296)) 4294967296)) <| zY (tt (ieq 0 0)) <| zY (ff (ieq 1 0)) <| zY (tt (ieq 1 1)) <| zY (ff (izero 4294967296)) <| zi (wquo .u64 (wmul .u64 (wquo .u64 a1 4294967296) (wrem a2 4294967296)) 4294967296) <| zi (wadd .u64 (wmul .u64 (wquo .u64 a1 4294967296) (wquo .u64 a2 4294967296)) (wquo .u64 (wmul .u64 (wquo .u64 a1 4294967296) (wrem a2 4294967296)) 4294967296)) <| zY (ff (ieq 2 0)) <| zY (ff (ieq 2 1)) <| zY (tt (ieq 2 2)) <| zY (ff (izero 4294967296)) <| zi (wquo .u64 (wmul .u64 (wrem a1 4294967296) (wquo .u64 a2 4294967296)) 4294967296) <| zi (wadd .u64 (wadd .u64 (wmul .u64 (wquo .u64 a1 4294967296) (wquo .u64 a2 4294967296)) (wquo .u64 (wmul .u64 (wquo .u64 a1 4294967296) (wrem a2 4294967296)) 4294967296)) (wquo .u64 (wmul .u64 (wrem a1 4294967296) (wquo .u64 a2 4294967296)) 4294967296)) <| zY (ff (izero 4294967296)) <| zi (wquo .u64 (wadd .u64 (wadd .u64 (wquo .u64 (wmul .u64 (wrem a1 4294967296) (wrem a2 4294967296)) 4294967296) (wrem (wmul .u64 (wquo .u64 a1 4294967296) (wrem a2 4294967296)) 4294967296)) (wrem (wmul .u64 (wrem a1 4294967296) (wquo .u64 a2 4294967296)) 4294967296)) 4294967296) <| zi (wadd .u64 (wadd .u64 (wadd .u64 (wmul .u64 (wquo .u64 a1 4294967296) (wquo .u64 a2 4294967296)) (wquo .u64 (wmul .u64 (wquo .u64 a1 4294967296) (wrem a2 4294967296)) 4294967296)) (wquo .u64 (wmul .u64 (wrem a1 4294967296) (wquo .u64 a2 4294967296)) 4294967296)) (wquo .u64 (wadd .u64 (wadd .u64 (wquo .u64 (wmul .u64 (wrem a1 4294967296) (wrem a2 4294967296)) 4294967296) (wrem (wmul .u64 (wquo .u64 a1 4294967296) (wrem a2 4294967296)) 4294967296)) (wrem (wmul .u64 (wrem a1 4294967296) (wquo .u64 a2 4294967296)) 4294967296)) 4294967296)) <| zY (ff (izero 4294967296)) <| zi (wrem (wadd .u64 (wadd .u64 (wquo .u64 (wmul .u64 (wrem a1 4294967296) (wrem a2 4294967296)) 4294967296) (wrem (wmul .u64 (wquo .u64 a1 4294967296) (wrem a2 4294967296)) 4294967296)) (wrem (wmul .u64 (wrem a1 4294967296) (wquo .u64 a2 4294967296)) 4294967296)) 4294967296) <| zi (wmul .u64 (wrem (wadd .u64 (wadd .u64 (wquo .u64 (wmul .u64 (wrem a1 4294967296) (wrem a2 4294967296)) 4294967296) (wrem (wmul .u64 (wquo .u64 a1 4294967296) (wrem a2 4294967296)) 4294967296)) (wrem (wmul .u64 (wrem a1 4294967296) (wquo .u64 a2 4294967296)) 4294967296)) 4294967296) 4294967296) <| zY (ff (ieq 3 0)) <| zY (ff (ieq 3 1)) <| zY (ff (ieq 3 2)) <| zY (tt (ieq 3 3)) <| zY (ff (izero 4294967296)) <| zi (wrem (wmul .u64 (wrem a1 4294967296) (wrem a2 4294967296)) 4294967296) <| zi (wadd .u64 (wmul .u64 (wrem (wadd .u64 (wadd .u64 (wquo .u64 (wmul .u64 (wrem a1 4294967296) (wrem a2 4294967296)) 4294967296) (wrem (wmul .u64 (wquo .u64 a1 4294967296) (wrem a2 4294967296)) 4294967296)) (wrem (wmul .u64 (wrem a1 4294967296) (wquo .u64 a2 4294967296)) 4294967296)) 4294967296) 4294967296) (wrem (wmul .u64 (wrem a1 4294967296) (wrem a2 4294967296)) 4294967296)) <| z0
def C6 : Hint := { H 114 with nt := 41, prot := 0, kp := 0 }
def NI (r1 : Int × Bool) : Res := ⟨[(.one (mI r1.1)), (.one (mB r1.2))], []⟩
def ES (K : Nat) (a2 : Int) (a3 : Int) : Option (Int × Bool) :=
 (DB K a2).bind fun r4 =>
 (DB K a3).bind fun r5 =>
 (Fi K r4 r5).bind fun r6 =>
 bif (ilt 0 r6.x0) then
  (some (0, false))
 else
 bif (ilt 9223372036854775808 r6.x1) then
  (some (0, false))
 else
 bif (ieq r6.x1 9223372036854775808) then
  (bif (beqb (ilt a2 0) (ilt a3 0)) then
   (some (0, false))
  else
  some ((-9223372036854775808), true))
 else
 bif (beqb (ilt a2 0) (ilt a3 0)) then
  (some ((wconv .i64 r6.x1), true))
 else
 some ((wneg .i64 (wconv .i64 r6.x1)), true)
theorem Ho (K : Nat) (a2 : Int) (a3 : Int) (r : Int × Bool) (F : ES K a2 a3 = some r) : Evt E H 114 [.one (i6 a2), .one (i6 a3)] (NI r) := by
 rw [ES] at F
 apply jb F; intro r4 h5 F
 apply jb F; intro r6 h7 F
 apply jb F; intro r8 h9 F
 have q15 {l} (z : HA C6 l) := zl (H3 K a2 _ h5) <| zl (H3 K a3 _ h7) <| zl (N8 K r4 r6 _ h9) <| zY (tt (ieq 0 0)) <| z
 apply jc F <;> intro h10 F
 apply jr F
 exact fpC C6 <| q15 <| Ag (igt_eq h10) <| zr1 <| z0
 have q16 {l} (z : HA C6 l) := zB1 (igt_eq h10) <| zY (ff (ieq 1 0)) <| zY (tt (ieq 1 1)) <| Cv (igt_eq h10) <| z
 apply jc F <;> intro h11 F
 apply jr F
 exact fpC C6 <| q15 <| q16 <| zT (igt_eq h11) <| z0
 have q17 {l} (z : HA C6 l) := zF (igt_eq h11) <| zY (ff (ieq 1 0)) <| zY (tt (ieq 1 1)) <| z
 apply jc F <;> intro h12 F
 apply jc F <;> intro h13 F
 apply jr F
 exact fpC C6 <| q15 <| q16 <| q17 <| zT h12 <| zF (bnot_t h13) <| z0
 apply jr F
 exact fpC C6 <| q15 <| q16 <| q17 <| zT h12 <| zT (bnot_f h13) <| z0
 apply jc F <;> intro h14 F
 apply jr F
 exact fpC C6 <| q15 <| q16 <| q17 <| zF h12 <| zF (bnot_t h14) <| zY (ff (ieq 1 0)) <| zY (tt (ieq 1 1)) <| zi (wconv .i64 r8.x1) <| z0
 apply jr F
 exact fpC C6 <| q15 <| q16 <| q17 <| zF h12 <| zT (bnot_f h14) <| zY (ff (ieq 1 0)) <| zY (tt (ieq 1 1)) <| zi (wconv .i64 r8.x1) <| zi (wneg .i64 (wconv .i64 r8.x1)) <| z0
def FF : Hint := { H 111 with nt := 25, prot := 0, kp := 0 }
def OL (r1 : Int × Bool) : Res := ⟨[(.one (mI r1.1)), (.one (mB r1.2))], []⟩
def Dr (K : Nat) (a1 : Int) (a2 : Int) (a3 : Int) : Option (Int × Bool) :=
 (ES K a1 a2).bind fun r4 =>
 bif r4.2 then
  (bif (ilt a3 1) then
   (some (0, false))
  else
  bif (izero a3) then none else
  some ((wquo .i64 r4.1 a3), true))
 else
 some (0, false)
theorem HT (K : Nat) (a1 : Int) (a2 : Int) (a3 : Int) (r : Int × Bool) (F : Dr K a1 a2 a3 = some r) : Evt E H 111 [.one (i6 a1), .one (i6 a2), .one (i6 a3)] (OL r) := by
 rw [Dr] at F
 apply jb F; intro r4 h5 F
 apply jc F <;> intro h6 F
 have q9 {l} (z : HA FF l) := zl (Ho K a1 a2 _ h5) <| Cv (bnot_t h6) <| z
 apply jc F <;> intro h7 F
 apply jr F
 exact fpC FF <| q9 <| zT h7 <| z0
 refine cond_some F (fun _ F => nomatch F) (fun h8 F => ?_)
 apply jr F
 exact fpC FF <| q9 <| zF h7 <| zF h8 <| zi (wquo .i64 r4.1 a3) <| z0
 apply jr F
 exact fpC FF <| zl (Ho K a1 a2 _ h5) <| B5 (bnot_f h6) <| zr1 <| z0
def BC : Hint := { H 105 with nt := 68, prot := 0, kp := 0 }
def Hc : Code := loopOf E 105 0
def L3 (r1 : Int × List GMsg × Bool × Int) : Res := ⟨[(.one (mI r1.1)), (.one (.own 78 (sE eGMsg r1.2.1))), (.one (mB r1.2.2.1)), (.one (mI r1.2.2.2))], []⟩
def DU (K : Nat) (v1 : List GEdge) (v2 : Int) : Nat → List GMsg → Int → Option ((Unit) ⊕ (List GMsg))
 | 0, _, _ => none
 | k + 1, v3, v4 =>
  bif (ilt v4 (nlen (len v1))) then
   (bif (inr v4 (len v1)) then
   (elAt v1 v4).bind fun x5 =>
   (Dr K v2 1 (nlen (len v1))).bind fun r6 =>
   bif r6.2 then
    (bif (apok (len v3) 1 16) then
    DU K v1 v2 k (appL v3 [(GMsg.mk x5.To r6.1)]) (wadd .i64 v4 1)
    else none)
   else
   some (.inl ())
   else none)
  else
  some (.inr v3)
def GY (v1 : List GEdge) (v2 : Int) (v3 : List GMsg) (v4 : Int) : TS := .on (kq 0 2 <| kq 128 2 <| kq 1024 2 <| kq 2752 2 <| kq 2816 2 <| kq 2880 2 <| []) <| sq 0 [u0, (uS eGEdge v1)] <| sq 128 [u0, (uI v2)] <| sq 1024 [u0, (uO 78 eGMsg v3)] <| sq 2752 [u0, (uS eGEdge v1)] <| sq 2816 [u0, (uI (nlen (len v1)))] <| sq 2880 [u0, (uI v4)] []
def Pc (v1 : List GEdge) (v2 : Int) (w3 : Unit) : TS := .on (kq 512 2 <| kq 576 2 <| kq 640 2 <| kq 704 2 <| []) <| sq 512 [u0, (uI 0)] <| sq 576 [u0, (uN 78)] <| sq 640 [u0, (uB false)] <| sq 704 [u0, (uI 8)] []
def My (v1 : List GEdge) (v2 : Int) (w3 : List GMsg) : TS := .on (kq 128 2 <| kq 1024 2 <| []) <| sq 128 [u0, (uI v2)] <| sq 1024 [u0, (uO 78 eGMsg w3)] []
theorem FY (K : Nat) (v1 : List GEdge) (v2 : Int) : ∀ (k : Nat) (v3 : List GMsg) (v4 : Int) (r : (Unit) ⊕ (List GMsg)), DU K v1 v2 k v3 v4 = some r → (Sum.elim (fun w => LoopEv E H BC 0 Hc (GY v1 v2 v3 v4) .ret (Pc v1 v2 w)) (fun w => LoopEv E H BC 0 Hc (GY v1 v2 v3 v4) (.exit 0) (My v1 v2 w))) r := by
 intro k
 induction k with
 | zero => intro v3 v4 r F; cases F
 | succ k ih =>
  intro v3 v4 r F
  rw [DU] at F
  apply jc F <;> intro h5 F
  apply jn F; intro h6 F
  apply jb F; intro x7 h8 F
  apply jb F; intro r9 h10 F
  have q13 {l} (z : HA BC l) := zT h5 <| zT h6 <| zS eGEdge_len h8 3 <| zi (nl v1) <| zl (HT K v2 1 (nl v1) _ h10) <| z
  apply jc F <;> intro h11 F
  apply jn F; intro h12 F
  exact lN2 (q13 <| zF (bnot_t h11) <| zX (tt (leqm [(i6 x7.To), (i6 r9.1)] 1 2)) rfl <| zT h12 <| zV (app_ok (enc := eGMsg) (v3 : List GMsg) [(GMsg.mk x7.To r9.1)]) <| zi (wadd .i64 v4 1) <| z0) (ih _ _ _ F)
  apply jr F
  exact lE <| q13 <| zT (bnot_f h11) <| z0
  apply jr F
  exact lE <| zF h5 <| z0
def Dk (K : Nat) (a1 : List GEdge) (a2 : Int) (a3 : Int) (a4 : Int) : Option (Int × List GMsg × Bool × Int) :=
 bif (ilt 0 a2) then
  ((Dr K a4 85 100).bind fun r5 =>
  (F84 K 150000 r5.1).bind fun r6 =>
  bif r5.2 then
   (bif r6.2 then
    (bif (ile 10 a2) then
     (some (r6.1, ([], (true, 0))))
    else
    (DU K a1 r6.1 K [] 0).bind fun y7 =>
    Sum.elim (fun w8 =>
     some (0, ([], (false, 8))))
     (fun w9 =>
     some (r6.1, (w9, (false, 0)))) y7)
   else
   some (0, ([], (false, 8))))
  else
  some (0, ([], (false, 8))))
 else
 bif (ile 10 a2) then
  (some (a3, ([], (true, 0))))
 else
 (DU K a1 a3 K [] 0).bind fun y10 =>
 Sum.elim (fun w11 =>
  some (0, ([], (false, 8))))
  (fun w12 =>
  some (a3, (w12, (false, 0)))) y10
theorem Fx (K : Nat) (a1 : List GEdge) (a2 : Int) (a3 : Int) (a4 : Int) (r : Int × List GMsg × Bool × Int) (F : Dk K a1 a2 a3 a4 = some r) : Evt E H 105 [.one (sE eGEdge a1), .one (i6 a2), .one (i6 a3), .one (i6 a4)] (L3 r) := by
 rw [Dk] at F
 apply jc F <;> intro h5 F
 apply jb F; intro r6 h7 F
 apply jb F; intro r8 h9 F
 have q22 {l} (z : HA BC l) := zT (igt_eq h5) <| zl (HT K a4 85 100 _ h7) <| zl (EX K 150000 r6.1 _ h9) <| z
 apply jc F <;> intro h10 F
 have q23 {l} (z : HA BC l) := Cv (bnot_t h10) <| z
 apply jc F <;> intro h11 F
 apply jc F <;> intro h12 F
 apply jr F
 exact fpC BC <| q22 <| q23 <| zF (bnot_t h11) <| zT (ige_eq h12) <| z0
 have q24 {l} (z : HA BC l) := zF (bnot_t h11) <| zF (ige_eq h12) <| zi (nl a1) <| z
 apply jb F; intro y14 h13 F
 refine js F (fun w15 hx F => ?_) fun w16 hx F => ?_
 subst hx
 apply jr F
 exact fpC BC <| q22 <| q23 <| q24 <| zo (FY K a1 r8.1 K [] 0 _ h13) <| z0
 subst hx
 apply jr F
 exact fpC BC <| q22 <| q23 <| q24 <| zo (FY K a1 r8.1 K [] 0 _ h13) <| z0
 apply jr F
 exact fpC BC <| q22 <| q23 <| zT (bnot_f h11) <| z0
 apply jr F
 exact fpC BC <| q22 <| B5 (bnot_f h10) <| zr1 <| z0
 apply jc F <;> intro h17 F
 apply jr F
 exact fpC BC <| zF (igt_eq h5) <| zT (ige_eq h17) <| z0
 have q25 {l} (z : HA BC l) := zF (igt_eq h5) <| zF (ige_eq h17) <| zi (nl a1) <| z
 apply jb F; intro y19 h18 F
 refine js F (fun w20 hx F => ?_) fun w21 hx F => ?_
 subst hx
 apply jr F
 exact fpC BC <| q25 <| zo (FY K a1 a3 K [] 0 _ h18) <| z0
 subst hx
 apply jr F
 exact fpC BC <| q25 <| zo (FY K a1 a3 K [] 0 _ h18) <| z0
def Aa : Hint := { H 93 with nt := 122, prot := 0, kp := 0 }
def Dg : Code := loopOf E 93 0
def KY (r1 : Int × List GMsg × Bool × Int) : Res := ⟨[(.one (mI r1.1)), (.one (.own 78 (sE eGMsg r1.2.1))), (.one (mB r1.2.2.1)), (.one (mI r1.2.2.2))], []⟩
def Ca (K : Nat) (v1 : Int) (v2 : Bool) (v3 : List GEdge) : Nat → List GMsg → Int → Option ((Unit) ⊕ (List GMsg))
 | 0, _, _ => none
 | k + 1, v4, v5 =>
  bif (ilt v5 (nlen (len v3))) then
   (bif (inr v5 (len v3)) then
   (elAt v3 v5).bind fun x6 =>
   (F83 K v1 x6).bind fun r7 =>
   bif r7.2 then
    (bif (apok (len v4) 1 16) then
    Ca K v1 v2 v3 k (appL v4 [(GMsg.mk x6.To r7.1)]) (wadd .i64 v5 1)
    else none)
   else
   some (.inl ())
   else none)
  else
  some (.inr v4)
def H5 (v1 : Int) (v2 : Bool) (v3 : List GEdge) (v4 : List GMsg) (v5 : Int) : TS := .on (kq 256 2 <| kq 1216 5 <| kq 1344 2 <| kq 1472 2 <| kq 6144 2 <| kq 6208 2 <| kq 6272 2 <| []) <| sq 256 [u0, (uI v1)] <| sq 1216 [(uX 138 4), ⟨.im, 0, (.lit (fnV 81))⟩, ⟨.im, 0, (.lit (fnV 82))⟩, (uB v2), ⟨.im, 0, (.lit (fnV 83))⟩] <| sq 1344 [u0, (uO 132 eGEdge v3)] <| sq 1472 [u0, (uO 78 eGMsg v4)] <| sq 6144 [u0, ⟨(.vw 1345 0), 0, nob⟩] <| sq 6208 [u0, (uI (nlen (len v3)))] <| sq 6272 [u0, (uI v5)] []
def JE (v1 : Int) (v2 : Bool) (v3 : List GEdge) (w4 : Unit) : TS := .on (kq 896 2 <| kq 960 2 <| kq 1024 2 <| kq 1088 2 <| []) <| sq 896 [u0, (uI 0)] <| sq 960 [u0, (uN 78)] <| sq 1024 [u0, (uB false)] <| sq 1088 [u0, (uI 8)] []
def J5 (v1 : Int) (v2 : Bool) (v3 : List GEdge) (w4 : List GMsg) : TS := .on (kq 256 2 <| kq 1472 2 <| []) <| sq 256 [u0, (uI v1)] <| sq 1472 [u0, (uO 78 eGMsg w4)] []
theorem BR (K : Nat) (v1 : Int) (v2 : Bool) (v3 : List GEdge) : ∀ (k : Nat) (v4 : List GMsg) (v5 : Int) (r : (Unit) ⊕ (List GMsg)), Ca K v1 v2 v3 k v4 v5 = some r → (Sum.elim (fun w => LoopEv E H Aa 0 Dg (H5 v1 v2 v3 v4 v5) .ret (JE v1 v2 v3 w)) (fun w => LoopEv E H Aa 0 Dg (H5 v1 v2 v3 v4 v5) (.exit 0) (J5 v1 v2 v3 w))) r := by
 intro k
 induction k with
 | zero => intro v4 v5 r F; cases F
 | succ k ih =>
  intro v4 v5 r F
  rw [Ca] at F
  apply jc F <;> intro h6 F
  apply jn F; intro h7 F
  apply jb F; intro x8 h9 F
  apply jb F; intro r10 h11 F
  have q14 {l} (z : HA Aa l) := zT h6 <| zT h7 <| zS eGEdge_len h9 3 <| zl (Ny K v1 x8 _ h11) <| z
  apply jc F <;> intro h12 F
  apply jn F; intro h13 F
  exact lN2 (q14 <| zF (bnot_t h12) <| zX (tt (leqm [(i6 x8.To), (i6 r10.1)] 1 2)) rfl <| zT h13 <| zV (app_ok (enc := eGMsg) (v4 : List GMsg) [(GMsg.mk x8.To r10.1)]) <| zi (wadd .i64 v5 1) <| z0) (ih _ _ _ F)
  apply jr F
  exact lE <| q14 <| zT (bnot_f h12) <| z0
  apply jr F
  exact lE <| zF h6 <| z0
def Cl (K : Nat) (v1 : Int) (v2 : Bool) (v3 : List GEdge) : Nat → List GMsg → Int → Option ((Unit) ⊕ (List GMsg))
 | 0, _, _ => none
 | k + 1, v4, v5 =>
  bif (ilt v5 (nlen (len v3))) then
   (bif (inr v5 (len v3)) then
   (elAt v3 v5).bind fun x6 =>
   (F85 K v1 x6).bind fun r7 =>
   bif r7.2 then
    (bif (apok (len v4) 1 16) then
    Cl K v1 v2 v3 k (appL v4 [(GMsg.mk x6.To r7.1)]) (wadd .i64 v5 1)
    else none)
   else
   some (.inl ())
   else none)
  else
  some (.inr v4)
def Ju (v1 : Int) (v2 : Bool) (v3 : List GEdge) (v4 : List GMsg) (v5 : Int) : TS := .on (kq 256 2 <| kq 1216 5 <| kq 1344 2 <| kq 1472 2 <| kq 6144 2 <| kq 6208 2 <| kq 6272 2 <| []) <| sq 256 [u0, (uI v1)] <| sq 1216 [(uX 138 4), ⟨.im, 0, (.lit (fnV 81))⟩, ⟨.im, 0, (.lit (fnV 82))⟩, (uB v2), ⟨.im, 0, (.lit (fnV 85))⟩] <| sq 1344 [u0, (uO 132 eGEdge v3)] <| sq 1472 [u0, (uO 78 eGMsg v4)] <| sq 6144 [u0, ⟨(.vw 1345 0), 0, nob⟩] <| sq 6208 [u0, (uI (nlen (len v3)))] <| sq 6272 [u0, (uI v5)] []
def L1 (v1 : Int) (v2 : Bool) (v3 : List GEdge) (w4 : Unit) : TS := .on (kq 896 2 <| kq 960 2 <| kq 1024 2 <| kq 1088 2 <| []) <| sq 896 [u0, (uI 0)] <| sq 960 [u0, (uN 78)] <| sq 1024 [u0, (uB false)] <| sq 1088 [u0, (uI 8)] []
def LW (v1 : Int) (v2 : Bool) (v3 : List GEdge) (w4 : List GMsg) : TS := .on (kq 256 2 <| kq 1472 2 <| []) <| sq 256 [u0, (uI v1)] <| sq 1472 [u0, (uO 78 eGMsg w4)] []
theorem BQ (K : Nat) (v1 : Int) (v2 : Bool) (v3 : List GEdge) : ∀ (k : Nat) (v4 : List GMsg) (v5 : Int) (r : (Unit) ⊕ (List GMsg)), Cl K v1 v2 v3 k v4 v5 = some r → (Sum.elim (fun w => LoopEv E H Aa 0 Dg (Ju v1 v2 v3 v4 v5) .ret (L1 v1 v2 v3 w)) (fun w => LoopEv E H Aa 0 Dg (Ju v1 v2 v3 v4 v5) (.exit 0) (LW v1 v2 v3 w))) r := by
 intro k
 induction k with
 | zero => intro v4 v5 r F; cases F
 | succ k ih =>
  intro v4 v5 r F
  rw [Cl] at F
  apply jc F <;> intro h6 F
  apply jn F; intro h7 F
  apply jb F; intro x8 h9 F
  apply jb F; intro r10 h11 F
  have q14 {l} (z : HA Aa l) := zT h6 <| zT h7 <| zS eGEdge_len h9 3 <| zl (KT K v1 x8 _ h11) <| z
  apply jc F <;> intro h12 F
  apply jn F; intro h13 F
  exact lN2 (q14 <| zF (bnot_t h12) <| zX (tt (leqm [(i6 x8.To), (i6 r10.1)] 1 2)) rfl <| zT h13 <| zV (app_ok (enc := eGMsg) (v4 : List GMsg) [(GMsg.mk x8.To r10.1)]) <| zi (wadd .i64 v5 1) <| z0) (ih _ _ _ F)
  apply jr F
  exact lE <| q14 <| zT (bnot_f h12) <| z0
  apply jr F
  exact lE <| zF h6 <| z0
def B2 (K : Nat) (v1 : Int) (v2 : Bool) (v3 : List GEdge) : Nat → List GMsg → Int → Option ((Unit) ⊕ (List GMsg))
 | 0, _, _ => none
 | k + 1, v4, v5 =>
  bif (ilt v5 (nlen (len v3))) then
   (bif (inr v5 (len v3)) then
   (elAt v3 v5).bind fun x6 =>
   (F87 K v1 x6).bind fun r7 =>
   bif r7.2 then
    (bif (apok (len v4) 1 16) then
    B2 K v1 v2 v3 k (appL v4 [(GMsg.mk x6.To r7.1)]) (wadd .i64 v5 1)
    else none)
   else
   some (.inl ())
   else none)
  else
  some (.inr v4)
def Iq (v1 : Int) (v2 : Bool) (v3 : List GEdge) (v4 : List GMsg) (v5 : Int) : TS := .on (kq 256 2 <| kq 1216 5 <| kq 1344 2 <| kq 1472 2 <| kq 6144 2 <| kq 6208 2 <| kq 6272 2 <| []) <| sq 256 [u0, (uI v1)] <| sq 1216 [(uX 138 4), ⟨.im, 0, (.lit (fnV 86))⟩, ⟨.im, 0, (.lit (fnV 82))⟩, (uB v2), ⟨.im, 0, (.lit (fnV 87))⟩] <| sq 1344 [u0, (uO 132 eGEdge v3)] <| sq 1472 [u0, (uO 78 eGMsg v4)] <| sq 6144 [u0, ⟨(.vw 1345 0), 0, nob⟩] <| sq 6208 [u0, (uI (nlen (len v3)))] <| sq 6272 [u0, (uI v5)] []
def MP (v1 : Int) (v2 : Bool) (v3 : List GEdge) (w4 : Unit) : TS := .on (kq 896 2 <| kq 960 2 <| kq 1024 2 <| kq 1088 2 <| []) <| sq 896 [u0, (uI 0)] <| sq 960 [u0, (uN 78)] <| sq 1024 [u0, (uB false)] <| sq 1088 [u0, (uI 8)] []
def KW (v1 : Int) (v2 : Bool) (v3 : List GEdge) (w4 : List GMsg) : TS := .on (kq 256 2 <| kq 1472 2 <| []) <| sq 256 [u0, (uI v1)] <| sq 1472 [u0, (uO 78 eGMsg w4)] []
theorem BI (K : Nat) (v1 : Int) (v2 : Bool) (v3 : List GEdge) : ∀ (k : Nat) (v4 : List GMsg) (v5 : Int) (r : (Unit) ⊕ (List GMsg)), B2 K v1 v2 v3 k v4 v5 = some r → (Sum.elim (fun w => LoopEv E H Aa 0 Dg (Iq v1 v2 v3 v4 v5) .ret (MP v1 v2 v3 w)) (fun w => LoopEv E H Aa 0 Dg (Iq v1 v2 v3 v4 v5) (.exit 0) (KW v1 v2 v3 w))) r := by
 intro k
 induction k with
 | zero => intro v4 v5 r F; cases F
 | succ k ih =>
  intro v4 v5 r F
  rw [B2] at F
  apply jc F <;> intro h6 F
  apply jn F; intro h7 F
  apply jb F; intro x8 h9 F
  apply jb F; intro r10 h11 F
  have q14 {l} (z : HA Aa l) := zT h6 <| zT h7 <| zS eGEdge_len h9 3 <| zl (G2 K v1 x8 _ h11) <| z
  apply jc F <;> intro h12 F
  apply jn F; intro h13 F
  exact lN2 (q14 <| zF (bnot_t h12) <| zX (tt (leqm [(i6 x8.To), (i6 r10.1)] 1 2)) rfl <| zT h13 <| zV (app_ok (enc := eGMsg) (v4 : List GMsg) [(GMsg.mk x8.To r10.1)]) <| zi (wadd .i64 v5 1) <| z0) (ih _ _ _ F)
  apply jr F
  exact lE <| q14 <| zT (bnot_f h12) <| z0
  apply jr F
  exact lE <| zF h6 <| z0
def Cj (K : Nat) (v1 : Int) (v2 : Bool) (v3 : List GEdge) : Nat → List GMsg → Int → Option ((Unit) ⊕ (List GMsg))
 | 0, _, _ => none
 | k + 1, v4, v5 =>
  bif (ilt v5 (nlen (len v3))) then
   (bif (inr v5 (len v3)) then
   (elAt v3 v5).bind fun x6 =>
   (F87 K v1 x6).bind fun r7 =>
   bif r7.2 then
    (bif (apok (len v4) 1 16) then
    Cj K v1 v2 v3 k (appL v4 [(GMsg.mk x6.To r7.1)]) (wadd .i64 v5 1)
    else none)
   else
   some (.inl ())
   else none)
  else
  some (.inr v4)
def Jm (v1 : Int) (v2 : Bool) (v3 : List GEdge) (v4 : List GMsg) (v5 : Int) : TS := .on (kq 256 2 <| kq 1216 5 <| kq 1344 2 <| kq 1472 2 <| kq 6144 2 <| kq 6208 2 <| kq 6272 2 <| []) <| sq 256 [u0, (uI v1)] <| sq 1216 [(uX 138 4), ⟨.im, 0, (.lit (fnV 88))⟩, ⟨.im, 0, (.lit (fnV 89))⟩, (uB v2), ⟨.im, 0, (.lit (fnV 87))⟩] <| sq 1344 [u0, (uO 132 eGEdge v3)] <| sq 1472 [u0, (uO 78 eGMsg v4)] <| sq 6144 [u0, ⟨(.vw 1345 0), 0, nob⟩] <| sq 6208 [u0, (uI (nlen (len v3)))] <| sq 6272 [u0, (uI v5)] []
def Mx (v1 : Int) (v2 : Bool) (v3 : List GEdge) (w4 : Unit) : TS := .on (kq 896 2 <| kq 960 2 <| kq 1024 2 <| kq 1088 2 <| []) <| sq 896 [u0, (uI 0)] <| sq 960 [u0, (uN 78)] <| sq 1024 [u0, (uB false)] <| sq 1088 [u0, (uI 8)] []
def Pu (v1 : Int) (v2 : Bool) (v3 : List GEdge) (w4 : List GMsg) : TS := .on (kq 256 2 <| kq 1472 2 <| []) <| sq 256 [u0, (uI v1)] <| sq 1472 [u0, (uO 78 eGMsg w4)] []
theorem BO (K : Nat) (v1 : Int) (v2 : Bool) (v3 : List GEdge) : ∀ (k : Nat) (v4 : List GMsg) (v5 : Int) (r : (Unit) ⊕ (List GMsg)), Cj K v1 v2 v3 k v4 v5 = some r → (Sum.elim (fun w => LoopEv E H Aa 0 Dg (Jm v1 v2 v3 v4 v5) .ret (Mx v1 v2 v3 w)) (fun w => LoopEv E H Aa 0 Dg (Jm v1 v2 v3 v4 v5) (.exit 0) (Pu v1 v2 v3 w))) r := by
 intro k
 induction k with
 | zero => intro v4 v5 r F; cases F
 | succ k ih =>
  intro v4 v5 r F
  rw [Cj] at F
  apply jc F <;> intro h6 F
  apply jn F; intro h7 F
  apply jb F; intro x8 h9 F
  apply jb F; intro r10 h11 F
  have q14 {l} (z : HA Aa l) := zT h6 <| zT h7 <| zS eGEdge_len h9 3 <| zl (G2 K v1 x8 _ h11) <| z
  apply jc F <;> intro h12 F
  apply jn F; intro h13 F
  exact lN2 (q14 <| zF (bnot_t h12) <| zX (tt (leqm [(i6 x8.To), (i6 r10.1)] 1 2)) rfl <| zT h13 <| zV (app_ok (enc := eGMsg) (v4 : List GMsg) [(GMsg.mk x8.To r10.1)]) <| zi (wadd .i64 v5 1) <| z0) (ih _ _ _ F)
  apply jr F
  exact lE <| q14 <| zT (bnot_f h12) <| z0
  apply jr F
  exact lE <| zF h6 <| z0
def F93 (K : Nat) (a1 : GGraph) (a2 : GJob) (a3 : Int) (a4 : Int) (a5 : Int) (a6 : Int) (a7 : Bool) : Option (Int × List GMsg × Bool × Int) :=
 (F31 K a1 a2).bind fun r8 =>
 bif (ieq r8 0) then
  (bif (ilt a4 0) then
   (some (0, ([], (false, 4))))
  else
  bif (ile a1.N a4) then
   (some (0, ([], (false, 4))))
  else
  bif (ilt a3 0) then
   (some (0, ([], (false, 1))))
  else
  bif (ilt 40 a3) then
   (some (0, ([], (false, 1))))
  else
  bif a7 then
   ((F57 K a2.Prog).bind fun r9 =>
   bif (areFns [r9.1.start_, r9.1.better_, r9.1.send_] [81, 82, 83]) then
    ((BB K a1 a4).bind fun r10 =>
    bif (ieq a3 0) then
     (bif r9.1.only_ then
      ((F82 K a6 a5).bind fun r11 =>
      bif r11 then
       ((Ca K a6 r9.1.only_ r10 K [] 0).bind fun y12 =>
       Sum.elim (fun w13 =>
        some (0, ([], (false, 8))))
        (fun w14 =>
        some (a6, (w14, (true, 0)))) y12)
      else
      bif (ieq a4 a2.Source) then
       ((Ca K a5 r9.1.only_ r10 K [] 0).bind fun y15 =>
       Sum.elim (fun w16 =>
        some (0, ([], (false, 8))))
        (fun w17 =>
        some (a5, (w17, (true, 0)))) y15)
      else
      some (a5, ([], (true, 0))))
     else
     (F82 K a6 a5).bind fun r18 =>
     bif r18 then
      ((Ca K a6 r9.1.only_ r10 K [] 0).bind fun y19 =>
      Sum.elim (fun w20 =>
       some (0, ([], (false, 8))))
       (fun w21 =>
       some (a6, (w21, (true, 0)))) y19)
     else
     (Ca K a5 r9.1.only_ r10 K [] 0).bind fun y22 =>
     Sum.elim (fun w23 =>
      some (0, ([], (false, 8))))
      (fun w24 =>
      some (a5, (w24, (true, 0)))) y22)
    else
    (F82 K a6 a5).bind fun r25 =>
    bif r25 then
     ((Ca K a6 r9.1.only_ r10 K [] 0).bind fun y26 =>
     Sum.elim (fun w27 =>
      some (0, ([], (false, 8))))
      (fun w28 =>
      some (a6, (w28, (true, 0)))) y26)
    else
    some (a5, ([], (true, 0))))
   else
   bif (areFns [r9.1.start_, r9.1.better_, r9.1.send_] [81, 82, 85]) then
    ((BB K a1 a4).bind fun r29 =>
    bif (ieq a3 0) then
     (bif r9.1.only_ then
      ((F82 K a6 a5).bind fun r30 =>
      bif r30 then
       ((Cl K a6 r9.1.only_ r29 K [] 0).bind fun y31 =>
       Sum.elim (fun w32 =>
        some (0, ([], (false, 8))))
        (fun w33 =>
        some (a6, (w33, (true, 0)))) y31)
      else
      bif (ieq a4 a2.Source) then
       ((Cl K a5 r9.1.only_ r29 K [] 0).bind fun y34 =>
       Sum.elim (fun w35 =>
        some (0, ([], (false, 8))))
        (fun w36 =>
        some (a5, (w36, (true, 0)))) y34)
      else
      some (a5, ([], (true, 0))))
     else
     (F82 K a6 a5).bind fun r37 =>
     bif r37 then
      ((Cl K a6 r9.1.only_ r29 K [] 0).bind fun y38 =>
      Sum.elim (fun w39 =>
       some (0, ([], (false, 8))))
       (fun w40 =>
       some (a6, (w40, (true, 0)))) y38)
     else
     (Cl K a5 r9.1.only_ r29 K [] 0).bind fun y41 =>
     Sum.elim (fun w42 =>
      some (0, ([], (false, 8))))
      (fun w43 =>
      some (a5, (w43, (true, 0)))) y41)
    else
    (F82 K a6 a5).bind fun r44 =>
    bif r44 then
     ((Cl K a6 r9.1.only_ r29 K [] 0).bind fun y45 =>
     Sum.elim (fun w46 =>
      some (0, ([], (false, 8))))
      (fun w47 =>
      some (a6, (w47, (true, 0)))) y45)
    else
    some (a5, ([], (true, 0))))
   else
   bif (areFns [r9.1.start_, r9.1.better_, r9.1.send_] [86, 82, 87]) then
    ((BB K a1 a4).bind fun r48 =>
    bif (ieq a3 0) then
     (bif r9.1.only_ then
      ((F82 K a6 a5).bind fun r49 =>
      bif r49 then
       ((B2 K a6 r9.1.only_ r48 K [] 0).bind fun y50 =>
       Sum.elim (fun w51 =>
        some (0, ([], (false, 8))))
        (fun w52 =>
        some (a6, (w52, (true, 0)))) y50)
      else
      bif (ieq a4 a2.Source) then
       ((B2 K a5 r9.1.only_ r48 K [] 0).bind fun y53 =>
       Sum.elim (fun w54 =>
        some (0, ([], (false, 8))))
        (fun w55 =>
        some (a5, (w55, (true, 0)))) y53)
      else
      some (a5, ([], (true, 0))))
     else
     (F82 K a6 a5).bind fun r56 =>
     bif r56 then
      ((B2 K a6 r9.1.only_ r48 K [] 0).bind fun y57 =>
      Sum.elim (fun w58 =>
       some (0, ([], (false, 8))))
       (fun w59 =>
       some (a6, (w59, (true, 0)))) y57)
     else
     (B2 K a5 r9.1.only_ r48 K [] 0).bind fun y60 =>
     Sum.elim (fun w61 =>
      some (0, ([], (false, 8))))
      (fun w62 =>
      some (a5, (w62, (true, 0)))) y60)
    else
    (F82 K a6 a5).bind fun r63 =>
    bif r63 then
     ((B2 K a6 r9.1.only_ r48 K [] 0).bind fun y64 =>
     Sum.elim (fun w65 =>
      some (0, ([], (false, 8))))
      (fun w66 =>
      some (a6, (w66, (true, 0)))) y64)
    else
    some (a5, ([], (true, 0))))
   else
   bif (areFns [r9.1.start_, r9.1.better_, r9.1.send_] [88, 89, 87]) then
    ((BB K a1 a4).bind fun r67 =>
    bif (ieq a3 0) then
     (bif r9.1.only_ then
      ((F89 K a6 a5).bind fun r68 =>
      bif r68 then
       ((Cj K a6 r9.1.only_ r67 K [] 0).bind fun y69 =>
       Sum.elim (fun w70 =>
        some (0, ([], (false, 8))))
        (fun w71 =>
        some (a6, (w71, (true, 0)))) y69)
      else
      bif (ieq a4 a2.Source) then
       ((Cj K a5 r9.1.only_ r67 K [] 0).bind fun y72 =>
       Sum.elim (fun w73 =>
        some (0, ([], (false, 8))))
        (fun w74 =>
        some (a5, (w74, (true, 0)))) y72)
      else
      some (a5, ([], (true, 0))))
     else
     (F89 K a6 a5).bind fun r75 =>
     bif r75 then
      ((Cj K a6 r9.1.only_ r67 K [] 0).bind fun y76 =>
      Sum.elim (fun w77 =>
       some (0, ([], (false, 8))))
       (fun w78 =>
       some (a6, (w78, (true, 0)))) y76)
     else
     (Cj K a5 r9.1.only_ r67 K [] 0).bind fun y79 =>
     Sum.elim (fun w80 =>
      some (0, ([], (false, 8))))
      (fun w81 =>
      some (a5, (w81, (true, 0)))) y79)
    else
    (F89 K a6 a5).bind fun r82 =>
    bif r82 then
     ((Cj K a6 r9.1.only_ r67 K [] 0).bind fun y83 =>
     Sum.elim (fun w84 =>
      some (0, ([], (false, 8))))
      (fun w85 =>
      some (a6, (w85, (true, 0)))) y83)
    else
    some (a5, ([], (true, 0))))
   else
   bif (areFns [r9.1.start_, r9.1.better_, r9.1.send_] [90, 0, 87]) then
    ((BB K a1 a4).bind fun r86 =>
    (Dk K r86 a3 a5 a6).bind fun r87 =>
    some (r87.1, (r87.2.1, (r87.2.2.1, r87.2.2.2))))
   else
   bif (areFns [r9.1.start_, r9.1.better_, r9.1.send_] [0, 0, 0]) then
   (BB K a1 a4).bind fun r88 =>
   (Dk K r88 a3 a5 a6).bind fun r89 =>
   some (r89.1, (r89.2.1, (r89.2.2.1, r89.2.2.2)))
   else none)
  else
  (F57 K a2.Prog).bind fun r90 =>
  bif (areFns [r90.1.start_, r90.1.better_, r90.1.send_] [81, 82, 83]) then
   ((BB K a1 a4).bind fun r91 =>
   bif (ieq a3 0) then
    (bif r90.1.only_ then
     (bif (ieq a4 a2.Source) then
      ((Ca K a5 r90.1.only_ r91 K [] 0).bind fun y92 =>
      Sum.elim (fun w93 =>
       some (0, ([], (false, 8))))
       (fun w94 =>
       some (a5, (w94, (true, 0)))) y92)
     else
     some (a5, ([], (true, 0))))
    else
    (Ca K a5 r90.1.only_ r91 K [] 0).bind fun y95 =>
    Sum.elim (fun w96 =>
     some (0, ([], (false, 8))))
     (fun w97 =>
     some (a5, (w97, (true, 0)))) y95)
   else
   some (a5, ([], (true, 0))))
  else
  bif (areFns [r90.1.start_, r90.1.better_, r90.1.send_] [81, 82, 85]) then
   ((BB K a1 a4).bind fun r98 =>
   bif (ieq a3 0) then
    (bif r90.1.only_ then
     (bif (ieq a4 a2.Source) then
      ((Cl K a5 r90.1.only_ r98 K [] 0).bind fun y99 =>
      Sum.elim (fun w100 =>
       some (0, ([], (false, 8))))
       (fun w101 =>
       some (a5, (w101, (true, 0)))) y99)
     else
     some (a5, ([], (true, 0))))
    else
    (Cl K a5 r90.1.only_ r98 K [] 0).bind fun y102 =>
    Sum.elim (fun w103 =>
     some (0, ([], (false, 8))))
     (fun w104 =>
     some (a5, (w104, (true, 0)))) y102)
   else
   some (a5, ([], (true, 0))))
  else
  bif (areFns [r90.1.start_, r90.1.better_, r90.1.send_] [86, 82, 87]) then
   ((BB K a1 a4).bind fun r105 =>
   bif (ieq a3 0) then
    (bif r90.1.only_ then
     (bif (ieq a4 a2.Source) then
      ((B2 K a5 r90.1.only_ r105 K [] 0).bind fun y106 =>
      Sum.elim (fun w107 =>
       some (0, ([], (false, 8))))
       (fun w108 =>
       some (a5, (w108, (true, 0)))) y106)
     else
     some (a5, ([], (true, 0))))
    else
    (B2 K a5 r90.1.only_ r105 K [] 0).bind fun y109 =>
    Sum.elim (fun w110 =>
     some (0, ([], (false, 8))))
     (fun w111 =>
     some (a5, (w111, (true, 0)))) y109)
   else
   some (a5, ([], (true, 0))))
  else
  bif (areFns [r90.1.start_, r90.1.better_, r90.1.send_] [88, 89, 87]) then
   ((BB K a1 a4).bind fun r112 =>
   bif (ieq a3 0) then
    (bif r90.1.only_ then
     (bif (ieq a4 a2.Source) then
      ((Cj K a5 r90.1.only_ r112 K [] 0).bind fun y113 =>
      Sum.elim (fun w114 =>
       some (0, ([], (false, 8))))
       (fun w115 =>
       some (a5, (w115, (true, 0)))) y113)
     else
     some (a5, ([], (true, 0))))
    else
    (Cj K a5 r90.1.only_ r112 K [] 0).bind fun y116 =>
    Sum.elim (fun w117 =>
     some (0, ([], (false, 8))))
     (fun w118 =>
     some (a5, (w118, (true, 0)))) y116)
   else
   some (a5, ([], (true, 0))))
  else
  bif (areFns [r90.1.start_, r90.1.better_, r90.1.send_] [90, 0, 87]) then
   ((BB K a1 a4).bind fun r119 =>
   (Dk K r119 a3 a5 0).bind fun r120 =>
   some (r120.1, (r120.2.1, (r120.2.2.1, r120.2.2.2))))
  else
  bif (areFns [r90.1.start_, r90.1.better_, r90.1.send_] [0, 0, 0]) then
  (BB K a1 a4).bind fun r121 =>
  (Dk K r121 a3 a5 0).bind fun r122 =>
  some (r122.1, (r122.2.1, (r122.2.2.1, r122.2.2.2)))
  else none)
 else
 some (0, ([], (false, r8)))
theorem HJ (K : Nat) (a1 : GGraph) (a2 : GJob) (a3 : Int) (a4 : Int) (a5 : Int) (a6 : Int) (a7 : Bool) (r : Int × List GMsg × Bool × Int) (F : F93 K a1 a2 a3 a4 a5 a6 a7 = some r) : Evt E H 93 [.agg (eGGraph a1), .agg (eGJob a2), .one (i6 a3), .one (i6 a4), .one (i6 a5), .one (i6 a6), .one (.lit (.bool a7))] (KY r) := by
 rw [F93] at F
 apply jb F; intro r8 h9 F
 apply jc F <;> intro h10 F
 have q236 {l} (z : HA Aa l) := zl (B4 K a1 a2 _ h9) <| zF (ine_t h10) <| z
 apply jc F <;> intro h11 F
 apply jr F
 exact fpC Aa <| q236 <| DF h11 <| zr1 <| z0
 have q237 {l} (z : HA Aa l) := Fz h11 <| z
 apply jc F <;> intro h12 F
 apply jr F
 exact fpC Aa <| q236 <| q237 <| zT (ige_eq h12) <| z0
 apply jc F <;> intro h13 F
 apply jr F
 exact fpC Aa <| q236 <| q237 <| zF (ige_eq h12) <| B5 h13 <| zr1 <| z0
 have q238 {l} (z : HA Aa l) := zF (ige_eq h12) <| Cv h13 <| z
 apply jc F <;> intro h14 F
 apply jr F
 exact fpC Aa <| q236 <| q237 <| q238 <| zT (igt_eq h14) <| z0
 apply jc F <;> intro h15 F
 apply jb F; intro r16 h17 F
 apply jc F <;> intro h18 F
 apply jb F; intro r19 h20 F
 have q239 {l} (z : HA Aa l) := zF (igt_eq h14) <| zF (bnot_t h15) <| zl (Ef _ h18 (Aj K a2.Prog _ h17)) <| zl (Ch K a1 a4 _ h20) <| zf1 <| z
 apply jc F <;> intro h21 F
 have q240 {l} (z : HA Aa l) := zC4 h21 <| z
 apply jc F <;> intro h22 F
 apply jb F; intro r23 h24 F
 have q241 {l} (z : HA Aa l) := zB4 (bnot_t h22) <| zC1 h21 <| zF (bnot_t h22) <| zT h21 <| zC5 h15 <| zl (B8 K a6 a5 _ h24) <| zT h15 <| z
 apply jc F <;> intro h25 F
 have q242 {l} (z : HA Aa l) := zT h25 <| zn1 <| zi (nl r19) <| z
 apply jb F; intro y27 h26 F
 refine js F (fun w28 hx F => ?_) fun w29 hx F => ?_
 subst hx
 apply jr F
 exact fpC Aa <| q236 <| q237 <| q238 <| q239 <| q240 <| q241 <| q242 <| zo (BR K a6 r16.1.only_ r19 K [] 0 _ h26) <| z0
 subst hx
 apply jr F
 exact fpC Aa <| q236 <| q237 <| q238 <| q239 <| q240 <| q241 <| q242 <| zo (BR K a6 r16.1.only_ r19 K [] 0 _ h26) <| z0
 apply jc F <;> intro h30 F
 have q243 {l} (z : HA Aa l) := zF h25 <| zF (bnot_t h30) <| zi (nl r19) <| z
 apply jb F; intro y32 h31 F
 refine js F (fun w33 hx F => ?_) fun w34 hx F => ?_
 subst hx
 apply jr F
 exact fpC Aa <| q236 <| q237 <| q238 <| q239 <| q240 <| q241 <| q243 <| zo (BR K a5 r16.1.only_ r19 K [] 0 _ h31) <| z0
 subst hx
 apply jr F
 exact fpC Aa <| q236 <| q237 <| q238 <| q239 <| q240 <| q241 <| q243 <| zo (BR K a5 r16.1.only_ r19 K [] 0 _ h31) <| z0
 apply jr F
 exact fpC Aa <| q236 <| q237 <| q238 <| q239 <| q240 <| q241 <| zF h25 <| zT (bnot_f h30) <| z0
 apply jb F; intro r35 h36 F
 have q244 {l} (z : HA Aa l) := zA4 (bnot_f h22) <| zC1 h21 <| zT (bnot_f h22) <| zT h21 <| zC5 h15 <| zl (B8 K a6 a5 _ h36) <| zT h15 <| z
 apply jc F <;> intro h37 F
 have q245 {l} (z : HA Aa l) := zT h37 <| zn1 <| zi (nl r19) <| z
 apply jb F; intro y39 h38 F
 refine js F (fun w40 hx F => ?_) fun w41 hx F => ?_
 subst hx
 apply jr F
 exact fpC Aa <| q236 <| q237 <| q238 <| q239 <| q240 <| q244 <| q245 <| zo (BR K a6 r16.1.only_ r19 K [] 0 _ h38) <| z0
 subst hx
 apply jr F
 exact fpC Aa <| q236 <| q237 <| q238 <| q239 <| q240 <| q244 <| q245 <| zo (BR K a6 r16.1.only_ r19 K [] 0 _ h38) <| z0
 have q246 {l} (z : HA Aa l) := zF h37 <| zn1 <| zi (nl r19) <| z
 apply jb F; intro y43 h42 F
 refine js F (fun w44 hx F => ?_) fun w45 hx F => ?_
 subst hx
 apply jr F
 exact fpC Aa <| q236 <| q237 <| q238 <| q239 <| q240 <| q244 <| q246 <| zo (BR K a5 r16.1.only_ r19 K [] 0 _ h42) <| z0
 subst hx
 apply jr F
 exact fpC Aa <| q236 <| q237 <| q238 <| q239 <| q240 <| q244 <| q246 <| zo (BR K a5 r16.1.only_ r19 K [] 0 _ h42) <| z0
 apply jb F; intro r46 h47 F
 have q247 {l} (z : HA Aa l) := Au h21 <| zC5 h15 <| zl (B8 K a6 a5 _ h47) <| zT h15 <| z
 apply jc F <;> intro h48 F
 have q248 {l} (z : HA Aa l) := zT h48 <| zn1 <| zi (nl r19) <| z
 apply jb F; intro y50 h49 F
 refine js F (fun w51 hx F => ?_) fun w52 hx F => ?_
 subst hx
 apply jr F
 exact fpC Aa <| q236 <| q237 <| q238 <| q239 <| q247 <| q248 <| zo (BR K a6 r16.1.only_ r19 K [] 0 _ h49) <| z0
 subst hx
 apply jr F
 exact fpC Aa <| q236 <| q237 <| q238 <| q239 <| q247 <| q248 <| zo (BR K a6 r16.1.only_ r19 K [] 0 _ h49) <| z0
 apply jr F
 exact fpC Aa <| q236 <| q237 <| q238 <| q239 <| q247 <| zF h48 <| zX (tt (bnot false)) (bnot_f rfl) <| z0
 apply jc F <;> intro h53 F
 apply jb F; intro r54 h55 F
 have q249 {l} (z : HA Aa l) := zF (igt_eq h14) <| zF (bnot_t h15) <| zl (D8 _ h53 (Aj K a2.Prog _ h17)) <| zl (Ch K a1 a4 _ h55) <| zf1 <| z
 apply jc F <;> intro h56 F
 have q250 {l} (z : HA Aa l) := zC4 h56 <| z
 apply jc F <;> intro h57 F
 apply jb F; intro r58 h59 F
 have q251 {l} (z : HA Aa l) := zB4 (bnot_t h57) <| zC1 h56 <| zF (bnot_t h57) <| zT h56 <| zC5 h15 <| zl (B8 K a6 a5 _ h59) <| zT h15 <| z
 apply jc F <;> intro h60 F
 have q252 {l} (z : HA Aa l) := zT h60 <| zn1 <| zi (nl r54) <| z
 apply jb F; intro y62 h61 F
 refine js F (fun w63 hx F => ?_) fun w64 hx F => ?_
 subst hx
 apply jr F
 exact fpC Aa <| q236 <| q237 <| q238 <| q249 <| q250 <| q251 <| q252 <| zo (BQ K a6 r16.1.only_ r54 K [] 0 _ h61) <| z0
 subst hx
 apply jr F
 exact fpC Aa <| q236 <| q237 <| q238 <| q249 <| q250 <| q251 <| q252 <| zo (BQ K a6 r16.1.only_ r54 K [] 0 _ h61) <| z0
 apply jc F <;> intro h65 F
 have q253 {l} (z : HA Aa l) := zF h60 <| zF (bnot_t h65) <| zi (nl r54) <| z
 apply jb F; intro y67 h66 F
 refine js F (fun w68 hx F => ?_) fun w69 hx F => ?_
 subst hx
 apply jr F
 exact fpC Aa <| q236 <| q237 <| q238 <| q249 <| q250 <| q251 <| q253 <| zo (BQ K a5 r16.1.only_ r54 K [] 0 _ h66) <| z0
 subst hx
 apply jr F
 exact fpC Aa <| q236 <| q237 <| q238 <| q249 <| q250 <| q251 <| q253 <| zo (BQ K a5 r16.1.only_ r54 K [] 0 _ h66) <| z0
 apply jr F
 exact fpC Aa <| q236 <| q237 <| q238 <| q249 <| q250 <| q251 <| zF h60 <| zT (bnot_f h65) <| z0
 apply jb F; intro r70 h71 F
 have q254 {l} (z : HA Aa l) := zA4 (bnot_f h57) <| zC1 h56 <| zT (bnot_f h57) <| zT h56 <| zC5 h15 <| zl (B8 K a6 a5 _ h71) <| zT h15 <| z
 apply jc F <;> intro h72 F
 have q255 {l} (z : HA Aa l) := zT h72 <| zn1 <| zi (nl r54) <| z
 apply jb F; intro y74 h73 F
 refine js F (fun w75 hx F => ?_) fun w76 hx F => ?_
 subst hx
 apply jr F
 exact fpC Aa <| q236 <| q237 <| q238 <| q249 <| q250 <| q254 <| q255 <| zo (BQ K a6 r16.1.only_ r54 K [] 0 _ h73) <| z0
 subst hx
 apply jr F
 exact fpC Aa <| q236 <| q237 <| q238 <| q249 <| q250 <| q254 <| q255 <| zo (BQ K a6 r16.1.only_ r54 K [] 0 _ h73) <| z0
 have q256 {l} (z : HA Aa l) := zF h72 <| zn1 <| zi (nl r54) <| z
 apply jb F; intro y78 h77 F
 refine js F (fun w79 hx F => ?_) fun w80 hx F => ?_
 subst hx
 apply jr F
 exact fpC Aa <| q236 <| q237 <| q238 <| q249 <| q250 <| q254 <| q256 <| zo (BQ K a5 r16.1.only_ r54 K [] 0 _ h77) <| z0
 subst hx
 apply jr F
 exact fpC Aa <| q236 <| q237 <| q238 <| q249 <| q250 <| q254 <| q256 <| zo (BQ K a5 r16.1.only_ r54 K [] 0 _ h77) <| z0
 apply jb F; intro r81 h82 F
 have q257 {l} (z : HA Aa l) := Au h56 <| zC5 h15 <| zl (B8 K a6 a5 _ h82) <| zT h15 <| z
 apply jc F <;> intro h83 F
 have q258 {l} (z : HA Aa l) := zT h83 <| zn1 <| zi (nl r54) <| z
 apply jb F; intro y85 h84 F
 refine js F (fun w86 hx F => ?_) fun w87 hx F => ?_
 subst hx
 apply jr F
 exact fpC Aa <| q236 <| q237 <| q238 <| q249 <| q257 <| q258 <| zo (BQ K a6 r16.1.only_ r54 K [] 0 _ h84) <| z0
 subst hx
 apply jr F
 exact fpC Aa <| q236 <| q237 <| q238 <| q249 <| q257 <| q258 <| zo (BQ K a6 r16.1.only_ r54 K [] 0 _ h84) <| z0
 apply jr F
 exact fpC Aa <| q236 <| q237 <| q238 <| q249 <| q257 <| zF h83 <| zX (tt (bnot false)) (bnot_f rfl) <| z0
 apply jc F <;> intro h88 F
 apply jb F; intro r89 h90 F
 have q259 {l} (z : HA Aa l) := zF (igt_eq h14) <| zF (bnot_t h15) <| zl (Em _ h88 (Aj K a2.Prog _ h17)) <| zl (Ch K a1 a4 _ h90) <| zf1 <| z
 apply jc F <;> intro h91 F
 have q260 {l} (z : HA Aa l) := zC4 h91 <| z
 apply jc F <;> intro h92 F
 apply jb F; intro r93 h94 F
 have q261 {l} (z : HA Aa l) := zB4 (bnot_t h92) <| zC1 h91 <| zF (bnot_t h92) <| zT h91 <| zC5 h15 <| zl (B8 K a6 a5 _ h94) <| zT h15 <| z
 apply jc F <;> intro h95 F
 have q262 {l} (z : HA Aa l) := zT h95 <| zn1 <| zi (nl r89) <| z
 apply jb F; intro y97 h96 F
 refine js F (fun w98 hx F => ?_) fun w99 hx F => ?_
 subst hx
 apply jr F
 exact fpC Aa <| q236 <| q237 <| q238 <| q259 <| q260 <| q261 <| q262 <| zo (BI K a6 r16.1.only_ r89 K [] 0 _ h96) <| z0
 subst hx
 apply jr F
 exact fpC Aa <| q236 <| q237 <| q238 <| q259 <| q260 <| q261 <| q262 <| zo (BI K a6 r16.1.only_ r89 K [] 0 _ h96) <| z0
 apply jc F <;> intro h100 F
 have q263 {l} (z : HA Aa l) := zF h95 <| zF (bnot_t h100) <| zi (nl r89) <| z
 apply jb F; intro y102 h101 F
 refine js F (fun w103 hx F => ?_) fun w104 hx F => ?_
 subst hx
 apply jr F
 exact fpC Aa <| q236 <| q237 <| q238 <| q259 <| q260 <| q261 <| q263 <| zo (BI K a5 r16.1.only_ r89 K [] 0 _ h101) <| z0
 subst hx
 apply jr F
 exact fpC Aa <| q236 <| q237 <| q238 <| q259 <| q260 <| q261 <| q263 <| zo (BI K a5 r16.1.only_ r89 K [] 0 _ h101) <| z0
 apply jr F
 exact fpC Aa <| q236 <| q237 <| q238 <| q259 <| q260 <| q261 <| zF h95 <| zT (bnot_f h100) <| z0
 apply jb F; intro r105 h106 F
 have q264 {l} (z : HA Aa l) := zA4 (bnot_f h92) <| zC1 h91 <| zT (bnot_f h92) <| zT h91 <| zC5 h15 <| zl (B8 K a6 a5 _ h106) <| zT h15 <| z
 apply jc F <;> intro h107 F
 have q265 {l} (z : HA Aa l) := zT h107 <| zn1 <| zi (nl r89) <| z
 apply jb F; intro y109 h108 F
 refine js F (fun w110 hx F => ?_) fun w111 hx F => ?_
 subst hx
 apply jr F
 exact fpC Aa <| q236 <| q237 <| q238 <| q259 <| q260 <| q264 <| q265 <| zo (BI K a6 r16.1.only_ r89 K [] 0 _ h108) <| z0
 subst hx
 apply jr F
 exact fpC Aa <| q236 <| q237 <| q238 <| q259 <| q260 <| q264 <| q265 <| zo (BI K a6 r16.1.only_ r89 K [] 0 _ h108) <| z0
 have q266 {l} (z : HA Aa l) := zF h107 <| zn1 <| zi (nl r89) <| z
 apply jb F; intro y113 h112 F
 refine js F (fun w114 hx F => ?_) fun w115 hx F => ?_
 subst hx
 apply jr F
 exact fpC Aa <| q236 <| q237 <| q238 <| q259 <| q260 <| q264 <| q266 <| zo (BI K a5 r16.1.only_ r89 K [] 0 _ h112) <| z0
 subst hx
 apply jr F
 exact fpC Aa <| q236 <| q237 <| q238 <| q259 <| q260 <| q264 <| q266 <| zo (BI K a5 r16.1.only_ r89 K [] 0 _ h112) <| z0
 apply jb F; intro r116 h117 F
 have q267 {l} (z : HA Aa l) := Au h91 <| zC5 h15 <| zl (B8 K a6 a5 _ h117) <| zT h15 <| z
 apply jc F <;> intro h118 F
 have q268 {l} (z : HA Aa l) := zT h118 <| zn1 <| zi (nl r89) <| z
 apply jb F; intro y120 h119 F
 refine js F (fun w121 hx F => ?_) fun w122 hx F => ?_
 subst hx
 apply jr F
 exact fpC Aa <| q236 <| q237 <| q238 <| q259 <| q267 <| q268 <| zo (BI K a6 r16.1.only_ r89 K [] 0 _ h119) <| z0
 subst hx
 apply jr F
 exact fpC Aa <| q236 <| q237 <| q238 <| q259 <| q267 <| q268 <| zo (BI K a6 r16.1.only_ r89 K [] 0 _ h119) <| z0
 apply jr F
 exact fpC Aa <| q236 <| q237 <| q238 <| q259 <| q267 <| zF h118 <| zX (tt (bnot false)) (bnot_f rfl) <| z0
 apply jc F <;> intro h123 F
 apply jb F; intro r124 h125 F
 have q269 {l} (z : HA Aa l) := zF (igt_eq h14) <| zF (bnot_t h15) <| zl (Ec _ h123 (Aj K a2.Prog _ h17)) <| zl (Ch K a1 a4 _ h125) <| zf1 <| z
 apply jc F <;> intro h126 F
 have q270 {l} (z : HA Aa l) := zC4 h126 <| z
 apply jc F <;> intro h127 F
 apply jb F; intro r128 h129 F
 have q271 {l} (z : HA Aa l) := zB4 (bnot_t h127) <| zC1 h126 <| zF (bnot_t h127) <| zT h126 <| zC5 h15 <| zl (Fq K a6 a5 _ h129) <| zT h15 <| z
 apply jc F <;> intro h130 F
 have q272 {l} (z : HA Aa l) := zT h130 <| zn1 <| zi (nl r124) <| z
 apply jb F; intro y132 h131 F
 refine js F (fun w133 hx F => ?_) fun w134 hx F => ?_
 subst hx
 apply jr F
 exact fpC Aa <| q236 <| q237 <| q238 <| q269 <| q270 <| q271 <| q272 <| zo (BO K a6 r16.1.only_ r124 K [] 0 _ h131) <| z0
 subst hx
 apply jr F
 exact fpC Aa <| q236 <| q237 <| q238 <| q269 <| q270 <| q271 <| q272 <| zo (BO K a6 r16.1.only_ r124 K [] 0 _ h131) <| z0
 apply jc F <;> intro h135 F
 have q273 {l} (z : HA Aa l) := zF h130 <| zF (bnot_t h135) <| zi (nl r124) <| z
 apply jb F; intro y137 h136 F
 refine js F (fun w138 hx F => ?_) fun w139 hx F => ?_
 subst hx
 apply jr F
 exact fpC Aa <| q236 <| q237 <| q238 <| q269 <| q270 <| q271 <| q273 <| zo (BO K a5 r16.1.only_ r124 K [] 0 _ h136) <| z0
 subst hx
 apply jr F
 exact fpC Aa <| q236 <| q237 <| q238 <| q269 <| q270 <| q271 <| q273 <| zo (BO K a5 r16.1.only_ r124 K [] 0 _ h136) <| z0
 apply jr F
 exact fpC Aa <| q236 <| q237 <| q238 <| q269 <| q270 <| q271 <| zF h130 <| zT (bnot_f h135) <| z0
 apply jb F; intro r140 h141 F
 have q274 {l} (z : HA Aa l) := zA4 (bnot_f h127) <| zC1 h126 <| zT (bnot_f h127) <| zT h126 <| zC5 h15 <| zl (Fq K a6 a5 _ h141) <| zT h15 <| z
 apply jc F <;> intro h142 F
 have q275 {l} (z : HA Aa l) := zT h142 <| zn1 <| zi (nl r124) <| z
 apply jb F; intro y144 h143 F
 refine js F (fun w145 hx F => ?_) fun w146 hx F => ?_
 subst hx
 apply jr F
 exact fpC Aa <| q236 <| q237 <| q238 <| q269 <| q270 <| q274 <| q275 <| zo (BO K a6 r16.1.only_ r124 K [] 0 _ h143) <| z0
 subst hx
 apply jr F
 exact fpC Aa <| q236 <| q237 <| q238 <| q269 <| q270 <| q274 <| q275 <| zo (BO K a6 r16.1.only_ r124 K [] 0 _ h143) <| z0
 have q276 {l} (z : HA Aa l) := zF h142 <| zn1 <| zi (nl r124) <| z
 apply jb F; intro y148 h147 F
 refine js F (fun w149 hx F => ?_) fun w150 hx F => ?_
 subst hx
 apply jr F
 exact fpC Aa <| q236 <| q237 <| q238 <| q269 <| q270 <| q274 <| q276 <| zo (BO K a5 r16.1.only_ r124 K [] 0 _ h147) <| z0
 subst hx
 apply jr F
 exact fpC Aa <| q236 <| q237 <| q238 <| q269 <| q270 <| q274 <| q276 <| zo (BO K a5 r16.1.only_ r124 K [] 0 _ h147) <| z0
 apply jb F; intro r151 h152 F
 have q277 {l} (z : HA Aa l) := Au h126 <| zC5 h15 <| zl (Fq K a6 a5 _ h152) <| zT h15 <| z
 apply jc F <;> intro h153 F
 have q278 {l} (z : HA Aa l) := zT h153 <| zn1 <| zi (nl r124) <| z
 apply jb F; intro y155 h154 F
 refine js F (fun w156 hx F => ?_) fun w157 hx F => ?_
 subst hx
 apply jr F
 exact fpC Aa <| q236 <| q237 <| q238 <| q269 <| q277 <| q278 <| zo (BO K a6 r16.1.only_ r124 K [] 0 _ h154) <| z0
 subst hx
 apply jr F
 exact fpC Aa <| q236 <| q237 <| q238 <| q269 <| q277 <| q278 <| zo (BO K a6 r16.1.only_ r124 K [] 0 _ h154) <| z0
 apply jr F
 exact fpC Aa <| q236 <| q237 <| q238 <| q269 <| q277 <| zF h153 <| zX (tt (bnot false)) (bnot_f rfl) <| z0
 apply jc F <;> intro h158 F
 apply jb F; intro r159 h160 F
 apply jb F; intro r161 h162 F
 apply jr F
 exact fpC Aa <| q236 <| q237 <| q238 <| zF (igt_eq h14) <| zF (bnot_t h15) <| zl (Ey _ h158 (Aj K a2.Prog _ h17)) <| zl (Ch K a1 a4 _ h160) <| zr1 <| zl (Fx K r159 a3 a5 a6 _ h162) <| z0
 apply jn F; intro h163 F
 apply jb F; intro r164 h165 F
 apply jb F; intro r166 h167 F
 apply jr F
 exact fpC Aa <| q236 <| q237 <| q238 <| zF (igt_eq h14) <| zF (bnot_t h15) <| zl (EB _ h163 (Aj K a2.Prog _ h17)) <| zl (Ch K a1 a4 _ h165) <| zr1 <| zl (Fx K r164 a3 a5 a6 _ h167) <| z0
 apply jb F; intro r168 h169 F
 apply jc F <;> intro h170 F
 apply jb F; intro r171 h172 F
 have q279 {l} (z : HA Aa l) := zF (igt_eq h14) <| zT (bnot_f h15) <| zl (Ef _ h170 (Aj K a2.Prog _ h169)) <| zl (Ch K a1 a4 _ h172) <| zf1 <| z
 apply jc F <;> intro h173 F
 have q280 {l} (z : HA Aa l) := zC4 h173 <| z
 apply jc F <;> intro h174 F
 have q281 {l} (z : HA Aa l) := zB4 (bnot_t h174) <| zC1 h173 <| zF (bnot_t h174) <| zT h173 <| Au h15 <| zf1 <| z
 apply jc F <;> intro h175 F
 apply jb F; intro y177 h176 F
 refine js F (fun w178 hx F => ?_) fun w179 hx F => ?_
 subst hx
 apply jr F
 exact fpC Aa <| q236 <| q237 <| q238 <| q279 <| q280 <| q281 <| zF (bnot_t h175) <| zi (nl r171) <| zo (BR K a5 r168.1.only_ r171 K [] 0 _ h176) <| z0
 subst hx
 apply jr F
 exact fpC Aa <| q236 <| q237 <| q238 <| q279 <| q280 <| q281 <| zF (bnot_t h175) <| zi (nl r171) <| zo (BR K a5 r168.1.only_ r171 K [] 0 _ h176) <| z0
 apply jr F
 exact fpC Aa <| q236 <| q237 <| q238 <| q279 <| q280 <| q281 <| zT (bnot_f h175) <| z0
 have q282 {l} (z : HA Aa l) := zA4 (bnot_f h174) <| zC1 h173 <| zT (bnot_f h174) <| zT h173 <| Au h15 <| zf1 <| zn1 <| zi (nl r171) <| z
 apply jb F; intro y181 h180 F
 refine js F (fun w182 hx F => ?_) fun w183 hx F => ?_
 subst hx
 apply jr F
 exact fpC Aa <| q236 <| q237 <| q238 <| q279 <| q280 <| q282 <| zo (BR K a5 r168.1.only_ r171 K [] 0 _ h180) <| z0
 subst hx
 apply jr F
 exact fpC Aa <| q236 <| q237 <| q238 <| q279 <| q280 <| q282 <| zo (BR K a5 r168.1.only_ r171 K [] 0 _ h180) <| z0
 apply jr F
 exact fpC Aa <| q236 <| q237 <| q238 <| q279 <| Au h173 <| Au h15 <| zf1 <| zX (tt (bnot false)) (bnot_f rfl) <| z0
 apply jc F <;> intro h184 F
 apply jb F; intro r185 h186 F
 have q283 {l} (z : HA Aa l) := zF (igt_eq h14) <| zT (bnot_f h15) <| zl (D8 _ h184 (Aj K a2.Prog _ h169)) <| zl (Ch K a1 a4 _ h186) <| zf1 <| z
 apply jc F <;> intro h187 F
 have q284 {l} (z : HA Aa l) := zC4 h187 <| z
 apply jc F <;> intro h188 F
 have q285 {l} (z : HA Aa l) := zB4 (bnot_t h188) <| zC1 h187 <| zF (bnot_t h188) <| zT h187 <| Au h15 <| zf1 <| z
 apply jc F <;> intro h189 F
 apply jb F; intro y191 h190 F
 refine js F (fun w192 hx F => ?_) fun w193 hx F => ?_
 subst hx
 apply jr F
 exact fpC Aa <| q236 <| q237 <| q238 <| q283 <| q284 <| q285 <| zF (bnot_t h189) <| zi (nl r185) <| zo (BQ K a5 r168.1.only_ r185 K [] 0 _ h190) <| z0
 subst hx
 apply jr F
 exact fpC Aa <| q236 <| q237 <| q238 <| q283 <| q284 <| q285 <| zF (bnot_t h189) <| zi (nl r185) <| zo (BQ K a5 r168.1.only_ r185 K [] 0 _ h190) <| z0
 apply jr F
 exact fpC Aa <| q236 <| q237 <| q238 <| q283 <| q284 <| q285 <| zT (bnot_f h189) <| z0
 have q286 {l} (z : HA Aa l) := zA4 (bnot_f h188) <| zC1 h187 <| zT (bnot_f h188) <| zT h187 <| Au h15 <| zf1 <| zn1 <| zi (nl r185) <| z
 apply jb F; intro y195 h194 F
 refine js F (fun w196 hx F => ?_) fun w197 hx F => ?_
 subst hx
 apply jr F
 exact fpC Aa <| q236 <| q237 <| q238 <| q283 <| q284 <| q286 <| zo (BQ K a5 r168.1.only_ r185 K [] 0 _ h194) <| z0
 subst hx
 apply jr F
 exact fpC Aa <| q236 <| q237 <| q238 <| q283 <| q284 <| q286 <| zo (BQ K a5 r168.1.only_ r185 K [] 0 _ h194) <| z0
 apply jr F
 exact fpC Aa <| q236 <| q237 <| q238 <| q283 <| Au h187 <| Au h15 <| zf1 <| zX (tt (bnot false)) (bnot_f rfl) <| z0
 apply jc F <;> intro h198 F
 apply jb F; intro r199 h200 F
 have q287 {l} (z : HA Aa l) := zF (igt_eq h14) <| zT (bnot_f h15) <| zl (Em _ h198 (Aj K a2.Prog _ h169)) <| zl (Ch K a1 a4 _ h200) <| zf1 <| z
 apply jc F <;> intro h201 F
 have q288 {l} (z : HA Aa l) := zC4 h201 <| z
 apply jc F <;> intro h202 F
 have q289 {l} (z : HA Aa l) := zB4 (bnot_t h202) <| zC1 h201 <| zF (bnot_t h202) <| zT h201 <| Au h15 <| zf1 <| z
 apply jc F <;> intro h203 F
 apply jb F; intro y205 h204 F
 refine js F (fun w206 hx F => ?_) fun w207 hx F => ?_
 subst hx
 apply jr F
 exact fpC Aa <| q236 <| q237 <| q238 <| q287 <| q288 <| q289 <| zF (bnot_t h203) <| zi (nl r199) <| zo (BI K a5 r168.1.only_ r199 K [] 0 _ h204) <| z0
 subst hx
 apply jr F
 exact fpC Aa <| q236 <| q237 <| q238 <| q287 <| q288 <| q289 <| zF (bnot_t h203) <| zi (nl r199) <| zo (BI K a5 r168.1.only_ r199 K [] 0 _ h204) <| z0
 apply jr F
 exact fpC Aa <| q236 <| q237 <| q238 <| q287 <| q288 <| q289 <| zT (bnot_f h203) <| z0
 have q290 {l} (z : HA Aa l) := zA4 (bnot_f h202) <| zC1 h201 <| zT (bnot_f h202) <| zT h201 <| Au h15 <| zf1 <| zn1 <| zi (nl r199) <| z
 apply jb F; intro y209 h208 F
 refine js F (fun w210 hx F => ?_) fun w211 hx F => ?_
 subst hx
 apply jr F
 exact fpC Aa <| q236 <| q237 <| q238 <| q287 <| q288 <| q290 <| zo (BI K a5 r168.1.only_ r199 K [] 0 _ h208) <| z0
 subst hx
 apply jr F
 exact fpC Aa <| q236 <| q237 <| q238 <| q287 <| q288 <| q290 <| zo (BI K a5 r168.1.only_ r199 K [] 0 _ h208) <| z0
 apply jr F
 exact fpC Aa <| q236 <| q237 <| q238 <| q287 <| Au h201 <| Au h15 <| zf1 <| zX (tt (bnot false)) (bnot_f rfl) <| z0
 apply jc F <;> intro h212 F
 apply jb F; intro r213 h214 F
 have q291 {l} (z : HA Aa l) := zF (igt_eq h14) <| zT (bnot_f h15) <| zl (Ec _ h212 (Aj K a2.Prog _ h169)) <| zl (Ch K a1 a4 _ h214) <| zf1 <| z
 apply jc F <;> intro h215 F
 have q292 {l} (z : HA Aa l) := zC4 h215 <| z
 apply jc F <;> intro h216 F
 have q293 {l} (z : HA Aa l) := zB4 (bnot_t h216) <| zC1 h215 <| zF (bnot_t h216) <| zT h215 <| Au h15 <| zf1 <| z
 apply jc F <;> intro h217 F
 apply jb F; intro y219 h218 F
 refine js F (fun w220 hx F => ?_) fun w221 hx F => ?_
 subst hx
 apply jr F
 exact fpC Aa <| q236 <| q237 <| q238 <| q291 <| q292 <| q293 <| zF (bnot_t h217) <| zi (nl r213) <| zo (BO K a5 r168.1.only_ r213 K [] 0 _ h218) <| z0
 subst hx
 apply jr F
 exact fpC Aa <| q236 <| q237 <| q238 <| q291 <| q292 <| q293 <| zF (bnot_t h217) <| zi (nl r213) <| zo (BO K a5 r168.1.only_ r213 K [] 0 _ h218) <| z0
 apply jr F
 exact fpC Aa <| q236 <| q237 <| q238 <| q291 <| q292 <| q293 <| zT (bnot_f h217) <| z0
 have q294 {l} (z : HA Aa l) := zA4 (bnot_f h216) <| zC1 h215 <| zT (bnot_f h216) <| zT h215 <| Au h15 <| zf1 <| zn1 <| zi (nl r213) <| z
 apply jb F; intro y223 h222 F
 refine js F (fun w224 hx F => ?_) fun w225 hx F => ?_
 subst hx
 apply jr F
 exact fpC Aa <| q236 <| q237 <| q238 <| q291 <| q292 <| q294 <| zo (BO K a5 r168.1.only_ r213 K [] 0 _ h222) <| z0
 subst hx
 apply jr F
 exact fpC Aa <| q236 <| q237 <| q238 <| q291 <| q292 <| q294 <| zo (BO K a5 r168.1.only_ r213 K [] 0 _ h222) <| z0
 apply jr F
 exact fpC Aa <| q236 <| q237 <| q238 <| q291 <| Au h215 <| Au h15 <| zf1 <| zX (tt (bnot false)) (bnot_f rfl) <| z0
 apply jc F <;> intro h226 F
 apply jb F; intro r227 h228 F
 apply jb F; intro r229 h230 F
 apply jr F
 exact fpC Aa <| q236 <| q237 <| q238 <| zF (igt_eq h14) <| zT (bnot_f h15) <| zl (Ey _ h226 (Aj K a2.Prog _ h169)) <| zl (Ch K a1 a4 _ h228) <| zr1 <| zl (Fx K r227 a3 a5 0 _ h230) <| z0
 apply jn F; intro h231 F
 apply jb F; intro r232 h233 F
 apply jb F; intro r234 h235 F
 apply jr F
 exact fpC Aa <| q236 <| q237 <| q238 <| zF (igt_eq h14) <| zT (bnot_f h15) <| zl (EB _ h231 (Aj K a2.Prog _ h169)) <| zl (Ch K a1 a4 _ h233) <| zr1 <| zl (Fx K r232 a3 a5 0 _ h235) <| z0
 apply jr F
 exact fpC Aa <| zl (B4 K a1 a2 _ h9) <| zT (ine_f h10) <| z0
def Ez : Hint := { H 94 with nt := 21, prot := 0, kp := 0 }
def KP (r1 : Int) : Res := ⟨[(.one (mI r1))], []⟩
def F94 (K : Nat) (a1 : GJob) (a2 : Int) : Option (Int) :=
 bif (ilt a2 0) then
  (some (-1))
 else
 bif (ilt a1.Parts 1) then
  (some (-1))
 else
 bif (ilt 6 a1.Parts) then
  (some (-1))
 else
 bif (izero a1.Parts) then none else
 some (wrem a2 a1.Parts)
theorem HU (K : Nat) (a1 : GJob) (a2 : Int) (r : Int) (F : F94 K a1 a2 = some r) : Evt E H 94 [.agg (eGJob a1), .one (i6 a2)] (KP r) := by
 rw [F94] at F
 apply jc F <;> intro h3 F
 apply jr F
 exact fpC Ez <| Ag h3 <| zt3 <| zr2 <| z0
 have q7 {l} (z : HA Ez l) := Af h3 <| z
 apply jc F <;> intro h4 F
 apply jr F
 exact fpC Ez <| q7 <| Ag h4 <| zr1 <| z0
 have q8 {l} (z : HA Ez l) := Af h4 <| z
 apply jc F <;> intro h5 F
 apply jr F
 exact fpC Ez <| q7 <| q8 <| zT (igt_eq h5) <| z0
 refine cond_some F (fun _ F => nomatch F) (fun h6 F => ?_)
 apply jr F
 exact fpC Ez <| q7 <| q8 <| zF (igt_eq h5) <| zF h6 <| zi (wrem a2 a1.Parts) <| z0
def Ay : Hint := { H 106 with nt := 41, prot := 0, kp := 0 }
def K1 (r1 : Int × Int) : Res := ⟨[(.one (mI r1.1)), (.one (mI r1.2))], []⟩
def Dd (K : Nat) (a1 : Int) (a2 : Int) (a3 : Int) : Option (Int × Int) :=
 (F57 K a1).bind fun r4 =>
 bif (areFns [r4.1.start_, r4.1.better_, r4.1.send_] [81, 82, 83]) then
  (bif r4.2 then
   ((F82 K a3 a2).bind fun r5 =>
   bif r5 then
    (some (a3, 0))
   else
   some (a2, 0))
  else
  some (0, 1))
 else
 bif (areFns [r4.1.start_, r4.1.better_, r4.1.send_] [81, 82, 85]) then
  (bif r4.2 then
   ((F82 K a3 a2).bind fun r6 =>
   bif r6 then
    (some (a3, 0))
   else
   some (a2, 0))
  else
  some (0, 1))
 else
 bif (areFns [r4.1.start_, r4.1.better_, r4.1.send_] [86, 82, 87]) then
  (bif r4.2 then
   ((F82 K a3 a2).bind fun r7 =>
   bif r7 then
    (some (a3, 0))
   else
   some (a2, 0))
  else
  some (0, 1))
 else
 bif (areFns [r4.1.start_, r4.1.better_, r4.1.send_] [88, 89, 87]) then
  (bif r4.2 then
   ((F89 K a3 a2).bind fun r8 =>
   bif r8 then
    (some (a3, 0))
   else
   some (a2, 0))
  else
  some (0, 1))
 else
 bif (areFns [r4.1.start_, r4.1.better_, r4.1.send_] [90, 0, 87]) then
  (bif r4.2 then
   ((F84 K a2 a3).bind fun r9 =>
   bif r9.2 then
    (some (r9.1, 0))
   else
   some (0, 8))
  else
  some (0, 1))
 else
 bif (areFns [r4.1.start_, r4.1.better_, r4.1.send_] [0, 0, 0]) then
 bif r4.2 then
  ((F84 K a2 a3).bind fun r10 =>
  bif r10.2 then
   (some (r10.1, 0))
  else
  some (0, 8))
 else
 some (0, 1)
 else none
theorem GJ (K : Nat) (a1 : Int) (a2 : Int) (a3 : Int) (r : Int × Int) (F : Dd K a1 a2 a3 = some r) : Evt E H 106 [.one (i6 a1), .one (i6 a2), .one (i6 a3)] (K1 r) := by
 rw [Dd] at F
 apply jb F; intro r4 h5 F
 apply jc F <;> intro h6 F
 apply jc F <;> intro h7 F
 apply jb F; intro r8 h9 F
 have q36 {l} (z : HA Ay l) := zl (Ef _ h6 (Aj K a1 _ h5)) <| zF (bnot_t h7) <| zf1 <| zl (B8 K a3 a2 _ h9) <| z
 apply jc F <;> intro h10 F
 apply jr F
 exact fpC Ay <| q36 <| zT h10 <| z0
 apply jr F
 exact fpC Ay <| q36 <| zF h10 <| z0
 apply jr F
 exact fpC Ay <| zl (Ef _ h6 (Aj K a1 _ h5)) <| zT (bnot_f h7) <| z0
 apply jc F <;> intro h11 F
 apply jc F <;> intro h12 F
 apply jb F; intro r13 h14 F
 have q37 {l} (z : HA Ay l) := zl (D8 _ h11 (Aj K a1 _ h5)) <| zF (bnot_t h12) <| zf1 <| zl (B8 K a3 a2 _ h14) <| z
 apply jc F <;> intro h15 F
 apply jr F
 exact fpC Ay <| q37 <| zT h15 <| z0
 apply jr F
 exact fpC Ay <| q37 <| zF h15 <| z0
 apply jr F
 exact fpC Ay <| zl (D8 _ h11 (Aj K a1 _ h5)) <| zT (bnot_f h12) <| z0
 apply jc F <;> intro h16 F
 apply jc F <;> intro h17 F
 apply jb F; intro r18 h19 F
 have q38 {l} (z : HA Ay l) := zl (Em _ h16 (Aj K a1 _ h5)) <| zF (bnot_t h17) <| zf1 <| zl (B8 K a3 a2 _ h19) <| z
 apply jc F <;> intro h20 F
 apply jr F
 exact fpC Ay <| q38 <| zT h20 <| z0
 apply jr F
 exact fpC Ay <| q38 <| zF h20 <| z0
 apply jr F
 exact fpC Ay <| zl (Em _ h16 (Aj K a1 _ h5)) <| zT (bnot_f h17) <| z0
 apply jc F <;> intro h21 F
 apply jc F <;> intro h22 F
 apply jb F; intro r23 h24 F
 have q39 {l} (z : HA Ay l) := zl (Ec _ h21 (Aj K a1 _ h5)) <| zF (bnot_t h22) <| zf1 <| zl (Fq K a3 a2 _ h24) <| z
 apply jc F <;> intro h25 F
 apply jr F
 exact fpC Ay <| q39 <| zT h25 <| z0
 apply jr F
 exact fpC Ay <| q39 <| zF h25 <| z0
 apply jr F
 exact fpC Ay <| zl (Ec _ h21 (Aj K a1 _ h5)) <| zT (bnot_f h22) <| z0
 apply jc F <;> intro h26 F
 apply jc F <;> intro h27 F
 apply jb F; intro r28 h29 F
 have q40 {l} (z : HA Ay l) := zl (Ey _ h26 (Aj K a1 _ h5)) <| zF (bnot_t h27) <| zr1 <| zl (EX K a2 a3 _ h29) <| z
 apply jc F <;> intro h30 F
 apply jr F
 exact fpC Ay <| q40 <| zF (bnot_t h30) <| z0
 apply jr F
 exact fpC Ay <| q40 <| zT (bnot_f h30) <| z0
 apply jr F
 exact fpC Ay <| zl (Ey _ h26 (Aj K a1 _ h5)) <| zT (bnot_f h27) <| z0
 apply jn F; intro h31 F
 apply jc F <;> intro h32 F
 apply jb F; intro r33 h34 F
 have q41 {l} (z : HA Ay l) := zl (EB _ h31 (Aj K a1 _ h5)) <| zF (bnot_t h32) <| zr1 <| zl (EX K a2 a3 _ h34) <| z
 apply jc F <;> intro h35 F
 apply jr F
 exact fpC Ay <| q41 <| zF (bnot_t h35) <| z0
 apply jr F
 exact fpC Ay <| q41 <| zT (bnot_f h35) <| z0
 apply jr F
 exact fpC Ay <| zl (EB _ h31 (Aj K a1 _ h5)) <| zT (bnot_f h32) <| z0
def FE : Hint := { H 113 with nt := 24, prot := 0, kp := 0 }
def M0 (r1 : Bool) : Res := ⟨[(.one (mB r1))], []⟩
def ET (K : Nat) (a1 : GMsg) (a2 : GMsg) : Option (Bool) :=
 bif (ilt a1.To a2.To) then
  (some true)
 else
 bif (ieq a1.To a2.To) then
  (some (ilt a1.V a2.V))
 else
 some false
theorem Of (K : Nat) (a1 : GMsg) (a2 : GMsg) (r : Bool) (F : ET K a1 a2 = some r) : Evt E H 113 [.agg (eGMsg a1), .agg (eGMsg a2)] (M0 r) := by
 rw [ET] at F
 apply jc F <;> intro h3 F
 apply jr F
 exact fpC FE <| zA6 h3 <| E4 h3 <| z0
 have q5 {l} (z : HA FE l) := zB6 h3 <| z
 apply jc F <;> intro h4 F
 apply jr F
 exact fpC FE <| q5 <| zC5 h4 <| zB1 h3 <| zT h4 <| zF h3 <| z0
 apply jr F
 exact fpC FE <| q5 <| zD5 h4 <| zB1 h3 <| zF h4 <| zF h3 <| z0
def E0 : Hint := { H 112 with nt := 68, prot := 0, kp := 0 }
def KO : Code := loopOf E 112 0
def LY (r1 : List GMsg) : Res := ⟨[(.one (.own 78 (sE eGMsg r1)))], []⟩
def DL (K : Nat)  : Nat → List GMsg → List GMsg → List GMsg → Option (List GMsg × List GMsg × List GMsg)
 | 0, _, _, _ => none
 | k + 1, v1, v2, v3 =>
  bif (ilt 0 (nlen (len v1))) then
   (bif (ilt 0 (nlen (len v2))) then
    (bif (inr 0 (len v2)) then
    (elAt v2 0).bind fun x4 =>
    bif (inr 0 (len v1)) then
    (elAt v1 0).bind fun x5 =>
    (ET K x4 x5).bind fun r6 =>
    bif r6 then
     (bif (apok (len v3) 1 16) then
     bif (bnd 1 (nlen (len v2)) (len v2)) then
     DL K  k v1 (subL v2 1 (nlen (len v2))) (appL v3 [x4])
     else none
     else none)
    else
    bif (apok (len v3) 1 16) then
    bif (bnd 1 (nlen (len v1)) (len v1)) then
    DL K  k (subL v1 1 (nlen (len v1))) v2 (appL v3 [x5])
    else none
    else none
    else none
    else none)
   else
   some (v1, (v2, v3)))
  else
  some (v1, (v2, v3))
def JT  (v1 : List GMsg) (v2 : List GMsg) (v3 : List GMsg) : TS := .on (kq 64 2 <| kq 384 2 <| kq 448 2 <| kq 512 2 <| []) <| sq 64 [u0, ⟨.im, 0, (.lit (fnV 113))⟩] <| sq 384 [u0, (uS eGMsg v1)] <| sq 448 [u0, (uS eGMsg v2)] <| sq 512 [u0, (uO 78 eGMsg v3)] []
def Ke  (w1 : List GMsg × List GMsg × List GMsg) : TS := .on (kq 384 2 <| kq 448 2 <| kq 512 2 <| []) <| sq 384 [u0, (uS eGMsg w1.1)] <| sq 448 [u0, (uS eGMsg w1.2.1)] <| sq 512 [u0, (uO 78 eGMsg w1.2.2)] []
theorem L0 (K : Nat)  : ∀ (k : Nat) (v1 : List GMsg) (v2 : List GMsg) (v3 : List GMsg) (r : List GMsg × List GMsg × List GMsg), DL K  k v1 v2 v3 = some r → LoopEv E H E0 0 KO (JT  v1 v2 v3) (.exit 0) (Ke  r) := by
 intro k
 induction k with
 | zero => intro v1 v2 v3 r F; cases F
 | succ k ih =>
  intro v1 v2 v3 r F
  rw [DL] at F
  apply jc F <;> intro h4 F
  have q19 {l} (z : HA E0 l) := zi (nl v1) <| zC2 (igt_eq h4) <| zi (nl v2) <| Dc (igt_eq h4) <| z
  apply jc F <;> intro h5 F
  apply jn F; intro h6 F
  apply jb F; intro x7 h8 F
  apply jn F; intro h9 F
  apply jb F; intro x10 h11 F
  apply jb F; intro r12 h13 F
  have q20 {l} (z : HA E0 l) := zT (igt_eq h5) <| zT h6 <| zS eGMsg_len h8 2 <| zT h9 <| zS eGMsg_len h11 2 <| zl (Of K x7 x10 _ h13) <| z
  apply jc F <;> intro h14 F
  apply jn F; intro h15 F
  apply jn F; intro h16 F
  exact lN1 (q19 <| q20 <| zT h14 <| zT h6 <| zS eGMsg_len h8 2 <| zX (tt (leqm [(i6 x7.To), (i6 x7.V)] 1 2)) rfl <| zT h15 <| zV (app_ok (enc := eGMsg) (v3 : List GMsg) [x7]) <| zT h16 <| zV (sub_ok eGMsg_len h16) <| z0) (ih _ _ _ _ F)
  apply jn F; intro h17 F
  apply jn F; intro h18 F
  exact lN1 (q19 <| q20 <| zF h14 <| zT h9 <| zS eGMsg_len h11 2 <| zX (tt (leqm [(i6 x10.To), (i6 x10.V)] 1 2)) rfl <| zT h17 <| zV (app_ok (enc := eGMsg) (v3 : List GMsg) [x10]) <| zT h18 <| zV (sub_ok eGMsg_len h18) <| z0) (ih _ _ _ _ F)
  apply jr F
  exact lE <| q19 <| zF (igt_eq h5) <| z0
  apply jr F
  exact lE <| zi (nl v1) <| CO (igt_eq h4) <| zf1 <| z0
def DS (K : Nat) : Nat → List GMsg → Option (List GMsg)
 | 0, _ => none
 | d + 1, a1 =>
 bif (ilt (nlen (len a1)) 2) then
  (bif (apok 0 (len a1) 16) then
  some (appL [] a1)
  else none)
 else
 bif (bnd 0 (wquo .i64 (nlen (len a1)) 2) (len a1)) then
 (DS K d (subL a1 0 (wquo .i64 (nlen (len a1)) 2))).bind fun r2 =>
 bif (bnd (wquo .i64 (nlen (len a1)) 2) (nlen (len a1)) (len a1)) then
 (DS K d (subL a1 (wquo .i64 (nlen (len a1)) 2) (nlen (len a1)))).bind fun r3 =>
 bif (mkok 0 (nlen (len a1)) 16) then
 (DL K  K r2 r3 (repL (α := GMsg) 0 (GMsg.mk 0 0))).bind fun w4 =>
 bif (apok (len w4.2.2) (len w4.1) 16) then
 bif (apok (len (α := GMsg) (appL w4.2.2 w4.1)) (len w4.2.1) 16) then
 some (appL (appL w4.2.2 w4.1) w4.2.1)
 else none
 else none
 else none
 else none
 else none
theorem Pe (K : Nat) : ∀ (d : Nat) (a1 : List GMsg) (r : List GMsg), DS K d a1 = some r → Evt E H 112 [.one (sE eGMsg a1), .one (.lit (fnV 113))] (LY r) := by
 intro d
 induction d with
 | zero => intro a1 r F; cases F
 | succ d ih =>
  intro a1 r F
  rw [DS] at F
  apply jc F <;> intro h2 F
  apply jn F; intro h3 F
  apply jr F
  exact fpC E0 <| zi (nl a1) <| zT h2 <| zX (tt (leqm (flat eGMsg a1) (len a1) 2)) (leqm_flat eGMsg_len _) <| zT h3 <| zV (app_ok (enc := eGMsg) ([] : List GMsg) a1) <| z0
  apply jn F; intro h4 F
  apply jb F; intro r5 h6 F
  apply jn F; intro h7 F
  apply jb F; intro r8 h9 F
  apply jn F; intro h10 F
  apply jb F; intro w12 h11 F
  apply jn F; intro h13 F
  apply jn F; intro h14 F
  apply jr F
  exact fpC E0 <| zi (nl a1) <| zF h2 <| zi (nl a1) <| zY (ff (izero 2)) <| zi (wquo .i64 (nl a1) 2) <| zT h4 <| zV (sub_ok eGMsg_len h4) <| zl (ih (subL a1 0 (wquo .i64 (nl a1) 2)) _ h6) <| zT h7 <| zV (sub_ok eGMsg_len h7) <| zl (ih (subL a1 (wquo .i64 (nl a1) 2) (nl a1)) _ h9) <| zi (nl a1) <| zT h10 <| zX (.sl (nint 0) (lrep 0 [(i6 0), (i6 0)]) (len (α := GMsg) (repL (α := GMsg) 0 (GMsg.mk 0 0))) (flat eGMsg (repL (α := GMsg) 0 (GMsg.mk 0 0)))) (rep_okC (enc := eGMsg) (n := 0) (x := (GMsg.mk 0 0)) rfl) <| zo (L0 K  K r5 r8 (repL (α := GMsg) 0 (GMsg.mk 0 0)) _ h11) <| zX (tt (leqm (flat eGMsg w12.1) (len w12.1) 2)) (leqm_flat eGMsg_len _) <| zT h13 <| zV (app_ok (enc := eGMsg) (w12.2.2 : List GMsg) w12.1) <| zX (tt (leqm (flat eGMsg w12.2.1) (len w12.2.1) 2)) (leqm_flat eGMsg_len _) <| zT h14 <| zV (app_ok (enc := eGMsg) ((appL w12.2.2 w12.1) : List GMsg) w12.2.1) <| z0
def MM : Hint := { H 107 with nt := 5, prot := 0, kp := 0 }
def La (r1 : List GMsg) : Res := ⟨[(.one (.own 78 (sE eGMsg r1)))], []⟩
def EE (K : Nat) (a1 : List GMsg) : Option (List GMsg) :=
 (DS K K a1).bind fun r2 =>
 some r2
theorem G9 (K : Nat) (a1 : List GMsg) (r : List GMsg) (F : EE K a1 = some r) : Evt E H 107 [.one (sE eGMsg a1)] (La r) := by
 rw [EE] at F
 apply jb F; intro r2 h3 F
 apply jr F
 exact fpC MM <| zl (Pe K K a1 _ h3) <| z0
def C3 : Hint := { H 95 with nt := 72, prot := 0, kp := 0 }
def Ip : Code := loopOf E 95 0
def Mc (r1 : List GMsg × Int) : Res := ⟨[(.one (.own 78 (sE eGMsg r1.1))), (.one (mI r1.2))], []⟩
def CQ (K : Nat) (a1 : Int) (r2 : List GMsg) : Nat → List GMsg → Int → Option ((Int) ⊕ (List GMsg))
 | 0, _, _ => none
 | k + 1, v3, v4 =>
  bif (ilt v4 (nlen (len r2))) then
   (bif (inr v4 (len r2)) then
   (elAt r2 v4).bind fun x5 =>
   bif (ilt 0 (nlen (len v3))) then
    (bif (inr (wsub .i64 (nlen (len v3)) 1) (len v3)) then
    (elAt v3 (wsub .i64 (nlen (len v3)) 1)).bind fun x6 =>
    bif (ieq x6.To x5.To) then
     ((Dd K a1 x6.V x5.V).bind fun r7 =>
     bif (ieq r7.2 0) then
      (CQ K a1 r2 k (putAt v3 (wsub .i64 (nlen (len v3)) 1) (GMsg.mk x6.To r7.1)) (wadd .i64 v4 1))
     else
     some (.inl r7.2))
    else
    bif (apok (len v3) 1 16) then
    CQ K a1 r2 k (appL v3 [x5]) (wadd .i64 v4 1)
    else none
    else none)
   else
   bif (apok (len v3) 1 16) then
   CQ K a1 r2 k (appL v3 [x5]) (wadd .i64 v4 1)
   else none
   else none)
  else
  some (.inr v3)
def Hr (a1 : Int) (r2 : List GMsg) (v3 : List GMsg) (v4 : Int) : TS := .on (kq 0 2 <| kq 512 2 <| kq 1472 2 <| kq 1536 2 <| kq 1600 2 <| []) <| sq 0 [u0, (uI a1)] <| sq 512 [u0, (uO 78 eGMsg v3)] <| sq 1472 [u0, (uO 78 eGMsg r2)] <| sq 1536 [u0, (uI (nlen (len r2)))] <| sq 1600 [u0, (uI v4)] []
def Pp (a1 : Int) (r2 : List GMsg) (w3 : Int) : TS := .on (kq 256 2 <| kq 320 2 <| []) <| sq 256 [u0, (uN 78)] <| sq 320 [u0, (uI w3)] []
def MZ (a1 : Int) (r2 : List GMsg) (w3 : List GMsg) : TS := .on (kq 512 2 <| []) <| sq 512 [u0, (uO 78 eGMsg w3)] []
theorem Ha (K : Nat) (a1 : Int) (r2 : List GMsg) : ∀ (k : Nat) (v3 : List GMsg) (v4 : Int) (r : (Int) ⊕ (List GMsg)), CQ K a1 r2 k v3 v4 = some r → (Sum.elim (fun w => LoopEv E H C3 0 Ip (Hr a1 r2 v3 v4) .ret (Pp a1 r2 w)) (fun w => LoopEv E H C3 0 Ip (Hr a1 r2 v3 v4) (.exit 0) (MZ a1 r2 w))) r := by
 intro k
 induction k with
 | zero => intro v3 v4 r F; cases F
 | succ k ih =>
  intro v3 v4 r F
  rw [CQ] at F
  apply jc F <;> intro h5 F
  apply jn F; intro h6 F
  apply jb F; intro x7 h8 F
  have q19 {l} (z : HA C3 l) := zT h5 <| zT h6 <| zS eGMsg_len h8 2 <| zi (nl v3) <| z
  apply jc F <;> intro h9 F
  apply jn F; intro h10 F
  apply jb F; intro x11 h12 F
  have q20 {l} (z : HA C3 l) := zC3 (igt_eq h9) <| zi (wsub .i64 (nl v3) 1) <| zC1 (igt_eq h9) <| zT h10 <| zC2 (igt_eq h9) <| zU eGMsg_len h12 0 1 <| DX (igt_eq h9) <| z
  apply jc F <;> intro h13 F
  apply jb F; intro r14 h15 F
  have q21 {l} (z : HA C3 l) := zT h13 <| zi (wsub .i64 (nl v3) 1) <| zT h10 <| zU eGMsg_len h12 1 1 <| zl (GJ K a1 x11.V x7.V _ h15) <| z
  apply jc F <;> intro h16 F
  exact lN2 (q19 <| q20 <| q21 <| zF (ine_t h16) <| zi (wsub .i64 (nl v3) 1) <| zT h10 <| zX (tt (lfits (nadd (nidx (wsub .i64 (nl v3) 1) 2) 1) 1 (flat eGMsg v3))) (lfits_flat eGMsg_len h12 1 _ (by decide)) <| zX (.sl (len v3) (lset (flat eGMsg v3) (nadd (nidx (wsub .i64 (nl v3) 1) 2) 1) [(i6 r14.1)]) (len (α := GMsg) (putAt v3 (wsub .i64 (nl v3) 1) (GMsg.mk x11.To r14.1))) (flat eGMsg (putAt v3 (wsub .i64 (nl v3) 1) (GMsg.mk x11.To r14.1)))) (set_ok eGMsg_len h12 1 _ (by simp) rfl) <| zi (wadd .i64 v4 1) <| z0) (ih _ _ _ F)
  apply jr F
  exact lE <| q19 <| q20 <| q21 <| zT (ine_f h16) <| z0
  apply jn F; intro h17 F
  exact lN2 (q19 <| q20 <| zF h13 <| zX (tt (leqm [(i6 x7.To), (i6 x7.V)] 1 2)) rfl <| zT h17 <| zV (app_ok (enc := eGMsg) (v3 : List GMsg) [x7]) <| zi (wadd .i64 v4 1) <| z0) (ih _ _ _ F)
  apply jn F; intro h18 F
  exact lN2 (q19 <| zD6 (igt_eq h9) <| CO (igt_eq h9) <| zf1 <| zX (tt (leqm [(i6 x7.To), (i6 x7.V)] 1 2)) rfl <| zT h18 <| zV (app_ok (enc := eGMsg) (v3 : List GMsg) [x7]) <| zi (wadd .i64 v4 1) <| z0) (ih _ _ _ F)
  apply jr F
  exact lE <| zF h5 <| z0
def F95 (K : Nat) (a1 : Int) (a2 : List GMsg) : Option (List GMsg × Int) :=
 (Dd K a1 0 0).bind fun r3 =>
 bif (ieq r3.2 0) then
  ((EE K a2).bind fun r4 =>
  (CQ K a1 r4 K [] 0).bind fun y5 =>
  Sum.elim (fun w6 =>
   some ([], w6))
   (fun w7 =>
   some (w7, 0)) y5)
 else
 some ([], r3.2)
theorem Dz (K : Nat) (a1 : Int) (a2 : List GMsg) (r : List GMsg × Int) (F : F95 K a1 a2 = some r) : Evt E H 95 [.one (i6 a1), .one (sE eGMsg a2)] (Mc r) := by
 rw [F95] at F
 apply jb F; intro r3 h4 F
 apply jc F <;> intro h5 F
 apply jb F; intro r6 h7 F
 have q12 {l} (z : HA C3 l) := zl (GJ K a1 0 0 _ h4) <| zF (ine_t h5) <| zl (G9 K a2 _ h7) <| zi (nl r6) <| z
 apply jb F; intro y9 h8 F
 refine js F (fun w10 hx F => ?_) fun w11 hx F => ?_
 subst hx
 apply jr F
 exact fpC C3 <| q12 <| zo (Ha K a1 r6 K [] 0 _ h8) <| z0
 subst hx
 apply jr F
 exact fpC C3 <| q12 <| zo (Ha K a1 r6 K [] 0 _ h8) <| z0
 apply jr F
 exact fpC C3 <| zl (GJ K a1 0 0 _ h4) <| zT (ine_f h5) <| z0
def Av : Hint := { H 58 with nt := 160, prot := 0, kp := 0 }
def Im : Code := loopOf E 58 0
def Oz : Code := loopOf E 58 1
def IG : Code := loopOf E 58 2
def Nz (r1 : GPart × List (List GMsg) × Int) : Res := ⟨[(.agg [(mI r1.1.P), (mI r1.1.Step), (.own 2 (sE e6 r1.1.Vals)), (.own 4 (sE eBool r1.1.Rest)), (.own 78 (sE eGMsg r1.1.In))]), (.one (.own 43 (sE (eSl eGMsg) r1.2.1))), (.one (mI r1.2.2))], []⟩
def BP (K : Nat) (v1 : Int) (v2 : List GEdge) (v3 : Int) (v4 : Int) (v5 : Int) (v6 : Int) (v7 : Int) (v8 : Int) (v9 : List Int) (v10 : List Bool) (v11 : List GMsg) (v12 : List Int) (v13 : List Bool) (v14 : Int) (v15 : Bool) (v16 : List GMsg) (v17 : Int) : Nat → List GMsg → List GMsg → List GMsg → List GMsg → List GMsg → List GMsg → Int → Option (List GMsg × List GMsg × List GMsg × List GMsg × List GMsg × List GMsg)
 | 0, _, _, _, _, _, _, _ => none
 | k + 1, v18, v19, v20, v21, v22, v23, v24 =>
  bif (ilt v24 (nlen (len v16))) then
   (bif (inr v24 (len v16)) then
   (elAt v16 v24).bind fun x25 =>
   (F94 K (GJob.mk v3 v4 v5 v6) x25.To).bind fun r26 =>
   bif (ieq r26 0) then
    (bif (apok (len v18) 1 16) then
    BP K v1 v2 v3 v4 v5 v6 v7 v8 v9 v10 v11 v12 v13 v14 v15 v16 v17 k (appL v18 [x25]) v19 v20 v21 v22 v23 (wadd .i64 v24 1)
    else none)
   else
   bif (ieq r26 1) then
    (bif (apok (len v19) 1 16) then
    BP K v1 v2 v3 v4 v5 v6 v7 v8 v9 v10 v11 v12 v13 v14 v15 v16 v17 k v18 (appL v19 [x25]) v20 v21 v22 v23 (wadd .i64 v24 1)
    else none)
   else
   bif (ieq r26 2) then
    (bif (apok (len v20) 1 16) then
    BP K v1 v2 v3 v4 v5 v6 v7 v8 v9 v10 v11 v12 v13 v14 v15 v16 v17 k v18 v19 (appL v20 [x25]) v21 v22 v23 (wadd .i64 v24 1)
    else none)
   else
   bif (ieq r26 3) then
    (bif (apok (len v21) 1 16) then
    BP K v1 v2 v3 v4 v5 v6 v7 v8 v9 v10 v11 v12 v13 v14 v15 v16 v17 k v18 v19 v20 (appL v21 [x25]) v22 v23 (wadd .i64 v24 1)
    else none)
   else
   bif (ieq r26 4) then
    (bif (apok (len v22) 1 16) then
    BP K v1 v2 v3 v4 v5 v6 v7 v8 v9 v10 v11 v12 v13 v14 v15 v16 v17 k v18 v19 v20 v21 (appL v22 [x25]) v23 (wadd .i64 v24 1)
    else none)
   else
   bif (ieq r26 5) then
   bif (apok (len v23) 1 16) then
   BP K v1 v2 v3 v4 v5 v6 v7 v8 v9 v10 v11 v12 v13 v14 v15 v16 v17 k v18 v19 v20 v21 v22 (appL v23 [x25]) (wadd .i64 v24 1)
   else none
   else none
   else none)
  else
  some (v18, (v19, (v20, (v21, (v22, v23)))))
def Kb (v1 : Int) (v2 : List GEdge) (v3 : Int) (v4 : Int) (v5 : Int) (v6 : Int) (v7 : Int) (v8 : Int) (v9 : List Int) (v10 : List Bool) (v11 : List GMsg) (v12 : List Int) (v13 : List Bool) (v14 : Int) (v15 : Bool) (v16 : List GMsg) (v17 : Int) (v18 : List GMsg) (v19 : List GMsg) (v20 : List GMsg) (v21 : List GMsg) (v22 : List GMsg) (v23 : List GMsg) (v24 : Int) : TS := .on (kq 192 3 <| kq 256 5 <| kq 320 6 <| kq 384 6 <| kq 640 6 <| kq 704 7 <| kq 832 2 <| kq 1088 2 <| kq 1216 2 <| kq 3328 1 <| kq 3392 2 <| kq 3456 2 <| kq 3520 2 <| kq 6592 2 <| kq 6656 2 <| kq 6720 2 <| []) <| sq 192 [(uX 24 2), (uI v1), (uS eGEdge v2)] <| sq 256 [(uX 26 4), (uI v3), (uI v4), (uI v5), (uI v6)] <| sq 320 [(uX 45 5), (uI v7), (uI v8), (uS e6 v9), (uS eBool v10), (uS eGMsg v11)] <| b4 384 <| sq 640 [(uX 45 5), (uI v7), (uI (wadd .i64 v8 1)), (uO 2 e6 v12), (uO 4 eBool v13), (uN 78)] <| sq 704 [(uX 172 6), (uO 78 eGMsg v18), (uO 78 eGMsg v19), (uO 78 eGMsg v20), (uO 78 eGMsg v21), (uO 78 eGMsg v22), (uO 78 eGMsg v23)] <| sq 832 [u0, (uI v14)] <| sq 1088 [u0, (uB v15)] <| sq 1216 [u0, (uO 78 eGMsg v16)] <| sq 3328 [⟨(.ad 5 0 2), 0, nob⟩] <| sq 3392 [u0, (uS e6 v9)] <| sq 3456 [u0, (uI (nlen (len v9)))] <| sq 3520 [u0, (uI v17)] <| sq 6592 [u0, ⟨(.vw 1217 0), 0, nob⟩] <| sq 6656 [u0, (uI (nlen (len v16)))] <| sq 6720 [u0, (uI v24)] []
def L6 (v1 : Int) (v2 : List GEdge) (v3 : Int) (v4 : Int) (v5 : Int) (v6 : Int) (v7 : Int) (v8 : Int) (v9 : List Int) (v10 : List Bool) (v11 : List GMsg) (v12 : List Int) (v13 : List Bool) (v14 : Int) (v15 : Bool) (v16 : List GMsg) (v17 : Int) (w18 : List GMsg × List GMsg × List GMsg × List GMsg × List GMsg × List GMsg) : TS := .on (kq 192 3 <| kq 256 5 <| kq 320 6 <| kq 384 6 <| kq 640 6 <| kq 704 7 <| kq 832 2 <| kq 1088 2 <| kq 3328 1 <| kq 3392 2 <| kq 3456 2 <| kq 3520 2 <| []) <| sq 192 [(uX 24 2), (uI v1), (uS eGEdge v2)] <| sq 256 [(uX 26 4), (uI v3), (uI v4), (uI v5), (uI v6)] <| sq 320 [(uX 45 5), (uI v7), (uI v8), (uS e6 v9), (uS eBool v10), (uS eGMsg v11)] <| b4 384 <| sq 640 [(uX 45 5), (uI v7), (uI (wadd .i64 v8 1)), (uO 2 e6 v12), (uO 4 eBool v13), (uN 78)] <| sq 704 [(uX 172 6), (uO 78 eGMsg w18.1), (uO 78 eGMsg w18.2.1), (uO 78 eGMsg w18.2.2.1), (uO 78 eGMsg w18.2.2.2.1), (uO 78 eGMsg w18.2.2.2.2.1), (uO 78 eGMsg w18.2.2.2.2.2)] <| sq 832 [u0, (uI v14)] <| sq 1088 [u0, (uB v15)] <| sq 3328 [⟨(.ad 5 0 2), 0, nob⟩] <| sq 3392 [u0, (uS e6 v9)] <| sq 3456 [u0, (uI (nlen (len v9)))] <| sq 3520 [u0, (uI v17)] []
theorem Jj (K : Nat) (v1 : Int) (v2 : List GEdge) (v3 : Int) (v4 : Int) (v5 : Int) (v6 : Int) (v7 : Int) (v8 : Int) (v9 : List Int) (v10 : List Bool) (v11 : List GMsg) (v12 : List Int) (v13 : List Bool) (v14 : Int) (v15 : Bool) (v16 : List GMsg) (v17 : Int) : ∀ (k : Nat) (v18 : List GMsg) (v19 : List GMsg) (v20 : List GMsg) (v21 : List GMsg) (v22 : List GMsg) (v23 : List GMsg) (v24 : Int) (r : List GMsg × List GMsg × List GMsg × List GMsg × List GMsg × List GMsg), BP K v1 v2 v3 v4 v5 v6 v7 v8 v9 v10 v11 v12 v13 v14 v15 v16 v17 k v18 v19 v20 v21 v22 v23 v24 = some r → LoopEv E H Av 2 Oz (Kb v1 v2 v3 v4 v5 v6 v7 v8 v9 v10 v11 v12 v13 v14 v15 v16 v17 v18 v19 v20 v21 v22 v23 v24) (.exit 2) (L6 v1 v2 v3 v4 v5 v6 v7 v8 v9 v10 v11 v12 v13 v14 v15 v16 v17 r) := by
 intro k
 induction k with
 | zero => intro v18 v19 v20 v21 v22 v23 v24 r F; cases F
 | succ k ih =>
  intro v18 v19 v20 v21 v22 v23 v24 r F
  rw [BP] at F
  apply jc F <;> intro h25 F
  apply jn F; intro h26 F
  apply jb F; intro x27 h28 F
  apply jb F; intro r29 h30 F
  have q43 {l} (z : HA Av l) := zT h25 <| zT h26 <| zS eGMsg_len h28 2 <| zl (HU K (GJob.mk v3 v4 v5 v6) x27.To _ h30) <| z
  apply jc F <;> intro h31 F
  apply jn F; intro h32 F
  exact lN1 (q43 <| zT h31 <| zX (tt (leqm [(i6 x27.To), (i6 x27.V)] 1 2)) rfl <| zT h32 <| zV (app_ok (enc := eGMsg) (v18 : List GMsg) [x27]) <| zT h31 <| zi (wadd .i64 v24 1) <| z0) (ih _ _ _ _ _ _ _ _ F)
  apply jc F <;> intro h33 F
  apply jn F; intro h34 F
  exact lN1 (q43 <| zF h31 <| zT h33 <| zX (tt (leqm [(i6 x27.To), (i6 x27.V)] 1 2)) rfl <| zT h34 <| zV (app_ok (enc := eGMsg) (v19 : List GMsg) [x27]) <| zF h31 <| zT h33 <| zi (wadd .i64 v24 1) <| z0) (ih _ _ _ _ _ _ _ _ F)
  apply jc F <;> intro h35 F
  apply jn F; intro h36 F
  exact lN1 (q43 <| zF h31 <| zF h33 <| zT h35 <| zX (tt (leqm [(i6 x27.To), (i6 x27.V)] 1 2)) rfl <| zT h36 <| zV (app_ok (enc := eGMsg) (v20 : List GMsg) [x27]) <| zF h31 <| zF h33 <| zT h35 <| zi (wadd .i64 v24 1) <| z0) (ih _ _ _ _ _ _ _ _ F)
  have q44 {l} (z : HA Av l) := zF h31 <| zF h33 <| zF h35 <| z
  apply jc F <;> intro h37 F
  apply jn F; intro h38 F
  exact lN1 (q43 <| q44 <| zT h37 <| zX (tt (leqm [(i6 x27.To), (i6 x27.V)] 1 2)) rfl <| zT h38 <| zV (app_ok (enc := eGMsg) (v21 : List GMsg) [x27]) <| zF h31 <| zF h33 <| zF h35 <| zT h37 <| zi (wadd .i64 v24 1) <| z0) (ih _ _ _ _ _ _ _ _ F)
  apply jc F <;> intro h39 F
  apply jn F; intro h40 F
  exact lN1 (q43 <| q44 <| zF h37 <| zT h39 <| zX (tt (leqm [(i6 x27.To), (i6 x27.V)] 1 2)) rfl <| zT h40 <| zV (app_ok (enc := eGMsg) (v22 : List GMsg) [x27]) <| zF h31 <| zF h33 <| zF h35 <| zF h37 <| zT h39 <| zi (wadd .i64 v24 1) <| z0) (ih _ _ _ _ _ _ _ _ F)
  apply jn F; intro h41 F
  apply jn F; intro h42 F
  exact lN1 (q43 <| q44 <| zF h37 <| zF h39 <| zT h41 <| zX (tt (leqm [(i6 x27.To), (i6 x27.V)] 1 2)) rfl <| zT h42 <| zV (app_ok (enc := eGMsg) (v23 : List GMsg) [x27]) <| zF h31 <| zF h33 <| zF h35 <| zF h37 <| zF h39 <| zT h41 <| zi (wadd .i64 v24 1) <| z0) (ih _ _ _ _ _ _ _ _ F)
  apply jr F
  exact lE <| zF h25 <| z0
def CP (K : Nat) (v1 : Int) (v2 : List GEdge) (v3 : Int) (v4 : Int) (v5 : Int) (v6 : Int) (v7 : Int) (v8 : Int) (v9 : List Int) (v10 : List Bool) (v11 : List GMsg) : Nat → List Int → List Bool → List GMsg → List GMsg → List GMsg → List GMsg → List GMsg → List GMsg → Int → Option ((Int) ⊕ (List Int × List Bool × List GMsg × List GMsg × List GMsg × List GMsg × List GMsg × List GMsg))
 | 0, _, _, _, _, _, _, _, _, _ => none
 | k + 1, v12, v13, v14, v15, v16, v17, v18, v19, v20 =>
  bif (ilt v20 (nlen (len v9))) then
   (bif (inr v20 (len v9)) then
   (elAt v9 v20).bind fun x21 =>
   (F92 K v11 (wadd .i64 v7 (wmul .i64 v20 v6))).bind fun r22 =>
   bif (inr v20 (len v10)) then
   (elAt v10 v20).bind fun x23 =>
   bif x23 then
    (bif r22.2 then
     ((F93 K (GGraph.mk v1 v2) (GJob.mk v3 v4 v5 v6) v8 (wadd .i64 v7 (wmul .i64 v20 v6)) x21 r22.1 r22.2).bind fun r24 =>
     bif (ieq r24.2.2.2 0) then
      ((BP K v1 v2 v3 v4 v5 v6 v7 v8 v9 v10 v11 v12 v13 r24.1 r24.2.2.1 r24.2.1 v20 K v14 v15 v16 v17 v18 v19 0).bind fun w25 =>
      bif (apok (len v12) 1 8) then
      bif (apok (len v13) 1 1) then
      CP K v1 v2 v3 v4 v5 v6 v7 v8 v9 v10 v11 k (appL v12 [r24.1]) (appL v13 [r24.2.2.1]) w25.1 w25.2.1 w25.2.2.1 w25.2.2.2.1 w25.2.2.2.2.1 w25.2.2.2.2.2 (wadd .i64 v20 1)
      else none
      else none)
     else
     some (.inl r24.2.2.2))
    else
    bif (apok (len v12) 1 8) then
    bif (apok (len v13) 1 1) then
    CP K v1 v2 v3 v4 v5 v6 v7 v8 v9 v10 v11 k (appL v12 [x21]) (appL v13 [true]) v14 v15 v16 v17 v18 v19 (wadd .i64 v20 1)
    else none
    else none)
   else
   (F93 K (GGraph.mk v1 v2) (GJob.mk v3 v4 v5 v6) v8 (wadd .i64 v7 (wmul .i64 v20 v6)) x21 r22.1 r22.2).bind fun r26 =>
   bif (ieq r26.2.2.2 0) then
    ((BP K v1 v2 v3 v4 v5 v6 v7 v8 v9 v10 v11 v12 v13 r26.1 r26.2.2.1 r26.2.1 v20 K v14 v15 v16 v17 v18 v19 0).bind fun w27 =>
    bif (apok (len v12) 1 8) then
    bif (apok (len v13) 1 1) then
    CP K v1 v2 v3 v4 v5 v6 v7 v8 v9 v10 v11 k (appL v12 [r26.1]) (appL v13 [r26.2.2.1]) w27.1 w27.2.1 w27.2.2.1 w27.2.2.2.1 w27.2.2.2.2.1 w27.2.2.2.2.2 (wadd .i64 v20 1)
    else none
    else none)
   else
   some (.inl r26.2.2.2)
   else none
   else none)
  else
  some (.inr (v12, (v13, (v14, (v15, (v16, (v17, (v18, v19))))))))
def G0 (v1 : Int) (v2 : List GEdge) (v3 : Int) (v4 : Int) (v5 : Int) (v6 : Int) (v7 : Int) (v8 : Int) (v9 : List Int) (v10 : List Bool) (v11 : List GMsg) (v12 : List Int) (v13 : List Bool) (v14 : List GMsg) (v15 : List GMsg) (v16 : List GMsg) (v17 : List GMsg) (v18 : List GMsg) (v19 : List GMsg) (v20 : Int) : TS := .on (kq 192 3 <| kq 256 5 <| kq 320 6 <| kq 384 6 <| kq 640 6 <| kq 704 7 <| kq 3328 1 <| kq 3392 2 <| kq 3456 2 <| kq 3520 2 <| []) <| sq 192 [(uX 24 2), (uI v1), (uS eGEdge v2)] <| sq 256 [(uX 26 4), (uI v3), (uI v4), (uI v5), (uI v6)] <| sq 320 [(uX 45 5), (uI v7), (uI v8), (uS e6 v9), (uS eBool v10), (uS eGMsg v11)] <| b4 384 <| sq 640 [(uX 45 5), (uI v7), (uI (wadd .i64 v8 1)), (uO 2 e6 v12), (uO 4 eBool v13), (uN 78)] <| sq 704 [(uX 172 6), (uO 78 eGMsg v14), (uO 78 eGMsg v15), (uO 78 eGMsg v16), (uO 78 eGMsg v17), (uO 78 eGMsg v18), (uO 78 eGMsg v19)] <| sq 3328 [⟨(.ad 5 0 2), 0, nob⟩] <| sq 3392 [u0, (uS e6 v9)] <| sq 3456 [u0, (uI (nlen (len v9)))] <| sq 3520 [u0, (uI v20)] []
def O9 (v1 : Int) (v2 : List GEdge) (v3 : Int) (v4 : Int) (v5 : Int) (v6 : Int) (v7 : Int) (v8 : Int) (v9 : List Int) (v10 : List Bool) (v11 : List GMsg) (w12 : Int) : TS := .on (kq 384 6 <| kq 448 2 <| kq 512 2 <| []) <| b4 384 <| sq 448 [u0, (uN 43)] <| sq 512 [u0, (uI w12)] []
def N3 (v1 : Int) (v2 : List GEdge) (v3 : Int) (v4 : Int) (v5 : Int) (v6 : Int) (v7 : Int) (v8 : Int) (v9 : List Int) (v10 : List Bool) (v11 : List GMsg) (w12 : List Int × List Bool × List GMsg × List GMsg × List GMsg × List GMsg × List GMsg × List GMsg) : TS := .on (kq 256 5 <| kq 384 6 <| kq 640 6 <| kq 704 7 <| []) <| sq 256 [(uX 26 4), (uI v3), (uI v4), (uI v5), (uI v6)] <| b4 384 <| sq 640 [(uX 45 5), (uI v7), (uI (wadd .i64 v8 1)), (uO 2 e6 w12.1), (uO 4 eBool w12.2.1), (uN 78)] <| sq 704 [(uX 172 6), (uO 78 eGMsg w12.2.2.1), (uO 78 eGMsg w12.2.2.2.1), (uO 78 eGMsg w12.2.2.2.2.1), (uO 78 eGMsg w12.2.2.2.2.2.1), (uO 78 eGMsg w12.2.2.2.2.2.2.1), (uO 78 eGMsg w12.2.2.2.2.2.2.2)] []
theorem Gv (K : Nat) (v1 : Int) (v2 : List GEdge) (v3 : Int) (v4 : Int) (v5 : Int) (v6 : Int) (v7 : Int) (v8 : Int) (v9 : List Int) (v10 : List Bool) (v11 : List GMsg) : ∀ (k : Nat) (v12 : List Int) (v13 : List Bool) (v14 : List GMsg) (v15 : List GMsg) (v16 : List GMsg) (v17 : List GMsg) (v18 : List GMsg) (v19 : List GMsg) (v20 : Int) (r : (Int) ⊕ (List Int × List Bool × List GMsg × List GMsg × List GMsg × List GMsg × List GMsg × List GMsg)), CP K v1 v2 v3 v4 v5 v6 v7 v8 v9 v10 v11 k v12 v13 v14 v15 v16 v17 v18 v19 v20 = some r → (Sum.elim (fun w => LoopEv E H Av 0 Im (G0 v1 v2 v3 v4 v5 v6 v7 v8 v9 v10 v11 v12 v13 v14 v15 v16 v17 v18 v19 v20) .ret (O9 v1 v2 v3 v4 v5 v6 v7 v8 v9 v10 v11 w)) (fun w => LoopEv E H Av 0 Im (G0 v1 v2 v3 v4 v5 v6 v7 v8 v9 v10 v11 v12 v13 v14 v15 v16 v17 v18 v19 v20) (.exit 0) (N3 v1 v2 v3 v4 v5 v6 v7 v8 v9 v10 v11 w))) r := by
 intro k
 induction k with
 | zero => intro v12 v13 v14 v15 v16 v17 v18 v19 v20 r F; cases F
 | succ k ih =>
  intro v12 v13 v14 v15 v16 v17 v18 v19 v20 r F
  rw [CP] at F
  apply jc F <;> intro h21 F
  apply jn F; intro h22 F
  apply jb F; intro x23 h24 F
  apply jb F; intro r25 h26 F
  apply jn F; intro h27 F
  apply jb F; intro x28 h29 F
  have q48 {l} (z : HA Av l) := zT h21 <| zT h22 <| zX (.sub (flat e6 v9) (nidx v20 1) 1 [(i6 x23)]) ⟨rfl, sub_flat0 (eInt_len _) h24 1 (by decide)⟩ <| zi (wmul .i64 v20 v6) <| zi (wadd .i64 v7 (wmul .i64 v20 v6)) <| zl (Ms K v11 (wadd .i64 v7 (wmul .i64 v20 v6)) _ h26) <| zT h27 <| zS eBool_len h29 1 <| z
  apply jc F <;> intro h30 F
  apply jc F <;> intro h31 F
  apply jb F; intro r32 h33 F
  have q49 {l} (z : HA Av l) := Cg (bnot_t h30) <| zT h31 <| zl (HJ K (GGraph.mk v1 v2) (GJob.mk v3 v4 v5 v6) v8 (wadd .i64 v7 (wmul .i64 v20 v6)) x23 r25.1 r25.2 _ h33) <| z
  apply jc F <;> intro h34 F
  apply jb F; intro w36 h35 F
  apply jn F; intro h37 F
  apply jn F; intro h38 F
  exact lN2 (q48 <| q49 <| zF (ine_t h34) <| zi (nl r32.2.1) <| zo (Jj K v1 v2 v3 v4 v5 v6 v7 v8 v9 v10 v11 v12 v13 r32.1 r32.2.2.1 r32.2.1 v20 K v14 v15 v16 v17 v18 v19 0 _ h35) <| zX (tt (leqm [(i6 r32.1)] 1 1)) rfl <| zT h37 <| zV (app_ok (enc := e6) (v12 : List Int) [r32.1]) <| zX (tt (leqm [(.lit (.bool r32.2.2.1))] 1 1)) rfl <| zT h38 <| zV (app_ok (enc := eBool) (v13 : List Bool) [r32.2.2.1]) <| zi (wadd .i64 v20 1) <| z0) (ih _ _ _ _ _ _ _ _ _ _ F)
  apply jr F
  exact lE <| q48 <| q49 <| zT (ine_f h34) <| z0
  apply jn F; intro h39 F
  apply jn F; intro h40 F
  exact lN2 (q48 <| Cg (bnot_t h30) <| zF h31 <| zX (tt (leqm [(i6 x23)] 1 1)) rfl <| zT h39 <| zV (app_ok (enc := e6) (v12 : List Int) [x23]) <| zX (tt (leqm [(.lit (.bool true))] 1 1)) rfl <| zT h40 <| zV (app_ok (enc := eBool) (v13 : List Bool) [true]) <| zi (wadd .i64 v20 1) <| z0) (ih _ _ _ _ _ _ _ _ _ _ F)
  apply jb F; intro r41 h42 F
  have q50 {l} (z : HA Av l) := E4 (bnot_f h30) <| zr1 <| zl (HJ K (GGraph.mk v1 v2) (GJob.mk v3 v4 v5 v6) v8 (wadd .i64 v7 (wmul .i64 v20 v6)) x23 r25.1 r25.2 _ h42) <| z
  apply jc F <;> intro h43 F
  apply jb F; intro w45 h44 F
  apply jn F; intro h46 F
  apply jn F; intro h47 F
  exact lN2 (q48 <| q50 <| zF (ine_t h43) <| zi (nl r41.2.1) <| zo (Jj K v1 v2 v3 v4 v5 v6 v7 v8 v9 v10 v11 v12 v13 r41.1 r41.2.2.1 r41.2.1 v20 K v14 v15 v16 v17 v18 v19 0 _ h44) <| zX (tt (leqm [(i6 r41.1)] 1 1)) rfl <| zT h46 <| zV (app_ok (enc := e6) (v12 : List Int) [r41.1]) <| zX (tt (leqm [(.lit (.bool r41.2.2.1))] 1 1)) rfl <| zT h47 <| zV (app_ok (enc := eBool) (v13 : List Bool) [r41.2.2.1]) <| zi (wadd .i64 v20 1) <| z0) (ih _ _ _ _ _ _ _ _ _ _ F)
  apply jr F
  exact lE <| q48 <| q50 <| zT (ine_f h43) <| z0
  apply jr F
  exact lE <| zF h21 <| z0
def Cf (K : Nat) (v1 : Int) (v2 : Int) (v3 : Int) (v4 : Int) (v5 : Int) (v6 : Int) (v7 : List Int) (v8 : List Bool) (v9 : List GMsg) (v10 : List GMsg) (v11 : List GMsg) (v12 : List GMsg) (v13 : List GMsg) (v14 : List GMsg) : Nat → List (List GMsg) → Int → Option ((Int) ⊕ (List (List GMsg)))
 | 0, _, _ => none
 | k + 1, v15, v16 =>
  bif (ilt v16 v4) then
   (bif (ieq v16 0) then
    ((F95 K v1 v9).bind fun r17 =>
    bif (ieq r17.2 0) then
     (bif (apok (len v15) 1 24) then
     Cf K v1 v2 v3 v4 v5 v6 v7 v8 v9 v10 v11 v12 v13 v14 k (appL v15 [r17.1]) (wadd .i64 v16 1)
     else none)
    else
    some (.inl r17.2))
   else
   bif (ieq v16 1) then
    ((F95 K v1 v10).bind fun r18 =>
    bif (ieq r18.2 0) then
     (bif (apok (len v15) 1 24) then
     Cf K v1 v2 v3 v4 v5 v6 v7 v8 v9 v10 v11 v12 v13 v14 k (appL v15 [r18.1]) (wadd .i64 v16 1)
     else none)
    else
    some (.inl r18.2))
   else
   bif (ieq v16 2) then
    ((F95 K v1 v11).bind fun r19 =>
    bif (ieq r19.2 0) then
     (bif (apok (len v15) 1 24) then
     Cf K v1 v2 v3 v4 v5 v6 v7 v8 v9 v10 v11 v12 v13 v14 k (appL v15 [r19.1]) (wadd .i64 v16 1)
     else none)
    else
    some (.inl r19.2))
   else
   bif (ieq v16 3) then
    ((F95 K v1 v12).bind fun r20 =>
    bif (ieq r20.2 0) then
     (bif (apok (len v15) 1 24) then
     Cf K v1 v2 v3 v4 v5 v6 v7 v8 v9 v10 v11 v12 v13 v14 k (appL v15 [r20.1]) (wadd .i64 v16 1)
     else none)
    else
    some (.inl r20.2))
   else
   bif (ieq v16 4) then
    ((F95 K v1 v13).bind fun r21 =>
    bif (ieq r21.2 0) then
     (bif (apok (len v15) 1 24) then
     Cf K v1 v2 v3 v4 v5 v6 v7 v8 v9 v10 v11 v12 v13 v14 k (appL v15 [r21.1]) (wadd .i64 v16 1)
     else none)
    else
    some (.inl r21.2))
   else
   bif (ieq v16 5) then
   (F95 K v1 v14).bind fun r22 =>
   bif (ieq r22.2 0) then
    (bif (apok (len v15) 1 24) then
    Cf K v1 v2 v3 v4 v5 v6 v7 v8 v9 v10 v11 v12 v13 v14 k (appL v15 [r22.1]) (wadd .i64 v16 1)
    else none)
   else
   some (.inl r22.2)
   else none)
  else
  some (.inr v15)
def Ih (v1 : Int) (v2 : Int) (v3 : Int) (v4 : Int) (v5 : Int) (v6 : Int) (v7 : List Int) (v8 : List Bool) (v9 : List GMsg) (v10 : List GMsg) (v11 : List GMsg) (v12 : List GMsg) (v13 : List GMsg) (v14 : List GMsg) (v15 : List (List GMsg)) (v16 : Int) : TS := .on (kq 256 5 <| kq 384 6 <| kq 640 6 <| kq 704 7 <| kq 1600 2 <| kq 8704 2 <| kq 8768 2 <| []) <| sq 256 [(uX 26 4), (uI v1), (uI v2), (uI v3), (uI v4)] <| b4 384 <| sq 640 [(uX 45 5), (uI v5), (uI v6), (uO 2 e6 v7), (uO 4 eBool v8), (uN 78)] <| sq 704 [(uX 172 6), (uO 78 eGMsg v9), (uO 78 eGMsg v10), (uO 78 eGMsg v11), (uO 78 eGMsg v12), (uO 78 eGMsg v13), (uO 78 eGMsg v14)] <| sq 1600 [u0, (uO 43 (eSl eGMsg) v15)] <| sq 8704 [u0, (uI v4)] <| sq 8768 [u0, (uI v16)] []
def Mw (v1 : Int) (v2 : Int) (v3 : Int) (v4 : Int) (v5 : Int) (v6 : Int) (v7 : List Int) (v8 : List Bool) (v9 : List GMsg) (v10 : List GMsg) (v11 : List GMsg) (v12 : List GMsg) (v13 : List GMsg) (v14 : List GMsg) (w15 : Int) : TS := .on (kq 384 6 <| kq 448 2 <| kq 512 2 <| []) <| b4 384 <| sq 448 [u0, (uN 43)] <| sq 512 [u0, (uI w15)] []
def JK (v1 : Int) (v2 : Int) (v3 : Int) (v4 : Int) (v5 : Int) (v6 : Int) (v7 : List Int) (v8 : List Bool) (v9 : List GMsg) (v10 : List GMsg) (v11 : List GMsg) (v12 : List GMsg) (v13 : List GMsg) (v14 : List GMsg) (w15 : List (List GMsg)) : TS := .on (kq 384 6 <| kq 640 6 <| kq 1600 2 <| []) <| b4 384 <| sq 640 [(uX 45 5), (uI v5), (uI v6), (uO 2 e6 v7), (uO 4 eBool v8), (uN 78)] <| sq 1600 [u0, (uO 43 (eSl eGMsg) w15)] []
theorem Hs (K : Nat) (v1 : Int) (v2 : Int) (v3 : Int) (v4 : Int) (v5 : Int) (v6 : Int) (v7 : List Int) (v8 : List Bool) (v9 : List GMsg) (v10 : List GMsg) (v11 : List GMsg) (v12 : List GMsg) (v13 : List GMsg) (v14 : List GMsg) : ∀ (k : Nat) (v15 : List (List GMsg)) (v16 : Int) (r : (Int) ⊕ (List (List GMsg))), Cf K v1 v2 v3 v4 v5 v6 v7 v8 v9 v10 v11 v12 v13 v14 k v15 v16 = some r → (Sum.elim (fun w => LoopEv E H Av 4 IG (Ih v1 v2 v3 v4 v5 v6 v7 v8 v9 v10 v11 v12 v13 v14 v15 v16) .ret (Mw v1 v2 v3 v4 v5 v6 v7 v8 v9 v10 v11 v12 v13 v14 w)) (fun w => LoopEv E H Av 4 IG (Ih v1 v2 v3 v4 v5 v6 v7 v8 v9 v10 v11 v12 v13 v14 v15 v16) (.exit 4) (JK v1 v2 v3 v4 v5 v6 v7 v8 v9 v10 v11 v12 v13 v14 w))) r := by
 intro k
 induction k with
 | zero => intro v15 v16 r F; cases F
 | succ k ih =>
  intro v15 v16 r F
  rw [Cf] at F
  apply jc F <;> intro h17 F
  apply jc F <;> intro h18 F
  apply jb F; intro r19 h20 F
  have q48 {l} (z : HA Av l) := zT h17 <| zT h18 <| zl (Dz K v1 v9 _ h20) <| z
  apply jc F <;> intro h21 F
  apply jn F; intro h22 F
  exact lN2 (q48 <| zF (ine_t h21) <| zX (tt (leqm [(sE eGMsg r19.1)] 1 1)) rfl <| zT h22 <| zV (app_ok (enc := (eSl eGMsg)) (v15 : List (List GMsg)) [r19.1]) <| zi (wadd .i64 v16 1) <| z0) (ih _ _ _ F)
  apply jr F
  exact lE <| q48 <| zT (ine_f h21) <| z0
  apply jc F <;> intro h23 F
  apply jb F; intro r24 h25 F
  have q49 {l} (z : HA Av l) := zT h17 <| zF h18 <| zT h23 <| zl (Dz K v1 v10 _ h25) <| z
  apply jc F <;> intro h26 F
  apply jn F; intro h27 F
  exact lN2 (q49 <| zF (ine_t h26) <| zX (tt (leqm [(sE eGMsg r24.1)] 1 1)) rfl <| zT h27 <| zV (app_ok (enc := (eSl eGMsg)) (v15 : List (List GMsg)) [r24.1]) <| zi (wadd .i64 v16 1) <| z0) (ih _ _ _ F)
  apply jr F
  exact lE <| q49 <| zT (ine_f h26) <| z0
  have q50 {l} (z : HA Av l) := zT h17 <| zF h18 <| zF h23 <| z
  apply jc F <;> intro h28 F
  apply jb F; intro r29 h30 F
  have q51 {l} (z : HA Av l) := zT h28 <| zl (Dz K v1 v11 _ h30) <| z
  apply jc F <;> intro h31 F
  apply jn F; intro h32 F
  exact lN2 (q50 <| q51 <| zF (ine_t h31) <| zX (tt (leqm [(sE eGMsg r29.1)] 1 1)) rfl <| zT h32 <| zV (app_ok (enc := (eSl eGMsg)) (v15 : List (List GMsg)) [r29.1]) <| zi (wadd .i64 v16 1) <| z0) (ih _ _ _ F)
  apply jr F
  exact lE <| q50 <| q51 <| zT (ine_f h31) <| z0
  apply jc F <;> intro h33 F
  apply jb F; intro r34 h35 F
  have q52 {l} (z : HA Av l) := zF h28 <| zT h33 <| zl (Dz K v1 v12 _ h35) <| z
  apply jc F <;> intro h36 F
  apply jn F; intro h37 F
  exact lN2 (q50 <| q52 <| zF (ine_t h36) <| zX (tt (leqm [(sE eGMsg r34.1)] 1 1)) rfl <| zT h37 <| zV (app_ok (enc := (eSl eGMsg)) (v15 : List (List GMsg)) [r34.1]) <| zi (wadd .i64 v16 1) <| z0) (ih _ _ _ F)
  apply jr F
  exact lE <| q50 <| q52 <| zT (ine_f h36) <| z0
  apply jc F <;> intro h38 F
  apply jb F; intro r39 h40 F
  have q53 {l} (z : HA Av l) := zF h28 <| zF h33 <| zT h38 <| zl (Dz K v1 v13 _ h40) <| z
  apply jc F <;> intro h41 F
  apply jn F; intro h42 F
  exact lN2 (q50 <| q53 <| zF (ine_t h41) <| zX (tt (leqm [(sE eGMsg r39.1)] 1 1)) rfl <| zT h42 <| zV (app_ok (enc := (eSl eGMsg)) (v15 : List (List GMsg)) [r39.1]) <| zi (wadd .i64 v16 1) <| z0) (ih _ _ _ F)
  apply jr F
  exact lE <| q50 <| q53 <| zT (ine_f h41) <| z0
  apply jn F; intro h43 F
  apply jb F; intro r44 h45 F
  have q54 {l} (z : HA Av l) := zF h28 <| zF h33 <| zF h38 <| zT h43 <| zl (Dz K v1 v14 _ h45) <| z
  apply jc F <;> intro h46 F
  apply jn F; intro h47 F
  exact lN2 (q50 <| q54 <| zF (ine_t h46) <| zX (tt (leqm [(sE eGMsg r44.1)] 1 1)) rfl <| zT h47 <| zV (app_ok (enc := (eSl eGMsg)) (v15 : List (List GMsg)) [r44.1]) <| zi (wadd .i64 v16 1) <| z0) (ih _ _ _ F)
  apply jr F
  exact lE <| q50 <| q54 <| zT (ine_f h46) <| z0
  apply jr F
  exact lE <| zF h17 <| z0
def F58 (K : Nat) (a1 : GGraph) (a2 : GJob) (a3 : GPart) : Option (GPart × List (List GMsg) × Int) :=
 (F31 K a1 a2).bind fun r4 =>
 bif (ieq r4 0) then
  ((F91 K a1 a2 a3).bind fun r5 =>
  bif r5 then
   (bif (ieq a3.Step 40) then
    (some ((GPart.mk 0 0 [] [] []), ([], 6)))
   else
   (CP K a1.N a1.Edges a2.Prog a2.Source a2.Limit a2.Parts a3.P a3.Step a3.Vals a3.Rest a3.In K [] [] [] [] [] [] [] [] 0).bind fun y6 =>
   Sum.elim (fun w7 =>
    some ((GPart.mk 0 0 [] [] []), ([], w7)))
    (fun w8 =>
    (Cf K a2.Prog a2.Source a2.Limit a2.Parts a3.P (wadd .i64 a3.Step 1) w8.1 w8.2.1 w8.2.2.1 w8.2.2.2.1 w8.2.2.2.2.1 w8.2.2.2.2.2.1 w8.2.2.2.2.2.2.1 w8.2.2.2.2.2.2.2 K [] 0).bind fun y9 =>
    Sum.elim (fun w10 =>
     some ((GPart.mk 0 0 [] [] []), ([], w10)))
     (fun w11 =>
     some ((GPart.mk a3.P (wadd .i64 a3.Step 1) w8.1 w8.2.1 []), (w11, 0))) y9) y6)
  else
  some ((GPart.mk 0 0 [] [] []), ([], 1)))
 else
 some ((GPart.mk 0 0 [] [] []), ([], r4))
theorem Kp (K : Nat) (a1 : GGraph) (a2 : GJob) (a3 : GPart) (r : GPart × List (List GMsg) × Int) (F : F58 K a1 a2 a3 = some r) : Evt E H 58 [.agg (eGGraph a1), .agg (eGJob a2), .agg (eGPart a3)] (Nz r) := by
 rw [F58] at F
 apply jb F; intro r4 h5 F
 apply jc F <;> intro h6 F
 apply jb F; intro r7 h8 F
 have q19 {l} (z : HA Av l) := zl (B4 K a1 a2 _ h5) <| zF (ine_t h6) <| zl (Gl K a1 a2 a3 _ h8) <| z
 apply jc F <;> intro h9 F
 apply jc F <;> intro h10 F
 apply jr F
 exact fpC Av <| q19 <| zF (bnot_t h9) <| zT h10 <| z0
 have q20 {l} (z : HA Av l) := zF (bnot_t h9) <| zF h10 <| zi (wadd .i64 a3.Step 1) <| zi (nl a3.Vals) <| z
 apply jb F; intro y12 h11 F
 refine js F (fun w13 hx F => ?_) fun w14 hx F => ?_
 subst hx
 apply jr F
 exact fpC Av <| q19 <| q20 <| zo (Gv K a1.N a1.Edges a2.Prog a2.Source a2.Limit a2.Parts a3.P a3.Step a3.Vals a3.Rest a3.In K [] [] [] [] [] [] [] [] 0 _ h11) <| z0
 subst hx
 apply jb F; intro y16 h15 F
 refine js F (fun w17 hx F => ?_) fun w18 hx F => ?_
 subst hx
 apply jr F
 exact fpC Av <| q19 <| q20 <| zo (Gv K a1.N a1.Edges a2.Prog a2.Source a2.Limit a2.Parts a3.P a3.Step a3.Vals a3.Rest a3.In K [] [] [] [] [] [] [] [] 0 _ h11) <| zo (Hs K a2.Prog a2.Source a2.Limit a2.Parts a3.P (wadd .i64 a3.Step 1) w14.1 w14.2.1 w14.2.2.1 w14.2.2.2.1 w14.2.2.2.2.1 w14.2.2.2.2.2.1 w14.2.2.2.2.2.2.1 w14.2.2.2.2.2.2.2 K [] 0 _ h15) <| z0
 subst hx
 apply jr F
 exact fpC Av <| q19 <| q20 <| zo (Gv K a1.N a1.Edges a2.Prog a2.Source a2.Limit a2.Parts a3.P a3.Step a3.Vals a3.Rest a3.In K [] [] [] [] [] [] [] [] 0 _ h11) <| zo (Hs K a2.Prog a2.Source a2.Limit a2.Parts a3.P (wadd .i64 a3.Step 1) w14.1 w14.2.1 w14.2.2.1 w14.2.2.2.1 w14.2.2.2.2.1 w14.2.2.2.2.2.1 w14.2.2.2.2.2.2.1 w14.2.2.2.2.2.2.2 K [] 0 _ h15) <| z0
 apply jr F
 exact fpC Av <| q19 <| zT (bnot_f h9) <| z0
 apply jr F
 exact fpC Av <| zl (B4 K a1 a2 _ h5) <| zT (ine_f h6) <| z0
def K6 : Hint := { H 59 with nt := 17, prot := 1, kp := 1792 }
def Nb (r1 : GWorker) : Res := ⟨[], [(wl0 r1)]⟩
def EA (K : Nat) (a1 : GWorker) (a2 : Int) : Option (GWorker) :=
 (CU K a1 (GMail.mk 5 a1.T.Epoch 0 a1.Goal a2 0 0 8 [] [] [] (GPart.mk 0 0 [] [] []) [])).bind fun r3 =>
 some r3
theorem JD (K : Nat) (a1 : GWorker) (a2 : Int) (r : GWorker) (F : EA K a1 a2 = some r) : Evt E H 59 [.box 38 (wl0 a1), .one (i6 a2)] (Nb r) := by
 rw [EA] at F
 apply jb F; intro r3 h4 F
 apply jr F
 exact fpC K6 <| zc (E9 K a1 (GMail.mk 5 a1.T.Epoch 0 a1.Goal a2 0 0 8 [] [] [] (GPart.mk 0 0 [] [] []) []) _ h4) <| z0
def C0 : Hint := { H 33 with nt := 136, prot := 1, kp := 256 }
def Lm : Code := loopOf E 33 0
def NW (r1 : List GDid × GWorker) : Res := ⟨[(.one (.own 66 (sE eGDid r1.1)))], [(wl0 r1.2)]⟩
def C9 (K : Nat) (a1 : GGraph) (a2 : GJob) (x3 : GHeld) (r4 : GPart × List (List GMsg) × Int) : Nat → Int → Int → Int → Int → List Int → List Int → List Int → List GHeld → List GData → List GComing → List GPost → Int → Option (Int × Int × Int × Int × List Int × List Int × List Int × List GHeld × List GData × List GComing × List GPost)
 | 0, _, _, _, _, _, _, _, _, _, _, _, _ => none
 | k + 1, v5, v6, v7, v8, v9, v10, v11, v12, v13, v14, v15, v16 =>
  bif (ilt v16 (nlen (len r4.2.1))) then
   (bif (inr v16 (len r4.2.1)) then
   (elAt r4.2.1 v16).bind fun x17 =>
   (F60 K (GTable.mk v8 v9 v10 v11) v16).bind fun r18 =>
   bif (ieq r18.1 v5) then
    ((DN K (GWorker.mk v5 v6 v7 (GTable.mk v8 v9 v10 v11) v12 v13 v14 v15) a1 a2 (GMail.mk 4 v8 0 v6 v16 x3.X.P 0 0 [] [] [] (GPart.mk 0 0 [] [] []) x17)).bind fun r19 =>
    C9 K a1 a2 x3 r4 k r19.Id r19.Goal r19.Until r19.T.Epoch r19.T.Owners r19.T.Ids r19.T.Incs r19.Held r19.Buf r19.Coming r19.Out (wadd .i64 v16 1))
   else
   bif (apok (len v15) 1 264) then
   C9 K a1 a2 x3 r4 k v5 v6 v7 v8 v9 v10 v11 v12 v13 v14 (appL v15 [(GPost.mk r18.1 r18.2.1 (GMail.mk 4 v8 0 v6 v16 x3.X.P 0 0 [] [] [] (GPart.mk 0 0 [] [] []) x17))]) (wadd .i64 v16 1)
   else none
   else none)
  else
  some (v5, (v6, (v7, (v8, (v9, (v10, (v11, (v12, (v13, (v14, v15))))))))))
def Lv (a1 : GGraph) (a2 : GJob) (x3 : GHeld) (r4 : GPart × List (List GMsg) × Int) (v5 : Int) (v6 : Int) (v7 : Int) (v8 : Int) (v9 : List Int) (v10 : List Int) (v11 : List Int) (v12 : List GHeld) (v13 : List GData) (v14 : List GComing) (v15 : List GPost) (v16 : Int) : TS := .on (kq 0 12 <| kq 320 3 <| kq 384 5 <| kq 576 2 <| kq 704 2 <| kq 4416 2 <| kq 4480 2 <| kq 4544 2 <| []) <| sq 0 [(uX 38 11), (uI v5), (uI v6), (uI v7), (uI v8), (uS e6 v9), (uS e6 v10), (uS e6 v11), (uO 69 eGHeld v12), (uO 112 eGData v13), (uO 113 eGComing v14), (uO 86 eGPost v15)] <| b1 320 a1 <| b2 384 a2 <| sq 576 [u0, (uI x3.X.P)] <| sq 704 [u0, (uO 43 (eSl eGMsg) r4.2.1)] <| sq 4416 [u0, ⟨(.vw 705 0), 0, nob⟩] <| sq 4480 [u0, (uI (nlen (len r4.2.1)))] <| sq 4544 [u0, (uI v16)] []
def J7 (a1 : GGraph) (a2 : GJob) (x3 : GHeld) (r4 : GPart × List (List GMsg) × Int) (w5 : Int × Int × Int × Int × List Int × List Int × List Int × List GHeld × List GData × List GComing × List GPost) : TS := .on (kq 0 12 <| kq 576 2 <| []) <| sq 0 [(uX 38 11), (uI w5.1), (uI w5.2.1), (uI w5.2.2.1), (uI w5.2.2.2.1), (uS e6 w5.2.2.2.2.1), (uS e6 w5.2.2.2.2.2.1), (uS e6 w5.2.2.2.2.2.2.1), (uO 69 eGHeld w5.2.2.2.2.2.2.2.1), (uO 112 eGData w5.2.2.2.2.2.2.2.2.1), (uO 113 eGComing w5.2.2.2.2.2.2.2.2.2.1), (uO 86 eGPost w5.2.2.2.2.2.2.2.2.2.2)] <| sq 576 [u0, (uI x3.X.P)] []
theorem NA (K : Nat) (a1 : GGraph) (a2 : GJob) (x3 : GHeld) (r4 : GPart × List (List GMsg) × Int) : ∀ (k : Nat) (v5 : Int) (v6 : Int) (v7 : Int) (v8 : Int) (v9 : List Int) (v10 : List Int) (v11 : List Int) (v12 : List GHeld) (v13 : List GData) (v14 : List GComing) (v15 : List GPost) (v16 : Int) (r : Int × Int × Int × Int × List Int × List Int × List Int × List GHeld × List GData × List GComing × List GPost), C9 K a1 a2 x3 r4 k v5 v6 v7 v8 v9 v10 v11 v12 v13 v14 v15 v16 = some r → LoopEv E H C0 0 Lm (Lv a1 a2 x3 r4 v5 v6 v7 v8 v9 v10 v11 v12 v13 v14 v15 v16) (.exit 0) (J7 a1 a2 x3 r4 r) := by
 intro k
 induction k with
 | zero => intro v5 v6 v7 v8 v9 v10 v11 v12 v13 v14 v15 v16 r F; cases F
 | succ k ih =>
  intro v5 v6 v7 v8 v9 v10 v11 v12 v13 v14 v15 v16 r F
  rw [C9] at F
  apply jc F <;> intro h17 F
  apply jn F; intro h18 F
  apply jb F; intro x19 h20 F
  apply jb F; intro r21 h22 F
  have q27 {l} (z : HA C0 l) := zT h17 <| zT h18 <| zX (.sub (flat (eSl eGMsg) r4.2.1) (nidx v16 1) 1 [(sE eGMsg x19)]) ⟨rfl, sub_flat0 (eSl_len _) h20 1 (by decide)⟩ <| zl (GI K (GTable.mk v8 v9 v10 v11) v16 _ h22) <| z
  apply jc F <;> intro h23 F
  apply jb F; intro r24 h25 F
  exact lN1 (q27 <| zT h23 <| zc (GZ K (GWorker.mk v5 v6 v7 (GTable.mk v8 v9 v10 v11) v12 v13 v14 v15) a1 a2 (GMail.mk 4 v8 0 v6 v16 x3.X.P 0 0 [] [] [] (GPart.mk 0 0 [] [] []) x19) _ h25) <| zi (wadd .i64 v16 1) <| z0) (ih _ _ _ _ _ _ _ _ _ _ _ _ _ F)
  apply jn F; intro h26 F
  exact lN1 (q27 <| zF h23 <| zX (tt (leqm [(i6 r21.1), (i6 r21.2.1), (i6 4), (i6 v8), (i6 0), (i6 v6), (i6 v16), (i6 x3.X.P), (i6 0), (i6 0), (.sl 0 []), (.sl 0 []), (.sl 0 []), (i6 0), (i6 0), (.sl 0 []), (.sl 0 []), (.sl 0 []), (sE eGMsg x19)] 1 19)) rfl <| zT h26 <| zV (app_ok (enc := eGPost) (v15 : List GPost) [(GPost.mk r21.1 r21.2.1 (GMail.mk 4 v8 0 v6 v16 x3.X.P 0 0 [] [] [] (GPart.mk 0 0 [] [] []) x19))]) <| zi (wadd .i64 v16 1) <| z0) (ih _ _ _ _ _ _ _ _ _ _ _ _ _ F)
  apply jr F
  exact lE <| zF h17 <| z0
def DM (K : Nat) (a1 : GWorker) (a2 : GGraph) (a3 : GJob) (a4 : Int) : Option (List GDid × GWorker) :=
 bif (inr a4 (len a1.Held)) then
 (elAt a1.Held a4).bind fun x5 =>
 (F58 K a2 a3 x5.X).bind fun r6 =>
 bif (ieq r6.2.2 6) then
  (some ([], a1))
 else
 bif (ieq r6.2.2 1) then
  (some ([], a1))
 else
 bif (ieq r6.2.2 0) then
  (bif (inr a4 (len (α := GHeld) (putAt a1.Held a4 (GHeld.mk x5.X true x5.Given)))) then
  (elAt (putAt a1.Held a4 (GHeld.mk x5.X true x5.Given)) a4).bind fun x7 =>
  (C9 K a2 a3 x5 r6 K a1.Id a1.Goal a1.Until a1.T.Epoch a1.T.Owners a1.T.Ids a1.T.Incs (putAt (putAt a1.Held a4 (GHeld.mk x5.X true x5.Given)) a4 (GHeld.mk r6.1 x7.Wait x7.Given)) a1.Buf a1.Coming a1.Out 0).bind fun w8 =>
  some ([(GDid.mk w8.2.2.2.1 w8.2.1 x5.X.P)], (GWorker.mk w8.1 w8.2.1 w8.2.2.1 (GTable.mk w8.2.2.2.1 w8.2.2.2.2.1 w8.2.2.2.2.2.1 w8.2.2.2.2.2.2.1) w8.2.2.2.2.2.2.2.1 w8.2.2.2.2.2.2.2.2.1 w8.2.2.2.2.2.2.2.2.2.1 w8.2.2.2.2.2.2.2.2.2.2))
  else none)
 else
 (EA K (GWorker.mk a1.Id a1.Goal a1.Until a1.T (putAt a1.Held a4 (GHeld.mk x5.X true x5.Given)) a1.Buf a1.Coming a1.Out) x5.X.P).bind fun r9 =>
 some ([], r9)
 else none
theorem JP (K : Nat) (a1 : GWorker) (a2 : GGraph) (a3 : GJob) (a4 : Int) (r : List GDid × GWorker) (F : DM K a1 a2 a3 a4 = some r) : Evt E H 33 [.box 38 (wl0 a1), .agg (eGGraph a2), .agg (eGJob a3), .one (i6 a4)] (NW r) := by
 rw [DM] at F
 apply jn F; intro h5 F
 apply jb F; intro x6 h7 F
 apply jb F; intro r8 h9 F
 have q20 {l} (z : HA C0 l) := zT h5 <| zU eGHeld_len h7 0 1 <| zT h5 <| zU eGHeld_len h7 0 5 <| zc (Kp K a2 a3 x6.X _ h9) <| z
 apply jc F <;> intro h10 F
 apply jr F
 exact fpC C0 <| q20 <| B5 h10 <| zr1 <| z0
 have q21 {l} (z : HA C0 l) := Cv h10 <| z
 apply jc F <;> intro h11 F
 apply jr F
 exact fpC C0 <| q20 <| q21 <| zT h11 <| z0
 have q22 {l} (z : HA C0 l) := zF h11 <| zT h5 <| zX (tt (lfits (nadd (nidx a4 7) 5) 1 (flat eGHeld a1.Held))) (lfits_flat eGHeld_len h7 5 _ (by decide)) <| zX (.sl (len a1.Held) (lset (flat eGHeld a1.Held) (nadd (nidx a4 7) 5) [(.lit (.bool true))]) (len (α := GHeld) (putAt a1.Held a4 (GHeld.mk x6.X true x6.Given))) (flat eGHeld (putAt a1.Held a4 (GHeld.mk x6.X true x6.Given)))) (set_ok eGHeld_len h7 5 _ (by simp) rfl) <| z
 apply jc F <;> intro h12 F
 apply jn F; intro h13 F
 apply jb F; intro x14 h15 F
 apply jb F; intro w17 h16 F
 apply jr F
 exact fpC C0 <| q20 <| q21 <| q22 <| zF (ine_t h12) <| zT h13 <| zX (tt (lfits (nadd (nidx a4 7) 0) 5 (flat eGHeld (putAt a1.Held a4 (GHeld.mk x6.X true x6.Given))))) (lfits_flat eGHeld_len h15 0 _ (by decide)) <| zX (.sl (len (α := GHeld) (putAt a1.Held a4 (GHeld.mk x6.X true x6.Given))) (lset (flat eGHeld (putAt a1.Held a4 (GHeld.mk x6.X true x6.Given))) (nadd (nidx a4 7) 0) [(i6 r8.1.P), (i6 r8.1.Step), (sE e6 r8.1.Vals), (sE eBool r8.1.Rest), (sE eGMsg r8.1.In)]) (len (α := GHeld) (putAt (putAt a1.Held a4 (GHeld.mk x6.X true x6.Given)) a4 (GHeld.mk r8.1 x14.Wait x14.Given))) (flat eGHeld (putAt (putAt a1.Held a4 (GHeld.mk x6.X true x6.Given)) a4 (GHeld.mk r8.1 x14.Wait x14.Given)))) (set_ok eGHeld_len h15 0 _ (by simp) rfl) <| zi (nl r8.2.1) <| zo (NA K a2 a3 x6 r8 K a1.Id a1.Goal a1.Until a1.T.Epoch a1.T.Owners a1.T.Ids a1.T.Incs (putAt (putAt a1.Held a4 (GHeld.mk x6.X true x6.Given)) a4 (GHeld.mk r8.1 x14.Wait x14.Given)) a1.Buf a1.Coming a1.Out 0 _ h16) <| z0
 apply jb F; intro r18 h19 F
 apply jr F
 exact fpC C0 <| q20 <| q21 <| q22 <| zT (ine_f h12) <| zc (JD K (GWorker.mk a1.Id a1.Goal a1.Until a1.T (putAt a1.Held a4 (GHeld.mk x6.X true x6.Given)) a1.Buf a1.Coming a1.Out) x6.X.P _ h19) <| z0
def IV : Hint := { H 98 with nt := 18, prot := 0, kp := 0 }
def N2 : Code := loopOf E 98 0
def K2 (r1 : List GMsg) : Res := ⟨[(.one (.own 78 (sE eGMsg r1)))], []⟩
def Eh (K : Nat) (a1 : List (List GMsg)) : Nat → List GMsg → Int → Option (List GMsg)
 | 0, _, _ => none
 | k + 1, v2, v3 =>
  bif (ilt v3 (nlen (len a1))) then
   (bif (inr v3 (len a1)) then
   (elAt a1 v3).bind fun x4 =>
   bif (apok (len v2) (len x4) 16) then
   Eh K a1 k (appL v2 x4) (wadd .i64 v3 1)
   else none
   else none)
  else
  some v2
def NZ (a1 : List (List GMsg)) (v2 : List GMsg) (v3 : Int) : TS := .on (kq 0 2 <| kq 192 2 <| kq 384 2 <| kq 448 2 <| kq 512 2 <| []) <| sq 0 [u0, (uS (eSl eGMsg) a1)] <| sq 192 [u0, (uO 78 eGMsg v2)] <| sq 384 [u0, (uS (eSl eGMsg) a1)] <| sq 448 [u0, (uI (nlen (len a1)))] <| sq 512 [u0, (uI v3)] []
def Lh (a1 : List (List GMsg)) (w2 : List GMsg) : TS := .on (kq 192 2 <| []) <| sq 192 [u0, (uO 78 eGMsg w2)] []
theorem Ou (K : Nat) (a1 : List (List GMsg)) : ∀ (k : Nat) (v2 : List GMsg) (v3 : Int) (r : List GMsg), Eh K a1 k v2 v3 = some r → LoopEv E H IV 0 N2 (NZ a1 v2 v3) (.exit 0) (Lh a1 r) := by
 intro k
 induction k with
 | zero => intro v2 v3 r F; cases F
 | succ k ih =>
  intro v2 v3 r F
  rw [Eh] at F
  apply jc F <;> intro h4 F
  apply jn F; intro h5 F
  apply jb F; intro x6 h7 F
  apply jn F; intro h8 F
  exact lN1 (zT h4 <| zT h5 <| zX (.sub (flat (eSl eGMsg) a1) (nidx v3 1) 1 [(sE eGMsg x6)]) ⟨rfl, sub_flat0 (eSl_len _) h7 1 (by decide)⟩ <| zX (tt (leqm (flat eGMsg x6) (len x6) 2)) (leqm_flat eGMsg_len _) <| zT h8 <| zV (app_ok (enc := eGMsg) (v2 : List GMsg) x6) <| zi (wadd .i64 v3 1) <| z0) (ih _ _ _ F)
  apply jr F
  exact lE <| zF h4 <| z0
def F98 (K : Nat) (a1 : List (List GMsg)) : Option (List GMsg) :=
 (Eh K a1 K [] 0).bind fun w2 =>
 (EE K w2).bind fun r3 =>
 some r3
theorem Ls (K : Nat) (a1 : List (List GMsg)) (r : List GMsg) (F : F98 K a1 = some r) : Evt E H 98 [.one (sE (eSl eGMsg) a1)] (K2 r) := by
 rw [F98] at F
 apply jb F; intro w3 h2 F
 apply jb F; intro r4 h5 F
 apply jr F
 exact fpC IV <| zi (nl a1) <| zo (Ou K a1 K [] 0 _ h2) <| zl (G9 K w3 _ h5) <| z0
def Me : Hint := { H 99 with nt := 14, prot := 0, kp := 0 }
def Lg (r1 : GPart) : Res := ⟨[(.agg [(mI r1.P), (mI r1.Step), (.own 2 (sE e6 r1.Vals)), (.own 4 (sE eBool r1.Rest)), (mS eGMsg r1.In)])], []⟩
def F99 (K : Nat) (a1 : GPart) : Option (GPart) :=
 bif (apok 0 (len a1.Vals) 8) then
 bif (apok 0 (len a1.Rest) 1) then
 some (GPart.mk a1.P a1.Step (appL [] a1.Vals) (appL [] a1.Rest) a1.In)
 else none
 else none
theorem JI (K : Nat) (a1 : GPart) (r : GPart) (F : F99 K a1 = some r) : Evt E H 99 [.agg (eGPart a1)] (Lg r) := by
 rw [F99] at F
 apply jn F; intro h2 F
 apply jn F; intro h3 F
 apply jr F
 exact fpC Me <| zX (tt (leqm (flat e6 a1.Vals) (len a1.Vals) 1)) (leqm_flat (eInt_len _) _) <| zT h2 <| zV (app_ok (enc := e6) ([] : List Int) a1.Vals) <| zX (tt (leqm (flat eBool a1.Rest) (len a1.Rest) 1)) (leqm_flat eBool_len _) <| zT h3 <| zV (app_ok (enc := eBool) ([] : List Bool) a1.Rest) <| z0
def BJ : Hint := { H 62 with nt := 76, prot := 0, kp := 0 }
def HI : Code := loopOf E 62 0
def OG (r1 : GPart × Int) : Res := ⟨[(.agg [(mI r1.1.P), (mI r1.1.Step), (.own 2 (sE e6 r1.1.Vals)), (.own 4 (sE eBool r1.1.Rest)), (.own 78 (sE eGMsg r1.1.In))]), (.one (mI r1.2))], []⟩
def Eo (K : Nat) (a1 : GGraph) (a2 : GJob) (a3 : GPart) (r4 : List GMsg) : Nat → Int → Option ((Unit) ⊕ (Unit))
 | 0, _ => none
 | k + 1, v5 =>
  bif (ilt v5 (nlen (len r4))) then
   (bif (inr v5 (len r4)) then
   (elAt r4 v5).bind fun x6 =>
   bif (ile a1.N x6.To) then
    (some (.inl ()))
   else
   (F94 K a2 x6.To).bind fun r7 =>
   bif (ieq r7 a3.P) then
    (Eo K a1 a2 a3 r4 k (wadd .i64 v5 1))
   else
   some (.inl ())
   else none)
  else
  some (.inr ())
def Jp (a1 : GGraph) (a2 : GJob) (a3 : GPart) (r4 : List GMsg) (v5 : Int) : TS := .on (kq 256 3 <| kq 320 5 <| kq 384 6 <| kq 512 6 <| kq 704 2 <| kq 2432 2 <| kq 2496 2 <| kq 2560 2 <| []) <| b1 256 a1 <| b2 320 a2 <| b7 384 a3 <| b4 512 <| sq 704 [u0, (uO 78 eGMsg r4)] <| sq 2432 [u0, ⟨(.vw 705 0), 0, nob⟩] <| sq 2496 [u0, (uI (nlen (len r4)))] <| sq 2560 [u0, (uI v5)] []
def NE (a1 : GGraph) (a2 : GJob) (a3 : GPart) (r4 : List GMsg) (w5 : Unit) : TS := .on (kq 512 6 <| kq 576 2 <| []) <| b4 512 <| sq 576 [u0, (uI 1)] []
def Li (a1 : GGraph) (a2 : GJob) (a3 : GPart) (r4 : List GMsg) (w5 : Unit) : TS := .on (kq 320 5 <| kq 384 6 <| kq 512 6 <| kq 704 2 <| []) <| b2 320 a2 <| b7 384 a3 <| b4 512 <| sq 704 [u0, (uO 78 eGMsg r4)] []
theorem Jh (K : Nat) (a1 : GGraph) (a2 : GJob) (a3 : GPart) (r4 : List GMsg) : ∀ (k : Nat) (v5 : Int) (r : (Unit) ⊕ (Unit)), Eo K a1 a2 a3 r4 k v5 = some r → (Sum.elim (fun w => LoopEv E H BJ 0 HI (Jp a1 a2 a3 r4 v5) .ret (NE a1 a2 a3 r4 w)) (fun w => LoopEv E H BJ 0 HI (Jp a1 a2 a3 r4 v5) (.exit 0) (Li a1 a2 a3 r4 w))) r := by
 intro k
 induction k with
 | zero => intro v5 r F; cases F
 | succ k ih =>
  intro v5 r F
  rw [Eo] at F
  apply jc F <;> intro h6 F
  apply jn F; intro h7 F
  apply jb F; intro x8 h9 F
  have q14 {l} (z : HA BJ l) := zT h6 <| zT h7 <| zS eGMsg_len h9 2 <| z
  apply jc F <;> intro h10 F
  apply jr F
  exact lE <| q14 <| zA6 (ige_eq h10) <| E4 (ige_eq h10) <| zr1 <| z0
  apply jb F; intro r11 h12 F
  have q15 {l} (z : HA BJ l) := zB4 (ige_eq h10) <| zl (HU K a2 x8.To _ h12) <| Af (ige_eq h10) <| z
  apply jc F <;> intro h13 F
  exact lN2 (q14 <| q15 <| zF (ine_t h13) <| zi (wadd .i64 v5 1) <| z0) (ih _ _ F)
  apply jr F
  exact lE <| q14 <| q15 <| zT (ine_f h13) <| z0
  apply jr F
  exact lE <| zF h6 <| z0
def F62 (K : Nat) (a1 : GGraph) (a2 : GJob) (a3 : GPart) (a4 : List (List GMsg)) : Option (GPart × Int) :=
 (F31 K a1 a2).bind fun r5 =>
 bif (ieq r5 0) then
  ((F91 K a1 a2 a3).bind fun r6 =>
  bif r6 then
   (bif (ilt 0 (nlen (len a3.In))) then
    (some ((GPart.mk 0 0 [] [] []), 1))
   else
   (F98 K a4).bind fun r7 =>
   (Eo K a1 a2 a3 r7 K 0).bind fun y8 =>
   Sum.elim (fun w9 =>
    some ((GPart.mk 0 0 [] [] []), 1))
    (fun w10 =>
    (F95 K a2.Prog r7).bind fun r11 =>
    bif (ieq r11.2 0) then
     ((F99 K a3).bind fun r12 =>
     some ((GPart.mk r12.P r12.Step r12.Vals r12.Rest r11.1), 0))
    else
    some ((GPart.mk 0 0 [] [] []), r11.2)) y8)
  else
  some ((GPart.mk 0 0 [] [] []), 1))
 else
 some ((GPart.mk 0 0 [] [] []), r5)
theorem Mo (K : Nat) (a1 : GGraph) (a2 : GJob) (a3 : GPart) (a4 : List (List GMsg)) (r : GPart × Int) (F : F62 K a1 a2 a3 a4 = some r) : Evt E H 62 [.agg (eGGraph a1), .agg (eGJob a2), .agg (eGPart a3), .one (sE (eSl eGMsg) a4)] (OG r) := by
 rw [F62] at F
 apply jb F; intro r5 h6 F
 apply jc F <;> intro h7 F
 apply jb F; intro r8 h9 F
 have q23 {l} (z : HA BJ l) := zl (B4 K a1 a2 _ h6) <| zF (ine_t h7) <| zl (Gl K a1 a2 a3 _ h9) <| z
 apply jc F <;> intro h10 F
 have q24 {l} (z : HA BJ l) := zB3 (bnot_t h10) <| zi (nl a3.In) <| Cg (bnot_t h10) <| z
 apply jc F <;> intro h11 F
 apply jr F
 exact fpC BJ <| q23 <| q24 <| zT (igt_eq h11) <| z0
 apply jb F; intro r12 h13 F
 have q25 {l} (z : HA BJ l) := zF (igt_eq h11) <| zl (Ls K a4 _ h13) <| zi (nl r12) <| z
 apply jb F; intro y15 h14 F
 refine js F (fun w16 hx F => ?_) fun w17 hx F => ?_
 subst hx
 apply jr F
 exact fpC BJ <| q23 <| q24 <| q25 <| zo (Jh K a1 a2 a3 r12 K 0 _ h14) <| z0
 subst hx
 apply jb F; intro r18 h19 F
 have q26 {l} (z : HA BJ l) := zo (Jh K a1 a2 a3 r12 K 0 _ h14) <| zl (Dz K a2.Prog r12 _ h19) <| z
 apply jc F <;> intro h20 F
 apply jb F; intro r21 h22 F
 apply jr F
 exact fpC BJ <| q23 <| q24 <| q25 <| q26 <| zF (ine_t h20) <| zc (JI K a3 _ h22) <| z0
 apply jr F
 exact fpC BJ <| q23 <| q24 <| q25 <| q26 <| zT (ine_f h20) <| z0
 apply jr F
 exact fpC BJ <| q23 <| DF (bnot_f h10) <| zr1 <| z0
 apply jr F
 exact fpC BJ <| zl (B4 K a1 a2 _ h6) <| zT (ine_f h7) <| z0
def Co : Hint := { H 34 with nt := 153, prot := 1, kp := 256 }
def Ik : Code := loopOf E 34 0
def KU : Code := loopOf E 34 1
def M8 (r1 : GWorker) : Res := ⟨[], [(wl0 r1)]⟩
def Ek (K : Nat) (v1 : Int) (v2 : Int) (v3 : List GEdge) (v4 : Int) (v5 : Int) (v6 : Int) (v7 : Int) (v8 : Int) : Nat → Int → Int → Int → Int → List Int → List Int → List Int → List GHeld → List GData → List GComing → List GPost → List (List GMsg) → Int → Option (((Int × Int × Int × Int × List Int × List Int × List Int × List GHeld × List GData × List GComing × List GPost × List (List GMsg))) ⊕ (Int × Int × Int × Int × List Int × List Int × List Int × List GHeld × List GData × List GComing × List GPost × List (List GMsg)))
 | 0, _, _, _, _, _, _, _, _, _, _, _, _, _ => none
 | k + 1, v9, v10, v11, v12, v13, v14, v15, v16, v17, v18, v19, v20, v21 =>
  bif (ilt v21 v7) then
   ((Di K (GWorker.mk v9 v10 v11 (GTable.mk v12 v13 v14 v15) v16 v17 v18 v19) v12 v10 v21 v8).bind fun r22 =>
   bif (ilt r22.1 0) then
    (some (.inl (r22.2.Id, (r22.2.Goal, (r22.2.Until, (r22.2.T.Epoch, (r22.2.T.Owners, (r22.2.T.Ids, (r22.2.T.Incs, (r22.2.Held, (r22.2.Buf, (r22.2.Coming, (r22.2.Out, v20)))))))))))))
   else
   bif (inr r22.1 (len r22.2.Buf)) then
   (elAt r22.2.Buf r22.1).bind fun x23 =>
   bif (apok (len v20) 1 24) then
   Ek K v1 v2 v3 v4 v5 v6 v7 v8 k r22.2.Id r22.2.Goal r22.2.Until r22.2.T.Epoch r22.2.T.Owners r22.2.T.Ids r22.2.T.Incs r22.2.Held r22.2.Buf r22.2.Coming r22.2.Out (appL v20 [x23.Msgs]) (wadd .i64 v21 1)
   else none
   else none)
  else
  some (.inr (v9, (v10, (v11, (v12, (v13, (v14, (v15, (v16, (v17, (v18, (v19, v20))))))))))))
def IR (v1 : Int) (v2 : Int) (v3 : List GEdge) (v4 : Int) (v5 : Int) (v6 : Int) (v7 : Int) (v8 : Int) (v9 : Int) (v10 : Int) (v11 : Int) (v12 : Int) (v13 : List Int) (v14 : List Int) (v15 : List Int) (v16 : List GHeld) (v17 : List GData) (v18 : List GComing) (v19 : List GPost) (v20 : List (List GMsg)) (v21 : Int) : TS := .on (kq 0 12 <| kq 192 2 <| kq 320 3 <| kq 384 5 <| kq 512 2 <| kq 576 2 <| kq 1728 2 <| kq 1792 2 <| []) <| sq 0 [(uX 38 11), (uI v9), (uI v10), (uI v11), (uI v12), (uS e6 v13), (uS e6 v14), (uS e6 v15), (uO 69 eGHeld v16), (uO 112 eGData v17), (uO 113 eGComing v18), (uO 86 eGPost v19)] <| sq 192 [u0, (uI v1)] <| sq 320 [(uX 24 2), (uI v2), (uS eGEdge v3)] <| sq 384 [(uX 26 4), (uI v4), (uI v5), (uI v6), (uI v7)] <| sq 512 [u0, (uI v8)] <| sq 576 [u0, (uO 43 (eSl eGMsg) v20)] <| sq 1728 [u0, (uI v7)] <| sq 1792 [u0, (uI v21)] []
def OQ (v1 : Int) (v2 : Int) (v3 : List GEdge) (v4 : Int) (v5 : Int) (v6 : Int) (v7 : Int) (v8 : Int) (w9 : Int × Int × Int × Int × List Int × List Int × List Int × List GHeld × List GData × List GComing × List GPost × List (List GMsg)) : TS := .on (kq 0 12 <| kq 192 2 <| kq 320 3 <| kq 384 5 <| kq 512 2 <| kq 576 2 <| []) <| sq 0 [(uX 38 11), (uI w9.1), (uI w9.2.1), (uI w9.2.2.1), (uI w9.2.2.2.1), (uS e6 w9.2.2.2.2.1), (uS e6 w9.2.2.2.2.2.1), (uS e6 w9.2.2.2.2.2.2.1), (uO 69 eGHeld w9.2.2.2.2.2.2.2.1), (uO 112 eGData w9.2.2.2.2.2.2.2.2.1), (uO 113 eGComing w9.2.2.2.2.2.2.2.2.2.1), (uO 86 eGPost w9.2.2.2.2.2.2.2.2.2.2.1)] <| sq 192 [u0, (uI v1)] <| sq 320 [(uX 24 2), (uI v2), (uS eGEdge v3)] <| sq 384 [(uX 26 4), (uI v4), (uI v5), (uI v6), (uI v7)] <| sq 512 [u0, (uI v8)] <| sq 576 [u0, (uO 43 (eSl eGMsg) w9.2.2.2.2.2.2.2.2.2.2.2)] []
def OS (v1 : Int) (v2 : Int) (v3 : List GEdge) (v4 : Int) (v5 : Int) (v6 : Int) (v7 : Int) (v8 : Int) (w9 : Int × Int × Int × Int × List Int × List Int × List Int × List GHeld × List GData × List GComing × List GPost × List (List GMsg)) : TS := .on (kq 0 12 <| kq 192 2 <| kq 320 3 <| kq 384 5 <| kq 512 2 <| kq 576 2 <| []) <| sq 0 [(uX 38 11), (uI w9.1), (uI w9.2.1), (uI w9.2.2.1), (uI w9.2.2.2.1), (uS e6 w9.2.2.2.2.1), (uS e6 w9.2.2.2.2.2.1), (uS e6 w9.2.2.2.2.2.2.1), (uO 69 eGHeld w9.2.2.2.2.2.2.2.1), (uO 112 eGData w9.2.2.2.2.2.2.2.2.1), (uO 113 eGComing w9.2.2.2.2.2.2.2.2.2.1), (uO 86 eGPost w9.2.2.2.2.2.2.2.2.2.2.1)] <| sq 192 [u0, (uI v1)] <| sq 320 [(uX 24 2), (uI v2), (uS eGEdge v3)] <| sq 384 [(uX 26 4), (uI v4), (uI v5), (uI v6), (uI v7)] <| sq 512 [u0, (uI v8)] <| sq 576 [u0, (uO 43 (eSl eGMsg) w9.2.2.2.2.2.2.2.2.2.2.2)] []
theorem IC (K : Nat) (v1 : Int) (v2 : Int) (v3 : List GEdge) (v4 : Int) (v5 : Int) (v6 : Int) (v7 : Int) (v8 : Int) : ∀ (k : Nat) (v9 : Int) (v10 : Int) (v11 : Int) (v12 : Int) (v13 : List Int) (v14 : List Int) (v15 : List Int) (v16 : List GHeld) (v17 : List GData) (v18 : List GComing) (v19 : List GPost) (v20 : List (List GMsg)) (v21 : Int) (r : ((Int × Int × Int × Int × List Int × List Int × List Int × List GHeld × List GData × List GComing × List GPost × List (List GMsg))) ⊕ (Int × Int × Int × Int × List Int × List Int × List Int × List GHeld × List GData × List GComing × List GPost × List (List GMsg))), Ek K v1 v2 v3 v4 v5 v6 v7 v8 k v9 v10 v11 v12 v13 v14 v15 v16 v17 v18 v19 v20 v21 = some r → (Sum.elim (fun w => LoopEv E H Co 0 Ik (IR v1 v2 v3 v4 v5 v6 v7 v8 v9 v10 v11 v12 v13 v14 v15 v16 v17 v18 v19 v20 v21) .ret (OQ v1 v2 v3 v4 v5 v6 v7 v8 w)) (fun w => LoopEv E H Co 0 Ik (IR v1 v2 v3 v4 v5 v6 v7 v8 v9 v10 v11 v12 v13 v14 v15 v16 v17 v18 v19 v20 v21) (.exit 0) (OS v1 v2 v3 v4 v5 v6 v7 v8 w))) r := by
 intro k
 induction k with
 | zero => intro v9 v10 v11 v12 v13 v14 v15 v16 v17 v18 v19 v20 v21 r F; cases F
 | succ k ih =>
  intro v9 v10 v11 v12 v13 v14 v15 v16 v17 v18 v19 v20 v21 r F
  rw [Ek] at F
  apply jc F <;> intro h22 F
  apply jb F; intro r23 h24 F
  apply jc F <;> intro h25 F
  apply jr F
  exact lE <| zT h22 <| zc (GL K (GWorker.mk v9 v10 v11 (GTable.mk v12 v13 v14 v15) v16 v17 v18 v19) v12 v10 v21 v8 _ h24) <| zT h25 <| z0
  apply jn F; intro h26 F
  apply jb F; intro x27 h28 F
  apply jn F; intro h29 F
  exact lN2 (zT h22 <| zc (GL K (GWorker.mk v9 v10 v11 (GTable.mk v12 v13 v14 v15) v16 v17 v18 v19) v12 v10 v21 v8 _ h24) <| zF h25 <| zT h26 <| zU eGData_len h28 4 1 <| zX (tt (leqm [(sE eGMsg x27.Msgs)] 1 1)) rfl <| zT h29 <| zV (app_ok (enc := (eSl eGMsg)) (v20 : List (List GMsg)) [x27.Msgs]) <| zi (wadd .i64 v21 1) <| z0) (ih _ _ _ _ _ _ _ _ _ _ _ _ _ _ F)
  apply jr F
  exact lE <| zF h22 <| z0
def Cu (K : Nat) (v1 : Int) (v2 : Int) (v3 : Int) (v4 : Int) (v5 : List Int) (v6 : List Int) (v7 : List Int) (v8 : List GHeld) (v9 : List GData) (v10 : List GComing) (v11 : List GPost) (v12 : Int) (v13 : Int) (v14 : List GEdge) (v15 : Int) (v16 : Int) (v17 : Int) (v18 : Int) (v19 : Int) (v20 : List (List GMsg)) : Nat → List GData → Int → Option (List GData)
 | 0, _, _ => none
 | k + 1, v21, v22 =>
  bif (ilt v22 (nlen (len v9))) then
   (bif (inr v22 (len v9)) then
   (elAt v9 v22).bind fun x23 =>
   bif (ieq x23.Epoch v4) then
    (bif (ieq x23.Step v2) then
     (bif (ieq x23.P v19) then
      (bif (ilt x23.Q 0) then
       (bif (apok (len v21) 1 56) then
       Cu K v1 v2 v3 v4 v5 v6 v7 v8 v9 v10 v11 v12 v13 v14 v15 v16 v17 v18 v19 v20 k (appL v21 [x23]) (wadd .i64 v22 1)
       else none)
      else
      bif (ile v18 x23.Q) then
       (bif (apok (len v21) 1 56) then
       Cu K v1 v2 v3 v4 v5 v6 v7 v8 v9 v10 v11 v12 v13 v14 v15 v16 v17 v18 v19 v20 k (appL v21 [x23]) (wadd .i64 v22 1)
       else none)
      else
      Cu K v1 v2 v3 v4 v5 v6 v7 v8 v9 v10 v11 v12 v13 v14 v15 v16 v17 v18 v19 v20 k v21 (wadd .i64 v22 1))
     else
     bif (apok (len v21) 1 56) then
     Cu K v1 v2 v3 v4 v5 v6 v7 v8 v9 v10 v11 v12 v13 v14 v15 v16 v17 v18 v19 v20 k (appL v21 [x23]) (wadd .i64 v22 1)
     else none)
    else
    bif (apok (len v21) 1 56) then
    Cu K v1 v2 v3 v4 v5 v6 v7 v8 v9 v10 v11 v12 v13 v14 v15 v16 v17 v18 v19 v20 k (appL v21 [x23]) (wadd .i64 v22 1)
    else none)
   else
   bif (apok (len v21) 1 56) then
   Cu K v1 v2 v3 v4 v5 v6 v7 v8 v9 v10 v11 v12 v13 v14 v15 v16 v17 v18 v19 v20 k (appL v21 [x23]) (wadd .i64 v22 1)
   else none
   else none)
  else
  some v21
def Nc (v1 : Int) (v2 : Int) (v3 : Int) (v4 : Int) (v5 : List Int) (v6 : List Int) (v7 : List Int) (v8 : List GHeld) (v9 : List GData) (v10 : List GComing) (v11 : List GPost) (v12 : Int) (v13 : Int) (v14 : List GEdge) (v15 : Int) (v16 : Int) (v17 : Int) (v18 : Int) (v19 : Int) (v20 : List (List GMsg)) (v21 : List GData) (v22 : Int) : TS := .on (kq 0 12 <| kq 192 2 <| kq 320 3 <| kq 384 5 <| kq 512 2 <| kq 576 2 <| kq 768 2 <| kq 3712 1 <| kq 3776 1 <| kq 3840 1 <| kq 3904 2 <| kq 3968 2 <| kq 4032 2 <| []) <| sq 0 [(uX 38 11), (uI v1), (uI v2), (uI v3), (uI v4), (uS e6 v5), (uS e6 v6), (uS e6 v7), (uO 69 eGHeld v8), (uO 112 eGData v9), (uO 113 eGComing v10), (uO 86 eGPost v11)] <| sq 192 [u0, (uI v12)] <| sq 320 [(uX 24 2), (uI v13), (uS eGEdge v14)] <| sq 384 [(uX 26 4), (uI v15), (uI v16), (uI v17), (uI v18)] <| sq 512 [u0, (uI v19)] <| sq 576 [u0, (uO 43 (eSl eGMsg) v20)] <| sq 768 [u0, (uO 112 eGData v21)] <| sq 3712 [⟨(.ad 0 0 0), 0, nob⟩] <| sq 3776 [⟨(.ad 0 0 0), 0, nob⟩] <| sq 3840 [⟨(.ad 0 0 8), 0, nob⟩] <| sq 3904 [u0, ⟨(.vw 9 0), 0, nob⟩] <| sq 3968 [u0, (uI (nlen (len v9)))] <| sq 4032 [u0, (uI v22)] []
def J9 (v1 : Int) (v2 : Int) (v3 : Int) (v4 : Int) (v5 : List Int) (v6 : List Int) (v7 : List Int) (v8 : List GHeld) (v9 : List GData) (v10 : List GComing) (v11 : List GPost) (v12 : Int) (v13 : Int) (v14 : List GEdge) (v15 : Int) (v16 : Int) (v17 : Int) (v18 : Int) (v19 : Int) (v20 : List (List GMsg)) (w21 : List GData) : TS := .on (kq 0 12 <| kq 192 2 <| kq 320 3 <| kq 384 5 <| kq 512 2 <| kq 576 2 <| kq 768 2 <| []) <| sq 0 [(uX 38 11), (uI v1), (uI v2), (uI v3), (uI v4), (uS e6 v5), (uS e6 v6), (uS e6 v7), (uO 69 eGHeld v8), (uO 112 eGData v9), (uO 113 eGComing v10), (uO 86 eGPost v11)] <| sq 192 [u0, (uI v12)] <| sq 320 [(uX 24 2), (uI v13), (uS eGEdge v14)] <| sq 384 [(uX 26 4), (uI v15), (uI v16), (uI v17), (uI v18)] <| sq 512 [u0, (uI v19)] <| sq 576 [u0, (uO 43 (eSl eGMsg) v20)] <| sq 768 [u0, (uO 112 eGData w21)] []
theorem Mu (K : Nat) (v1 : Int) (v2 : Int) (v3 : Int) (v4 : Int) (v5 : List Int) (v6 : List Int) (v7 : List Int) (v8 : List GHeld) (v9 : List GData) (v10 : List GComing) (v11 : List GPost) (v12 : Int) (v13 : Int) (v14 : List GEdge) (v15 : Int) (v16 : Int) (v17 : Int) (v18 : Int) (v19 : Int) (v20 : List (List GMsg)) : ∀ (k : Nat) (v21 : List GData) (v22 : Int) (r : List GData), Cu K v1 v2 v3 v4 v5 v6 v7 v8 v9 v10 v11 v12 v13 v14 v15 v16 v17 v18 v19 v20 k v21 v22 = some r → LoopEv E H Co 2 KU (Nc v1 v2 v3 v4 v5 v6 v7 v8 v9 v10 v11 v12 v13 v14 v15 v16 v17 v18 v19 v20 v21 v22) (.exit 2) (J9 v1 v2 v3 v4 v5 v6 v7 v8 v9 v10 v11 v12 v13 v14 v15 v16 v17 v18 v19 v20 r) := by
 intro k
 induction k with
 | zero => intro v21 v22 r F; cases F
 | succ k ih =>
  intro v21 v22 r F
  rw [Cu] at F
  apply jc F <;> intro h23 F
  apply jn F; intro h24 F
  apply jb F; intro x25 h26 F
  have q37 {l} (z : HA Co l) := zT h23 <| zT h24 <| zS eGData_len h26 5 <| z
  apply jc F <;> intro h27 F
  have q38 {l} (z : HA Co l) := zB6 (ine_t h27) <| Cg (ine_t h27) <| z
  apply jc F <;> intro h28 F
  have q39 {l} (z : HA Co l) := Fz (ine_t h28) <| z
  apply jc F <;> intro h29 F
  have q40 {l} (z : HA Co l) := Af (ine_t h29) <| z
  apply jc F <;> intro h30 F
  apply jn F; intro h31 F
  exact lN1 (q37 <| q38 <| q39 <| q40 <| Cn h30 <| zr1 <| zX (tt (leqm [(i6 x25.Epoch), (i6 x25.Step), (i6 x25.Q), (i6 x25.P), (sE eGMsg x25.Msgs)] 1 5)) rfl <| zT h31 <| zV (app_ok (enc := eGData) (v21 : List GData) [x25]) <| zi (wadd .i64 v22 1) <| z0) (ih _ _ _ F)
  have q41 {l} (z : HA Co l) := CT h30 <| z
  apply jc F <;> intro h32 F
  apply jn F; intro h33 F
  exact lN1 (q37 <| q38 <| q39 <| q40 <| q41 <| zT (ige_eq h32) <| zX (tt (leqm [(i6 x25.Epoch), (i6 x25.Step), (i6 x25.Q), (i6 x25.P), (sE eGMsg x25.Msgs)] 1 5)) rfl <| zT h33 <| zV (app_ok (enc := eGData) (v21 : List GData) [x25]) <| zi (wadd .i64 v22 1) <| z0) (ih _ _ _ F)
  exact lN1 (q37 <| q38 <| q39 <| q40 <| q41 <| zF (ige_eq h32) <| zi (wadd .i64 v22 1) <| z0) (ih _ _ _ F)
  apply jn F; intro h34 F
  exact lN1 (q37 <| q38 <| q39 <| Ag (ine_f h29) <| zt5 <| zr2 <| zX (tt (leqm [(i6 x25.Epoch), (i6 x25.Step), (i6 x25.Q), (i6 x25.P), (sE eGMsg x25.Msgs)] 1 5)) rfl <| zT h34 <| zV (app_ok (enc := eGData) (v21 : List GData) [x25]) <| zi (wadd .i64 v22 1) <| z0) (ih _ _ _ F)
  apply jn F; intro h35 F
  exact lN1 (q37 <| q38 <| DF (ine_f h28) <| zt3 <| zr1 <| zt5 <| zr2 <| zX (tt (leqm [(i6 x25.Epoch), (i6 x25.Step), (i6 x25.Q), (i6 x25.P), (sE eGMsg x25.Msgs)] 1 5)) rfl <| zT h35 <| zV (app_ok (enc := eGData) (v21 : List GData) [x25]) <| zi (wadd .i64 v22 1) <| z0) (ih _ _ _ F)
  apply jn F; intro h36 F
  exact lN1 (q37 <| zA6 (ine_f h27) <| E4 (ine_f h27) <| zt4 <| zr1 <| zt3 <| zr1 <| zt5 <| zr2 <| zX (tt (leqm [(i6 x25.Epoch), (i6 x25.Step), (i6 x25.Q), (i6 x25.P), (sE eGMsg x25.Msgs)] 1 5)) rfl <| zT h36 <| zV (app_ok (enc := eGData) (v21 : List GData) [x25]) <| zi (wadd .i64 v22 1) <| z0) (ih _ _ _ F)
  apply jr F
  exact lE <| zF h23 <| z0
def DJ (K : Nat) (a1 : GWorker) (a2 : GGraph) (a3 : GJob) (a4 : Int) : Option (GWorker) :=
 bif (inr a4 (len a1.Held)) then
 (elAt a1.Held a4).bind fun x5 =>
 (Ek K a4 a2.N a2.Edges a3.Prog a3.Source a3.Limit a3.Parts x5.X.P K a1.Id a1.Goal a1.Until a1.T.Epoch a1.T.Owners a1.T.Ids a1.T.Incs a1.Held a1.Buf a1.Coming a1.Out [] 0).bind fun y6 =>
 Sum.elim (fun w7 =>
  some (GWorker.mk w7.1 w7.2.1 w7.2.2.1 (GTable.mk w7.2.2.2.1 w7.2.2.2.2.1 w7.2.2.2.2.2.1 w7.2.2.2.2.2.2.1) w7.2.2.2.2.2.2.2.1 w7.2.2.2.2.2.2.2.2.1 w7.2.2.2.2.2.2.2.2.2.1 w7.2.2.2.2.2.2.2.2.2.2.1))
  (fun w8 =>
  (Cu K w8.1 w8.2.1 w8.2.2.1 w8.2.2.2.1 w8.2.2.2.2.1 w8.2.2.2.2.2.1 w8.2.2.2.2.2.2.1 w8.2.2.2.2.2.2.2.1 w8.2.2.2.2.2.2.2.2.1 w8.2.2.2.2.2.2.2.2.2.1 w8.2.2.2.2.2.2.2.2.2.2.1 a4 a2.N a2.Edges a3.Prog a3.Source a3.Limit a3.Parts x5.X.P w8.2.2.2.2.2.2.2.2.2.2.2 K [] 0).bind fun w9 =>
  bif (inr a4 (len w8.2.2.2.2.2.2.2.1)) then
  (elAt w8.2.2.2.2.2.2.2.1 a4).bind fun x10 =>
  (F62 K a2 a3 x10.X w8.2.2.2.2.2.2.2.2.2.2.2).bind fun r11 =>
  bif (ieq r11.2 0) then
   ((CU K (GWorker.mk w8.1 w8.2.1 w8.2.2.1 (GTable.mk w8.2.2.2.1 w8.2.2.2.2.1 w8.2.2.2.2.2.1 w8.2.2.2.2.2.2.1) (putAt w8.2.2.2.2.2.2.2.1 a4 (GHeld.mk r11.1 false false)) w9 w8.2.2.2.2.2.2.2.2.2.1 w8.2.2.2.2.2.2.2.2.2.2.1) (GMail.mk 5 w8.2.2.2.1 0 w8.2.1 x5.X.P 0 0 0 [] [] [] r11.1 [])).bind fun r12 =>
   some r12)
  else
  (EA K (GWorker.mk w8.1 w8.2.1 w8.2.2.1 (GTable.mk w8.2.2.2.1 w8.2.2.2.2.1 w8.2.2.2.2.2.1 w8.2.2.2.2.2.2.1) w8.2.2.2.2.2.2.2.1 w9 w8.2.2.2.2.2.2.2.2.2.1 w8.2.2.2.2.2.2.2.2.2.2.1) x5.X.P).bind fun r13 =>
  some r13
  else none) y6
 else none
theorem N7 (K : Nat) (a1 : GWorker) (a2 : GGraph) (a3 : GJob) (a4 : Int) (r : GWorker) (F : DJ K a1 a2 a3 a4 = some r) : Evt E H 34 [.box 38 (wl0 a1), .agg (eGGraph a2), .agg (eGJob a3), .one (i6 a4)] (M8 r) := by
 rw [DJ] at F
 apply jn F; intro h5 F
 apply jb F; intro x6 h7 F
 apply jb F; intro y9 h8 F
 refine js F (fun w10 hx F => ?_) fun w11 hx F => ?_
 subst hx
 apply jr F
 exact fpC Co <| zT h5 <| zU eGHeld_len h7 0 1 <| zo (IC K a4 a2.N a2.Edges a3.Prog a3.Source a3.Limit a3.Parts x6.X.P K a1.Id a1.Goal a1.Until a1.T.Epoch a1.T.Owners a1.T.Ids a1.T.Incs a1.Held a1.Buf a1.Coming a1.Out [] 0 _ h8) <| z0
 subst hx
 apply jb F; intro w13 h12 F
 apply jn F; intro h14 F
 apply jb F; intro x15 h16 F
 apply jb F; intro r17 h18 F
 have q24 {l} (z : HA Co l) := zT h5 <| zU eGHeld_len h7 0 1 <| zo (IC K a4 a2.N a2.Edges a3.Prog a3.Source a3.Limit a3.Parts x6.X.P K a1.Id a1.Goal a1.Until a1.T.Epoch a1.T.Owners a1.T.Ids a1.T.Incs a1.Held a1.Buf a1.Coming a1.Out [] 0 _ h8) <| zi (nl w11.2.2.2.2.2.2.2.2.1) <| zo (Mu K w11.1 w11.2.1 w11.2.2.1 w11.2.2.2.1 w11.2.2.2.2.1 w11.2.2.2.2.2.1 w11.2.2.2.2.2.2.1 w11.2.2.2.2.2.2.2.1 w11.2.2.2.2.2.2.2.2.1 w11.2.2.2.2.2.2.2.2.2.1 w11.2.2.2.2.2.2.2.2.2.2.1 a4 a2.N a2.Edges a3.Prog a3.Source a3.Limit a3.Parts x6.X.P w11.2.2.2.2.2.2.2.2.2.2.2 K [] 0 _ h12) <| zT h14 <| zU eGHeld_len h16 0 5 <| zl (Mo K a2 a3 x15.X w11.2.2.2.2.2.2.2.2.2.2.2 _ h18) <| z
 apply jc F <;> intro h19 F
 apply jb F; intro r20 h21 F
 apply jr F
 exact fpC Co <| q24 <| zF (ine_t h19) <| zT h14 <| zX (tt (lfits (nidx a4 7) 7 (flat eGHeld w11.2.2.2.2.2.2.2.1))) (lfits_flat0 eGHeld_len h16 _ (by decide)) <| zX (.sl (len w11.2.2.2.2.2.2.2.1) (lset (flat eGHeld w11.2.2.2.2.2.2.2.1) (nidx a4 7) [(i6 r17.1.P), (i6 r17.1.Step), (sE e6 r17.1.Vals), (sE eBool r17.1.Rest), (sE eGMsg r17.1.In), (.lit (.bool false)), (.lit (.bool false))]) (len (α := GHeld) (putAt w11.2.2.2.2.2.2.2.1 a4 (GHeld.mk r17.1 false false))) (flat eGHeld (putAt w11.2.2.2.2.2.2.2.1 a4 (GHeld.mk r17.1 false false)))) (set_ok0 eGHeld_len h16 _ (by simp) rfl) <| zc (E9 K (GWorker.mk w11.1 w11.2.1 w11.2.2.1 (GTable.mk w11.2.2.2.1 w11.2.2.2.2.1 w11.2.2.2.2.2.1 w11.2.2.2.2.2.2.1) (putAt w11.2.2.2.2.2.2.2.1 a4 (GHeld.mk r17.1 false false)) w13 w11.2.2.2.2.2.2.2.2.2.1 w11.2.2.2.2.2.2.2.2.2.2.1) (GMail.mk 5 w11.2.2.2.1 0 w11.2.1 x6.X.P 0 0 0 [] [] [] r17.1 []) _ h21) <| z0
 apply jb F; intro r22 h23 F
 apply jr F
 exact fpC Co <| q24 <| zT (ine_f h19) <| zc (JD K (GWorker.mk w11.1 w11.2.1 w11.2.2.1 (GTable.mk w11.2.2.2.1 w11.2.2.2.2.1 w11.2.2.2.2.2.1 w11.2.2.2.2.2.2.1) w11.2.2.2.2.2.2.2.1 w13 w11.2.2.2.2.2.2.2.2.2.1 w11.2.2.2.2.2.2.2.2.2.2.1) x6.X.P _ h23) <| z0
def Cq : Hint := { H 14 with nt := 97, prot := 0, kp := 0 }
def MB : Code := loopOf E 14 0
def NH : Code := loopOf E 14 1
def M7 (r1 : GWorker × List GPost × List GDid) : Res := ⟨[(.agg (wl0 r1.1)), (.one (.own 86 (sE eGPost r1.2.1))), (.one (.own 66 (sE eGDid r1.2.2)))], []⟩
def C4 (K : Nat) (a1 : GGraph) (a2 : GJob) (r3 : GWorker) : Nat → Int → Int → Int → Int → List Int → List Int → List Int → List GHeld → List GData → List GComing → List GPost → List GDid → Int → Option (Int × Int × Int × Int × List Int × List Int × List Int × List GHeld × List GData × List GComing × List GPost × List GDid)
 | 0, _, _, _, _, _, _, _, _, _, _, _, _, _ => none
 | k + 1, v4, v5, v6, v7, v8, v9, v10, v11, v12, v13, v14, v15, v16 =>
  bif (ilt v16 (nlen (len r3.Held))) then
   (bif (inr v16 (len v11)) then
   (elAt v11 v16).bind fun x17 =>
   bif x17.Wait then
    (C4 K a1 a2 r3 k v4 v5 v6 v7 v8 v9 v10 v11 v12 v13 v14 v15 (wadd .i64 v16 1))
   else
   bif x17.Given then
    (C4 K a1 a2 r3 k v4 v5 v6 v7 v8 v9 v10 v11 v12 v13 v14 v15 (wadd .i64 v16 1))
   else
   bif (ieq x17.X.Step v5) then
    ((DM K (GWorker.mk v4 v5 v6 (GTable.mk v7 v8 v9 v10) v11 v12 v13 v14) a1 a2 v16).bind fun r18 =>
    bif (apok (len v15) (len r18.1) 24) then
    C4 K a1 a2 r3 k r18.2.Id r18.2.Goal r18.2.Until r18.2.T.Epoch r18.2.T.Owners r18.2.T.Ids r18.2.T.Incs r18.2.Held r18.2.Buf r18.2.Coming r18.2.Out (appL v15 r18.1) (wadd .i64 v16 1)
    else none)
   else
   C4 K a1 a2 r3 k v4 v5 v6 v7 v8 v9 v10 v11 v12 v13 v14 v15 (wadd .i64 v16 1)
   else none)
  else
  some (v4, (v5, (v6, (v7, (v8, (v9, (v10, (v11, (v12, (v13, (v14, v15)))))))))))
def L2 (a1 : GGraph) (a2 : GJob) (r3 : GWorker) (v4 : Int) (v5 : Int) (v6 : Int) (v7 : Int) (v8 : List Int) (v9 : List Int) (v10 : List Int) (v11 : List GHeld) (v12 : List GData) (v13 : List GComing) (v14 : List GPost) (v15 : List GDid) (v16 : Int) : TS := .on (kq 256 3 <| kq 320 5 <| kq 384 12 <| kq 512 12 <| kq 704 2 <| kq 1920 1 <| kq 1984 2 <| kq 2048 2 <| kq 2112 2 <| []) <| b1 256 a1 <| b2 320 a2 <| sq 384 [(uX 38 11), (uI v4), (uI v5), (uI v6), (uI v7), (uS e6 v8), (uS e6 v9), (uS e6 v10), (uO 69 eGHeld v11), (uO 112 eGData v12), (uO 113 eGComing v13), (uO 86 eGPost v14)] <| b11 512 <| sq 704 [u0, (uO 66 eGDid v15)] <| sq 1920 [⟨(.ad 6 0 7), 0, nob⟩] <| sq 1984 [u0, ⟨(.vw 392 0), 0, nob⟩] <| sq 2048 [u0, (uI (nlen (len r3.Held)))] <| sq 2112 [u0, (uI v16)] []
def J0 (a1 : GGraph) (a2 : GJob) (r3 : GWorker) (w4 : Int × Int × Int × Int × List Int × List Int × List Int × List GHeld × List GData × List GComing × List GPost × List GDid) : TS := .on (kq 256 3 <| kq 320 5 <| kq 384 12 <| kq 512 12 <| kq 704 2 <| []) <| b1 256 a1 <| b2 320 a2 <| sq 384 [(uX 38 11), (uI w4.1), (uI w4.2.1), (uI w4.2.2.1), (uI w4.2.2.2.1), (uS e6 w4.2.2.2.2.1), (uS e6 w4.2.2.2.2.2.1), (uS e6 w4.2.2.2.2.2.2.1), (uO 69 eGHeld w4.2.2.2.2.2.2.2.1), (uO 112 eGData w4.2.2.2.2.2.2.2.2.1), (uO 113 eGComing w4.2.2.2.2.2.2.2.2.2.1), (uO 86 eGPost w4.2.2.2.2.2.2.2.2.2.2.1)] <| b11 512 <| sq 704 [u0, (uO 66 eGDid w4.2.2.2.2.2.2.2.2.2.2.2)] []
theorem KB (K : Nat) (a1 : GGraph) (a2 : GJob) (r3 : GWorker) : ∀ (k : Nat) (v4 : Int) (v5 : Int) (v6 : Int) (v7 : Int) (v8 : List Int) (v9 : List Int) (v10 : List Int) (v11 : List GHeld) (v12 : List GData) (v13 : List GComing) (v14 : List GPost) (v15 : List GDid) (v16 : Int) (r : Int × Int × Int × Int × List Int × List Int × List Int × List GHeld × List GData × List GComing × List GPost × List GDid), C4 K a1 a2 r3 k v4 v5 v6 v7 v8 v9 v10 v11 v12 v13 v14 v15 v16 = some r → LoopEv E H Cq 0 MB (L2 a1 a2 r3 v4 v5 v6 v7 v8 v9 v10 v11 v12 v13 v14 v15 v16) (.exit 0) (J0 a1 a2 r3 r) := by
 intro k
 induction k with
 | zero => intro v4 v5 v6 v7 v8 v9 v10 v11 v12 v13 v14 v15 v16 r F; cases F
 | succ k ih =>
  intro v4 v5 v6 v7 v8 v9 v10 v11 v12 v13 v14 v15 v16 r F
  rw [C4] at F
  apply jc F <;> intro h17 F
  apply jn F; intro h18 F
  apply jb F; intro x19 h20 F
  have q27 {l} (z : HA Cq l) := zT h17 <| zT h18 <| zS eGHeld_len h20 7 <| z
  apply jc F <;> intro h21 F
  exact lN1 (q27 <| CO (bnot_t h21) <| zk6 <| zf2 <| zi (wadd .i64 v16 1) <| z0) (ih _ _ _ _ _ _ _ _ _ _ _ _ _ _ F)
  have q28 {l} (z : HA Cq l) := DX (bnot_f h21) <| z
  apply jc F <;> intro h22 F
  exact lN1 (q27 <| q28 <| Fc (bnot_t h22) <| zf1 <| zi (wadd .i64 v16 1) <| z0) (ih _ _ _ _ _ _ _ _ _ _ _ _ _ _ F)
  have q29 {l} (z : HA Cq l) := Hq (bnot_f h22) <| z
  apply jc F <;> intro h23 F
  apply jb F; intro r24 h25 F
  apply jn F; intro h26 F
  exact lN1 (q27 <| q28 <| q29 <| zT h23 <| zc (JP K (GWorker.mk v4 v5 v6 (GTable.mk v7 v8 v9 v10) v11 v12 v13 v14) a1 a2 v16 _ h25) <| zX (tt (leqm (flat eGDid r24.1) (len r24.1) 3)) (leqm_flat eGDid_len _) <| zT h26 <| zV (app_ok (enc := eGDid) (v15 : List GDid) r24.1) <| zi (wadd .i64 v16 1) <| z0) (ih _ _ _ _ _ _ _ _ _ _ _ _ _ _ F)
  exact lN1 (q27 <| q28 <| q29 <| zF h23 <| zi (wadd .i64 v16 1) <| z0) (ih _ _ _ _ _ _ _ _ _ _ _ _ _ _ F)
  apply jr F
  exact lE <| zF h17 <| z0
def CS (K : Nat) (a1 : GGraph) (a2 : GJob) (w3 : Int × Int × Int × Int × List Int × List Int × List Int × List GHeld × List GData × List GComing × List GPost × List GDid) : Nat → Int → Int → Int → Int → List Int → List Int → List Int → List GHeld → List GData → List GComing → List GPost → Int → Option (Int × Int × Int × Int × List Int × List Int × List Int × List GHeld × List GData × List GComing × List GPost)
 | 0, _, _, _, _, _, _, _, _, _, _, _, _ => none
 | k + 1, v4, v5, v6, v7, v8, v9, v10, v11, v12, v13, v14, v15 =>
  bif (ilt v15 (nlen (len w3.2.2.2.2.2.2.2.1))) then
   (bif (inr v15 (len v11)) then
   (elAt v11 v15).bind fun x16 =>
   bif x16.Wait then
    (bif (ieq x16.X.Step (wadd .i64 v5 1)) then
     ((DJ K (GWorker.mk v4 v5 v6 (GTable.mk v7 v8 v9 v10) v11 v12 v13 v14) a1 a2 v15).bind fun r17 =>
     CS K a1 a2 w3 k r17.Id r17.Goal r17.Until r17.T.Epoch r17.T.Owners r17.T.Ids r17.T.Incs r17.Held r17.Buf r17.Coming r17.Out (wadd .i64 v15 1))
    else
    CS K a1 a2 w3 k v4 v5 v6 v7 v8 v9 v10 v11 v12 v13 v14 (wadd .i64 v15 1))
   else
   CS K a1 a2 w3 k v4 v5 v6 v7 v8 v9 v10 v11 v12 v13 v14 (wadd .i64 v15 1)
   else none)
  else
  some (v4, (v5, (v6, (v7, (v8, (v9, (v10, (v11, (v12, (v13, v14))))))))))
def Ph (a1 : GGraph) (a2 : GJob) (w3 : Int × Int × Int × Int × List Int × List Int × List Int × List GHeld × List GData × List GComing × List GPost × List GDid) (v4 : Int) (v5 : Int) (v6 : Int) (v7 : Int) (v8 : List Int) (v9 : List Int) (v10 : List Int) (v11 : List GHeld) (v12 : List GData) (v13 : List GComing) (v14 : List GPost) (v15 : Int) : TS := .on (kq 256 3 <| kq 320 5 <| kq 384 12 <| kq 512 12 <| kq 704 2 <| kq 4032 2 <| kq 4096 2 <| []) <| b1 256 a1 <| b2 320 a2 <| sq 384 [(uX 38 11), (uI v4), (uI v5), (uI v6), (uI v7), (uS e6 v8), (uS e6 v9), (uS e6 v10), (uO 69 eGHeld v11), (uO 112 eGData v12), (uO 113 eGComing v13), (uO 86 eGPost v14)] <| b11 512 <| sq 704 [u0, (uO 66 eGDid w3.2.2.2.2.2.2.2.2.2.2.2)] <| sq 4032 [u0, (uI (nlen (len w3.2.2.2.2.2.2.2.1)))] <| sq 4096 [u0, (uI v15)] []
def OV (a1 : GGraph) (a2 : GJob) (w3 : Int × Int × Int × Int × List Int × List Int × List Int × List GHeld × List GData × List GComing × List GPost × List GDid) (w4 : Int × Int × Int × Int × List Int × List Int × List Int × List GHeld × List GData × List GComing × List GPost) : TS := .on (kq 384 12 <| kq 512 12 <| kq 704 2 <| []) <| sq 384 [(uX 38 11), (uI w4.1), (uI w4.2.1), (uI w4.2.2.1), (uI w4.2.2.2.1), (uS e6 w4.2.2.2.2.1), (uS e6 w4.2.2.2.2.2.1), (uS e6 w4.2.2.2.2.2.2.1), (uO 69 eGHeld w4.2.2.2.2.2.2.2.1), (uO 112 eGData w4.2.2.2.2.2.2.2.2.1), (uO 113 eGComing w4.2.2.2.2.2.2.2.2.2.1), (uO 86 eGPost w4.2.2.2.2.2.2.2.2.2.2)] <| b11 512 <| sq 704 [u0, (uO 66 eGDid w3.2.2.2.2.2.2.2.2.2.2.2)] []
theorem KV (K : Nat) (a1 : GGraph) (a2 : GJob) (w3 : Int × Int × Int × Int × List Int × List Int × List Int × List GHeld × List GData × List GComing × List GPost × List GDid) : ∀ (k : Nat) (v4 : Int) (v5 : Int) (v6 : Int) (v7 : Int) (v8 : List Int) (v9 : List Int) (v10 : List Int) (v11 : List GHeld) (v12 : List GData) (v13 : List GComing) (v14 : List GPost) (v15 : Int) (r : Int × Int × Int × Int × List Int × List Int × List Int × List GHeld × List GData × List GComing × List GPost), CS K a1 a2 w3 k v4 v5 v6 v7 v8 v9 v10 v11 v12 v13 v14 v15 = some r → LoopEv E H Cq 2 NH (Ph a1 a2 w3 v4 v5 v6 v7 v8 v9 v10 v11 v12 v13 v14 v15) (.exit 2) (OV a1 a2 w3 r) := by
 intro k
 induction k with
 | zero => intro v4 v5 v6 v7 v8 v9 v10 v11 v12 v13 v14 v15 r F; cases F
 | succ k ih =>
  intro v4 v5 v6 v7 v8 v9 v10 v11 v12 v13 v14 v15 r F
  rw [CS] at F
  apply jc F <;> intro h16 F
  apply jn F; intro h17 F
  apply jb F; intro x18 h19 F
  have q24 {l} (z : HA Cq l) := zT h16 <| zT h17 <| zU eGHeld_len h19 5 1 <| z
  apply jc F <;> intro h20 F
  have q25 {l} (z : HA Cq l) := zC4 h20 <| zT h17 <| zC3 h20 <| zU eGHeld_len h19 1 1 <| zC3 h20 <| zi (wadd .i64 v5 1) <| Dc h20 <| z
  apply jc F <;> intro h21 F
  apply jb F; intro r22 h23 F
  exact lN1 (q24 <| q25 <| zT h21 <| zc (N7 K (GWorker.mk v4 v5 v6 (GTable.mk v7 v8 v9 v10) v11 v12 v13 v14) a1 a2 v15 _ h23) <| zi (wadd .i64 v15 1) <| z0) (ih _ _ _ _ _ _ _ _ _ _ _ _ _ F)
  exact lN1 (q24 <| q25 <| zF h21 <| zi (wadd .i64 v15 1) <| z0) (ih _ _ _ _ _ _ _ _ _ _ _ _ _ F)
  exact lN1 (q24 <| zD6 h20 <| Au h20 <| zf1 <| zi (wadd .i64 v15 1) <| z0) (ih _ _ _ _ _ _ _ _ _ _ _ _ _ F)
  apply jr F
  exact lE <| zF h16 <| z0
def F14 (K : Nat) (a1 : GGraph) (a2 : GJob) (a3 : GWorker) (a4 : Int) : Option (GWorker × List GPost × List GDid) :=
 (F30 K a3).bind fun r5 =>
 (F31 K a1 a2).bind fun r6 =>
 bif (ieq r6 0) then
  ((F32 K a4 r5.Until).bind fun r7 =>
  bif r7 then
   ((C4 K a1 a2 r5 K r5.Id r5.Goal r5.Until r5.T.Epoch r5.T.Owners r5.T.Ids r5.T.Incs r5.Held r5.Buf r5.Coming r5.Out [] 0).bind fun w8 =>
   (CS K a1 a2 w8 K w8.1 w8.2.1 w8.2.2.1 w8.2.2.2.1 w8.2.2.2.2.1 w8.2.2.2.2.2.1 w8.2.2.2.2.2.2.1 w8.2.2.2.2.2.2.2.1 w8.2.2.2.2.2.2.2.2.1 w8.2.2.2.2.2.2.2.2.2.1 w8.2.2.2.2.2.2.2.2.2.2.1 0).bind fun w9 =>
   some ((GWorker.mk w9.1 w9.2.1 w9.2.2.1 (GTable.mk w9.2.2.2.1 w9.2.2.2.2.1 w9.2.2.2.2.2.1 w9.2.2.2.2.2.2.1) w9.2.2.2.2.2.2.2.1 w9.2.2.2.2.2.2.2.2.1 w9.2.2.2.2.2.2.2.2.2.1 []), (w9.2.2.2.2.2.2.2.2.2.2, w8.2.2.2.2.2.2.2.2.2.2.2)))
  else
  some (r5, ([], [])))
 else
 some (r5, ([], []))
theorem LJ (K : Nat) (a1 : GGraph) (a2 : GJob) (a3 : GWorker) (a4 : Int) (r : GWorker × List GPost × List GDid) (F : F14 K a1 a2 a3 a4 = some r) : Evt E H 14 [.agg (eGGraph a1), .agg (eGJob a2), .agg (eGWorker a3), .one (i6 a4)] (M7 r) := by
 rw [F14] at F
 apply jb F; intro r5 h6 F
 apply jb F; intro r7 h8 F
 have q17 {l} (z : HA Cq l) := zc (FX K a3 _ h6) <| zl (B4 K a1 a2 _ h8) <| z
 apply jc F <;> intro h9 F
 apply jb F; intro r10 h11 F
 have q18 {l} (z : HA Cq l) := zB4 (ine_t h9) <| zl (Ly K a4 r5.Until _ h11) <| Cg (ine_t h9) <| z
 apply jc F <;> intro h12 F
 apply jb F; intro w14 h13 F
 apply jb F; intro w16 h15 F
 apply jr F
 exact fpC Cq <| q17 <| q18 <| zF (bnot_t h12) <| zi (nl r5.Held) <| zo (KB K a1 a2 r5 K r5.Id r5.Goal r5.Until r5.T.Epoch r5.T.Owners r5.T.Ids r5.T.Incs r5.Held r5.Buf r5.Coming r5.Out [] 0 _ h13) <| zi (nl w14.2.2.2.2.2.2.2.1) <| zo (KV K a1 a2 w14 K w14.1 w14.2.1 w14.2.2.1 w14.2.2.2.1 w14.2.2.2.2.1 w14.2.2.2.2.2.1 w14.2.2.2.2.2.2.1 w14.2.2.2.2.2.2.2.1 w14.2.2.2.2.2.2.2.2.1 w14.2.2.2.2.2.2.2.2.2.1 w14.2.2.2.2.2.2.2.2.2.2.1 0 _ h15) <| z0
 apply jr F
 exact fpC Cq <| q17 <| q18 <| zT (bnot_f h12) <| z0
 apply jr F
 exact fpC Cq <| q17 <| Cn (ine_f h9) <| zr1 <| z0
def Hd : Hint := { H 22 with nt := 13, prot := 0, kp := 0 }
def LM (r1 : GWorker) : Res := ⟨[(.agg (wl0 r1))], []⟩
def F22 (K : Nat) (a1 : GWorker) (a2 : Int) : Option (GWorker) :=
 (F30 K a1).bind fun r3 =>
 bif (ilt r3.Until a2) then
  (some (GWorker.mk r3.Id r3.Goal a2 r3.T r3.Held r3.Buf r3.Coming r3.Out))
 else
 some r3
theorem OU (K : Nat) (a1 : GWorker) (a2 : Int) (r : GWorker) (F : F22 K a1 a2 = some r) : Evt E H 22 [.agg (eGWorker a1), .one (i6 a2)] (LM r) := by
 rw [F22] at F
 apply jb F; intro r3 h4 F
 apply jc F <;> intro h5 F
 apply jr F
 exact fpC Hd <| zc (FX K a1 _ h4) <| zT (igt_eq h5) <| z0
 apply jr F
 exact fpC Hd <| zc (FX K a1 _ h4) <| zF (igt_eq h5) <| z0
def Gn : Hint := { H 13 with nt := 36, prot := 0, kp := 0 }
def Kt (r1 : GWorker × List GPost × List GDid) : Res := ⟨[(.agg (wl0 r1.1)), (.one (.own 86 (sE eGPost r1.2.1))), (.one (.own 66 (sE eGDid r1.2.2)))], []⟩
def F13 (K : Nat) (a45 : GGraph) (a46 : GJob) (a47 : GWorker) (a48 : GAct) : Option (GWorker × List GPost × List GDid) :=
 bif (ieq a48.Kind 0) then
  ((F18 K a45 a46 a47 a48.M).bind fun r1 =>
  some (r1, ([], [])))
 else
 bif (ieq a48.Kind 1) then
  ((F14 K a45 a46 a47 a48.N).bind fun r2 =>
  some (r2.1, (r2.2.1, r2.2.2)))
 else
 (F22 K a47 a48.N).bind fun r3 =>
 some (r3, ([], []))
theorem KQ (K : Nat) (a45 : GGraph) (a46 : GJob) (a47 : GWorker) (a48 : GAct) (r : GWorker × List GPost × List GDid) (F : F13 K a45 a46 a47 a48 = some r) : Evt E H 13 [.agg (eGGraph a45), .agg (eGJob a46), .agg (eGWorker a47), .agg (eGAct a48)] (Kt r) := by
 rw [F13] at F
 apply jc F <;> intro h49 F
 apply jb F; intro r1 h2 F
 apply jr F
 exact fpC Gn <| zT h49 <| zc (JY K a45 a46 a47 a48.M _ h2) <| z0
 apply jc F <;> intro h3 F
 apply jb F; intro r4 h5 F
 apply jr F
 exact fpC Gn <| zF h49 <| zT h3 <| zc (LJ K a45 a46 a47 a48.N _ h5) <| z0
 apply jb F; intro r6 h7 F
 apply jr F
 exact fpC Gn <| zF h49 <| zF h3 <| zc (OU K a47 a48.N _ h7) <| z0
def Gg (K : Nat) (a1 : Int) (a2 : Int) : Option (Int × Bool) :=
 bif (ieq a1 0) then
  (some (0, true))
 else
 bif (ieq a2 0) then
  (some (0, true))
 else
 bif (ieq a1 (-1)) then
  (bif (ieq a1 (-9223372036854775808)) then
   (some (0, false))
  else
  bif (ieq a2 (-9223372036854775808)) then
   (some (0, false))
  else
  some ((wmul .i64 a1 a2), true))
 else
 bif (ieq a2 (-1)) then
  (bif (ieq a1 (-9223372036854775808)) then
   (some (0, false))
  else
  bif (ieq a2 (-9223372036854775808)) then
   (some (0, false))
  else
  some ((wmul .i64 a1 a2), true))
 else
 bif (izero a2) then none else
 bif (ieq (wquo .i64 (wmul .i64 a1 a2) a2) a1) then
  (some ((wmul .i64 a1 a2), true))
 else
 some (0, false)
def GK (K : Nat) (a1 : Int) (a2 : Int) (a3 : Int) : Option (Int × Bool) :=
 bif (ilt a3 1) then
  (some (0, false))
 else
 (Gg K a1 a2).bind fun r4 =>
 bif r4.2 then
  (bif (izero a3) then none else
  some ((wquo .i64 r4.1 a3), true))
 else
 some (0, false)
def FR (K : Nat) (a1 : Int) (a2 : Int) : Option (Int × Bool) :=
 bif (ilt 0 a2) then
  (bif (ilt (wsub .i64 9223372036854775807 a2) a1) then
   (some (0, false))
  else
  bif (ilt a2 0) then
   (bif (ilt a1 (wsub .i64 (-9223372036854775808) a2)) then
    (some (0, false))
   else
   some ((wadd .i64 a1 a2), true))
  else
  some ((wadd .i64 a1 a2), true))
 else
 bif (ilt a2 0) then
  (bif (ilt a1 (wsub .i64 (-9223372036854775808) a2)) then
   (some (0, false))
  else
  some ((wadd .i64 a1 a2), true))
 else
 some ((wadd .i64 a1 a2), true)
def F76 (K : Nat) (a1 : Int) (a2 : Int) (a3 : GEdge) (a4 : Int) : Option (Int × Bool) :=
 bif (ieq a1 1) then
  ((FR K a2 a3.W).bind fun r5 =>
  some (r5.1, r5.2))
 else
 bif (ieq a1 3) then
  ((FR K a2 1).bind fun r6 =>
  some (r6.1, r6.2))
 else
 bif (ieq a1 5) then
  ((GK K a2 1 a4).bind fun r7 =>
  some (r7.1, r7.2))
 else
 some (a2, true)
def FQ (K : Nat) (v1 : Int) (v2 : Int) (v3 : Int) (v4 : Int) (v5 : Int) (v6 : Bool) (v7 : List GEdge) : Nat → List GMsg → Int → Option ((Unit) ⊕ (List GMsg))
 | 0, _, _ => none
 | k + 1, v8, v9 =>
  bif (ilt v9 (nlen (len v7))) then
   (bif v6 then
    (bif (inr v9 (len v7)) then
    (elAt v7 v9).bind fun x10 =>
    (F76 K v2 v1 x10 (nlen (len v7))).bind fun r11 =>
    bif r11.2 then
     (bif (apok (len v8) 1 16) then
     FQ K v1 v2 v3 v4 v5 v6 v7 k (appL v8 [(GMsg.mk x10.To r11.1)]) (wadd .i64 v9 1)
     else none)
    else
    some (.inl ())
    else none)
   else
   some (.inr v8))
  else
  some (.inr v8)
def GV (K : Nat) (v1 : Int) (v2 : Int) (v3 : Int) (v4 : Int) (v5 : Int) (v6 : List GEdge) : Nat → List GMsg → Int → Option ((Unit) ⊕ (List GMsg))
 | 0, _, _ => none
 | k + 1, v7, v8 =>
  bif (ilt v8 (nlen (len v6))) then
   (bif (inr v8 (len v6)) then
   (elAt v6 v8).bind fun x9 =>
   (F76 K v2 v1 x9 (nlen (len v6))).bind fun r10 =>
   bif r10.2 then
    (bif (apok (len v7) 1 16) then
    GV K v1 v2 v3 v4 v5 v6 k (appL v7 [(GMsg.mk x9.To r10.1)]) (wadd .i64 v8 1)
    else none)
   else
   some (.inl ())
   else none)
  else
  some (.inr v7)
def F0 (K : Nat) (v1 : Int) (v2 : Int) (v3 : Int) (v4 : Int) (v5 : Int) (v6 : Bool) (v7 : List GEdge) : Nat → List GMsg → Int → Option ((Unit) ⊕ (List GMsg))
 | 0, _, _ => none
 | k + 1, v8, v9 =>
  bif (ilt v9 (nlen (len v7))) then
   (bif v6 then
    (bif (inr v9 (len v7)) then
    (elAt v7 v9).bind fun x10 =>
    (F76 K v2 v1 x10 (nlen (len v7))).bind fun r11 =>
    bif r11.2 then
     (bif (apok (len v8) 1 16) then
     F0 K v1 v2 v3 v4 v5 v6 v7 k (appL v8 [(GMsg.mk x10.To r11.1)]) (wadd .i64 v9 1)
     else none)
    else
    some (.inl ())
    else none)
   else
   some (.inr v8))
  else
  some (.inr v8)
def Gu (K : Nat) (v1 : Int) (v2 : Int) (v3 : Int) (v4 : Int) (v5 : Int) (v6 : List GEdge) : Nat → List GMsg → Int → Option (((List GMsg)) ⊕ (Unit))
 | 0, _, _ => none
 | k + 1, v7, v8 =>
  bif (ilt v8 (nlen (len v6))) then
   (bif (ieq v1 v1) then
    (some (.inl v7))
   else
   bif (inr v8 (len v6)) then
   (elAt v6 v8).bind fun x9 =>
   (F76 K v2 v1 x9 (nlen (len v6))).bind fun r10 =>
   bif r10.2 then
    (bif (apok (len v7) 1 16) then
    Gu K v1 v2 v3 v4 v5 v6 k (appL v7 [(GMsg.mk x9.To r10.1)]) (wadd .i64 v8 1)
    else none)
   else
   some (.inr ())
   else none)
  else
  some (.inl v7)
def goI {α σ β : Type} (step : Nat → α → σ → (σ → Option β) → Option β) (fin : σ → Option β) : Nat → List α → σ → Option β
 | _, [], s => fin s
 | i, x :: r, s => step i x s (goI step fin (i + 1) r)
def goL {α σ β : Type} (step : α → σ → (σ → Option β) → Option β) (fin : σ → Option β) : List α → σ → Option β
 | [], s => fin s
 | x :: r, s => step x s (goL step fin r)
theorem Ew {α : Type} {l : List α} {i : Nat} {x : α} {r : List α} (h : l.drop i = x :: r) : i < l.length := by
 rcases Nat.lt_or_ge i l.length with g | g
 · exact g
 · rw [List.drop_eq_nil_of_le g] at h; cases h
theorem CL {α σ β : Type} {l : List α} {L : Nat → σ → Int → Option β} (step : Nat → α → σ → (σ → Option β) → Option β) (fin : σ → Option β)
 (h : ∀ k s (i : Nat), i ≤ l.length → L (k + 1) s i = bif ilt i (nlen (len l)) then (bif inr i (len l) then (elAt l i).bind fun x => step i x s (fun s' => L k s' (wadd .i64 i 1)) else none) else fin s)
 (hl : l.length < 4611686018427387904) : ∀ (k : Nat) (s : σ) (i : Nat), l.length - i < k → i ≤ l.length → L k s i = goI step fin i (l.drop i) s := by
 intro k
 induction k with
 | zero => intro s i h; omega
 | succ k ih =>
  intro s i hk hi
  rw [h k s i hi]
  rcases F5 l i with ⟨x, e1, e2, e3, e4⟩ | ⟨e1, e2⟩
  · have hlt := Ew e1
    rw [e1, e2, e3, e4]
    simp only [cT, bS, goI]
    congr 1
    funext s'
    rw [FS om]
    exact ih s' (i + 1) om om
  · rw [e1, e2]; rfl
theorem Aq {α σ β : Type} {l : List α} {L : Nat → σ → Int → Option β} (step : α → σ → (σ → Option β) → Option β) (fin : σ → Option β)
 (h : ∀ k s (i : Nat), i ≤ l.length → L (k + 1) s i = bif ilt i (nlen (len l)) then (bif inr i (len l) then (elAt l i).bind fun x => step x s (fun s' => L k s' (wadd .i64 i 1)) else none) else fin s)
 (hl : l.length < 4611686018427387904) {K : Nat} (hK : l.length < K) (s : σ) : L K s 0 = goL step fin l s := by
 have e : ∀ (i : Nat) (r : List α) (s : σ), goI (fun _ => step) fin i r s = goL step fin r s := by
  intro i r
  induction r generalizing i with
  | nil => intro s; rfl
  | cons x r ih =>
   intro s
   simp only [goI, goL]
   congr 1
   funext s'
   exact ih (i + 1) s'
 have := CL (fun _ => step) fin h hl K s 0 om om
 rw [e, List.drop_zero] at this
 exact this
theorem FV (a b : Int) : ilt a b = !(ile b a) := by
 unfold ilt ile
 by_cases h : a < b <;> simp [h] <;> omega
theorem Cz (a : Int) : ieq a a = true := by simp [ieq]
theorem C1 {a b : Int} : ile a b = true ↔ a ≤ b := decide_eq_true_iff
theorem Ae {a b : Int} : ilt a b = true ↔ a < b := decide_eq_true_iff
theorem Al {a b : Int} : ieq a b = true ↔ a = b := by simp [ieq]
theorem DA {a b : Int} : ile a b = false ↔ b < a := by simp [ile]
theorem Ad {a b : Int} : ilt a b = false ↔ b ≤ a := by simp [ilt]
theorem Ao {a b : Int} : ieq a b = false ↔ a ≠ b := by simp [ieq]
def B0 (n : Int) (e : GEdge) : Int :=
 bif ilt e.From 0 || ile n e.From || ilt e.To 0 || ile n e.To then 4 else bif ilt e.W 0 || ilt 4611686018427387904 e.W then 1 else 0
def BZ (d e : GEdge) : Int := bif ieq d.From e.From && ieq d.To e.To then 5 else bif ilt e.From d.From || (ieq d.From e.From && ilt e.To d.To) then 6 else 0
def BU (n : Int) : Option GEdge → List GEdge → Int
 | _, [] => 0
 | prev, e :: r => bif ieq (B0 n e) 0 then (match prev with
  | none => BU n (some e) r
  | some d => bif ieq (BZ d e) 0 then BU n (some e) r else BZ d e) else B0 n e
def BN (g : GGraph) : Int := bif ilt g.N 1 || ilt 24 g.N then 1 else bif ilt 80 (nlen (len g.Edges)) then 3 else BU g.N none g.Edges
def D0 {α : Type} (l : List α) : Nat → Option α
 | 0 => none
 | i + 1 => l[i]?
theorem KS {i : Nat} (h0 : 0 < i) (h : i < 4611686018427387904) : wsub .i64 (i : Int) 1 = ((i - 1 : Nat) : Int) := by
 show IntKind.i64.wrap ((i : Int) - 1) = _
 rw [IntKind.wrap_i64]; omega
theorem LK {α : Type} {l : List α} {i : Nat} (h0 : 0 < i) (hi : i < l.length) (hl : l.length < 4611686018427387904) :
 ∃ d, D0 l i = some d ∧ wsub .i64 (i : Int) 1 = ((i - 1 : Nat) : Int) ∧ inr ((i - 1 : Nat) : Int) (len l) = true ∧ elAt l ((i - 1 : Nat) : Int) = some d := by
 obtain ⟨j, rfl⟩ : ∃ j, i = j + 1 := ⟨i - 1, by omega⟩
 refine ⟨l[j], by simp [D0], KS h0 om, decide_eq_true ⟨by omega, by show ((j + 1 - 1 : Nat) : Int) < (l.length : Int); omega⟩, ?_⟩
 rw [BD]
 simp
theorem MD {α : Type} {l : List α} {i : Nat} {x : α} {r : List α} (h : l.drop i = x :: r) : D0 l (i + 1) = some x ∧ l.drop (i + 1) = r ∧ i < l.length := by
 have hi := Ew h
 have := List.drop_eq_getElem_cons hi
 rw [h] at this
 injection this with a b
 exact ⟨by simp [D0, hi, a], b.symm, hi⟩
def D1 (v : Int) : Int ⊕ Unit := bif ieq v 0 then .inr () else .inl v
theorem MX (K : Nat) (e : GEdge) (n : Int) : F79 K e n = some (B0 n e) := by
 rw [F79, B0]
 cases ilt e.From 0 <;> cases ile n e.From <;> cases ilt e.To 0 <;> cases ile n e.To <;> cases ilt e.W 0 <;> cases ilt 4611686018427387904 e.W <;> rfl
theorem D6 {n : Int} {e : GEdge} (h : ieq (B0 n e) 0 = true) : 0 ≤ e.From ∧ e.From < n ∧ 0 ≤ e.To ∧ e.To < n ∧ 0 ≤ e.W ∧ e.W ≤ 4611686018427387904 := by
 rw [B0] at h
 cases h1 : ilt e.From 0 || ile n e.From || ilt e.To 0 || ile n e.To
 · cases h2 : ilt e.W 0 || ilt 4611686018427387904 e.W
   · simp only [Bool.or_eq_false_iff, Ad, DA] at h1 h2
     omega
   · rw [h1, h2] at h; cases h
 · rw [h1] at h; cases h
end
end Go.Proofs.Ytbaihlhoedbpkaa.Tm

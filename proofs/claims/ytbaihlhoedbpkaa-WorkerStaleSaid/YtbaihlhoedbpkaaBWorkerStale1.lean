/- What the row of WorkerStale leans on: printed functions and plain laws. Conditions: none. -/
import Derived.Test.YtbaihlhoedbpkaaTy
import Derived.Test.YtbaihlhoedbpkaaTab
import Derived.Test.YtbaihlhoedbpkaaKn
import Derived.Test.YtbaihlhoedbpkaaWf
import Derived.IntWalk
import Derived.KernelRfl
import Derived.OpenShut
set_option linter.unusedVariables false
set_option linter.unusedSimpArgs false
namespace Go.Proofs.Ytbaihlhoedbpkaa.Tm
open Go
noncomputable section
theorem bS {α β : Type} (a : α) (f : α → Option β) : (some a).bind f = f a := rfl
theorem cT {α : Type} (a b : α) : (bif true then a else b) = a := rfl
theorem cF {α : Type} (a b : α) : (bif false then a else b) = b := rfl
theorem om {p : Prop} (h : p := by omega) : p := h
abbrev PQ (h : Hint) (f : List Cond → List Cond) : Prop := ∀ {l : List Cond}, HoldAll E H h l → HoldAll E H h (f l)
abbrev HA (h : Hint) (l : List Cond) : Prop := HoldAll E H h l
abbrev tt (b : Bool) : Cond := .test b true
abbrev ff (b : Bool) : Cond := .test b false
abbrev bt : Cond := .test (beqb true false) false
abbrev bf (b : Bool) : Cond := .test (beqb b false) false
abbrev bg (b : Bool) : Cond := .test (beqb b false) true
abbrev bh (b : Bool) : Cond := .test (beqb b true) true
abbrev bk (b : Bool) : Cond := .test (beqb b true) false
abbrev nl {α : Type} (l : List α) : Int := nlen (len l)
abbrev i6 (n : Int) : T := .lit (.int .i64 n)
abbrev e6 : Int → List T := eInt .i64
abbrev sE {α : Type} (e : α → List T) (l : List α) : T := .sl (len l) (flat e l)
abbrev uI (n : Int) : Ent := ⟨.im, 0, i6 n⟩
abbrev uB (b : Bool) : Ent := ⟨.im, 0, .lit (.bool b)⟩
abbrev uS {α : Type} (e : α → List T) (l : List α) : Ent := ⟨.im, 0, sE e l⟩
abbrev uO {α : Type} (n : Nat) (e : α → List T) (l : List α) : Ent := ⟨.own n, 0, sE e l⟩
abbrev uN (n : Nat) : Ent := ⟨.own n, 0, .sl 0 []⟩
abbrev uX (a b : Nat) : Ent := ⟨.box a b, 0, nob⟩
abbrev u0 : Ent := ⟨.one, 0, nob⟩
abbrev mI (n : Int) : RC := .im (i6 n)
abbrev mB (b : Bool) : RC := .im (.lit (.bool b))
abbrev mS {α : Type} (e : α → List T) (l : List α) : RC := .im (sE e l)
def sq : Nat → List Ent → List (Nat × Ent) → List (Nat × Ent)
 | _, [], r => r
 | k, e :: l, r => (k, e) :: sq (k + 1) l r
def kq : Nat → Nat → List Nat → List Nat
 | _, 0, r => r
 | k, n + 1, r => k :: kq (k + 1) n r
abbrev on (l : List (Nat × Ent)) : TS := .on (l.map (·.1)) l
theorem sj {α : Type} {a b : α} (h : some a = some b) : a = b := Option.some.inj h
theorem br : beqb true false = false := rfl
theorem bA {c : Bool} (h : c = true) : beqb c false = false := beqb_ft h
theorem bB {c : Bool} (h : c = false) : beqb c false = true := beqb_ff h
theorem bC {c v : Bool} (h : c = v) : beqb c true = v := beqb_t h
theorem lk {r : Res} {v : Bool} (h : leadsAny r = v := by simp [leadsAny, RV.leads, RC.leads, leadsT, hasSl_lit, flat_ns (eInt_ns _), flat_ns eBool_ns, flat_ns eGEdge_ns, flat_ns eGJob_ns, flat_ns eGMsg_ns]) : leadsAny r = v := h
theorem fpC (h : Hint) {f : FuncId} {ads : List AD} {r : Res} {cs : List Cond} (hc : HA h cs) (hh : hintT E H f ads = h := by kernel_rfl) (hp : (fnT E H f ads).play (ansL cs) = some (.res r, cs) := by kernel_rfl) : Evt E H f ads r := fn_playC h hc hh hp
theorem lE {h : Hint} {l : Nat} {c : Code} {ts ts' : TS} {ex : Ex} {cs : List Cond} (hc : HA h cs) (hp : (roundF E h l c ts).play (ansL cs) = some (.code ex ts', cs) := by kernel_rfl) (hx : match ex with | .normal => False | _ => True := by trivial) : LoopEv E H h l c ts ex ts' := loop_endC hc hp (by cases ex <;> first | exact hx | trivial)
theorem lN1 {h : Hint} {l : Nat} {c : Code} {ts ts1 ts' : TS} {ex : Ex} {cs : List Cond} (hc : HA h cs) (hn : LoopEv E H h l c ts1 ex ts') (hp : (roundF E h l c ts).play (ansL cs) = some (.code .normal ts1, cs) := by kernel_rfl) : LoopEv E H h l c ts ex ts' := loop_nextC hc hp hn
theorem lN2 {α β : Type} {r : α ⊕ β} {h : Hint} {l : Nat} {c : Code} {ts ts1 : TS} {x : α → TS} {y : β → TS} {ex ey : Ex} {cs : List Cond} (hc : HA h cs) (hn : Sum.elim (fun w => LoopEv E H h l c ts1 ex (x w)) (fun w => LoopEv E H h l c ts1 ey (y w)) r) (hp : (roundF E h l c ts).play (ansL cs) = some (.code .normal ts1, cs) := by kernel_rfl) : Sum.elim (fun w => LoopEv E H h l c ts ex (x w)) (fun w => LoopEv E H h l c ts ey (y w)) r := by cases r <;> exact loop_nextC hc hp hn
theorem jr {α : Type} {P : α → Prop} {a r : α} (h : some a = some r) (p : P a) : P r := sj h ▸ p
theorem jc {α : Type} {G : Prop} {c : Bool} {a b : Option α} {r : α} (h : (bif c then a else b) = some r) (f : c = true → a = some r → G) (g : c = false → b = some r → G) : G := cond_some h f g
theorem jn {α : Type} {G : Prop} {c : Bool} {a : Option α} {r : α} (h : (bif c then a else none) = some r) (f : c = true → a = some r → G) : G := cond_some h f fun _ x => nomatch x
theorem jb {α β : Type} {G : Prop} {o : Option α} {f : α → Option β} {r : β} (h : o.bind f = some r) (k : ∀ x, o = some x → f x = some r → G) : G := bind_some h k
theorem js {α β γ : Type} {G : Prop} {x : α ⊕ β} {f : α → Option γ} {g : β → Option γ} {r : γ} (h : Sum.elim f g x = some r) (h1 : ∀ a, x = .inl a → f a = some r → G) (h2 : ∀ b, x = .inr b → g b = some r → G) : G := sum_some h h1 h2
section
variable {h : Hint} {l : List Cond} {c : Bool}
theorem z0 : HA h [] := trivial
theorem zX (x : Cond) (p : x.Holds E H h) (z : HA h l) : HA h (x :: l) := ⟨p, z⟩
theorem zY (x : Cond) (z : HA h l) (p : x.Holds E H h := by first | exact rfl | (unfold Cond.Holds; decide)) : HA h (x :: l) := ⟨p, z⟩
theorem zT (p : c = true) (z : HA h l) : HA h (tt c :: l) := ⟨p, z⟩
theorem zF (p : c = false) (z : HA h l) : HA h (ff c :: l) := ⟨p, z⟩
theorem zi (n : Int) (z : HA h l) : HA h (.int n n :: l) := ⟨rfl, z⟩
theorem zc {f : FuncId} {ds : List AD} {r : Res} (p : Evt E H f ds r) (z : HA h l) : HA h (.call f ds r :: l) := ⟨p, z⟩
theorem zl {f : FuncId} {ds : List AD} {r : Res} (p : Evt E H f ds r) (z : HA h l) (y : leadsAny r = false := by show leadsAny (Res.mk _ _) = _; simp [leadsAny, RV.leads, RC.leads, leadsT, hasSl_lit, flat_ns (eInt_ns _), flat_ns eBool_ns, flat_ns eGEdge_ns, flat_ns eGJob_ns, flat_ns eGMsg_ns]) : HA h (.call f ds r :: ff (leadsAny r) :: l) := ⟨p, y, z⟩
theorem zo {n : Nat} {k : Code} {t u : TS} {e : Ex} (p : LoopEv E H h n k t e u) (z : HA h l) : HA h (.loop n k t e u :: l) := ⟨p, z⟩
theorem zV {m n : Nat} {a b : List T} (p : m = n ∧ a = b) (z : HA h l) : HA h (.sl m a n b :: l) := ⟨p, z⟩
theorem zS {α : Type} {e : α → List T} {m : Nat} (q : ∀ x, (e x).length = m) {t : List α} {i : Int} {x : α} (hx : elAt t i = some x) (n : Nat) (z : HA h l) (hn : n ≤ m := by decide) : HA h (.sub (flat e t) (nidx i m) n ((e x).take n) :: l) := ⟨⟨by rw [List.length_take, q]; omega, sub_flat0 q hx n hn⟩, z⟩
theorem zU {α : Type} {e : α → List T} {m : Nat} (q : ∀ x, (e x).length = m) {t : List α} {i : Int} {x : α} (hx : elAt t i = some x) (o n : Nat) (z : HA h l) (hn : o + n ≤ m := by decide) : HA h (.sub (flat e t) (nadd (nidx i m) o) n (((e x).drop o).take n) :: l) := ⟨⟨by rw [List.length_take, List.length_drop, q]; omega, sub_flat q hx o n hn⟩, z⟩
theorem zt1 (z : HA h l) : HA h (bt :: l) := ⟨br, z⟩
theorem zt2 (z : HA h l) : HA h (bt :: bt :: l) := ⟨br, br, z⟩
theorem zt3 (z : HA h l) : HA h (bt :: bt :: bt :: l) := ⟨br, br, br, z⟩
theorem zt4 (z : HA h l) : HA h (bt :: bt :: bt :: bt :: l) := ⟨br, br, br, br, z⟩
theorem zt5 (z : HA h l) : HA h (bt :: bt :: bt :: bt :: bt :: l) := ⟨br, br, br, br, br, z⟩
theorem zt6 (z : HA h l) : HA h (bt :: bt :: bt :: bt :: bt :: bt :: l) := ⟨br, br, br, br, br, br, z⟩
theorem zk1 (z : HA h l) : HA h (bk false :: l) := ⟨bC rfl, z⟩
theorem zk2 (z : HA h l) : HA h (bk false :: bk false :: l) := ⟨bC rfl, bC rfl, z⟩
theorem zk3 (z : HA h l) : HA h (bk false :: bk false :: bk false :: l) := ⟨bC rfl, bC rfl, bC rfl, z⟩
theorem zk4 (z : HA h l) : HA h (bk false :: bk false :: bk false :: bk false :: l) := ⟨bC rfl, bC rfl, bC rfl, bC rfl, z⟩
theorem zk5 (z : HA h l) : HA h (bk false :: bk false :: bk false :: bk false :: bk false :: l) := ⟨bC rfl, bC rfl, bC rfl, bC rfl, bC rfl, z⟩
theorem zk6 (z : HA h l) : HA h (bk false :: bk false :: bk false :: bk false :: bk false :: bk false :: l) := ⟨bC rfl, bC rfl, bC rfl, bC rfl, bC rfl, bC rfl, z⟩
theorem zr1 (z : HA h l) : HA h (tt true :: l) := ⟨rfl, z⟩
theorem zr2 (z : HA h l) : HA h (tt true :: tt true :: l) := ⟨rfl, rfl, z⟩
theorem zr3 (z : HA h l) : HA h (tt true :: tt true :: tt true :: l) := ⟨rfl, rfl, rfl, z⟩
theorem zr4 (z : HA h l) : HA h (tt true :: tt true :: tt true :: tt true :: l) := ⟨rfl, rfl, rfl, rfl, z⟩
theorem zr5 (z : HA h l) : HA h (tt true :: tt true :: tt true :: tt true :: tt true :: l) := ⟨rfl, rfl, rfl, rfl, rfl, z⟩
theorem zr6 (z : HA h l) : HA h (tt true :: tt true :: tt true :: tt true :: tt true :: tt true :: l) := ⟨rfl, rfl, rfl, rfl, rfl, rfl, z⟩
theorem zf1 (z : HA h l) : HA h (ff false :: l) := ⟨rfl, z⟩
theorem zf2 (z : HA h l) : HA h (ff false :: ff false :: l) := ⟨rfl, rfl, z⟩
theorem zf3 (z : HA h l) : HA h (ff false :: ff false :: ff false :: l) := ⟨rfl, rfl, rfl, z⟩
theorem zf4 (z : HA h l) : HA h (ff false :: ff false :: ff false :: ff false :: l) := ⟨rfl, rfl, rfl, rfl, z⟩
theorem zf5 (z : HA h l) : HA h (ff false :: ff false :: ff false :: ff false :: ff false :: l) := ⟨rfl, rfl, rfl, rfl, rfl, z⟩
theorem zf6 (z : HA h l) : HA h (ff false :: ff false :: ff false :: ff false :: ff false :: ff false :: l) := ⟨rfl, rfl, rfl, rfl, rfl, rfl, z⟩
theorem zn1 (z : HA h l) : HA h (ff (bnot true) :: l) := ⟨bnot_t rfl, z⟩
theorem zn2 (z : HA h l) : HA h (ff (bnot true) :: ff (bnot true) :: l) := ⟨bnot_t rfl, bnot_t rfl, z⟩
theorem zn3 (z : HA h l) : HA h (ff (bnot true) :: ff (bnot true) :: ff (bnot true) :: l) := ⟨bnot_t rfl, bnot_t rfl, bnot_t rfl, z⟩
theorem zn4 (z : HA h l) : HA h (ff (bnot true) :: ff (bnot true) :: ff (bnot true) :: ff (bnot true) :: l) := ⟨bnot_t rfl, bnot_t rfl, bnot_t rfl, bnot_t rfl, z⟩
theorem zn5 (z : HA h l) : HA h (ff (bnot true) :: ff (bnot true) :: ff (bnot true) :: ff (bnot true) :: ff (bnot true) :: l) := ⟨bnot_t rfl, bnot_t rfl, bnot_t rfl, bnot_t rfl, bnot_t rfl, z⟩
theorem zn6 (z : HA h l) : HA h (ff (bnot true) :: ff (bnot true) :: ff (bnot true) :: ff (bnot true) :: ff (bnot true) :: ff (bnot true) :: l) := ⟨bnot_t rfl, bnot_t rfl, bnot_t rfl, bnot_t rfl, bnot_t rfl, bnot_t rfl, z⟩
theorem zA1 (p : c = true) (z : HA h l) : HA h (bf c :: l) := ⟨bA p, z⟩
theorem CX (p : c = true) (z : HA h l) : HA h (bf c :: tt c :: l) := ⟨bA p, p, z⟩
theorem zA2 (p : c = true) (z : HA h l) : HA h (bf c :: bf c :: l) := ⟨bA p, bA p, z⟩
theorem BS (p : c = true) (z : HA h l) : HA h (bf c :: bf c :: tt c :: l) := ⟨bA p, bA p, p, z⟩
theorem zA3 (p : c = true) (z : HA h l) : HA h (bf c :: bf c :: bf c :: l) := ⟨bA p, bA p, bA p, z⟩
theorem Af (p : c = true) (z : HA h l) : HA h (bf c :: bf c :: bf c :: tt c :: l) := ⟨bA p, bA p, bA p, p, z⟩
theorem zA4 (p : c = true) (z : HA h l) : HA h (bf c :: bf c :: bf c :: bf c :: l) := ⟨bA p, bA p, bA p, bA p, z⟩
theorem D5 (p : c = true) (z : HA h l) : HA h (bf c :: bf c :: bf c :: bf c :: tt c :: l) := ⟨bA p, bA p, bA p, bA p, p, z⟩
theorem zA5 (p : c = true) (z : HA h l) : HA h (bf c :: bf c :: bf c :: bf c :: bf c :: l) := ⟨bA p, bA p, bA p, bA p, bA p, z⟩
theorem AQ (p : c = true) (z : HA h l) : HA h (bf c :: bf c :: bf c :: bf c :: bf c :: tt c :: l) := ⟨bA p, bA p, bA p, bA p, bA p, p, z⟩
theorem zA6 (p : c = true) (z : HA h l) : HA h (bf c :: bf c :: bf c :: bf c :: bf c :: bf c :: l) := ⟨bA p, bA p, bA p, bA p, bA p, bA p, z⟩
theorem Ew (p : c = true) (z : HA h l) : HA h (bf c :: bf c :: bf c :: bf c :: bf c :: bf c :: tt c :: l) := ⟨bA p, bA p, bA p, bA p, bA p, bA p, p, z⟩
theorem zB1 (p : c = false) (z : HA h l) : HA h (bg c :: l) := ⟨bB p, z⟩
theorem AA (p : c = false) (z : HA h l) : HA h (bg c :: ff c :: l) := ⟨bB p, p, z⟩
theorem zB2 (p : c = false) (z : HA h l) : HA h (bg c :: bg c :: l) := ⟨bB p, bB p, z⟩
theorem Cw (p : c = false) (z : HA h l) : HA h (bg c :: bg c :: ff c :: l) := ⟨bB p, bB p, p, z⟩
theorem zB3 (p : c = false) (z : HA h l) : HA h (bg c :: bg c :: bg c :: l) := ⟨bB p, bB p, bB p, z⟩
theorem Ah (p : c = false) (z : HA h l) : HA h (bg c :: bg c :: bg c :: ff c :: l) := ⟨bB p, bB p, bB p, p, z⟩
theorem zB4 (p : c = false) (z : HA h l) : HA h (bg c :: bg c :: bg c :: bg c :: l) := ⟨bB p, bB p, bB p, bB p, z⟩
theorem FJ (p : c = false) (z : HA h l) : HA h (bg c :: bg c :: bg c :: bg c :: ff c :: l) := ⟨bB p, bB p, bB p, bB p, p, z⟩
theorem zB5 (p : c = false) (z : HA h l) : HA h (bg c :: bg c :: bg c :: bg c :: bg c :: l) := ⟨bB p, bB p, bB p, bB p, bB p, z⟩
theorem BP (p : c = false) (z : HA h l) : HA h (bg c :: bg c :: bg c :: bg c :: bg c :: ff c :: l) := ⟨bB p, bB p, bB p, bB p, bB p, p, z⟩
theorem zB6 (p : c = false) (z : HA h l) : HA h (bg c :: bg c :: bg c :: bg c :: bg c :: bg c :: l) := ⟨bB p, bB p, bB p, bB p, bB p, bB p, z⟩
theorem Q8 (p : c = false) (z : HA h l) : HA h (bg c :: bg c :: bg c :: bg c :: bg c :: bg c :: ff c :: l) := ⟨bB p, bB p, bB p, bB p, bB p, bB p, p, z⟩
theorem zC1 (p : c = true) (z : HA h l) : HA h (bh c :: l) := ⟨bC p, z⟩
theorem Dh (p : c = true) (z : HA h l) : HA h (bh c :: tt c :: l) := ⟨bC p, p, z⟩
theorem zC2 (p : c = true) (z : HA h l) : HA h (bh c :: bh c :: l) := ⟨bC p, bC p, z⟩
theorem ID (p : c = true) (z : HA h l) : HA h (bh c :: bh c :: tt c :: l) := ⟨bC p, bC p, p, z⟩
theorem zC3 (p : c = true) (z : HA h l) : HA h (bh c :: bh c :: bh c :: l) := ⟨bC p, bC p, bC p, z⟩
theorem D1 (p : c = true) (z : HA h l) : HA h (bh c :: bh c :: bh c :: tt c :: l) := ⟨bC p, bC p, bC p, p, z⟩
theorem zC4 (p : c = true) (z : HA h l) : HA h (bh c :: bh c :: bh c :: bh c :: l) := ⟨bC p, bC p, bC p, bC p, z⟩
theorem GT (p : c = true) (z : HA h l) : HA h (bh c :: bh c :: bh c :: bh c :: tt c :: l) := ⟨bC p, bC p, bC p, bC p, p, z⟩
theorem zC5 (p : c = true) (z : HA h l) : HA h (bh c :: bh c :: bh c :: bh c :: bh c :: l) := ⟨bC p, bC p, bC p, bC p, bC p, z⟩
theorem C3 (p : c = true) (z : HA h l) : HA h (bh c :: bh c :: bh c :: bh c :: bh c :: tt c :: l) := ⟨bC p, bC p, bC p, bC p, bC p, p, z⟩
theorem zC6 (p : c = true) (z : HA h l) : HA h (bh c :: bh c :: bh c :: bh c :: bh c :: bh c :: l) := ⟨bC p, bC p, bC p, bC p, bC p, bC p, z⟩
theorem IC (p : c = true) (z : HA h l) : HA h (bh c :: bh c :: bh c :: bh c :: bh c :: bh c :: tt c :: l) := ⟨bC p, bC p, bC p, bC p, bC p, bC p, p, z⟩
theorem zD1 (p : c = false) (z : HA h l) : HA h (bk c :: l) := ⟨bC p, z⟩
theorem Gl (p : c = false) (z : HA h l) : HA h (bk c :: ff c :: l) := ⟨bC p, p, z⟩
theorem zD2 (p : c = false) (z : HA h l) : HA h (bk c :: bk c :: l) := ⟨bC p, bC p, z⟩
theorem Kc (p : c = false) (z : HA h l) : HA h (bk c :: bk c :: ff c :: l) := ⟨bC p, bC p, p, z⟩
theorem zD3 (p : c = false) (z : HA h l) : HA h (bk c :: bk c :: bk c :: l) := ⟨bC p, bC p, bC p, z⟩
theorem CL (p : c = false) (z : HA h l) : HA h (bk c :: bk c :: bk c :: ff c :: l) := ⟨bC p, bC p, bC p, p, z⟩
theorem zD4 (p : c = false) (z : HA h l) : HA h (bk c :: bk c :: bk c :: bk c :: l) := ⟨bC p, bC p, bC p, bC p, z⟩
theorem El (p : c = false) (z : HA h l) : HA h (bk c :: bk c :: bk c :: bk c :: ff c :: l) := ⟨bC p, bC p, bC p, bC p, p, z⟩
theorem zD5 (p : c = false) (z : HA h l) : HA h (bk c :: bk c :: bk c :: bk c :: bk c :: l) := ⟨bC p, bC p, bC p, bC p, bC p, z⟩
theorem Ag (p : c = false) (z : HA h l) : HA h (bk c :: bk c :: bk c :: bk c :: bk c :: ff c :: l) := ⟨bC p, bC p, bC p, bC p, bC p, p, z⟩
theorem zD6 (p : c = false) (z : HA h l) : HA h (bk c :: bk c :: bk c :: bk c :: bk c :: bk c :: l) := ⟨bC p, bC p, bC p, bC p, bC p, bC p, z⟩
theorem FH (p : c = false) (z : HA h l) : HA h (bk c :: bk c :: bk c :: bk c :: bk c :: bk c :: ff c :: l) := ⟨bC p, bC p, bC p, bC p, bC p, bC p, p, z⟩
end
abbrev b0 (k : Nat) (x : GWorker) (r : List (Nat × Ent)) : List (Nat × Ent) := sq k [(uX 38 11), (uI x.Id), (uI x.Goal), (uI x.Until), (uI x.T.Epoch), (uS e6 x.T.Owners), (uS e6 x.T.Ids), (uS e6 x.T.Incs), (uO 69 eGHeld x.Held), (uO 112 eGData x.Buf), (uO 113 eGComing x.Coming), (uO 86 eGPost x.Out)] r
abbrev b2 (k : Nat) (x : GGraph) (r : List (Nat × Ent)) : List (Nat × Ent) := sq k [(uX 24 2), (uI x.N), (uS eGEdge x.Edges)] r
abbrev b3 (k : Nat) (x : GJob) (r : List (Nat × Ent)) : List (Nat × Ent) := sq k [(uX 26 4), (uI x.Prog), (uI x.Source), (uI x.Limit), (uI x.Parts)] r
abbrev b4 (k : Nat) (r : List (Nat × Ent)) : List (Nat × Ent) := sq k [(uX 45 5), (uI 0), (uI 0), (uN 2), (uN 4), (uN 78)] r
abbrev b5 (k : Nat) (x : GMail) (r : List (Nat × Ent)) : List (Nat × Ent) := sq k [(uX 47 17), (uI x.Kind), (uI x.Epoch), (uI x.Fresh), (uI x.Step), (uI x.P), (uI x.Q), (uI x.To), (uI x.E), (uS e6 x.Owners), (uS e6 x.Ids), (uS e6 x.Incs), (uI x.X.P), (uI x.X.Step), (uS e6 x.X.Vals), (uS eBool x.X.Rest), (uS eGMsg x.X.In), (uS eGMsg x.Msgs)] r
abbrev b6 (k : Nat) (x : GWorker60) (r : List (Nat × Ent)) : List (Nat × Ent) := sq k [(uX 61 11), (uI x.Id), (uI x.Goal), (uI x.Until), (uI x.T.Epoch), (uS e6 x.T.Owners), (uS e6 x.T.Ids), (uS e6 x.T.Incs), (uS eGHeld x.Held), (uS eGData x.Buf), (uS eGComing x.Coming), (uS eGPost153 x.Out)] r
abbrev b8 (k : Nat) (r : List (Nat × Ent)) : List (Nat × Ent) := sq k [(uX 61 11), (uI 0), (uI 0), (uI 0), (uI 0), (uN 3), (uN 3), (uN 3), (uN 105), (uN 107), (uN 110), (uN 154)] r
abbrev b9 (k : Nat) (x : GPart) (r : List (Nat × Ent)) : List (Nat × Ent) := sq k [(uX 45 5), (uI x.P), (uI x.Step), (uS e6 x.Vals), (uS eBool x.Rest), (uS eGMsg x.In)] r
abbrev b12 (k : Nat) (x : GWorker) (r : List (Nat × Ent)) : List (Nat × Ent) := sq k [(uX 38 11), (uI x.Id), (uI x.Goal), (uI x.Until), (uI x.T.Epoch), (uS e6 x.T.Owners), (uS e6 x.T.Ids), (uS e6 x.T.Incs), (uS eGHeld x.Held), (uS eGData x.Buf), (uS eGComing x.Coming), (uS eGPost x.Out)] r
abbrev b13 (k : Nat) (x : GTable) (r : List (Nat × Ent)) : List (Nat × Ent) := sq k [(uX 32 4), (uI x.Epoch), (uS e6 x.Owners), (uS e6 x.Ids), (uS e6 x.Incs)] r
abbrev b14 (k : Nat) (r : List (Nat × Ent)) : List (Nat × Ent) := sq k [(uX 38 11), (uI 0), (uI 0), (uI 0), (uI 0), (uN 3), (uN 3), (uN 3), (uN 69), (uN 112), (uN 113), (uN 86)] r
abbrev wl0 (x : GWorker) : List RC := [(mI x.Id), (mI x.Goal), (mI x.Until), (mI x.T.Epoch), (mS e6 x.T.Owners), (mS e6 x.T.Ids), (mS e6 x.T.Incs), (.own 69 (sE eGHeld x.Held)), (.own 112 (sE eGData x.Buf)), (.own 113 (sE eGComing x.Coming)), (.own 86 (sE eGPost x.Out))]
theorem CE {α : Type} (l : List α) : nlen (len l) = (l.length : Int) := rfl
theorem BE {α : Type} (l : List α) (i : Nat) : elAt l (i : Int) = l[i]? := by simp [elAt]
theorem Jc {a b : Int} (h1 : -9223372036854775808 ≤ a + b) (h2 : a + b < 9223372036854775808) : wadd .i64 a b = a + b := by
 show IntKind.i64.wrap (a + b) = a + b
 rw [IntKind.wrap_i64]
 omega
theorem Gd {i : Nat} (h : i < 4611686018427387904) : wadd .i64 (i : Int) 1 = ((i + 1 : Nat) : Int) := by
 rw [Jc om om]; simp
theorem Hp {α : Type} (l : List α) (i : Nat) :
 (∃ x, l.drop i = x :: l.drop (i + 1) ∧ ilt (i : Int) (nlen (len l)) = true ∧ inr (i : Int) (len l) = true ∧ elAt l (i : Int) = some x) ∨
 (l.drop i = [] ∧ ilt (i : Int) (nlen (len l)) = false) := by
 by_cases h : i < l.length
 · left
   refine ⟨l[i], List.drop_eq_getElem_cons h, ?_, ?_, ?_⟩
   · simp [ilt, nlen, len]; omega
   · simp [inr, len]; omega
   · rw [BE]; simp [h]
 · right
   refine ⟨List.drop_eq_nil_of_le om, ?_⟩
   simp [ilt, nlen, len]; omega
def hn9 : Hint := { H 9 with nt := 7, prot := 0, kp := 0 }
def Pf (r6 : Bool) : Res := ⟨[(.one (mB r6))], []⟩
def F9 (K : Nat) (a5 : GGraph) : Option (Bool) :=
 some (igt (nlen (len a5.Edges)) 200)
theorem Ia (K : Nat) (a5 : GGraph) (r : Bool) (F : F9 K a5 = some r) : Evt E H 9 [.agg (eGGraph a5)] (Pf r) := by
 rw [F9] at F
 apply jr F
 exact fpC hn9 <| zi (nl a5.Edges) <| z0
def LM : Hint := { H 11 with nt := 5, prot := 0, kp := 0 }
def MF (r11 : GWorker) : Res := ⟨[(.agg [(mI r11.Id), (mI r11.Goal), (mI r11.Until), (mI r11.T.Epoch), (.own 3 (sE e6 r11.T.Owners)), (.own 3 (sE e6 r11.T.Ids)), (.own 3 (sE e6 r11.T.Incs)), (.own 69 (sE eGHeld r11.Held)), (.own 112 (sE eGData r11.Buf)), (.own 113 (sE eGComing r11.Coming)), (.own 86 (sE eGPost r11.Out))])], []⟩
def F11 (K : Nat) (a10 : Int) : Option (GWorker) :=
 some (GWorker.mk a10 (-1) 0 (GTable.mk 0 [] [] []) [] [] [] [])
theorem IY (K : Nat) (a10 : Int) (r : GWorker) (F : F11 K a10 = some r) : Evt E H 11 [.one (i6 a10)] (MF r) := by
 rw [F11] at F
 apply jr F
 exact fpC LM <| z0
def Hd : Hint := { H 12 with nt := 48, prot := 0, kp := 0 }
def NC : Code := loopOf E 12 0
def Lc (r41 : Int) : Res := ⟨[(.one (mI r41))], []⟩
def D6 (K : Nat)  : Nat → Int → List Int → Int → Option (Int)
 | 0, _, _, _ => none
 | k + 1, v26, v27, v28 =>
  bif (ilt v28 (nlen (len v27))) then
   (bif (inr v28 (len v27)) then
   (elAt v27 v28).bind fun x31 =>
   bif (ilt v26 x31) then
    (D6 K  k x31 v27 (wadd .i64 v28 1))
   else
   D6 K  k v26 v27 (wadd .i64 v28 1)
   else none)
  else
  some v26
def NW  (v26 : Int) (v27 : List Int) (v28 : Int) : TS := .on (kq 192 2 <| kq 256 2 <| kq 320 2 <| []) <| sq 192 [u0, (uI v26)] <| sq 256 [u0, (uO 3 e6 v27)] <| sq 320 [u0, (uI v28)] []
def Qf  (w34 : Int) : TS := .on (kq 192 2 <| []) <| sq 192 [u0, (uI w34)] []
theorem Ou (K : Nat)  : ∀ (k : Nat) (v26 : Int) (v27 : List Int) (v28 : Int) (r : Int), D6 K  k v26 v27 v28 = some r → LoopEv E H Hd 0 NC (NW  v26 v27 v28) (.exit 0) (Qf  r) := by
 intro k
 induction k with
 | zero => intro v26 v27 v28 r F; cases F
 | succ k ih =>
  intro v26 v27 v28 r F
  rw [D6] at F
  apply jc F <;> intro h29 F
  apply jn F; intro h30 F
  apply jb F; intro x31 h32 F
  have pq36 {l} (z : HA Hd l) := zi (nl v27) <| zT h29 <| zT h30 <| zX (.sub (flat e6 v27) (nidx v28 1) 1 [(i6 x31)]) ⟨rfl, sub_flat0 (eInt_len _) h32 1 (by decide)⟩ <| z
  apply jc F <;> intro h33 F
  exact lN1 (pq36 <| zT (igt_eq h33) <| zT h30 <| zX (.sub (flat e6 v27) (nidx v28 1) 1 [(i6 x31)]) ⟨rfl, sub_flat0 (eInt_len _) h32 1 (by decide)⟩ <| zi (wadd .i64 v28 1) <| z0) (ih _ _ _ _ F)
  exact lN1 (pq36 <| zF (igt_eq h33) <| zi (wadd .i64 v28 1) <| z0) (ih _ _ _ _ F)
  apply jr F
  exact lE <| zi (nl v27) <| zF h29 <| z0
def F12 (K : Nat) (a18 : GMail) : Option (Int) :=
 (D6 K  K (nlen (len a18.Owners)) [(nlen (len a18.Ids)), (nlen (len a18.Incs)), (nlen (len a18.X.Vals)), (nlen (len a18.X.Rest)), (nlen (len a18.X.In)), (nlen (len a18.Msgs))] 0).bind fun w39 =>
 some w39
theorem J7 (K : Nat) (a18 : GMail) (r : Int) (F : F12 K a18 = some r) : Evt E H 12 [.agg (eGMail a18)] (Lc r) := by
 rw [F12] at F
 apply jb F; intro w39 h37 F
 apply jr F
 exact fpC Hd <| zi (nl a18.Owners) <| zi (nl a18.Ids) <| zi (nl a18.Incs) <| zi (nl a18.X.Vals) <| zi (nl a18.X.Rest) <| zi (nl a18.X.In) <| zi (nl a18.Msgs) <| zo (Ou K  K (nl a18.Owners) [(nl a18.Ids), (nl a18.Incs), (nl a18.X.Vals), (nl a18.X.Rest), (nl a18.X.In), (nl a18.Msgs)] 0 _ h37) <| z0
def QM : Hint := { H 30 with nt := 24, prot := 0, kp := 0 }
def P9 (r59 : GWorker) : Res := ⟨[(.agg (wl0 r59))], []⟩
def F30 (K : Nat) (a54 : GWorker) : Option (GWorker) :=
 bif (apok 0 (len a54.Held) 96) then
 bif (apok 0 (len a54.Buf) 56) then
 bif (apok 0 (len a54.Coming) 96) then
 bif (apok 0 (len a54.Out) 264) then
 some (GWorker.mk a54.Id a54.Goal a54.Until a54.T (appL [] a54.Held) (appL [] a54.Buf) (appL [] a54.Coming) (appL [] a54.Out))
 else none
 else none
 else none
 else none
theorem Gi (K : Nat) (a54 : GWorker) (r : GWorker) (F : F30 K a54 = some r) : Evt E H 30 [.agg (eGWorker a54)] (P9 r) := by
 rw [F30] at F
 apply jn F; intro h55 F
 apply jn F; intro h56 F
 apply jn F; intro h57 F
 apply jn F; intro h58 F
 apply jr F
 exact fpC QM <| zX (tt (leqm (flat eGHeld a54.Held) (len a54.Held) 7)) (leqm_flat eGHeld_len _) <| zT h55 <| zV (app_ok (enc := eGHeld) ([] : List GHeld) a54.Held) <| zX (tt (leqm (flat eGData a54.Buf) (len a54.Buf) 5)) (leqm_flat eGData_len _) <| zT h56 <| zV (app_ok (enc := eGData) ([] : List GData) a54.Buf) <| zX (tt (leqm (flat eGComing a54.Coming) (len a54.Coming) 6)) (leqm_flat eGComing_len _) <| zT h57 <| zV (app_ok (enc := eGComing) ([] : List GComing) a54.Coming) <| zX (tt (leqm (flat eGPost a54.Out) (len a54.Out) 19)) (leqm_flat eGPost_len _) <| zT h58 <| zV (app_ok (enc := eGPost) ([] : List GPost) a54.Out) <| z0
def Cv : Hint := { H 79 with nt := 35, prot := 0, kp := 0 }
def Qz (r84 : Int) : Res := ⟨[(.one (mI r84))], []⟩
def F79 (K : Nat) (a72 : GEdge) (a73 : Int) : Option (Int) :=
 bif (ilt a72.From 0) then
  (some 4)
 else
 bif (ile a73 a72.From) then
  (some 4)
 else
 bif (ilt a72.To 0) then
  (some 4)
 else
 bif (ile a73 a72.To) then
  (some 4)
 else
 bif (ilt a72.W 0) then
  (some 1)
 else
 bif (ilt 4611686018427387904 a72.W) then
  (some 1)
 else
 some 0
theorem P8 (K : Nat) (a72 : GEdge) (a73 : Int) (r : Int) (F : F79 K a72 a73 = some r) : Evt E H 79 [.agg (eGEdge a72), .one (i6 a73)] (Qz r) := by
 rw [F79] at F
 apply jc F <;> intro h74 F
 apply jr F
 exact fpC Cv <| D5 h74 <| zt3 <| zr1 <| zt4 <| zr2 <| z0
 have pq80 {l} (z : HA Cv l) := FJ h74 <| z
 apply jc F <;> intro h75 F
 apply jr F
 exact fpC Cv <| pq80 <| Af (ige_eq h75) <| zt4 <| zr2 <| z0
 have pq81 {l} (z : HA Cv l) := Ah (ige_eq h75) <| z
 apply jc F <;> intro h76 F
 apply jr F
 exact fpC Cv <| pq80 <| pq81 <| D5 h76 <| zr1 <| z0
 have pq82 {l} (z : HA Cv l) := FJ h76 <| z
 apply jc F <;> intro h77 F
 apply jr F
 exact fpC Cv <| pq80 <| pq81 <| pq82 <| zT (ige_eq h77) <| z0
 apply jc F <;> intro h78 F
 apply jr F
 exact fpC Cv <| pq80 <| pq81 <| pq82 <| zF (ige_eq h77) <| Af h78 <| zr1 <| z0
 have pq83 {l} (z : HA Cv l) := zF (ige_eq h77) <| Ah h78 <| z
 apply jc F <;> intro h79 F
 apply jr F
 exact fpC Cv <| pq80 <| pq81 <| pq82 <| pq83 <| zT (igt_eq h79) <| z0
 apply jr F
 exact fpC Cv <| pq80 <| pq81 <| pq82 <| pq83 <| zF (igt_eq h79) <| z0
def Jf : Hint := { H 80 with nt := 20, prot := 0, kp := 0 }
def PY (r1 : Int) : Res := ⟨[(.one (mI r1))], []⟩
def F80 (K : Nat) (a1 : GEdge) (a2 : GEdge) : Option (Int) :=
 bif (ieq a1.From a2.From) then
  (some (wsub .i64 a1.To a2.To))
 else
 some (wsub .i64 a1.From a2.From)
theorem MG (K : Nat) (a1 : GEdge) (a2 : GEdge) (r : Int) (F : F80 K a1 a2 = some r) : Evt E H 80 [.agg (eGEdge a1), .agg (eGEdge a2)] (PY r) := by
 rw [F80] at F
 apply jc F <;> intro h3 F
 apply jr F
 exact fpC Jf <| zF (ine_t h3) <| zi (wsub .i64 a1.To a2.To) <| z0
 apply jr F
 exact fpC Jf <| zT (ine_f h3) <| zi (wsub .i64 a1.From a2.From) <| z0
def Cz : Hint := { H 56 with nt := 51, prot := 0, kp := 0 }
def Ip : Code := loopOf E 56 0
def Pl (r1 : Int) : Res := ⟨[(.one (mI r1))], []⟩
def DI (K : Nat) (a64 : GGraph) : Nat → Int → Option ((Int) ⊕ (Unit))
 | 0, _ => none
 | k + 1, v88 =>
  bif (ilt v88 (nlen (len a64.Edges))) then
   (bif (inr v88 (len a64.Edges)) then
   (elAt a64.Edges v88).bind fun x91 =>
   (F79 K x91 a64.N).bind fun r93 =>
   bif (ieq r93 0) then
    (bif (ieq v88 0) then
     (DI K a64 k (wadd .i64 v88 1))
    else
    bif (inr (wsub .i64 v88 1) (len a64.Edges)) then
    (elAt a64.Edges (wsub .i64 v88 1)).bind fun x98 =>
    (F80 K x98 x91).bind fun r1 =>
    bif (ieq r1 0) then
     (some (.inl 5))
    else
    bif (ilt 0 r1) then
     (some (.inl 6))
    else
    DI K a64 k (wadd .i64 v88 1)
    else none)
   else
   some (.inl r93)
   else none)
  else
  some (.inr ())
def J8 (a64 : GGraph) (v88 : Int) : TS := .on (kq 64 3 <| kq 1216 1 <| kq 1280 2 <| kq 1344 2 <| kq 1408 2 <| []) <| b2 64 a64 <| sq 1216 [⟨(.ad 1 0 1), 0, nob⟩] <| sq 1280 [u0, (uS eGEdge a64.Edges)] <| sq 1344 [u0, (uI (nlen (len a64.Edges)))] <| sq 1408 [u0, (uI v88)] []
def L0 (a64 : GGraph) (w1 : Int) : TS := .on (kq 128 2 <| []) <| sq 128 [u0, (uI w1)] []
def KZ (a64 : GGraph) (w1 : Unit) : TS := .on [] []
theorem Jg (K : Nat) (a64 : GGraph) : ∀ (k : Nat) (v88 : Int) (r : (Int) ⊕ (Unit)), DI K a64 k v88 = some r → (Sum.elim (fun w => LoopEv E H Cz 0 Ip (J8 a64 v88) .ret (L0 a64 w)) (fun w => LoopEv E H Cz 0 Ip (J8 a64 v88) (.exit 0) (KZ a64 w))) r := by
 intro k
 induction k with
 | zero => intro v88 r F; cases F
 | succ k ih =>
  intro v88 r F
  rw [DI] at F
  apply jc F <;> intro h89 F
  apply jn F; intro h90 F
  apply jb F; intro x91 h92 F
  apply jb F; intro r93 h94 F
  have q5 {l} (z : HA Cz l) := zT h89 <| zT h90 <| zS eGEdge_len h92 3 <| zl (P8 K x91 a64.N _ h94) <| z
  apply jc F <;> intro h95 F
  apply jc F <;> intro h96 F
  exact lN2 (q5 <| zF (ine_t h95) <| zT h96 <| zi (wadd .i64 v88 1) <| z0) (ih _ _ F)
  apply jn F; intro h97 F
  apply jb F; intro x98 h99 F
  apply jb F; intro r1 h2 F
  have q6 {l} (z : HA Cz l) := zF (ine_t h95) <| zF h96 <| zi (wsub .i64 v88 1) <| zT h97 <| zS eGEdge_len h99 3 <| zl (MG K x98 x91 _ h2) <| z
  apply jc F <;> intro h3 F
  apply jr F
  exact lE <| q5 <| q6 <| zT h3 <| z0
  apply jc F <;> intro h4 F
  apply jr F
  exact lE <| q5 <| q6 <| zF h3 <| zT (igt_eq h4) <| z0
  exact lN2 (q5 <| q6 <| zF h3 <| zF (igt_eq h4) <| zi (wadd .i64 v88 1) <| z0) (ih _ _ F)
  apply jr F
  exact lE <| q5 <| zT (ine_f h95) <| z0
  apply jr F
  exact lE <| zF h89 <| z0
def F56 (K : Nat) (a64 : GGraph) : Option (Int) :=
 bif (ilt a64.N 1) then
  (some 1)
 else
 bif (ilt 24 a64.N) then
  (some 1)
 else
 bif (ilt 80 (nlen (len a64.Edges))) then
  (some 3)
 else
 (DI K a64 K 0).bind fun y1 =>
 Sum.elim (fun w2 =>
  some w2)
  (fun w3 =>
  some 0) y1
theorem F3 (K : Nat) (a64 : GGraph) (r : Int) (F : F56 K a64 = some r) : Evt E H 56 [.agg (eGGraph a64)] (Pl r) := by
 rw [F56] at F
 apply jc F <;> intro h65 F
 apply jr F
 exact fpC Cz <| Af h65 <| zr1 <| z0
 have q5 {l} (z : HA Cz l) := Ah h65 <| z
 apply jc F <;> intro h66 F
 apply jr F
 exact fpC Cz <| q5 <| zT (igt_eq h66) <| z0
 apply jc F <;> intro h67 F
 apply jr F
 exact fpC Cz <| q5 <| zF (igt_eq h66) <| zi (nl a64.Edges) <| zT (igt_eq h67) <| z0
 have q6 {l} (z : HA Cz l) := zF (igt_eq h66) <| zi (nl a64.Edges) <| zF (igt_eq h67) <| zi (nl a64.Edges) <| z
 apply jb F; intro y2 h1 F
 refine js F (fun w3 hx F => ?_) fun w4 hx F => ?_
 subst hx
 apply jr F
 exact fpC Cz <| q5 <| q6 <| zo (Jg K a64 K 0 _ h1) <| z0
 subst hx
 apply jr F
 exact fpC Cz <| q5 <| q6 <| zo (Jg K a64 K 0 _ h1) <| z0
def Eb : Hint := { H 57 with nt := 21, prot := 0, kp := 0 }
def B3 (r1 : Grule × Bool) : Res := ⟨[(.agg [(.im (.lit r1.1.start_)), (.im (.lit r1.1.better_)), (mB r1.1.only_), (.im (.lit r1.1.send_))]), (.one (mB r1.2))], []⟩
def QW (r1 : Grule × Bool) : Res := ⟨[(.agg [(.im (.lit (fnV 81))), (.im (.lit (fnV 82))), (mB r1.1.only_), (.im (.lit (fnV 83)))]), (.one (mB r1.2))], []⟩
def N3 (r1 : Grule × Bool) : Res := ⟨[(.agg [(.im (.lit (fnV 81))), (.im (.lit (fnV 82))), (mB r1.1.only_), (.im (.lit (fnV 85)))]), (.one (mB r1.2))], []⟩
def QK (r1 : Grule × Bool) : Res := ⟨[(.agg [(.im (.lit (fnV 86))), (.im (.lit (fnV 82))), (mB r1.1.only_), (.im (.lit (fnV 87)))]), (.one (mB r1.2))], []⟩
def PF (r1 : Grule × Bool) : Res := ⟨[(.agg [(.im (.lit (fnV 88))), (.im (.lit (fnV 89))), (mB r1.1.only_), (.im (.lit (fnV 87)))]), (.one (mB r1.2))], []⟩
def Nf (r1 : Grule × Bool) : Res := ⟨[(.agg [(.im (.lit (fnV 90))), (.im (.lit .nilFunc)), (mB r1.1.only_), (.im (.lit (fnV 87)))]), (.one (mB r1.2))], []⟩
def M2 (r1 : Grule × Bool) : Res := ⟨[(.agg [(.im (.lit .nilFunc)), (.im (.lit .nilFunc)), (mB r1.1.only_), (.im (.lit .nilFunc))]), (.one (mB r1.2))], []⟩
def F57 (K : Nat) (a1 : Int) : Option (Grule × Bool) :=
 bif (ieq a1 1) then
  (some ((Grule.mk (fnV 81) (fnV 82) true (fnV 83)), true))
 else
 bif (ieq a1 3) then
  (some ((Grule.mk (fnV 81) (fnV 82) true (fnV 85)), true))
 else
 bif (ieq a1 2) then
  (some ((Grule.mk (fnV 86) (fnV 82) false (fnV 87)), true))
 else
 bif (ieq a1 4) then
  (some ((Grule.mk (fnV 88) (fnV 89) false (fnV 87)), true))
 else
 bif (ieq a1 5) then
  (some ((Grule.mk (fnV 90) .nilFunc false (fnV 87)), true))
 else
 some ((Grule.mk .nilFunc .nilFunc false .nilFunc), false)
theorem Al (K : Nat) (a1 : Int) (r : Grule × Bool) (F : F57 K a1 = some r) : Evt E H 57 [.one (i6 a1)] (B3 r) := by
 rw [F57] at F
 apply jc F <;> intro h2 F
 apply jr F
 exact fpC Eb <| zT h2 <| z0
 apply jc F <;> intro h3 F
 apply jr F
 exact fpC Eb <| zF h2 <| zT h3 <| z0
 apply jc F <;> intro h4 F
 apply jr F
 exact fpC Eb <| zF h2 <| zF h3 <| zT h4 <| z0
 have q7 {l} (z : HA Eb l) := zF h2 <| zF h3 <| zF h4 <| z
 apply jc F <;> intro h5 F
 apply jr F
 exact fpC Eb <| q7 <| zT h5 <| z0
 apply jc F <;> intro h6 F
 apply jr F
 exact fpC Eb <| q7 <| zF h5 <| zT h6 <| z0
 apply jr F
 exact fpC Eb <| q7 <| zF h5 <| zF h6 <| z0
theorem EJ {ads : List AD} (r3 : Grule × Bool) (e : areFns [r3.1.start_, r3.1.better_, r3.1.send_] [81, 82, 83] = true) (h : Evt E H 57 ads (B3 r3)) : Evt E H 57 ads (QW r3) := by
 obtain ⟨q0, e⟩ := areFns_cons e
 obtain ⟨q1, e⟩ := areFns_cons e
 obtain ⟨q2, e⟩ := areFns_cons e
 unfold B3 at h
 rw [q0, q1, q2] at h
 exact h
theorem EK {ads : List AD} (r3 : Grule × Bool) (e : areFns [r3.1.start_, r3.1.better_, r3.1.send_] [81, 82, 85] = true) (h : Evt E H 57 ads (B3 r3)) : Evt E H 57 ads (N3 r3) := by
 obtain ⟨q0, e⟩ := areFns_cons e
 obtain ⟨q1, e⟩ := areFns_cons e
 obtain ⟨q2, e⟩ := areFns_cons e
 unfold B3 at h
 rw [q0, q1, q2] at h
 exact h
theorem Ez {ads : List AD} (r3 : Grule × Bool) (e : areFns [r3.1.start_, r3.1.better_, r3.1.send_] [86, 82, 87] = true) (h : Evt E H 57 ads (B3 r3)) : Evt E H 57 ads (QK r3) := by
 obtain ⟨q0, e⟩ := areFns_cons e
 obtain ⟨q1, e⟩ := areFns_cons e
 obtain ⟨q2, e⟩ := areFns_cons e
 unfold B3 at h
 rw [q0, q1, q2] at h
 exact h
theorem Es {ads : List AD} (r3 : Grule × Bool) (e : areFns [r3.1.start_, r3.1.better_, r3.1.send_] [88, 89, 87] = true) (h : Evt E H 57 ads (B3 r3)) : Evt E H 57 ads (PF r3) := by
 obtain ⟨q0, e⟩ := areFns_cons e
 obtain ⟨q1, e⟩ := areFns_cons e
 obtain ⟨q2, e⟩ := areFns_cons e
 unfold B3 at h
 rw [q0, q1, q2] at h
 exact h
theorem EG {ads : List AD} (r3 : Grule × Bool) (e : areFns [r3.1.start_, r3.1.better_, r3.1.send_] [90, 0, 87] = true) (h : Evt E H 57 ads (B3 r3)) : Evt E H 57 ads (Nf r3) := by
 obtain ⟨q0, e⟩ := areFns_cons e
 obtain ⟨q1, e⟩ := areFns_cons e
 obtain ⟨q2, e⟩ := areFns_cons e
 unfold B3 at h
 rw [q0, q1, q2] at h
 exact h
theorem EO {ads : List AD} (r3 : Grule × Bool) (e : areFns [r3.1.start_, r3.1.better_, r3.1.send_] [0, 0, 0] = true) (h : Evt E H 57 ads (B3 r3)) : Evt E H 57 ads (M2 r3) := by
 obtain ⟨q0, e⟩ := areFns_cons e
 obtain ⟨q1, e⟩ := areFns_cons e
 obtain ⟨q2, e⟩ := areFns_cons e
 unfold B3 at h
 rw [q0, q1, q2] at h
 exact h
def Ab : Hint := { H 31 with nt := 53, prot := 0, kp := 0 }
def LQ (r1 : Int) : Res := ⟨[(.one (mI r1))], []⟩
def F31 (K : Nat) (a62 : GGraph) (a63 : GJob) : Option (Int) :=
 (F56 K a62).bind fun r1 =>
 bif (ieq r1 0) then
  ((F57 K a63.Prog).bind fun r2 =>
  bif (areFns [r2.1.start_, r2.1.better_, r2.1.send_] [81, 82, 83]) then
   (bif r2.2 then
    (bif (ilt a63.Source 0) then
     (some 1)
    else
    bif (ile a62.N a63.Source) then
     (some 1)
    else
    bif (ilt a63.Limit 0) then
     (some 1)
    else
    bif (ilt 40 a63.Limit) then
     (some 1)
    else
    bif (ilt a63.Parts 1) then
     (some 1)
    else
    bif (ilt 6 a63.Parts) then
     (some 1)
    else
    some 0)
   else
   some 1)
  else
  bif (areFns [r2.1.start_, r2.1.better_, r2.1.send_] [81, 82, 85]) then
   (bif r2.2 then
    (bif (ilt a63.Source 0) then
     (some 1)
    else
    bif (ile a62.N a63.Source) then
     (some 1)
    else
    bif (ilt a63.Limit 0) then
     (some 1)
    else
    bif (ilt 40 a63.Limit) then
     (some 1)
    else
    bif (ilt a63.Parts 1) then
     (some 1)
    else
    bif (ilt 6 a63.Parts) then
     (some 1)
    else
    some 0)
   else
   some 1)
  else
  bif (areFns [r2.1.start_, r2.1.better_, r2.1.send_] [86, 82, 87]) then
   (bif r2.2 then
    (bif (ilt a63.Source 0) then
     (some 1)
    else
    bif (ile a62.N a63.Source) then
     (some 1)
    else
    bif (ilt a63.Limit 0) then
     (some 1)
    else
    bif (ilt 40 a63.Limit) then
     (some 1)
    else
    bif (ilt a63.Parts 1) then
     (some 1)
    else
    bif (ilt 6 a63.Parts) then
     (some 1)
    else
    some 0)
   else
   some 1)
  else
  bif (areFns [r2.1.start_, r2.1.better_, r2.1.send_] [88, 89, 87]) then
   (bif r2.2 then
    (bif (ilt a63.Source 0) then
     (some 1)
    else
    bif (ile a62.N a63.Source) then
     (some 1)
    else
    bif (ilt a63.Limit 0) then
     (some 1)
    else
    bif (ilt 40 a63.Limit) then
     (some 1)
    else
    bif (ilt a63.Parts 1) then
     (some 1)
    else
    bif (ilt 6 a63.Parts) then
     (some 1)
    else
    some 0)
   else
   some 1)
  else
  bif (areFns [r2.1.start_, r2.1.better_, r2.1.send_] [90, 0, 87]) then
   (bif r2.2 then
    (bif (ilt a63.Source 0) then
     (some 1)
    else
    bif (ile a62.N a63.Source) then
     (some 1)
    else
    bif (ilt a63.Limit 0) then
     (some 1)
    else
    bif (ilt 40 a63.Limit) then
     (some 1)
    else
    bif (ilt a63.Parts 1) then
     (some 1)
    else
    bif (ilt 6 a63.Parts) then
     (some 1)
    else
    some 0)
   else
   some 1)
  else
  bif (areFns [r2.1.start_, r2.1.better_, r2.1.send_] [0, 0, 0]) then
  bif r2.2 then
   (bif (ilt a63.Source 0) then
    (some 1)
   else
   bif (ile a62.N a63.Source) then
    (some 1)
   else
   bif (ilt a63.Limit 0) then
    (some 1)
   else
   bif (ilt 40 a63.Limit) then
    (some 1)
   else
   bif (ilt a63.Parts 1) then
    (some 1)
   else
   bif (ilt 6 a63.Parts) then
    (some 1)
   else
   some 0)
  else
  some 1
  else none)
 else
 some r1
theorem Cc (K : Nat) (a62 : GGraph) (a63 : GJob) (r : Int) (F : F31 K a62 a63 = some r) : Evt E H 31 [.agg (eGGraph a62), .agg (eGJob a63)] (LQ r) := by
 rw [F31] at F
 apply jb F; intro r1 h2 F
 apply jc F <;> intro h3 F
 apply jb F; intro r4 h5 F
 have q54 {l} (z : HA Ab l) := zl (F3 K a62 _ h2) <| zF (ine_t h3) <| z
 apply jc F <;> intro h6 F
 apply jc F <;> intro h7 F
 have q55 {l} (z : HA Ab l) := zl (EJ _ h6 (Al K a63.Prog _ h5)) <| Ah (bnot_t h7) <| z
 apply jc F <;> intro h8 F
 apply jr F
 exact fpC Ab <| q54 <| q55 <| AQ h8 <| zt3 <| zr1 <| zt3 <| zr1 <| zt3 <| zr1 <| zt3 <| zr2 <| z0
 have q56 {l} (z : HA Ab l) := BP h8 <| z
 apply jc F <;> intro h9 F
 apply jr F
 exact fpC Ab <| q54 <| q55 <| q56 <| Af (ige_eq h9) <| zt3 <| zr1 <| zt3 <| zr1 <| zt3 <| zr2 <| z0
 have q57 {l} (z : HA Ab l) := Ah (ige_eq h9) <| z
 apply jc F <;> intro h10 F
 apply jr F
 exact fpC Ab <| q54 <| q55 <| q56 <| q57 <| Af h10 <| zt3 <| zr1 <| zt3 <| zr2 <| z0
 have q58 {l} (z : HA Ab l) := Ah h10 <| z
 apply jc F <;> intro h11 F
 apply jr F
 exact fpC Ab <| q54 <| q55 <| q56 <| q57 <| q58 <| Af (igt_eq h11) <| zt3 <| zr2 <| z0
 have q59 {l} (z : HA Ab l) := Ah (igt_eq h11) <| z
 apply jc F <;> intro h12 F
 apply jr F
 exact fpC Ab <| q54 <| q55 <| q56 <| q57 <| q58 <| q59 <| Af h12 <| zr1 <| z0
 have q60 {l} (z : HA Ab l) := Ah h12 <| z
 apply jc F <;> intro h13 F
 apply jr F
 exact fpC Ab <| q54 <| q55 <| q56 <| q57 <| q58 <| q59 <| q60 <| zT (igt_eq h13) <| z0
 apply jr F
 exact fpC Ab <| q54 <| q55 <| q56 <| q57 <| q58 <| q59 <| q60 <| zF (igt_eq h13) <| z0
 apply jr F
 exact fpC Ab <| q54 <| zl (EJ _ h6 (Al K a63.Prog _ h5)) <| Af (bnot_f h7) <| zt5 <| zr1 <| zt3 <| zr1 <| zt3 <| zr1 <| zt3 <| zr1 <| zt3 <| zr2 <| z0
 apply jc F <;> intro h14 F
 apply jc F <;> intro h15 F
 have q61 {l} (z : HA Ab l) := zl (EK _ h14 (Al K a63.Prog _ h5)) <| Ah (bnot_t h15) <| z
 apply jc F <;> intro h16 F
 apply jr F
 exact fpC Ab <| q54 <| q61 <| AQ h16 <| zt3 <| zr1 <| zt3 <| zr1 <| zt3 <| zr1 <| zt3 <| zr2 <| z0
 have q64 {l} (z : HA Ab l) := BP h16 <| z
 apply jc F <;> intro h17 F
 apply jr F
 exact fpC Ab <| q54 <| q61 <| q64 <| Af (ige_eq h17) <| zt3 <| zr1 <| zt3 <| zr1 <| zt3 <| zr2 <| z0
 have q65 {l} (z : HA Ab l) := Ah (ige_eq h17) <| z
 apply jc F <;> intro h18 F
 apply jr F
 exact fpC Ab <| q54 <| q61 <| q64 <| q65 <| Af h18 <| zt3 <| zr1 <| zt3 <| zr2 <| z0
 have q66 {l} (z : HA Ab l) := Ah h18 <| z
 apply jc F <;> intro h19 F
 apply jr F
 exact fpC Ab <| q54 <| q61 <| q64 <| q65 <| q66 <| Af (igt_eq h19) <| zt3 <| zr2 <| z0
 have q67 {l} (z : HA Ab l) := Ah (igt_eq h19) <| z
 apply jc F <;> intro h20 F
 apply jr F
 exact fpC Ab <| q54 <| q61 <| q64 <| q65 <| q66 <| q67 <| Af h20 <| zr1 <| z0
 have q68 {l} (z : HA Ab l) := Ah h20 <| z
 apply jc F <;> intro h21 F
 apply jr F
 exact fpC Ab <| q54 <| q61 <| q64 <| q65 <| q66 <| q67 <| q68 <| zT (igt_eq h21) <| z0
 apply jr F
 exact fpC Ab <| q54 <| q61 <| q64 <| q65 <| q66 <| q67 <| q68 <| zF (igt_eq h21) <| z0
 apply jr F
 exact fpC Ab <| q54 <| zl (EK _ h14 (Al K a63.Prog _ h5)) <| Af (bnot_f h15) <| zt5 <| zr1 <| zt3 <| zr1 <| zt3 <| zr1 <| zt3 <| zr1 <| zt3 <| zr2 <| z0
 apply jc F <;> intro h22 F
 apply jc F <;> intro h23 F
 have q69 {l} (z : HA Ab l) := zl (Ez _ h22 (Al K a63.Prog _ h5)) <| Ah (bnot_t h23) <| z
 apply jc F <;> intro h24 F
 apply jr F
 exact fpC Ab <| q54 <| q69 <| AQ h24 <| zt3 <| zr1 <| zt3 <| zr1 <| zt3 <| zr1 <| zt3 <| zr2 <| z0
 have q70 {l} (z : HA Ab l) := BP h24 <| z
 apply jc F <;> intro h25 F
 apply jr F
 exact fpC Ab <| q54 <| q69 <| q70 <| Af (ige_eq h25) <| zt3 <| zr1 <| zt3 <| zr1 <| zt3 <| zr2 <| z0
 have q71 {l} (z : HA Ab l) := Ah (ige_eq h25) <| z
 apply jc F <;> intro h26 F
 apply jr F
 exact fpC Ab <| q54 <| q69 <| q70 <| q71 <| Af h26 <| zt3 <| zr1 <| zt3 <| zr2 <| z0
 have q72 {l} (z : HA Ab l) := Ah h26 <| z
 apply jc F <;> intro h27 F
 apply jr F
 exact fpC Ab <| q54 <| q69 <| q70 <| q71 <| q72 <| Af (igt_eq h27) <| zt3 <| zr2 <| z0
 have q73 {l} (z : HA Ab l) := Ah (igt_eq h27) <| z
 apply jc F <;> intro h28 F
 apply jr F
 exact fpC Ab <| q54 <| q69 <| q70 <| q71 <| q72 <| q73 <| Af h28 <| zr1 <| z0
 have q74 {l} (z : HA Ab l) := Ah h28 <| z
 apply jc F <;> intro h29 F
 apply jr F
 exact fpC Ab <| q54 <| q69 <| q70 <| q71 <| q72 <| q73 <| q74 <| zT (igt_eq h29) <| z0
 apply jr F
 exact fpC Ab <| q54 <| q69 <| q70 <| q71 <| q72 <| q73 <| q74 <| zF (igt_eq h29) <| z0
 apply jr F
 exact fpC Ab <| q54 <| zl (Ez _ h22 (Al K a63.Prog _ h5)) <| Af (bnot_f h23) <| zt5 <| zr1 <| zt3 <| zr1 <| zt3 <| zr1 <| zt3 <| zr1 <| zt3 <| zr2 <| z0
 apply jc F <;> intro h30 F
 apply jc F <;> intro h31 F
 have q75 {l} (z : HA Ab l) := zl (Es _ h30 (Al K a63.Prog _ h5)) <| Ah (bnot_t h31) <| z
 apply jc F <;> intro h32 F
 apply jr F
 exact fpC Ab <| q54 <| q75 <| AQ h32 <| zt3 <| zr1 <| zt3 <| zr1 <| zt3 <| zr1 <| zt3 <| zr2 <| z0
 have q76 {l} (z : HA Ab l) := BP h32 <| z
 apply jc F <;> intro h33 F
 apply jr F
 exact fpC Ab <| q54 <| q75 <| q76 <| Af (ige_eq h33) <| zt3 <| zr1 <| zt3 <| zr1 <| zt3 <| zr2 <| z0
 have q77 {l} (z : HA Ab l) := Ah (ige_eq h33) <| z
 apply jc F <;> intro h34 F
 apply jr F
 exact fpC Ab <| q54 <| q75 <| q76 <| q77 <| Af h34 <| zt3 <| zr1 <| zt3 <| zr2 <| z0
 have q78 {l} (z : HA Ab l) := Ah h34 <| z
 apply jc F <;> intro h35 F
 apply jr F
 exact fpC Ab <| q54 <| q75 <| q76 <| q77 <| q78 <| Af (igt_eq h35) <| zt3 <| zr2 <| z0
 have q79 {l} (z : HA Ab l) := Ah (igt_eq h35) <| z
 apply jc F <;> intro h36 F
 apply jr F
 exact fpC Ab <| q54 <| q75 <| q76 <| q77 <| q78 <| q79 <| Af h36 <| zr1 <| z0
 have q80 {l} (z : HA Ab l) := Ah h36 <| z
 apply jc F <;> intro h37 F
 apply jr F
 exact fpC Ab <| q54 <| q75 <| q76 <| q77 <| q78 <| q79 <| q80 <| zT (igt_eq h37) <| z0
 apply jr F
 exact fpC Ab <| q54 <| q75 <| q76 <| q77 <| q78 <| q79 <| q80 <| zF (igt_eq h37) <| z0
 apply jr F
 exact fpC Ab <| q54 <| zl (Es _ h30 (Al K a63.Prog _ h5)) <| Af (bnot_f h31) <| zt5 <| zr1 <| zt3 <| zr1 <| zt3 <| zr1 <| zt3 <| zr1 <| zt3 <| zr2 <| z0
 apply jc F <;> intro h38 F
 apply jc F <;> intro h39 F
 have q81 {l} (z : HA Ab l) := zl (EG _ h38 (Al K a63.Prog _ h5)) <| Ah (bnot_t h39) <| z
 apply jc F <;> intro h40 F
 apply jr F
 exact fpC Ab <| q54 <| q81 <| AQ h40 <| zt3 <| zr1 <| zt3 <| zr1 <| zt3 <| zr1 <| zt3 <| zr2 <| z0
 have q82 {l} (z : HA Ab l) := BP h40 <| z
 apply jc F <;> intro h41 F
 apply jr F
 exact fpC Ab <| q54 <| q81 <| q82 <| Af (ige_eq h41) <| zt3 <| zr1 <| zt3 <| zr1 <| zt3 <| zr2 <| z0
 have q83 {l} (z : HA Ab l) := Ah (ige_eq h41) <| z
 apply jc F <;> intro h42 F
 apply jr F
 exact fpC Ab <| q54 <| q81 <| q82 <| q83 <| Af h42 <| zt3 <| zr1 <| zt3 <| zr2 <| z0
 have q84 {l} (z : HA Ab l) := Ah h42 <| z
 apply jc F <;> intro h43 F
 apply jr F
 exact fpC Ab <| q54 <| q81 <| q82 <| q83 <| q84 <| Af (igt_eq h43) <| zt3 <| zr2 <| z0
 have q85 {l} (z : HA Ab l) := Ah (igt_eq h43) <| z
 apply jc F <;> intro h44 F
 apply jr F
 exact fpC Ab <| q54 <| q81 <| q82 <| q83 <| q84 <| q85 <| Af h44 <| zr1 <| z0
 have q86 {l} (z : HA Ab l) := Ah h44 <| z
 apply jc F <;> intro h45 F
 apply jr F
 exact fpC Ab <| q54 <| q81 <| q82 <| q83 <| q84 <| q85 <| q86 <| zT (igt_eq h45) <| z0
 apply jr F
 exact fpC Ab <| q54 <| q81 <| q82 <| q83 <| q84 <| q85 <| q86 <| zF (igt_eq h45) <| z0
 apply jr F
 exact fpC Ab <| q54 <| zl (EG _ h38 (Al K a63.Prog _ h5)) <| Af (bnot_f h39) <| zt5 <| zr1 <| zt3 <| zr1 <| zt3 <| zr1 <| zt3 <| zr1 <| zt3 <| zr2 <| z0
 apply jn F; intro h46 F
 apply jc F <;> intro h47 F
 have q87 {l} (z : HA Ab l) := zl (EO _ h46 (Al K a63.Prog _ h5)) <| Ah (bnot_t h47) <| z
 apply jc F <;> intro h48 F
 apply jr F
 exact fpC Ab <| q54 <| q87 <| AQ h48 <| zt3 <| zr1 <| zt3 <| zr1 <| zt3 <| zr1 <| zt3 <| zr2 <| z0
 have q88 {l} (z : HA Ab l) := BP h48 <| z
 apply jc F <;> intro h49 F
 apply jr F
 exact fpC Ab <| q54 <| q87 <| q88 <| Af (ige_eq h49) <| zt3 <| zr1 <| zt3 <| zr1 <| zt3 <| zr2 <| z0
 have q89 {l} (z : HA Ab l) := Ah (ige_eq h49) <| z
 apply jc F <;> intro h50 F
 apply jr F
 exact fpC Ab <| q54 <| q87 <| q88 <| q89 <| Af h50 <| zt3 <| zr1 <| zt3 <| zr2 <| z0
 have q90 {l} (z : HA Ab l) := Ah h50 <| z
 apply jc F <;> intro h51 F
 apply jr F
 exact fpC Ab <| q54 <| q87 <| q88 <| q89 <| q90 <| Af (igt_eq h51) <| zt3 <| zr2 <| z0
 have q91 {l} (z : HA Ab l) := Ah (igt_eq h51) <| z
 apply jc F <;> intro h52 F
 apply jr F
 exact fpC Ab <| q54 <| q87 <| q88 <| q89 <| q90 <| q91 <| Af h52 <| zr1 <| z0
 have q92 {l} (z : HA Ab l) := Ah h52 <| z
 apply jc F <;> intro h53 F
 apply jr F
 exact fpC Ab <| q54 <| q87 <| q88 <| q89 <| q90 <| q91 <| q92 <| zT (igt_eq h53) <| z0
 apply jr F
 exact fpC Ab <| q54 <| q87 <| q88 <| q89 <| q90 <| q91 <| q92 <| zF (igt_eq h53) <| z0
 apply jr F
 exact fpC Ab <| q54 <| zl (EO _ h46 (Al K a63.Prog _ h5)) <| Af (bnot_f h47) <| zt5 <| zr1 <| zt3 <| zr1 <| zt3 <| zr1 <| zt3 <| zr1 <| zt3 <| zr2 <| z0
 apply jr F
 exact fpC Ab <| zl (F3 K a62 _ h2) <| zT (ine_f h3) <| z0
def FB : Hint := { H 108 with nt := 19, prot := 0, kp := 0 }
def H8 : Code := loopOf E 108 0
def Q3 (r1 : Int) : Res := ⟨[(.one (mI r1))], []⟩
def Ei (K : Nat) (a1 : List Int) (a2 : Int) : Nat → Int → Option ((Int) ⊕ (Unit))
 | 0, _ => none
 | k + 1, v3 =>
  bif (ilt v3 (nlen (len a1))) then
   (bif (inr v3 (len a1)) then
   (elAt a1 v3).bind fun x4 =>
   bif (ieq x4 a2) then
    (some (.inl v3))
   else
   Ei K a1 a2 k (wadd .i64 v3 1)
   else none)
  else
  some (.inr ())
def H4 (a1 : List Int) (a2 : Int) (v3 : Int) : TS := .on (kq 0 2 <| kq 64 2 <| kq 448 2 <| kq 512 2 <| kq 576 2 <| []) <| sq 0 [u0, (uS e6 a1)] <| sq 64 [u0, (uI a2)] <| sq 448 [u0, (uS e6 a1)] <| sq 512 [u0, (uI (nlen (len a1)))] <| sq 576 [u0, (uI v3)] []
def Om (a1 : List Int) (a2 : Int) (w3 : Int) : TS := .on (kq 256 2 <| []) <| sq 256 [u0, (uI w3)] []
def QC (a1 : List Int) (a2 : Int) (w3 : Unit) : TS := .on [] []
theorem Iy (K : Nat) (a1 : List Int) (a2 : Int) : ∀ (k : Nat) (v3 : Int) (r : (Int) ⊕ (Unit)), Ei K a1 a2 k v3 = some r → (Sum.elim (fun w => LoopEv E H FB 0 H8 (H4 a1 a2 v3) .ret (Om a1 a2 w)) (fun w => LoopEv E H FB 0 H8 (H4 a1 a2 v3) (.exit 0) (QC a1 a2 w))) r := by
 intro k
 induction k with
 | zero => intro v3 r F; cases F
 | succ k ih =>
  intro v3 r F
  rw [Ei] at F
  apply jc F <;> intro h4 F
  apply jn F; intro h5 F
  apply jb F; intro x6 h7 F
  have q9 {l} (z : HA FB l) := zT h4 <| zT h5 <| zX (.sub (flat e6 a1) (nidx v3 1) 1 [(i6 x6)]) ⟨rfl, sub_flat0 (eInt_len _) h7 1 (by decide)⟩ <| z
  apply jc F <;> intro h8 F
  apply jr F
  exact lE <| q9 <| zT h8 <| z0
  exact lN2 (q9 <| zF h8 <| zi (wadd .i64 v3 1) <| z0) (ih _ _ F)
  apply jr F
  exact lE <| zF h4 <| z0
def Df (K : Nat) (a1 : List Int) (a2 : Int) : Option (Int) :=
 (Ei K a1 a2 K 0).bind fun y3 =>
 Sum.elim (fun w4 =>
  some w4)
  (fun w5 =>
  some (-1)) y3
theorem IV (K : Nat) (a1 : List Int) (a2 : Int) (r : Int) (F : Df K a1 a2 = some r) : Evt E H 108 [.one (sE e6 a1), .one (i6 a2)] (Q3 r) := by
 rw [Df] at F
 apply jb F; intro y4 h3 F
 refine js F (fun w5 hx F => ?_) fun w6 hx F => ?_
 subst hx
 apply jr F
 exact fpC FB <| zi (nl a1) <| zo (Iy K a1 a2 K 0 _ h3) <| z0
 subst hx
 apply jr F
 exact fpC FB <| zi (nl a1) <| zo (Iy K a1 a2 K 0 _ h3) <| z0
def AK : Hint := { H 100 with nt := 83, prot := 0, kp := 0 }
def HS : Code := loopOf E 100 0
def Jq : Code := loopOf E 100 1
def Ns (r1 : Bool) : Res := ⟨[(.one (mB r1))], []⟩
def DM (K : Nat) (v1 : Int) (v2 : List Int) (v3 : List Int) (v4 : List Int) : Nat → Int → Int → Option ((Unit) ⊕ (Unit))
 | 0, _, _ => none
 | k + 1, v5, v6 =>
  bif (ilt v6 (nlen (len v3))) then
   (bif (inr v6 (len v3)) then
   (elAt v3 v6).bind fun x7 =>
   bif (ile x7 v5) then
    (some (.inl ()))
   else
   bif (ilt 99 x7) then
    (some (.inl ()))
   else
   bif (inr v6 (len v4)) then
   (elAt v4 v6).bind fun x8 =>
   bif (ilt x8 1) then
    (some (.inl ()))
   else
   bif (ilt 1099511627776 x8) then
    (some (.inl ()))
   else
   DM K v1 v2 v3 v4 k x7 (wadd .i64 v6 1)
   else none
   else none)
  else
  some (.inr ())
def Ku (v1 : Int) (v2 : List Int) (v3 : List Int) (v4 : List Int) (v5 : Int) (v6 : Int) : TS := .on (kq 64 5 <| kq 192 2 <| kq 2368 1 <| kq 2432 2 <| kq 2496 2 <| kq 2560 2 <| []) <| sq 64 [(uX 32 4), (uI v1), (uS e6 v2), (uS e6 v3), (uS e6 v4)] <| sq 192 [u0, (uI v5)] <| sq 2368 [⟨(.ad 1 0 2), 0, nob⟩] <| sq 2432 [u0, (uS e6 v3)] <| sq 2496 [u0, (uI (nlen (len v3)))] <| sq 2560 [u0, (uI v6)] []
def Nr (v1 : Int) (v2 : List Int) (v3 : List Int) (v4 : List Int) (w5 : Unit) : TS := .on (kq 128 2 <| []) <| sq 128 [u0, (uB false)] []
def Nq (v1 : Int) (v2 : List Int) (v3 : List Int) (v4 : List Int) (w5 : Unit) : TS := .on (kq 64 5 <| []) <| sq 64 [(uX 32 4), (uI v1), (uS e6 v2), (uS e6 v3), (uS e6 v4)] []
theorem JZ (K : Nat) (v1 : Int) (v2 : List Int) (v3 : List Int) (v4 : List Int) : ∀ (k : Nat) (v5 : Int) (v6 : Int) (r : (Unit) ⊕ (Unit)), DM K v1 v2 v3 v4 k v5 v6 = some r → (Sum.elim (fun w => LoopEv E H AK 0 HS (Ku v1 v2 v3 v4 v5 v6) .ret (Nr v1 v2 v3 v4 w)) (fun w => LoopEv E H AK 0 HS (Ku v1 v2 v3 v4 v5 v6) (.exit 0) (Nq v1 v2 v3 v4 w))) r := by
 intro k
 induction k with
 | zero => intro v5 v6 r F; cases F
 | succ k ih =>
  intro v5 v6 r F
  rw [DM] at F
  apply jc F <;> intro h7 F
  apply jn F; intro h8 F
  apply jb F; intro x9 h10 F
  have q18 {l} (z : HA AK l) := zT h7 <| zT h8 <| zX (.sub (flat e6 v3) (nidx v6 1) 1 [(i6 x9)]) ⟨rfl, sub_flat0 (eInt_len _) h10 1 (by decide)⟩ <| z
  apply jc F <;> intro h11 F
  apply jr F
  exact lE <| q18 <| BS h11 <| zt6 <| zr1 <| zt6 <| zr2 <| z0
  have q19 {l} (z : HA AK l) := Cw h11 <| z
  apply jc F <;> intro h12 F
  apply jr F
  exact lE <| q18 <| q19 <| Ew (igt_eq h12) <| zt6 <| zr2 <| z0
  apply jn F; intro h13 F
  apply jb F; intro x14 h15 F
  have q20 {l} (z : HA AK l) := zB4 (igt_eq h12) <| zT h13 <| zB1 (igt_eq h12) <| zX (.sub (flat e6 v4) (nidx v6 1) 1 [(i6 x14)]) ⟨rfl, sub_flat0 (eInt_len _) h15 1 (by decide)⟩ <| AA (igt_eq h12) <| z
  apply jc F <;> intro h16 F
  apply jr F
  exact lE <| q18 <| q19 <| q20 <| Ew h16 <| zr1 <| z0
  have q21 {l} (z : HA AK l) := zB4 h16 <| zT h13 <| zB1 h16 <| zX (.sub (flat e6 v4) (nidx v6 1) 1 [(i6 x14)]) ⟨rfl, sub_flat0 (eInt_len _) h15 1 (by decide)⟩ <| AA h16 <| z
  apply jc F <;> intro h17 F
  apply jr F
  exact lE <| q18 <| q19 <| q20 <| q21 <| zT (igt_eq h17) <| z0
  exact lN2 (q18 <| q19 <| q20 <| q21 <| zF (igt_eq h17) <| zi (wadd .i64 v6 1) <| z0) (ih _ _ _ F)
  apply jr F
  exact lE <| zF h7 <| z0
def ET (K : Nat) (v1 : Int) (v2 : List Int) (v3 : List Int) (v4 : List Int) : Nat → Int → Option ((Unit) ⊕ (Unit))
 | 0, _ => none
 | k + 1, v5 =>
  bif (ilt v5 (nlen (len v2))) then
   (bif (inr v5 (len v2)) then
   (elAt v2 v5).bind fun x6 =>
   (Df K v3 x6).bind fun r7 =>
   bif (ilt r7 0) then
    (some (.inl ()))
   else
   ET K v1 v2 v3 v4 k (wadd .i64 v5 1)
   else none)
  else
  some (.inr ())
def IK (v1 : Int) (v2 : List Int) (v3 : List Int) (v4 : List Int) (v5 : Int) : TS := .on (kq 64 5 <| kq 4480 1 <| kq 4544 2 <| kq 4608 2 <| kq 4672 2 <| []) <| sq 64 [(uX 32 4), (uI v1), (uS e6 v2), (uS e6 v3), (uS e6 v4)] <| sq 4480 [⟨(.ad 1 0 1), 0, nob⟩] <| sq 4544 [u0, (uS e6 v2)] <| sq 4608 [u0, (uI (nlen (len v2)))] <| sq 4672 [u0, (uI v5)] []
def OP (v1 : Int) (v2 : List Int) (v3 : List Int) (v4 : List Int) (w5 : Unit) : TS := .on (kq 128 2 <| []) <| sq 128 [u0, (uB false)] []
def QY (v1 : Int) (v2 : List Int) (v3 : List Int) (v4 : List Int) (w5 : Unit) : TS := .on [] []
theorem Hz (K : Nat) (v1 : Int) (v2 : List Int) (v3 : List Int) (v4 : List Int) : ∀ (k : Nat) (v5 : Int) (r : (Unit) ⊕ (Unit)), ET K v1 v2 v3 v4 k v5 = some r → (Sum.elim (fun w => LoopEv E H AK 2 Jq (IK v1 v2 v3 v4 v5) .ret (OP v1 v2 v3 v4 w)) (fun w => LoopEv E H AK 2 Jq (IK v1 v2 v3 v4 v5) (.exit 2) (QY v1 v2 v3 v4 w))) r := by
 intro k
 induction k with
 | zero => intro v5 r F; cases F
 | succ k ih =>
  intro v5 r F
  rw [ET] at F
  apply jc F <;> intro h6 F
  apply jn F; intro h7 F
  apply jb F; intro x8 h9 F
  apply jb F; intro r10 h11 F
  have q13 {l} (z : HA AK l) := zT h6 <| zT h7 <| zX (.sub (flat e6 v2) (nidx v5 1) 1 [(i6 x8)]) ⟨rfl, sub_flat0 (eInt_len _) h9 1 (by decide)⟩ <| zl (IV K v3 x8 _ h11) <| z
  apply jc F <;> intro h12 F
  apply jr F
  exact lE <| q13 <| zT h12 <| z0
  exact lN2 (q13 <| zF h12 <| zi (wadd .i64 v5 1) <| z0) (ih _ _ F)
  apply jr F
  exact lE <| zF h6 <| z0
def Eu (K : Nat) (a1 : GTable) : Option (Bool) :=
 bif (ilt a1.Epoch 0) then
  (some false)
 else
 bif (ilt 1099511627776 a1.Epoch) then
  (some false)
 else
 bif (ilt 5 (nlen (len a1.Ids))) then
  (some false)
 else
 bif (ieq (nlen (len a1.Incs)) (nlen (len a1.Ids))) then
  (bif (ilt 6 (nlen (len a1.Owners))) then
   (some false)
  else
  (DM K a1.Epoch a1.Owners a1.Ids a1.Incs K 0 0).bind fun y2 =>
  Sum.elim (fun w3 =>
   some false)
   (fun w4 =>
   (ET K a1.Epoch a1.Owners a1.Ids a1.Incs K 0).bind fun y5 =>
   Sum.elim (fun w6 =>
    some false)
    (fun w7 =>
    some true) y5) y2)
 else
 some false
theorem Gg (K : Nat) (a1 : GTable) (r : Bool) (F : Eu K a1 = some r) : Evt E H 100 [.agg (eGTable a1)] (Ns r) := by
 rw [Eu] at F
 apply jc F <;> intro h2 F
 apply jr F
 exact fpC AK <| Af h2 <| zt4 <| zr1 <| zt6 <| zt1 <| zr1 <| zt4 <| zr2 <| z0
 have q15 {l} (z : HA AK l) := Ah h2 <| z
 apply jc F <;> intro h3 F
 apply jr F
 exact fpC AK <| q15 <| D5 (igt_eq h3) <| zt6 <| zt1 <| zr1 <| zt4 <| zr2 <| z0
 have q16 {l} (z : HA AK l) := zB3 (igt_eq h3) <| zi (nl a1.Ids) <| AA (igt_eq h3) <| z
 apply jc F <;> intro h4 F
 apply jr F
 exact fpC AK <| q15 <| q16 <| zA6 (igt_eq h4) <| CX (igt_eq h4) <| zt4 <| zr2 <| z0
 have q17 {l} (z : HA AK l) := zB3 (igt_eq h4) <| zi (nl a1.Incs) <| zB3 (igt_eq h4) <| zi (nl a1.Ids) <| AA (igt_eq h4) <| z
 apply jc F <;> intro h5 F
 have q18 {l} (z : HA AK l) := zB3 (ine_t h5) <| zi (nl a1.Owners) <| AA (ine_t h5) <| z
 apply jc F <;> intro h6 F
 apply jr F
 exact fpC AK <| q15 <| q16 <| q17 <| q18 <| zT (igt_eq h6) <| z0
 apply jb F; intro y8 h7 F
 refine js F (fun w9 hx F => ?_) fun w10 hx F => ?_
 subst hx
 apply jr F
 exact fpC AK <| q15 <| q16 <| q17 <| q18 <| zF (igt_eq h6) <| zi (nl a1.Ids) <| zo (JZ K a1.Epoch a1.Owners a1.Ids a1.Incs K 0 0 _ h7) <| z0
 subst hx
 have q19 {l} (z : HA AK l) := zF (igt_eq h6) <| zi (nl a1.Ids) <| zo (JZ K a1.Epoch a1.Owners a1.Ids a1.Incs K 0 0 _ h7) <| zi (nl a1.Owners) <| z
 apply jb F; intro y12 h11 F
 refine js F (fun w13 hx F => ?_) fun w14 hx F => ?_
 subst hx
 apply jr F
 exact fpC AK <| q15 <| q16 <| q17 <| q18 <| q19 <| zo (Hz K a1.Epoch a1.Owners a1.Ids a1.Incs K 0 _ h11) <| z0
 subst hx
 apply jr F
 exact fpC AK <| q15 <| q16 <| q17 <| q18 <| q19 <| zo (Hz K a1.Epoch a1.Owners a1.Ids a1.Incs K 0 _ h11) <| z0
 apply jr F
 exact fpC AK <| q15 <| q16 <| q17 <| D5 (ine_f h5) <| zr1 <| z0
def F1 : Hint := { H 68 with nt := 32, prot := 0, kp := 0 }
def Mq (r1 : GTable × Bool) : Res := ⟨[(.agg [(mI r1.1.Epoch), (mS e6 r1.1.Owners), (mS e6 r1.1.Ids), (mS e6 r1.1.Incs)]), (.one (mB r1.2))], []⟩
def F68 (K : Nat) (a1 : GJob) (a2 : Int) (a3 : GMail) : Option (GTable × Bool) :=
 (Eu K (GTable.mk a2 a3.Owners a3.Ids a3.Incs)).bind fun r4 =>
 bif r4 then
  (bif (ilt 0 a2) then
   (some ((GTable.mk a2 a3.Owners a3.Ids a3.Incs), (ieq (nlen (len a3.Owners)) a1.Parts)))
  else
  some ((GTable.mk a2 a3.Owners a3.Ids a3.Incs), false))
 else
 some ((GTable.mk a2 a3.Owners a3.Ids a3.Incs), false)
theorem FU (K : Nat) (a1 : GJob) (a2 : Int) (a3 : GMail) (r : GTable × Bool) (F : F68 K a1 a2 a3 = some r) : Evt E H 68 [.agg (eGJob a1), .one (i6 a2), .agg (eGMail a3)] (Mq r) := by
 rw [F68] at F
 apply jb F; intro r4 h5 F
 apply jc F <;> intro h6 F
 have q8 {l} (z : HA F1 l) := zl (Gg K (GTable.mk a2 a3.Owners a3.Ids a3.Incs) _ h5) <| ID h6 <| z
 apply jc F <;> intro h7 F
 apply jr F
 exact fpC F1 <| q8 <| zC3 (igt_eq h7) <| zi (nl a3.Owners) <| D1 (igt_eq h7) <| z0
 apply jr F
 exact fpC F1 <| q8 <| FH (igt_eq h7) <| z0
 apply jr F
 exact fpC F1 <| zl (Gg K (GTable.mk a2 a3.Owners a3.Ids a3.Incs) _ h5) <| Kc h6 <| zk6 <| zf1 <| z0
def Fc : Hint := { H 69 with nt := 54, prot := 1, kp := 0 }
def K5 : Code := loopOf E 69 0
def Mp : Code := loopOf E 69 1
def MC (r1 : GWorker) : Res := ⟨[], [(wl0 r1)]⟩
def D3 (K : Nat) (a1 : GWorker) (a2 : Int) : Nat → List GData → Int → Option (List GData)
 | 0, _, _ => none
 | k + 1, v3, v4 =>
  bif (ilt v4 (nlen (len a1.Buf))) then
   (bif (inr v4 (len a1.Buf)) then
   (elAt a1.Buf v4).bind fun x5 =>
   bif (ile a2 x5.Epoch) then
    (bif (apok (len v3) 1 56) then
    D3 K a1 a2 k (appL v3 [x5]) (wadd .i64 v4 1)
    else none)
   else
   D3 K a1 a2 k v3 (wadd .i64 v4 1)
   else none)
  else
  some v3
def P3 (a1 : GWorker) (a2 : Int) (v3 : List GData) (v4 : Int) : TS := .on (kq 0 12 <| kq 64 2 <| kq 256 2 <| kq 640 1 <| kq 704 1 <| kq 768 1 <| kq 832 2 <| kq 896 2 <| kq 960 2 <| []) <| b0 0 a1 <| sq 64 [u0, (uI a2)] <| sq 256 [u0, (uO 112 eGData v3)] <| sq 640 [⟨(.ad 0 0 0), 0, nob⟩] <| sq 704 [⟨(.ad 0 0 0), 0, nob⟩] <| sq 768 [⟨(.ad 0 0 8), 0, nob⟩] <| sq 832 [u0, ⟨(.vw 9 0), 0, nob⟩] <| sq 896 [u0, (uI (nlen (len a1.Buf)))] <| sq 960 [u0, (uI v4)] []
def LO (a1 : GWorker) (a2 : Int) (w3 : List GData) : TS := .on (kq 0 12 <| kq 64 2 <| kq 256 2 <| []) <| b0 0 a1 <| sq 64 [u0, (uI a2)] <| sq 256 [u0, (uO 112 eGData w3)] []
theorem PN (K : Nat) (a1 : GWorker) (a2 : Int) : ∀ (k : Nat) (v3 : List GData) (v4 : Int) (r : List GData), D3 K a1 a2 k v3 v4 = some r → LoopEv E H Fc 0 K5 (P3 a1 a2 v3 v4) (.exit 0) (LO a1 a2 r) := by
 intro k
 induction k with
 | zero => intro v3 v4 r F; cases F
 | succ k ih =>
  intro v3 v4 r F
  rw [D3] at F
  apply jc F <;> intro h5 F
  apply jn F; intro h6 F
  apply jb F; intro x7 h8 F
  have q11 {l} (z : HA Fc l) := zT h5 <| zT h6 <| zS eGData_len h8 5 <| z
  apply jc F <;> intro h9 F
  apply jn F; intro h10 F
  exact lN1 (q11 <| zT (ige_eq h9) <| zX (tt (leqm [(i6 x7.Epoch), (i6 x7.Step), (i6 x7.Q), (i6 x7.P), (sE eGMsg x7.Msgs)] 1 5)) rfl <| zT h10 <| zV (app_ok (enc := eGData) (v3 : List GData) [x7]) <| zi (wadd .i64 v4 1) <| z0) (ih _ _ _ F)
  exact lN1 (q11 <| zF (ige_eq h9) <| zi (wadd .i64 v4 1) <| z0) (ih _ _ _ F)
  apply jr F
  exact lE <| zF h5 <| z0
def D9 (K : Nat) (a1 : GWorker) (a2 : Int) (w3 : List GData) : Nat → List GComing → Int → Option (List GComing)
 | 0, _, _ => none
 | k + 1, v4, v5 =>
  bif (ilt v5 (nlen (len a1.Coming))) then
   (bif (inr v5 (len a1.Coming)) then
   (elAt a1.Coming v5).bind fun x6 =>
   bif (ile a2 x6.Epoch) then
    (bif (apok (len v4) 1 96) then
    D9 K a1 a2 w3 k (appL v4 [x6]) (wadd .i64 v5 1)
    else none)
   else
   D9 K a1 a2 w3 k v4 (wadd .i64 v5 1)
   else none)
  else
  some v4
def K6 (a1 : GWorker) (a2 : Int) (w3 : List GData) (v4 : List GComing) (v5 : Int) : TS := .on (kq 0 12 <| kq 64 2 <| kq 256 2 <| kq 448 2 <| kq 1792 1 <| kq 1856 1 <| kq 1920 1 <| kq 1984 2 <| kq 2048 2 <| kq 2112 2 <| []) <| b0 0 a1 <| sq 64 [u0, (uI a2)] <| sq 256 [u0, (uO 112 eGData w3)] <| sq 448 [u0, (uO 113 eGComing v4)] <| sq 1792 [⟨(.ad 0 0 0), 0, nob⟩] <| sq 1856 [⟨(.ad 0 0 0), 0, nob⟩] <| sq 1920 [⟨(.ad 0 0 9), 0, nob⟩] <| sq 1984 [u0, ⟨(.vw 10 0), 0, nob⟩] <| sq 2048 [u0, (uI (nlen (len a1.Coming)))] <| sq 2112 [u0, (uI v5)] []
def Mf (a1 : GWorker) (a2 : Int) (w3 : List GData) (w4 : List GComing) : TS := .on (kq 0 12 <| kq 256 2 <| kq 448 2 <| []) <| b0 0 a1 <| sq 256 [u0, (uO 112 eGData w3)] <| sq 448 [u0, (uO 113 eGComing w4)] []
theorem Qc (K : Nat) (a1 : GWorker) (a2 : Int) (w3 : List GData) : ∀ (k : Nat) (v4 : List GComing) (v5 : Int) (r : List GComing), D9 K a1 a2 w3 k v4 v5 = some r → LoopEv E H Fc 2 Mp (K6 a1 a2 w3 v4 v5) (.exit 2) (Mf a1 a2 w3 r) := by
 intro k
 induction k with
 | zero => intro v4 v5 r F; cases F
 | succ k ih =>
  intro v4 v5 r F
  rw [D9] at F
  apply jc F <;> intro h6 F
  apply jn F; intro h7 F
  apply jb F; intro x8 h9 F
  have q12 {l} (z : HA Fc l) := zT h6 <| zT h7 <| zS eGComing_len h9 6 <| z
  apply jc F <;> intro h10 F
  apply jn F; intro h11 F
  exact lN1 (q12 <| zT (ige_eq h10) <| zX (tt (leqm [(i6 x8.Epoch), (i6 x8.X.P), (i6 x8.X.Step), (sE e6 x8.X.Vals), (sE eBool x8.X.Rest), (sE eGMsg x8.X.In)] 1 6)) rfl <| zT h11 <| zV (app_ok (enc := eGComing) (v4 : List GComing) [x8]) <| zi (wadd .i64 v5 1) <| z0) (ih _ _ _ F)
  exact lN1 (q12 <| zF (ige_eq h10) <| zi (wadd .i64 v5 1) <| z0) (ih _ _ _ F)
  apply jr F
  exact lE <| zF h6 <| z0
def DX (K : Nat) (a1 : GWorker) (a2 : Int) : Option (GWorker) :=
 (D3 K a1 a2 K [] 0).bind fun w3 =>
 (D9 K a1 a2 w3 K [] 0).bind fun w4 =>
 some (GWorker.mk a1.Id a1.Goal a1.Until a1.T a1.Held w3 w4 a1.Out)
theorem HW (K : Nat) (a1 : GWorker) (a2 : Int) (r : GWorker) (F : DX K a1 a2 = some r) : Evt E H 69 [.box 38 (wl0 a1), .one (i6 a2)] (MC r) := by
 rw [DX] at F
 apply jb F; intro w4 h3 F
 apply jb F; intro w6 h5 F
 apply jr F
 exact fpC Fc <| zi (nl a1.Buf) <| zo (PN K a1 a2 K [] 0 _ h3) <| zi (nl a1.Coming) <| zo (Qc K a1 a2 w4 K [] 0 _ h5) <| z0
def Ka : Hint := { H 96 with nt := 23, prot := 0, kp := 0 }
def Lk (r1 : GTable) : Res := ⟨[(.agg [(mI r1.Epoch), (.own 3 (sE e6 r1.Owners)), (.own 3 (sE e6 r1.Ids)), (.own 3 (sE e6 r1.Incs))])], []⟩
def F96 (K : Nat) (a1 : GTable) : Option (GTable) :=
 (Eu K a1).bind fun r2 =>
 bif r2 then
  (bif (apok 0 (len a1.Owners) 8) then
  bif (apok 0 (len a1.Ids) 8) then
  bif (apok 0 (len a1.Incs) 8) then
  some (GTable.mk a1.Epoch (appL [] a1.Owners) (appL [] a1.Ids) (appL [] a1.Incs))
  else none
  else none
  else none)
 else
 some (GTable.mk 0 [] [] [])
theorem Hn (K : Nat) (a1 : GTable) (r : GTable) (F : F96 K a1 = some r) : Evt E H 96 [.agg (eGTable a1)] (Lk r) := by
 rw [F96] at F
 apply jb F; intro r2 h3 F
 apply jc F <;> intro h4 F
 apply jn F; intro h5 F
 apply jn F; intro h6 F
 apply jn F; intro h7 F
 apply jr F
 exact fpC Ka <| zl (Gg K a1 _ h3) <| zF (bnot_t h4) <| zX (tt (leqm (flat e6 a1.Owners) (len a1.Owners) 1)) (leqm_flat (eInt_len _) _) <| zT h5 <| zV (app_ok (enc := e6) ([] : List Int) a1.Owners) <| zX (tt (leqm (flat e6 a1.Ids) (len a1.Ids) 1)) (leqm_flat (eInt_len _) _) <| zT h6 <| zV (app_ok (enc := e6) ([] : List Int) a1.Ids) <| zX (tt (leqm (flat e6 a1.Incs) (len a1.Incs) 1)) (leqm_flat (eInt_len _) _) <| zT h7 <| zV (app_ok (enc := e6) ([] : List Int) a1.Incs) <| z0
 apply jr F
 exact fpC Ka <| zl (Gg K a1 _ h3) <| zT (bnot_f h4) <| z0
def GL : Hint := { H 97 with nt := 19, prot := 0, kp := 0 }
def M1 (r1 : Int) : Res := ⟨[(.one (mI r1))], []⟩
def F97 (K : Nat) (a1 : GTable) (a2 : Int) : Option (Int) :=
 (F96 K a1).bind fun r3 =>
 (Df K r3.Ids a2).bind fun r4 =>
 bif (ilt r4 0) then
  (some 0)
 else
 bif (inr r4 (len r3.Incs)) then
 (elAt r3.Incs r4).bind fun x5 =>
 some x5
 else none
theorem OD (K : Nat) (a1 : GTable) (a2 : Int) (r : Int) (F : F97 K a1 a2 = some r) : Evt E H 97 [.agg (eGTable a1), .one (i6 a2)] (M1 r) := by
 rw [F97] at F
 apply jb F; intro r3 h4 F
 apply jb F; intro r5 h6 F
 have q11 {l} (z : HA GL l) := zl (Hn K a1 _ h4) <| zl (IV K r3.Ids a2 _ h6) <| z
 apply jc F <;> intro h7 F
 apply jr F
 exact fpC GL <| q11 <| zT h7 <| z0
 apply jn F; intro h8 F
 apply jb F; intro x9 h10 F
 apply jr F
 exact fpC GL <| q11 <| zF h7 <| zT h8 <| zX (.sub (flat e6 r3.Incs) (nidx r5 1) 1 [(i6 x9)]) ⟨rfl, sub_flat0 (eInt_len _) h10 1 (by decide)⟩ <| z0
def Gn : Hint := { H 60 with nt := 30, prot := 0, kp := 0 }
def LL (r1 : Int × Int × Int) : Res := ⟨[(.one (mI r1.1)), (.one (mI r1.2.1)), (.one (mI r1.2.2))], []⟩
def F60 (K : Nat) (a1 : GTable) (a2 : Int) : Option (Int × Int × Int) :=
 (F96 K a1).bind fun r3 =>
 bif (ilt a2 0) then
  (some (0, (0, 4)))
 else
 bif (ile (nlen (len r3.Owners)) a2) then
  (some (0, (0, 4)))
 else
 bif (inr a2 (len r3.Owners)) then
 (elAt r3.Owners a2).bind fun x4 =>
 (F97 K r3 x4).bind fun r5 =>
 some (x4, (r5, 0))
 else none
theorem Hf (K : Nat) (a1 : GTable) (a2 : Int) (r : Int × Int × Int) (F : F60 K a1 a2 = some r) : Evt E H 60 [.agg (eGTable a1), .one (i6 a2)] (LL r) := by
 rw [F60] at F
 apply jb F; intro r3 h4 F
 apply jc F <;> intro h5 F
 apply jr F
 exact fpC Gn <| zl (Hn K a1 _ h4) <| AQ h5 <| zr1 <| z0
 have q12 {l} (z : HA Gn l) := zl (Hn K a1 _ h4) <| zB4 h5 <| zi (nl r3.Owners) <| AA h5 <| z
 apply jc F <;> intro h6 F
 apply jr F
 exact fpC Gn <| q12 <| zT (ige_eq h6) <| z0
 apply jn F; intro h7 F
 apply jb F; intro x8 h9 F
 apply jb F; intro r10 h11 F
 apply jr F
 exact fpC Gn <| q12 <| zF (ige_eq h6) <| zT h7 <| zX (.sub (flat e6 r3.Owners) (nidx a2 1) 1 [(i6 x8)]) ⟨rfl, sub_flat0 (eInt_len _) h9 1 (by decide)⟩ <| zT h7 <| zX (.sub (flat e6 r3.Owners) (nidx a2 1) 1 [(i6 x8)]) ⟨rfl, sub_flat0 (eInt_len _) h9 1 (by decide)⟩ <| zl (OD K r3 x8 _ h11) <| z0
def FW : Hint := { H 110 with nt := 22, prot := 0, kp := 0 }
def O4 (r1 : Int) : Res := ⟨[(.one (mI r1))], []⟩
def FP (K : Nat) (a1 : Int) (a2 : Int) (a3 : Int) : Option (Int) :=
 bif (ilt a3 0) then
  (some 0)
 else
 bif (ile a2 a3) then
  (some 0)
 else
 bif (izero a2) then none else
 some (wquo .i64 (wsub .i64 (wadd .i64 (wsub .i64 a1 a3) a2) 1) a2)
theorem NX (K : Nat) (a1 : Int) (a2 : Int) (a3 : Int) (r : Int) (F : FP K a1 a2 a3 = some r) : Evt E H 110 [.one (i6 a1), .one (i6 a2), .one (i6 a3)] (O4 r) := by
 rw [FP] at F
 apply jc F <;> intro h4 F
 apply jr F
 exact fpC FW <| Af h4 <| zr1 <| z0
 have q7 {l} (z : HA FW l) := Ah h4 <| z
 apply jc F <;> intro h5 F
 apply jr F
 exact fpC FW <| q7 <| zT (ige_eq h5) <| z0
 refine cond_some F (fun _ F => nomatch F) (fun h6 F => ?_)
 apply jr F
 exact fpC FW <| q7 <| zF (ige_eq h5) <| zi (wsub .i64 a1 a3) <| zi (wadd .i64 (wsub .i64 a1 a3) a2) <| zi (wsub .i64 (wadd .i64 (wsub .i64 a1 a3) a2) 1) <| zF h6 <| zi (wquo .i64 (wsub .i64 (wadd .i64 (wsub .i64 a1 a3) a2) 1) a2) <| z0
def FY : Hint := { H 103 with nt := 18, prot := 0, kp := 0 }
def MZ (r1 : Int) : Res := ⟨[(.one (mI r1))], []⟩
def Ff (K : Nat) (a1 : GGraph) (a2 : GJob) (a3 : Int) : Option (Int) :=
 (F31 K a1 a2).bind fun r4 =>
 bif (ieq r4 0) then
  ((FP K a1.N a2.Parts a3).bind fun r5 =>
  bif (ilt 0 r5) then
   (some r5)
  else
  some 0)
 else
 some 0
theorem MY (K : Nat) (a1 : GGraph) (a2 : GJob) (a3 : Int) (r : Int) (F : Ff K a1 a2 a3 = some r) : Evt E H 103 [.agg (eGGraph a1), .agg (eGJob a2), .one (i6 a3)] (MZ r) := by
 rw [Ff] at F
 apply jb F; intro r4 h5 F
 apply jc F <;> intro h6 F
 apply jb F; intro r7 h8 F
 have q10 {l} (z : HA FY l) := zl (Cc K a1 a2 _ h5) <| zF (ine_t h6) <| zl (NX K a1.N a2.Parts a3 _ h8) <| z
 apply jc F <;> intro h9 F
 apply jr F
 exact fpC FY <| q10 <| zT (igt_eq h9) <| z0
 apply jr F
 exact fpC FY <| q10 <| zF (igt_eq h9) <| z0
 apply jr F
 exact fpC FY <| zl (Cc K a1 a2 _ h5) <| zT (ine_f h6) <| z0
def AO : Hint := { H 91 with nt := 85, prot := 0, kp := 0 }
def HF : Code := loopOf E 91 0
def Qj (r1 : Bool) : Res := ⟨[(.one (mB r1))], []⟩
def EB (K : Nat) (a1 : GGraph) (a2 : GJob) (a3 : GPart) : Nat → Int → Int → Option ((Unit) ⊕ (Unit))
 | 0, _, _ => none
 | k + 1, v4, v5 =>
  bif (ilt v5 (nlen (len a3.In))) then
   (bif (inr v5 (len a3.In)) then
   (elAt a3.In v5).bind fun x6 =>
   bif (ile x6.To v4) then
    (some (.inl ()))
   else
   bif (ile a1.N x6.To) then
    (some (.inl ()))
   else
   bif (izero a2.Parts) then none else
   bif (ieq (wrem x6.To a2.Parts) a3.P) then
    (EB K a1 a2 a3 k x6.To (wadd .i64 v5 1))
   else
   some (.inl ())
   else none)
  else
  some (.inr ())
def H6 (a1 : GGraph) (a2 : GJob) (a3 : GPart) (v4 : Int) (v5 : Int) : TS := .on (kq 192 3 <| kq 256 5 <| kq 320 6 <| kq 512 2 <| kq 3456 1 <| kq 3520 2 <| kq 3584 2 <| kq 3648 2 <| []) <| b2 192 a1 <| b3 256 a2 <| b9 320 a3 <| sq 512 [u0, (uI v4)] <| sq 3456 [⟨(.ad 5 0 4), 0, nob⟩] <| sq 3520 [u0, (uS eGMsg a3.In)] <| sq 3584 [u0, (uI (nlen (len a3.In)))] <| sq 3648 [u0, (uI v5)] []
def ME (a1 : GGraph) (a2 : GJob) (a3 : GPart) (w4 : Unit) : TS := .on (kq 384 2 <| []) <| sq 384 [u0, (uB false)] []
def MJ (a1 : GGraph) (a2 : GJob) (a3 : GPart) (w4 : Unit) : TS := .on [] []
theorem Jd (K : Nat) (a1 : GGraph) (a2 : GJob) (a3 : GPart) : ∀ (k : Nat) (v4 : Int) (v5 : Int) (r : (Unit) ⊕ (Unit)), EB K a1 a2 a3 k v4 v5 = some r → (Sum.elim (fun w => LoopEv E H AO 0 HF (H6 a1 a2 a3 v4 v5) .ret (ME a1 a2 a3 w)) (fun w => LoopEv E H AO 0 HF (H6 a1 a2 a3 v4 v5) (.exit 0) (MJ a1 a2 a3 w))) r := by
 intro k
 induction k with
 | zero => intro v4 v5 r F; cases F
 | succ k ih =>
  intro v4 v5 r F
  rw [EB] at F
  apply jc F <;> intro h6 F
  apply jn F; intro h7 F
  apply jb F; intro x8 h9 F
  have q14 {l} (z : HA AO l) := zT h6 <| zT h7 <| zS eGMsg_len h9 2 <| z
  apply jc F <;> intro h10 F
  apply jr F
  exact lE <| q14 <| AQ h10 <| zt6 <| zt2 <| zr2 <| z0
  have q15 {l} (z : HA AO l) := BP h10 <| z
  apply jc F <;> intro h11 F
  apply jr F
  exact lE <| q14 <| q15 <| zA6 (ige_eq h11) <| BS (ige_eq h11) <| zr1 <| z0
  refine cond_some F (fun _ F => nomatch F) (fun h12 F => ?_)
  have q16 {l} (z : HA AO l) := zB5 (ige_eq h11) <| zF h12 <| zi (wrem x8.To a2.Parts) <| Ah (ige_eq h11) <| z
  apply jc F <;> intro h13 F
  exact lN2 (q14 <| q15 <| q16 <| zF (ine_t h13) <| zi (wadd .i64 v5 1) <| z0) (ih _ _ _ F)
  apply jr F
  exact lE <| q14 <| q15 <| q16 <| zT (ine_f h13) <| z0
  apply jr F
  exact lE <| zF h6 <| z0
def F91 (K : Nat) (a1 : GGraph) (a2 : GJob) (a3 : GPart) : Option (Bool) :=
 (F31 K a1 a2).bind fun r4 =>
 bif (ieq r4 0) then
  (bif (ilt a3.P 0) then
   (some false)
  else
  bif (ile a2.Parts a3.P) then
   (some false)
  else
  bif (ilt a3.Step 0) then
   (some false)
  else
  bif (ilt 40 a3.Step) then
   (some false)
  else
  (Ff K a1 a2 a3.P).bind fun r5 =>
  bif (ieq (nlen (len a3.Vals)) r5) then
   (bif (ieq (nlen (len a3.Rest)) r5) then
    ((EB K a1 a2 a3 K (-1) 0).bind fun y6 =>
    Sum.elim (fun w7 =>
     some false)
     (fun w8 =>
     some true) y6)
   else
   some false)
  else
  some false)
 else
 some false
theorem GI (K : Nat) (a1 : GGraph) (a2 : GJob) (a3 : GPart) (r : Bool) (F : F91 K a1 a2 a3 = some r) : Evt E H 91 [.agg (eGGraph a1), .agg (eGJob a2), .agg (eGPart a3)] (Qj r) := by
 rw [F91] at F
 apply jb F; intro r4 h5 F
 apply jc F <;> intro h6 F
 have q19 {l} (z : HA AO l) := zl (Cc K a1 a2 _ h5) <| Ah (ine_t h6) <| z
 apply jc F <;> intro h7 F
 apply jr F
 exact fpC AO <| q19 <| AQ h7 <| zt3 <| zr1 <| zt3 <| zr2 <| z0
 have q20 {l} (z : HA AO l) := BP h7 <| z
 apply jc F <;> intro h8 F
 apply jr F
 exact fpC AO <| q19 <| q20 <| Af (ige_eq h8) <| zt3 <| zr2 <| z0
 have q21 {l} (z : HA AO l) := Ah (ige_eq h8) <| z
 apply jc F <;> intro h9 F
 apply jr F
 exact fpC AO <| q19 <| q20 <| q21 <| Af h9 <| zr1 <| z0
 have q22 {l} (z : HA AO l) := Ah h9 <| z
 apply jc F <;> intro h10 F
 apply jr F
 exact fpC AO <| q19 <| q20 <| q21 <| q22 <| zT (igt_eq h10) <| z0
 apply jb F; intro r11 h12 F
 have q23 {l} (z : HA AO l) := zF (igt_eq h10) <| zl (MY K a1 a2 a3.P _ h12) <| zi (nl a3.Vals) <| z
 apply jc F <;> intro h13 F
 have q24 {l} (z : HA AO l) := zB3 (ine_t h13) <| zi (nl a3.Rest) <| Cw (ine_t h13) <| z
 apply jc F <;> intro h14 F
 apply jb F; intro y16 h15 F
 refine js F (fun w17 hx F => ?_) fun w18 hx F => ?_
 subst hx
 apply jr F
 exact fpC AO <| q19 <| q20 <| q21 <| q22 <| q23 <| q24 <| zF (ine_t h14) <| zi (nl a3.In) <| zo (Jd K a1 a2 a3 K (-1) 0 _ h15) <| z0
 subst hx
 apply jr F
 exact fpC AO <| q19 <| q20 <| q21 <| q22 <| q23 <| q24 <| zF (ine_t h14) <| zi (nl a3.In) <| zo (Jd K a1 a2 a3 K (-1) 0 _ h15) <| z0
 apply jr F
 exact fpC AO <| q19 <| q20 <| q21 <| q22 <| q23 <| q24 <| zT (ine_f h14) <| z0
 apply jr F
 exact fpC AO <| q19 <| q20 <| q21 <| q22 <| q23 <| AQ (ine_f h13) <| zr1 <| z0
 apply jr F
 exact fpC AO <| zl (Cc K a1 a2 _ h5) <| Af (ine_f h6) <| zt5 <| zr1 <| zt3 <| zr1 <| zt3 <| zr2 <| z0
def FA : Hint := { H 72 with nt := 24, prot := 1, kp := 0 }
def IL : Code := loopOf E 72 0
def KC (r1 : Int × GWorker) : Res := ⟨[(.one (mI r1.1))], [(wl0 r1.2)]⟩
def Eg (K : Nat) (a1 : GWorker) (a2 : Int) : Nat → Int → Option ((Int) ⊕ (Unit))
 | 0, _ => none
 | k + 1, v3 =>
  bif (ilt v3 (nlen (len a1.Held))) then
   (bif (inr v3 (len a1.Held)) then
   (elAt a1.Held v3).bind fun x4 =>
   bif (ieq x4.X.P a2) then
    (some (.inl v3))
   else
   Eg K a1 a2 k (wadd .i64 v3 1)
   else none)
  else
  some (.inr ())
def HU (a1 : GWorker) (a2 : Int) (v3 : Int) : TS := .on (kq 0 12 <| kq 64 2 <| kq 448 1 <| kq 512 1 <| kq 576 1 <| kq 640 2 <| kq 704 2 <| kq 768 2 <| []) <| b0 0 a1 <| sq 64 [u0, (uI a2)] <| sq 448 [⟨(.ad 0 0 0), 0, nob⟩] <| sq 512 [⟨(.ad 0 0 0), 0, nob⟩] <| sq 576 [⟨(.ad 0 0 7), 0, nob⟩] <| sq 640 [u0, ⟨(.vw 8 0), 0, nob⟩] <| sq 704 [u0, (uI (nlen (len a1.Held)))] <| sq 768 [u0, (uI v3)] []
def N9 (a1 : GWorker) (a2 : Int) (w3 : Int) : TS := .on (kq 0 12 <| kq 256 2 <| []) <| b0 0 a1 <| sq 256 [u0, (uI w3)] []
def Pt (a1 : GWorker) (a2 : Int) (w3 : Unit) : TS := .on (kq 0 12 <| []) <| b0 0 a1 []
theorem Iq (K : Nat) (a1 : GWorker) (a2 : Int) : ∀ (k : Nat) (v3 : Int) (r : (Int) ⊕ (Unit)), Eg K a1 a2 k v3 = some r → (Sum.elim (fun w => LoopEv E H FA 0 IL (HU a1 a2 v3) .ret (N9 a1 a2 w)) (fun w => LoopEv E H FA 0 IL (HU a1 a2 v3) (.exit 0) (Pt a1 a2 w))) r := by
 intro k
 induction k with
 | zero => intro v3 r F; cases F
 | succ k ih =>
  intro v3 r F
  rw [Eg] at F
  apply jc F <;> intro h4 F
  apply jn F; intro h5 F
  apply jb F; intro x6 h7 F
  have q9 {l} (z : HA FA l) := zT h4 <| zT h5 <| zS eGHeld_len h7 7 <| z
  apply jc F <;> intro h8 F
  apply jr F
  exact lE <| q9 <| zT h8 <| z0
  exact lN2 (q9 <| zF h8 <| zi (wadd .i64 v3 1) <| z0) (ih _ _ F)
  apply jr F
  exact lE <| zF h4 <| z0
def EY (K : Nat) (a1 : GWorker) (a2 : Int) : Option (Int × GWorker) :=
 (Eg K a1 a2 K 0).bind fun y3 =>
 Sum.elim (fun w4 =>
  some (w4, a1))
  (fun w5 =>
  some ((-1), a1)) y3
theorem Gy (K : Nat) (a1 : GWorker) (a2 : Int) (r : Int × GWorker) (F : EY K a1 a2 = some r) : Evt E H 72 [.box 38 (wl0 a1), .one (i6 a2)] (KC r) := by
 rw [EY] at F
 apply jb F; intro y4 h3 F
 refine js F (fun w5 hx F => ?_) fun w6 hx F => ?_
 subst hx
 apply jr F
 exact fpC FA <| zi (nl a1.Held) <| zo (Iq K a1 a2 K 0 _ h3) <| z0
 subst hx
 apply jr F
 exact fpC FA <| zi (nl a1.Held) <| zo (Iq K a1 a2 K 0 _ h3) <| z0
def Ep : Hint := { H 70 with nt := 46, prot := 1, kp := 0 }
def Kw (r1 : Bool × GWorker) : Res := ⟨[(.one (mB r1.1))], [(wl0 r1.2)]⟩
def CK (K : Nat) (a1 : GWorker) (a2 : GGraph) (a3 : GJob) (a4 : GPart) : Option (Bool × GWorker) :=
 (F60 K a1.T a4.P).bind fun r5 =>
 bif (ieq r5.2.2 0) then
  (bif (ieq r5.1 a1.Id) then
   ((F91 K a2 a3 a4).bind fun r6 =>
   bif r6 then
    ((EY K a1 a4.P).bind fun r7 =>
    some ((ilt r7.1 0), r7.2))
   else
   some (false, a1))
  else
  some (false, a1))
 else
 some (false, a1)
theorem GX (K : Nat) (a1 : GWorker) (a2 : GGraph) (a3 : GJob) (a4 : GPart) (r : Bool × GWorker) (F : CK K a1 a2 a3 a4 = some r) : Evt E H 70 [.box 38 (wl0 a1), .agg (eGGraph a2), .agg (eGJob a3), .agg (eGPart a4)] (Kw r) := by
 rw [CK] at F
 apply jb F; intro r5 h6 F
 apply jc F <;> intro h7 F
 have q14 {l} (z : HA Ep l) := zl (Hf K a1.T a4.P _ h6) <| IC h7 <| z
 apply jc F <;> intro h8 F
 apply jb F; intro r9 h10 F
 have q15 {l} (z : HA Ep l) := zC4 h8 <| zl (GI K a2 a3 a4 _ h10) <| zT h8 <| z
 apply jc F <;> intro h11 F
 apply jb F; intro r12 h13 F
 apply jr F
 exact fpC Ep <| q14 <| q15 <| zC4 h11 <| zc (Gy K a1 a4.P _ h13) <| Dh h11 <| z0
 apply jr F
 exact fpC Ep <| q14 <| q15 <| Ag h11 <| z0
 apply jr F
 exact fpC Ep <| q14 <| El h8 <| zk5 <| zf1 <| z0
 apply jr F
 exact fpC Ep <| zl (Hf K a1.T a4.P _ h6) <| FH h7 <| zk4 <| zf1 <| zk5 <| zf1 <| z0
def He : Hint := { H 71 with nt := 53, prot := 1, kp := 0 }
def NJ : Code := loopOf E 71 0
def QH (r1 : GWorker) : Res := ⟨[], [(wl0 r1)]⟩
def DS (K : Nat) (a1 : GWorker) (a2 : GPart) : Nat → Int → Option (Int)
 | 0, _ => none
 | k + 1, v3 =>
  bif (ilt v3 (nlen (len a1.Held))) then
   (bif (inr v3 (len a1.Held)) then
   (elAt a1.Held v3).bind fun x4 =>
   bif (ilt x4.X.P a2.P) then
    (DS K a1 a2 k (wadd .i64 v3 1))
   else
   some v3
   else none)
  else
  some v3
def OS (a1 : GWorker) (a2 : GPart) (v3 : Int) : TS := .on (kq 0 12 <| kq 192 6 <| kq 256 2 <| []) <| b0 0 a1 <| b9 192 a2 <| sq 256 [u0, (uI v3)] []
def Oy (a1 : GWorker) (a2 : GPart) (w3 : Int) : TS := .on (kq 0 12 <| kq 192 6 <| kq 256 2 <| []) <| b0 0 a1 <| b9 192 a2 <| sq 256 [u0, (uI w3)] []
theorem OJ (K : Nat) (a1 : GWorker) (a2 : GPart) : ∀ (k : Nat) (v3 : Int) (r : Int), DS K a1 a2 k v3 = some r → LoopEv E H He 0 NJ (OS a1 a2 v3) (.exit 0) (Oy a1 a2 r) := by
 intro k
 induction k with
 | zero => intro v3 r F; cases F
 | succ k ih =>
  intro v3 r F
  rw [DS] at F
  apply jc F <;> intro h4 F
  apply jn F; intro h5 F
  apply jb F; intro x6 h7 F
  have q9 {l} (z : HA He l) := zi (nl a1.Held) <| zC6 h4 <| zT h5 <| zC3 h4 <| zU eGHeld_len h7 0 1 <| D1 h4 <| z
  apply jc F <;> intro h8 F
  exact lN1 (q9 <| zT h8 <| zi (wadd .i64 v3 1) <| z0) (ih _ _ F)
  apply jr F
  exact lE <| q9 <| zF h8 <| z0
  apply jr F
  exact lE <| zi (nl a1.Held) <| zD6 h4 <| FH h4 <| zf1 <| z0
def CI (K : Nat) (a1 : GWorker) (a2 : GPart) : Option (GWorker) :=
 (DS K a1 a2 K 0).bind fun w3 =>
 bif (bnd w3 (nlen (len a1.Held)) (len a1.Held)) then
 bif (apok 0 (len (α := GHeld) (subL a1.Held w3 (nlen (len a1.Held)))) 96) then
 bif (bnd 0 w3 (len a1.Held)) then
 bif (ieq w3 w3) then
 bif (apok (len (α := GHeld) (subL a1.Held 0 w3)) 1 96) then
 bif (apok (len (α := GHeld) (appL (subL a1.Held 0 w3) [(GHeld.mk a2 false false)])) (len (α := GHeld) (appL [] (subL a1.Held w3 (nlen (len a1.Held))))) 96) then
 some (GWorker.mk a1.Id a1.Goal a1.Until a1.T (appL (appL (subL a1.Held 0 w3) [(GHeld.mk a2 false false)]) (appL [] (subL a1.Held w3 (nlen (len a1.Held))))) a1.Buf a1.Coming a1.Out)
 else none
 else none
 else none
 else none
 else none
 else none
theorem G7 (K : Nat) (a1 : GWorker) (a2 : GPart) (r : GWorker) (F : CI K a1 a2 = some r) : Evt E H 71 [.box 38 (wl0 a1), .agg (eGPart a2)] (QH r) := by
 rw [CI] at F
 apply jb F; intro w4 h3 F
 apply jn F; intro h5 F
 apply jn F; intro h6 F
 apply jn F; intro h7 F
 apply jn F; intro h8 F
 apply jn F; intro h9 F
 apply jn F; intro h10 F
 apply jr F
 exact fpC He <| zo (OJ K a1 a2 K 0 _ h3) <| zT h5 <| zV (sub_ok eGHeld_len h5) <| zX (tt (leqm (flat eGHeld (subL a1.Held w4 (nl a1.Held))) (len (α := GHeld) (subL a1.Held w4 (nl a1.Held))) 7)) (leqm_flat eGHeld_len _) <| zT h6 <| zV (app_ok (enc := eGHeld) ([] : List GHeld) (subL a1.Held w4 (nl a1.Held))) <| zT h7 <| zT h8 <| zV (sub_ok eGHeld_len h7) <| zX (tt (leqm [(i6 a2.P), (i6 a2.Step), (sE e6 a2.Vals), (sE eBool a2.Rest), (sE eGMsg a2.In), (.lit (.bool false)), (.lit (.bool false))] 1 7)) rfl <| zX (tt (leqm (flat eGHeld (subL a1.Held 0 w4)) (len (α := GHeld) (subL a1.Held 0 w4)) 7)) (leqm_flat eGHeld_len _) <| zT h9 <| zY (tt (lle 1 1)) <| zV (app_ok (enc := eGHeld) ((subL a1.Held 0 w4) : List GHeld) [(GHeld.mk a2 false false)]) <| zX (tt (leqm (flat eGHeld (appL [] (subL a1.Held w4 (nl a1.Held)))) (len (α := GHeld) (appL [] (subL a1.Held w4 (nl a1.Held)))) 7)) (leqm_flat eGHeld_len _) <| zT h10 <| zV (app_ok (enc := eGHeld) ((appL (subL a1.Held 0 w4) [(GHeld.mk a2 false false)]) : List GHeld) (appL [] (subL a1.Held w4 (nl a1.Held)))) <| z0
def Qi : Hint := { H 63 with nt := 15, prot := 1, kp := 1792 }
def N5 (r1 : GWorker) : Res := ⟨[], [(wl0 r1)]⟩
def CY (K : Nat) (a1 : GWorker) (a2 : GMail) : Option (GWorker) :=
 bif (apok (len a1.Out) 1 264) then
 some (GWorker.mk a1.Id a1.Goal a1.Until a1.T a1.Held a1.Buf a1.Coming (appL a1.Out [(GPost.mk 0 0 a2)]))
 else none
theorem E8 (K : Nat) (a1 : GWorker) (a2 : GMail) (r : GWorker) (F : CY K a1 a2 = some r) : Evt E H 63 [.box 38 (wl0 a1), .agg (eGMail a2)] (N5 r) := by
 rw [CY] at F
 apply jn F; intro h3 F
 apply jr F
 exact fpC Qi <| zX (tt (leqm [(i6 0), (i6 0), (i6 a2.Kind), (i6 a2.Epoch), (i6 a2.Fresh), (i6 a2.Step), (i6 a2.P), (i6 a2.Q), (i6 a2.To), (i6 a2.E), (sE e6 a2.Owners), (sE e6 a2.Ids), (sE e6 a2.Incs), (i6 a2.X.P), (i6 a2.X.Step), (sE e6 a2.X.Vals), (sE eBool a2.X.Rest), (sE eGMsg a2.X.In), (sE eGMsg a2.Msgs)] 1 19)) rfl <| zT h3 <| zV (app_ok (enc := eGPost) (a1.Out : List GPost) [(GPost.mk 0 0 a2)]) <| z0
def C9 : Hint := { H 41 with nt := 73, prot := 1, kp := 0 }
def KP (r1 : GWorker) : Res := ⟨[], [(wl0 r1)]⟩
def E9 (K : Nat) (a1 : GWorker) (a2 : GGraph) (a3 : GJob) (a4 : GMail) : Option (GWorker) :=
 (F68 K a3 a4.Epoch a4).bind fun r5 =>
 bif r5.2 then
  (bif (ilt a4.Epoch a1.T.Epoch) then
   (some a1)
  else
  bif (ilt a1.T.Epoch a4.Epoch) then
   ((DX K (GWorker.mk a1.Id (-1) a1.Until r5.1 [] a1.Buf a1.Coming []) a4.Epoch).bind fun r6 =>
   (CK K r6 a2 a3 a4.X).bind fun r7 =>
   bif r7.1 then
    ((CI K r7.2 a4.X).bind fun r8 =>
    (CY K r8 (GMail.mk 2 a4.Epoch 0 0 a4.X.P 0 0 0 [] [] [] (GPart.mk 0 0 [] [] []) [])).bind fun r9 =>
    some r9)
   else
   some r7.2)
  else
  (CK K a1 a2 a3 a4.X).bind fun r10 =>
  bif r10.1 then
   ((CI K r10.2 a4.X).bind fun r11 =>
   (CY K r11 (GMail.mk 2 a4.Epoch 0 0 a4.X.P 0 0 0 [] [] [] (GPart.mk 0 0 [] [] []) [])).bind fun r12 =>
   some r12)
  else
  some r10.2)
 else
 some a1
theorem Mt (K : Nat) (a1 : GWorker) (a2 : GGraph) (a3 : GJob) (a4 : GMail) (r : GWorker) (F : E9 K a1 a2 a3 a4 = some r) : Evt E H 41 [.box 38 (wl0 a1), .agg (eGGraph a2), .agg (eGJob a3), .agg (eGMail a4)] (KP r) := by
 rw [E9] at F
 apply jb F; intro r5 h6 F
 apply jc F <;> intro h7 F
 have q26 {l} (z : HA C9 l) := zc (FU K a3 a4.Epoch a4 _ h6) <| zB6 (bnot_t h7) <| Cw (bnot_t h7) <| z
 apply jc F <;> intro h8 F
 apply jr F
 exact fpC C9 <| q26 <| zT h8 <| z0
 apply jc F <;> intro h9 F
 apply jb F; intro r10 h11 F
 apply jb F; intro r12 h13 F
 have q27 {l} (z : HA C9 l) := zF h8 <| zT (igt_eq h9) <| zc (HW K (GWorker.mk a1.Id (-1) a1.Until r5.1 [] a1.Buf a1.Coming []) a4.Epoch _ h11) <| zc (GX K r10 a2 a3 a4.X _ h13) <| z
 apply jc F <;> intro h14 F
 apply jb F; intro r15 h16 F
 apply jb F; intro r17 h18 F
 apply jr F
 exact fpC C9 <| q26 <| q27 <| zT h14 <| zc (G7 K r12.2 a4.X _ h16) <| zc (E8 K r15 (GMail.mk 2 a4.Epoch 0 0 a4.X.P 0 0 0 [] [] [] (GPart.mk 0 0 [] [] []) []) _ h18) <| z0
 apply jr F
 exact fpC C9 <| q26 <| q27 <| zF h14 <| z0
 apply jb F; intro r19 h20 F
 have q28 {l} (z : HA C9 l) := zF h8 <| zF (igt_eq h9) <| zc (GX K a1 a2 a3 a4.X _ h20) <| z
 apply jc F <;> intro h21 F
 apply jb F; intro r22 h23 F
 apply jb F; intro r24 h25 F
 apply jr F
 exact fpC C9 <| q26 <| q28 <| zT h21 <| zc (G7 K r19.2 a4.X _ h23) <| zc (E8 K r22 (GMail.mk 2 a4.Epoch 0 0 a4.X.P 0 0 0 [] [] [] (GPart.mk 0 0 [] [] []) []) _ h25) <| z0
 apply jr F
 exact fpC C9 <| q26 <| q28 <| zF h21 <| z0
 apply jr F
 exact fpC C9 <| zc (FU K a3 a4.Epoch a4 _ h6) <| zA6 (bnot_f h7) <| BS (bnot_f h7) <| zr1 <| z0
def HT : Hint := { H 42 with nt := 21, prot := 1, kp := 0 }
def QS (r1 : GWorker) : Res := ⟨[], [(wl0 r1)]⟩
def Fb (K : Nat) (a1 : GWorker) (a2 : GGraph) (a3 : GJob) (a4 : GMail) : Option (GWorker) :=
 bif (ieq a4.Epoch a1.T.Epoch) then
  (some (GWorker.mk a1.Id a4.Step a1.Until a1.T a1.Held a1.Buf a1.Coming a1.Out))
 else
 some a1
theorem L5 (K : Nat) (a1 : GWorker) (a2 : GGraph) (a3 : GJob) (a4 : GMail) (r : GWorker) (F : Fb K a1 a2 a3 a4 = some r) : Evt E H 42 [.box 38 (wl0 a1), .agg (eGGraph a2), .agg (eGJob a3), .agg (eGMail a4)] (QS r) := by
 rw [Fb] at F
 apply jc F <;> intro h5 F
 apply jr F
 exact fpC HT <| zT h5 <| z0
 apply jr F
 exact fpC HT <| zF h5 <| z0
def Cb : Hint := { H 46 with nt := 119, prot := 1, kp := 0 }
def K2 : Code := loopOf E 46 0
def LT : Code := loopOf E 46 1
def P6 : Code := loopOf E 46 2
def QV (r1 : GWorker) : Res := ⟨[], [(wl0 r1)]⟩
def CU (K : Nat) (a1 : GWorker) (a2 : GGraph) (a3 : GJob) (a4 : GMail) (r5 : GTable × Bool) : Nat → List GPart → Int → Option (List GPart)
 | 0, _, _ => none
 | k + 1, v6, v7 =>
  bif (ilt v7 (nlen (len a1.Held))) then
   (bif (inr v7 (len a1.Held)) then
   (elAt a1.Held v7).bind fun x8 =>
   bif (ieq a4.Epoch a1.T.Epoch) then
    (bif x8.Wait then
     (CU K a1 a2 a3 a4 r5 k v6 (wadd .i64 v7 1))
    else
    bif x8.Given then
     (CU K a1 a2 a3 a4 r5 k v6 (wadd .i64 v7 1))
    else
    bif (apok (len v6) 1 88) then
    CU K a1 a2 a3 a4 r5 k (appL v6 [x8.X]) (wadd .i64 v7 1)
    else none)
   else
   CU K a1 a2 a3 a4 r5 k v6 (wadd .i64 v7 1)
   else none)
  else
  some v6
def OG (a1 : GWorker) (a2 : GGraph) (a3 : GJob) (a4 : GMail) (r5 : GTable × Bool) (v6 : List GPart) (v7 : Int) : TS := .on (kq 0 12 <| kq 320 3 <| kq 384 5 <| kq 448 18 <| kq 512 5 <| kq 640 2 <| kq 2368 1 <| kq 2432 1 <| kq 2496 1 <| kq 2560 2 <| kq 2624 2 <| kq 2688 2 <| []) <| b0 0 a1 <| b2 320 a2 <| b3 384 a3 <| b5 448 a4 <| b13 512 r5.1 <| sq 640 [u0, (uO 45 eGPart v6)] <| sq 2368 [⟨(.ad 0 0 0), 0, nob⟩] <| sq 2432 [⟨(.ad 0 0 0), 0, nob⟩] <| sq 2496 [⟨(.ad 0 0 7), 0, nob⟩] <| sq 2560 [u0, ⟨(.vw 8 0), 0, nob⟩] <| sq 2624 [u0, (uI (nlen (len a1.Held)))] <| sq 2688 [u0, (uI v7)] []
def MA (a1 : GWorker) (a2 : GGraph) (a3 : GJob) (a4 : GMail) (r5 : GTable × Bool) (w6 : List GPart) : TS := .on (kq 0 12 <| kq 320 3 <| kq 384 5 <| kq 448 18 <| kq 512 5 <| kq 640 2 <| []) <| b0 0 a1 <| b2 320 a2 <| b3 384 a3 <| b5 448 a4 <| b13 512 r5.1 <| sq 640 [u0, (uO 45 eGPart w6)] []
theorem Lp (K : Nat) (a1 : GWorker) (a2 : GGraph) (a3 : GJob) (a4 : GMail) (r5 : GTable × Bool) : ∀ (k : Nat) (v6 : List GPart) (v7 : Int) (r : List GPart), CU K a1 a2 a3 a4 r5 k v6 v7 = some r → LoopEv E H Cb 0 K2 (OG a1 a2 a3 a4 r5 v6 v7) (.exit 0) (MA a1 a2 a3 a4 r5 r) := by
 intro k
 induction k with
 | zero => intro v6 v7 r F; cases F
 | succ k ih =>
  intro v6 v7 r F
  rw [CU] at F
  apply jc F <;> intro h8 F
  apply jn F; intro h9 F
  apply jb F; intro x10 h11 F
  have q16 {l} (z : HA Cb l) := zT h8 <| zT h9 <| zS eGHeld_len h11 7 <| z
  apply jc F <;> intro h12 F
  have q17 {l} (z : HA Cb l) := D1 h12 <| z
  apply jc F <;> intro h13 F
  exact lN1 (q16 <| q17 <| CL (bnot_t h13) <| zf1 <| zi (wadd .i64 v7 1) <| z0) (ih _ _ _ F)
  have q18 {l} (z : HA Cb l) := D1 (bnot_f h13) <| z
  apply jc F <;> intro h14 F
  exact lN1 (q16 <| q17 <| q18 <| zF (bnot_t h14) <| zi (wadd .i64 v7 1) <| z0) (ih _ _ _ F)
  apply jn F; intro h15 F
  exact lN1 (q16 <| q17 <| q18 <| zT (bnot_f h14) <| zX (tt (leqm [(i6 x10.X.P), (i6 x10.X.Step), (sE e6 x10.X.Vals), (sE eBool x10.X.Rest), (sE eGMsg x10.X.In)] 1 5)) rfl <| zT h15 <| zV (app_ok (enc := eGPart) (v6 : List GPart) [x10.X]) <| zi (wadd .i64 v7 1) <| z0) (ih _ _ _ F)
  exact lN1 (q16 <| CL h12 <| zk3 <| zf2 <| zi (wadd .i64 v7 1) <| z0) (ih _ _ _ F)
  apply jr F
  exact lE <| zF h8 <| z0
def DB (K : Nat) (a1 : GWorker) (a2 : GGraph) (a3 : GJob) (a4 : GMail) (r5 : GTable × Bool) : Nat → List GPart → Int → Option (List GPart)
 | 0, _, _ => none
 | k + 1, v6, v7 =>
  bif (ilt v7 (nlen (len a1.Coming))) then
   (bif (inr v7 (len a1.Coming)) then
   (elAt a1.Coming v7).bind fun x8 =>
   bif (ieq x8.Epoch a4.Epoch) then
    (bif (apok (len v6) 1 88) then
    DB K a1 a2 a3 a4 r5 k (appL v6 [x8.X]) (wadd .i64 v7 1)
    else none)
   else
   DB K a1 a2 a3 a4 r5 k v6 (wadd .i64 v7 1)
   else none)
  else
  some v6
def PW (a1 : GWorker) (a2 : GGraph) (a3 : GJob) (a4 : GMail) (r5 : GTable × Bool) (v6 : List GPart) (v7 : Int) : TS := .on (kq 0 12 <| kq 320 3 <| kq 384 5 <| kq 448 18 <| kq 512 5 <| kq 640 2 <| kq 4480 1 <| kq 4544 1 <| kq 4608 1 <| kq 4672 2 <| kq 4736 2 <| kq 4800 2 <| []) <| b0 0 a1 <| b2 320 a2 <| b3 384 a3 <| b5 448 a4 <| b13 512 r5.1 <| sq 640 [u0, (uO 45 eGPart v6)] <| sq 4480 [⟨(.ad 0 0 0), 0, nob⟩] <| sq 4544 [⟨(.ad 0 0 0), 0, nob⟩] <| sq 4608 [⟨(.ad 0 0 9), 0, nob⟩] <| sq 4672 [u0, ⟨(.vw 10 0), 0, nob⟩] <| sq 4736 [u0, (uI (nlen (len a1.Coming)))] <| sq 4800 [u0, (uI v7)] []
def NB (a1 : GWorker) (a2 : GGraph) (a3 : GJob) (a4 : GMail) (r5 : GTable × Bool) (w6 : List GPart) : TS := .on (kq 0 12 <| kq 320 3 <| kq 384 5 <| kq 448 18 <| kq 512 5 <| kq 640 2 <| []) <| b0 0 a1 <| b2 320 a2 <| b3 384 a3 <| b5 448 a4 <| b13 512 r5.1 <| sq 640 [u0, (uO 45 eGPart w6)] []
theorem PB (K : Nat) (a1 : GWorker) (a2 : GGraph) (a3 : GJob) (a4 : GMail) (r5 : GTable × Bool) : ∀ (k : Nat) (v6 : List GPart) (v7 : Int) (r : List GPart), DB K a1 a2 a3 a4 r5 k v6 v7 = some r → LoopEv E H Cb 2 LT (PW a1 a2 a3 a4 r5 v6 v7) (.exit 2) (NB a1 a2 a3 a4 r5 r) := by
 intro k
 induction k with
 | zero => intro v6 v7 r F; cases F
 | succ k ih =>
  intro v6 v7 r F
  rw [DB] at F
  apply jc F <;> intro h8 F
  apply jn F; intro h9 F
  apply jb F; intro x10 h11 F
  have q14 {l} (z : HA Cb l) := zT h8 <| zT h9 <| zS eGComing_len h11 6 <| z
  apply jc F <;> intro h12 F
  apply jn F; intro h13 F
  exact lN1 (q14 <| zT h12 <| zX (tt (leqm [(i6 x10.X.P), (i6 x10.X.Step), (sE e6 x10.X.Vals), (sE eBool x10.X.Rest), (sE eGMsg x10.X.In)] 1 5)) rfl <| zT h13 <| zV (app_ok (enc := eGPart) (v6 : List GPart) [x10.X]) <| zi (wadd .i64 v7 1) <| z0) (ih _ _ _ F)
  exact lN1 (q14 <| zF h12 <| zi (wadd .i64 v7 1) <| z0) (ih _ _ _ F)
  apply jr F
  exact lE <| zF h8 <| z0
def Du (K : Nat) (a1 : GGraph) (a2 : GJob) (a3 : GMail) (w4 : List GPart) : Nat → Int → Int → Int → Int → List Int → List Int → List Int → List GHeld → List GData → List GComing → List GPost → Int → Option (Int × Int × Int × Int × List Int × List Int × List Int × List GHeld × List GData × List GComing × List GPost)
 | 0, _, _, _, _, _, _, _, _, _, _, _, _ => none
 | k + 1, v5, v6, v7, v8, v9, v10, v11, v12, v13, v14, v15, v16 =>
  bif (ilt v16 (nlen (len w4))) then
   (bif (inr v16 (len w4)) then
   (elAt w4 v16).bind fun x17 =>
   (CK K (GWorker.mk v5 v6 v7 (GTable.mk v8 v9 v10 v11) v12 v13 v14 v15) a1 a2 x17).bind fun r18 =>
   bif r18.1 then
    ((CI K r18.2 x17).bind fun r19 =>
    Du K a1 a2 a3 w4 k r19.Id r19.Goal r19.Until r19.T.Epoch r19.T.Owners r19.T.Ids r19.T.Incs r19.Held r19.Buf r19.Coming r19.Out (wadd .i64 v16 1))
   else
   Du K a1 a2 a3 w4 k r18.2.Id r18.2.Goal r18.2.Until r18.2.T.Epoch r18.2.T.Owners r18.2.T.Ids r18.2.T.Incs r18.2.Held r18.2.Buf r18.2.Coming r18.2.Out (wadd .i64 v16 1)
   else none)
  else
  some (v5, (v6, (v7, (v8, (v9, (v10, (v11, (v12, (v13, (v14, v15))))))))))
def OR (a1 : GGraph) (a2 : GJob) (a3 : GMail) (w4 : List GPart) (v5 : Int) (v6 : Int) (v7 : Int) (v8 : Int) (v9 : List Int) (v10 : List Int) (v11 : List Int) (v12 : List GHeld) (v13 : List GData) (v14 : List GComing) (v15 : List GPost) (v16 : Int) : TS := .on (kq 0 12 <| kq 320 3 <| kq 384 5 <| kq 448 18 <| kq 640 2 <| kq 6400 2 <| kq 6464 2 <| kq 6528 2 <| []) <| sq 0 [(uX 38 11), (uI v5), (uI v6), (uI v7), (uI v8), (uS e6 v9), (uS e6 v10), (uS e6 v11), (uO 69 eGHeld v12), (uO 112 eGData v13), (uO 113 eGComing v14), (uO 86 eGPost v15)] <| b2 320 a1 <| b3 384 a2 <| b5 448 a3 <| sq 640 [u0, (uO 45 eGPart w4)] <| sq 6400 [u0, ⟨(.vw 641 0), 0, nob⟩] <| sq 6464 [u0, (uI (nlen (len w4)))] <| sq 6528 [u0, (uI v16)] []
def Pe (a1 : GGraph) (a2 : GJob) (a3 : GMail) (w4 : List GPart) (w5 : Int × Int × Int × Int × List Int × List Int × List Int × List GHeld × List GData × List GComing × List GPost) : TS := .on (kq 0 12 <| kq 448 18 <| []) <| sq 0 [(uX 38 11), (uI w5.1), (uI w5.2.1), (uI w5.2.2.1), (uI w5.2.2.2.1), (uS e6 w5.2.2.2.2.1), (uS e6 w5.2.2.2.2.2.1), (uS e6 w5.2.2.2.2.2.2.1), (uO 69 eGHeld w5.2.2.2.2.2.2.2.1), (uO 112 eGData w5.2.2.2.2.2.2.2.2.1), (uO 113 eGComing w5.2.2.2.2.2.2.2.2.2.1), (uO 86 eGPost w5.2.2.2.2.2.2.2.2.2.2)] <| b5 448 a3 []
theorem Ni (K : Nat) (a1 : GGraph) (a2 : GJob) (a3 : GMail) (w4 : List GPart) : ∀ (k : Nat) (v5 : Int) (v6 : Int) (v7 : Int) (v8 : Int) (v9 : List Int) (v10 : List Int) (v11 : List Int) (v12 : List GHeld) (v13 : List GData) (v14 : List GComing) (v15 : List GPost) (v16 : Int) (r : Int × Int × Int × Int × List Int × List Int × List Int × List GHeld × List GData × List GComing × List GPost), Du K a1 a2 a3 w4 k v5 v6 v7 v8 v9 v10 v11 v12 v13 v14 v15 v16 = some r → LoopEv E H Cb 4 P6 (OR a1 a2 a3 w4 v5 v6 v7 v8 v9 v10 v11 v12 v13 v14 v15 v16) (.exit 4) (Pe a1 a2 a3 w4 r) := by
 intro k
 induction k with
 | zero => intro v5 v6 v7 v8 v9 v10 v11 v12 v13 v14 v15 v16 r F; cases F
 | succ k ih =>
  intro v5 v6 v7 v8 v9 v10 v11 v12 v13 v14 v15 v16 r F
  rw [Du] at F
  apply jc F <;> intro h17 F
  apply jn F; intro h18 F
  apply jb F; intro x19 h20 F
  apply jb F; intro r21 h22 F
  have q26 {l} (z : HA Cb l) := zT h17 <| zT h18 <| zS eGPart_len h20 5 <| zc (GX K (GWorker.mk v5 v6 v7 (GTable.mk v8 v9 v10 v11) v12 v13 v14 v15) a1 a2 x19 _ h22) <| z
  apply jc F <;> intro h23 F
  apply jb F; intro r24 h25 F
  exact lN1 (q26 <| zT h23 <| zc (G7 K r21.2 x19 _ h25) <| zi (wadd .i64 v16 1) <| z0) (ih _ _ _ _ _ _ _ _ _ _ _ _ _ F)
  exact lN1 (q26 <| zF h23 <| zi (wadd .i64 v16 1) <| z0) (ih _ _ _ _ _ _ _ _ _ _ _ _ _ F)
  apply jr F
  exact lE <| zF h17 <| z0
def E6 (K : Nat) (a1 : GWorker) (a2 : GGraph) (a3 : GJob) (a4 : GMail) : Option (GWorker) :=
 (F68 K a3 a4.Fresh a4).bind fun r5 =>
 bif r5.2 then
  (bif (ile a4.Fresh a1.T.Epoch) then
   (some a1)
  else
  (CU K a1 a2 a3 a4 r5 K [] 0).bind fun w6 =>
  (DB K a1 a2 a3 a4 r5 K w6 0).bind fun w7 =>
  (Du K a2 a3 a4 w7 K a1.Id (-1) a1.Until r5.1.Epoch r5.1.Owners r5.1.Ids r5.1.Incs [] a1.Buf a1.Coming a1.Out 0).bind fun w8 =>
  (DX K (GWorker.mk w8.1 w8.2.1 w8.2.2.1 (GTable.mk w8.2.2.2.1 w8.2.2.2.2.1 w8.2.2.2.2.2.1 w8.2.2.2.2.2.2.1) w8.2.2.2.2.2.2.2.1 w8.2.2.2.2.2.2.2.2.1 w8.2.2.2.2.2.2.2.2.2.1 w8.2.2.2.2.2.2.2.2.2.2) a4.Fresh).bind fun r9 =>
  some r9)
 else
 some a1
theorem N0 (K : Nat) (a1 : GWorker) (a2 : GGraph) (a3 : GJob) (a4 : GMail) (r : GWorker) (F : E6 K a1 a2 a3 a4 = some r) : Evt E H 46 [.box 38 (wl0 a1), .agg (eGGraph a2), .agg (eGJob a3), .agg (eGMail a4)] (QV r) := by
 rw [E6] at F
 apply jb F; intro r5 h6 F
 apply jc F <;> intro h7 F
 have q17 {l} (z : HA Cb l) := zc (FU K a3 a4.Fresh a4 _ h6) <| zB6 (bnot_t h7) <| Cw (bnot_t h7) <| z
 apply jc F <;> intro h8 F
 apply jr F
 exact fpC Cb <| q17 <| zT h8 <| z0
 apply jb F; intro w10 h9 F
 apply jb F; intro w12 h11 F
 apply jb F; intro w14 h13 F
 apply jb F; intro r15 h16 F
 apply jr F
 exact fpC Cb <| q17 <| zF h8 <| zi (nl a1.Held) <| zo (Lp K a1 a2 a3 a4 r5 K [] 0 _ h9) <| zi (nl a1.Coming) <| zo (PB K a1 a2 a3 a4 r5 K w10 0 _ h11) <| zi (nl w12) <| zo (Ni K a2 a3 a4 w12 K a1.Id (-1) a1.Until r5.1.Epoch r5.1.Owners r5.1.Ids r5.1.Incs [] a1.Buf a1.Coming a1.Out 0 _ h13) <| zc (HW K (GWorker.mk w14.1 w14.2.1 w14.2.2.1 (GTable.mk w14.2.2.2.1 w14.2.2.2.2.1 w14.2.2.2.2.2.1 w14.2.2.2.2.2.2.1) w14.2.2.2.2.2.2.2.1 w14.2.2.2.2.2.2.2.2.1 w14.2.2.2.2.2.2.2.2.2.1 w14.2.2.2.2.2.2.2.2.2.2) a4.Fresh _ h16) <| z0
 apply jr F
 exact fpC Cb <| zc (FU K a3 a4.Fresh a4 _ h6) <| zA6 (bnot_f h7) <| BS (bnot_f h7) <| zr1 <| z0
def Ek : Hint := { H 66 with nt := 24, prot := 0, kp := 0 }
def Kh : Code := loopOf E 66 0
def MD (r1 : Bool) : Res := ⟨[(.one (mB r1))], []⟩
def EV (K : Nat) (a1 : Int) (a2 : List Int) : Nat → Int → Option ((Unit) ⊕ (Unit))
 | 0, _ => none
 | k + 1, v3 =>
  bif (ilt v3 (nlen (len a2))) then
   (bif (inr v3 (len a2)) then
   (elAt a2 v3).bind fun x4 =>
   bif (ilt x4 0) then
    (some (.inl ()))
   else
   bif (ilt 1099511627776 x4) then
    (some (.inl ()))
   else
   EV K a1 a2 k (wadd .i64 v3 1)
   else none)
  else
  some (.inr ())
def Kn (a1 : Int) (a2 : List Int) (v3 : Int) : TS := .on (kq 0 2 <| kq 64 2 <| kq 448 2 <| kq 512 2 <| kq 576 2 <| []) <| sq 0 [u0, (uI a1)] <| sq 64 [u0, (uS e6 a2)] <| sq 448 [u0, (uS e6 a2)] <| sq 512 [u0, (uI (nlen (len a2)))] <| sq 576 [u0, (uI v3)] []
def MV (a1 : Int) (a2 : List Int) (w3 : Unit) : TS := .on (kq 256 2 <| []) <| sq 256 [u0, (uB false)] []
def Os (a1 : Int) (a2 : List Int) (w3 : Unit) : TS := .on (kq 0 2 <| kq 64 2 <| []) <| sq 0 [u0, (uI a1)] <| sq 64 [u0, (uS e6 a2)] []
theorem Km (K : Nat) (a1 : Int) (a2 : List Int) : ∀ (k : Nat) (v3 : Int) (r : (Unit) ⊕ (Unit)), EV K a1 a2 k v3 = some r → (Sum.elim (fun w => LoopEv E H Ek 0 Kh (Kn a1 a2 v3) .ret (MV a1 a2 w)) (fun w => LoopEv E H Ek 0 Kh (Kn a1 a2 v3) (.exit 0) (Os a1 a2 w))) r := by
 intro k
 induction k with
 | zero => intro v3 r F; cases F
 | succ k ih =>
  intro v3 r F
  rw [EV] at F
  apply jc F <;> intro h4 F
  apply jn F; intro h5 F
  apply jb F; intro x6 h7 F
  have q10 {l} (z : HA Ek l) := zT h4 <| zT h5 <| zX (.sub (flat e6 a2) (nidx v3 1) 1 [(i6 x6)]) ⟨rfl, sub_flat0 (eInt_len _) h7 1 (by decide)⟩ <| z
  apply jc F <;> intro h8 F
  apply jr F
  exact lE <| q10 <| BS h8 <| zr1 <| z0
  have q11 {l} (z : HA Ek l) := Cw h8 <| z
  apply jc F <;> intro h9 F
  apply jr F
  exact lE <| q10 <| q11 <| zT (igt_eq h9) <| z0
  exact lN2 (q10 <| q11 <| zF (igt_eq h9) <| zi (wadd .i64 v3 1) <| z0) (ih _ _ F)
  apply jr F
  exact lE <| zF h4 <| z0
def F66 (K : Nat) (a1 : Int) (a2 : List Int) : Option (Bool) :=
 (EV K a1 a2 K 0).bind fun y3 =>
 Sum.elim (fun w4 =>
  some false)
  (fun w5 =>
  some (ile (nlen (len a2)) a1)) y3
theorem FD (K : Nat) (a1 : Int) (a2 : List Int) (r : Bool) (F : F66 K a1 a2 = some r) : Evt E H 66 [.one (i6 a1), .one (sE e6 a2)] (MD r) := by
 rw [F66] at F
 apply jb F; intro y4 h3 F
 refine js F (fun w5 hx F => ?_) fun w6 hx F => ?_
 subst hx
 apply jr F
 exact fpC Ek <| zi (nl a2) <| zo (Km K a1 a2 K 0 _ h3) <| z0
 subst hx
 apply jr F
 exact fpC Ek <| zi (nl a2) <| zo (Km K a1 a2 K 0 _ h3) <| zi (nl a2) <| z0
def Fs : Hint := { H 67 with nt := 20, prot := 0, kp := 0 }
def J3 : Code := loopOf E 67 0
def Lw (r1 : Bool) : Res := ⟨[(.one (mB r1))], []⟩
def E0 (K : Nat) (a1 : List GMsg) : Nat → Int → Option ((Unit) ⊕ (Unit))
 | 0, _ => none
 | k + 1, v2 =>
  bif (ilt v2 (nlen (len a1))) then
   (bif (inr v2 (len a1)) then
   (elAt a1 v2).bind fun x3 =>
   (F66 K 1 [x3.To]).bind fun r4 =>
   bif r4 then
    (E0 K a1 k (wadd .i64 v2 1))
   else
   some (.inl ())
   else none)
  else
  some (.inr ())
def JK (a1 : List GMsg) (v2 : Int) : TS := .on (kq 0 2 <| kq 320 2 <| kq 384 2 <| kq 448 2 <| []) <| sq 0 [u0, (uS eGMsg a1)] <| sq 320 [u0, (uS eGMsg a1)] <| sq 384 [u0, (uI (nlen (len a1)))] <| sq 448 [u0, (uI v2)] []
def N7 (a1 : List GMsg) (w2 : Unit) : TS := .on (kq 128 2 <| []) <| sq 128 [u0, (uB false)] []
def MR (a1 : List GMsg) (w2 : Unit) : TS := .on (kq 0 2 <| []) <| sq 0 [u0, (uS eGMsg a1)] []
theorem HL (K : Nat) (a1 : List GMsg) : ∀ (k : Nat) (v2 : Int) (r : (Unit) ⊕ (Unit)), E0 K a1 k v2 = some r → (Sum.elim (fun w => LoopEv E H Fs 0 J3 (JK a1 v2) .ret (N7 a1 w)) (fun w => LoopEv E H Fs 0 J3 (JK a1 v2) (.exit 0) (MR a1 w))) r := by
 intro k
 induction k with
 | zero => intro v2 r F; cases F
 | succ k ih =>
  intro v2 r F
  rw [E0] at F
  apply jc F <;> intro h3 F
  apply jn F; intro h4 F
  apply jb F; intro x5 h6 F
  apply jb F; intro r7 h8 F
  have q10 {l} (z : HA Fs l) := zT h3 <| zT h4 <| zS eGMsg_len h6 2 <| zl (FD K 1 [x5.To] _ h8) <| z
  apply jc F <;> intro h9 F
  exact lN2 (q10 <| zF (bnot_t h9) <| zi (wadd .i64 v2 1) <| z0) (ih _ _ F)
  apply jr F
  exact lE <| q10 <| zT (bnot_f h9) <| z0
  apply jr F
  exact lE <| zF h3 <| z0
def F67 (K : Nat) (a1 : List GMsg) : Option (Bool) :=
 (E0 K a1 K 0).bind fun y2 =>
 Sum.elim (fun w3 =>
  some false)
  (fun w4 =>
  some (ile (nlen (len a1)) 24)) y2
theorem JO (K : Nat) (a1 : List GMsg) (r : Bool) (F : F67 K a1 = some r) : Evt E H 67 [.one (sE eGMsg a1)] (Lw r) := by
 rw [F67] at F
 apply jb F; intro y3 h2 F
 refine js F (fun w4 hx F => ?_) fun w5 hx F => ?_
 subst hx
 apply jr F
 exact fpC Fs <| zi (nl a1) <| zo (HL K a1 K 0 _ h2) <| z0
 subst hx
 apply jr F
 exact fpC Fs <| zi (nl a1) <| zo (HL K a1 K 0 _ h2) <| zi (nl a1) <| z0
def AN : Hint := { H 40 with nt := 91, prot := 0, kp := 0 }
def P4 (r1 : Bool) : Res := ⟨[(.one (mB r1))], []⟩
def F40 (K : Nat) (a1 : GMail) : Option (Bool) :=
 bif (ile 1 a1.Kind) then
  (bif (ile a1.Kind 11) then
   ((F66 K 9 [a1.Epoch, a1.Fresh, a1.Step, a1.P, a1.Q, a1.To, a1.E, a1.X.P, a1.X.Step]).bind fun r2 =>
   bif r2 then
    ((F66 K 6 a1.Owners).bind fun r3 =>
    bif r3 then
     ((F66 K 5 a1.Ids).bind fun r4 =>
     bif r4 then
      ((F66 K (nlen (len a1.Ids)) a1.Incs).bind fun r5 =>
      bif r5 then
       (bif (ieq (nlen (len a1.Incs)) (nlen (len a1.Ids))) then
        (bif (ile (nlen (len a1.X.Vals)) 24) then
         (bif (ieq (nlen (len a1.X.Rest)) (nlen (len a1.X.Vals))) then
          ((F67 K a1.X.In).bind fun r6 =>
          bif r6 then
           ((F67 K a1.Msgs).bind fun r7 =>
           some r7)
          else
          some false)
         else
         some false)
        else
        some false)
       else
       some false)
      else
      some false)
     else
     some false)
    else
    some false)
   else
   some false)
  else
  some false)
 else
 some false
theorem MK (K : Nat) (a1 : GMail) (r : Bool) (F : F40 K a1 = some r) : Evt E H 40 [.agg (eGMail a1)] (P4 r) := by
 rw [F40] at F
 apply jc F <;> intro h2 F
 have q24 {l} (z : HA AN l) := D1 (ige_eq h2) <| z
 apply jc F <;> intro h3 F
 apply jb F; intro r4 h5 F
 have q25 {l} (z : HA AN l) := zC6 h3 <| zC6 h3 <| zC6 h3 <| zC4 h3 <| zl (FD K 9 [a1.Epoch, a1.Fresh, a1.Step, a1.P, a1.Q, a1.To, a1.E, a1.X.P, a1.X.Step] _ h5) <| zT h3 <| z
 apply jc F <;> intro h6 F
 apply jb F; intro r7 h8 F
 have q26 {l} (z : HA AN l) := zC3 h6 <| zl (FD K 6 a1.Owners _ h8) <| zT h6 <| z
 apply jc F <;> intro h9 F
 apply jb F; intro r10 h11 F
 have q27 {l} (z : HA AN l) := zC3 h9 <| zl (FD K 5 a1.Ids _ h11) <| zT h9 <| z
 apply jc F <;> intro h12 F
 apply jb F; intro r13 h14 F
 have q28 {l} (z : HA AN l) := zC3 h12 <| zi (nl a1.Ids) <| zC3 h12 <| zl (FD K (nl a1.Ids) a1.Incs _ h14) <| zT h12 <| z
 apply jc F <;> intro h15 F
 have q29 {l} (z : HA AN l) := zC3 h15 <| zi (nl a1.Incs) <| zC3 h15 <| zi (nl a1.Ids) <| Dh h15 <| z
 apply jc F <;> intro h16 F
 have q30 {l} (z : HA AN l) := zC4 h16 <| zi (nl a1.X.Vals) <| Dh h16 <| z
 apply jc F <;> intro h17 F
 have q31 {l} (z : HA AN l) := zC4 h17 <| zi (nl a1.X.Rest) <| zC4 h17 <| zi (nl a1.X.Vals) <| Dh h17 <| z
 apply jc F <;> intro h18 F
 apply jb F; intro r19 h20 F
 have q32 {l} (z : HA AN l) := zC4 h18 <| zl (JO K a1.X.In _ h20) <| zT h18 <| z
 apply jc F <;> intro h21 F
 apply jb F; intro r22 h23 F
 apply jr F
 exact fpC AN <| q24 <| q25 <| q26 <| q27 <| q28 <| q29 <| q30 <| q31 <| q32 <| zC3 h21 <| zl (JO K a1.Msgs _ h23) <| zT h21 <| z0
 apply jr F
 exact fpC AN <| q24 <| q25 <| q26 <| q27 <| q28 <| q29 <| q30 <| q31 <| q32 <| CL h21 <| z0
 apply jr F
 exact fpC AN <| q24 <| q25 <| q26 <| q27 <| q28 <| q29 <| q30 <| q31 <| El h18 <| zk3 <| zf1 <| z0
 apply jr F
 exact fpC AN <| q24 <| q25 <| q26 <| q27 <| q28 <| q29 <| q30 <| zD6 h17 <| CL h17 <| zk4 <| zf1 <| zk3 <| zf1 <| z0
 apply jr F
 exact fpC AN <| q24 <| q25 <| q26 <| q27 <| q28 <| q29 <| Ag h16 <| zk6 <| zk3 <| zf1 <| zk4 <| zf1 <| zk3 <| zf1 <| z0
 apply jr F
 exact fpC AN <| q24 <| q25 <| q26 <| q27 <| q28 <| zD6 h15 <| Gl h15 <| zk5 <| zf1 <| zk6 <| zk3 <| zf1 <| zk4 <| zf1 <| zk3 <| zf1 <| z0
 apply jr F
 exact fpC AN <| q24 <| q25 <| q26 <| q27 <| FH h12 <| zk6 <| zk1 <| zf1 <| zk5 <| zf1 <| zk6 <| zk3 <| zf1 <| zk4 <| zf1 <| zk3 <| zf1 <| z0
 apply jr F
 exact fpC AN <| q24 <| q25 <| q26 <| CL h9 <| zk6 <| zf1 <| zk6 <| zk1 <| zf1 <| zk5 <| zf1 <| zk6 <| zk3 <| zf1 <| zk4 <| zf1 <| zk3 <| zf1 <| z0
 apply jr F
 exact fpC AN <| q24 <| q25 <| CL h6 <| zk3 <| zf1 <| zk6 <| zf1 <| zk6 <| zk1 <| zf1 <| zk5 <| zf1 <| zk6 <| zk3 <| zf1 <| zk4 <| zf1 <| zk3 <| zf1 <| z0
 apply jr F
 exact fpC AN <| q24 <| zD6 h3 <| zD6 h3 <| zD6 h3 <| El h3 <| zk3 <| zf1 <| zk3 <| zf1 <| zk6 <| zf1 <| zk6 <| zk1 <| zf1 <| zk5 <| zf1 <| zk6 <| zk3 <| zf1 <| zk4 <| zf1 <| zk3 <| zf1 <| z0
 apply jr F
 exact fpC AN <| CL (ige_eq h2) <| zk6 <| zk6 <| zk6 <| zk4 <| zf1 <| zk3 <| zf1 <| zk3 <| zf1 <| zk6 <| zf1 <| zk6 <| zk1 <| zf1 <| zk5 <| zf1 <| zk6 <| zk3 <| zf1 <| zk4 <| zf1 <| zk3 <| zf1 <| z0
def De : Hint := { H 61 with nt := 47, prot := 1, kp := 3840 }
def HE : Code := loopOf E 61 0
def Q5 (r1 : Int × GWorker) : Res := ⟨[(.one (mI r1.1))], [(wl0 r1.2)]⟩
def C4 (K : Nat) (a1 : GWorker) (a2 : Int) (a3 : Int) (a4 : Int) (a5 : Int) : Nat → Int → Option ((Int) ⊕ (Unit))
 | 0, _ => none
 | k + 1, v6 =>
  bif (ilt v6 (nlen (len a1.Buf))) then
   (bif (inr v6 (len a1.Buf)) then
   (elAt a1.Buf v6).bind fun x7 =>
   bif (ieq x7.Epoch a2) then
    (bif (ieq x7.Step a3) then
     (bif (ieq x7.Q a4) then
      (bif (ieq x7.P a5) then
       (some (.inl v6))
      else
      C4 K a1 a2 a3 a4 a5 k (wadd .i64 v6 1))
     else
     C4 K a1 a2 a3 a4 a5 k (wadd .i64 v6 1))
    else
    C4 K a1 a2 a3 a4 a5 k (wadd .i64 v6 1))
   else
   C4 K a1 a2 a3 a4 a5 k (wadd .i64 v6 1)
   else none)
  else
  some (.inr ())
def IZ (a1 : GWorker) (a2 : Int) (a3 : Int) (a4 : Int) (a5 : Int) (v6 : Int) : TS := .on (kq 0 12 <| kq 64 2 <| kq 128 2 <| kq 192 2 <| kq 256 2 <| kq 832 1 <| kq 896 1 <| kq 960 1 <| kq 1024 2 <| kq 1088 2 <| kq 1152 2 <| []) <| b0 0 a1 <| sq 64 [u0, (uI a2)] <| sq 128 [u0, (uI a3)] <| sq 192 [u0, (uI a4)] <| sq 256 [u0, (uI a5)] <| sq 832 [⟨(.ad 0 0 0), 0, nob⟩] <| sq 896 [⟨(.ad 0 0 0), 0, nob⟩] <| sq 960 [⟨(.ad 0 0 8), 0, nob⟩] <| sq 1024 [u0, ⟨(.vw 9 0), 0, nob⟩] <| sq 1088 [u0, (uI (nlen (len a1.Buf)))] <| sq 1152 [u0, (uI v6)] []
def O9 (a1 : GWorker) (a2 : Int) (a3 : Int) (a4 : Int) (a5 : Int) (w6 : Int) : TS := .on (kq 0 12 <| kq 640 2 <| []) <| b0 0 a1 <| sq 640 [u0, (uI w6)] []
def Og (a1 : GWorker) (a2 : Int) (a3 : Int) (a4 : Int) (a5 : Int) (w6 : Unit) : TS := .on (kq 0 12 <| []) <| b0 0 a1 []
theorem Iv (K : Nat) (a1 : GWorker) (a2 : Int) (a3 : Int) (a4 : Int) (a5 : Int) : ∀ (k : Nat) (v6 : Int) (r : (Int) ⊕ (Unit)), C4 K a1 a2 a3 a4 a5 k v6 = some r → (Sum.elim (fun w => LoopEv E H De 0 HE (IZ a1 a2 a3 a4 a5 v6) .ret (O9 a1 a2 a3 a4 a5 w)) (fun w => LoopEv E H De 0 HE (IZ a1 a2 a3 a4 a5 v6) (.exit 0) (Og a1 a2 a3 a4 a5 w))) r := by
 intro k
 induction k with
 | zero => intro v6 r F; cases F
 | succ k ih =>
  intro v6 r F
  rw [C4] at F
  apply jc F <;> intro h7 F
  apply jn F; intro h8 F
  apply jb F; intro x9 h10 F
  have q15 {l} (z : HA De l) := zT h7 <| zT h8 <| zS eGData_len h10 5 <| z
  apply jc F <;> intro h11 F
  have q16 {l} (z : HA De l) := GT h11 <| z
  apply jc F <;> intro h12 F
  have q17 {l} (z : HA De l) := GT h12 <| z
  apply jc F <;> intro h13 F
  have q18 {l} (z : HA De l) := GT h13 <| z
  apply jc F <;> intro h14 F
  apply jr F
  exact lE <| q15 <| q16 <| q17 <| q18 <| zT h14 <| z0
  exact lN2 (q15 <| q16 <| q17 <| q18 <| zF h14 <| zi (wadd .i64 v6 1) <| z0) (ih _ _ F)
  exact lN2 (q15 <| q16 <| q17 <| El h13 <| zf1 <| zi (wadd .i64 v6 1) <| z0) (ih _ _ F)
  exact lN2 (q15 <| q16 <| El h12 <| zk4 <| zf2 <| zi (wadd .i64 v6 1) <| z0) (ih _ _ F)
  exact lN2 (q15 <| El h11 <| zk4 <| zf1 <| zk4 <| zf2 <| zi (wadd .i64 v6 1) <| z0) (ih _ _ F)
  apply jr F
  exact lE <| zF h7 <| z0
def Dq (K : Nat) (a1 : GWorker) (a2 : Int) (a3 : Int) (a4 : Int) (a5 : Int) : Option (Int × GWorker) :=
 (C4 K a1 a2 a3 a4 a5 K 0).bind fun y6 =>
 Sum.elim (fun w7 =>
  some (w7, a1))
  (fun w8 =>
  some ((-1), a1)) y6
theorem Ho (K : Nat) (a1 : GWorker) (a2 : Int) (a3 : Int) (a4 : Int) (a5 : Int) (r : Int × GWorker) (F : Dq K a1 a2 a3 a4 a5 = some r) : Evt E H 61 [.box 38 (wl0 a1), .one (i6 a2), .one (i6 a3), .one (i6 a4), .one (i6 a5)] (Q5 r) := by
 rw [Dq] at F
 apply jb F; intro y7 h6 F
 refine js F (fun w8 hx F => ?_) fun w9 hx F => ?_
 subst hx
 apply jr F
 exact fpC De <| zi (nl a1.Buf) <| zo (Iv K a1 a2 a3 a4 a5 K 0 _ h6) <| z0
 subst hx
 apply jr F
 exact fpC De <| zi (nl a1.Buf) <| zo (Iv K a1 a2 a3 a4 a5 K 0 _ h6) <| z0
def FZ : Hint := { H 43 with nt := 49, prot := 1, kp := 256 }
def P5 (r1 : GWorker) : Res := ⟨[], [(wl0 r1)]⟩
def Ed (K : Nat) (a1 : GWorker) (a2 : GGraph) (a3 : GJob) (a4 : GMail) : Option (GWorker) :=
 bif (ile a1.T.Epoch a4.Epoch) then
  ((Dq K a1 a4.Epoch a4.Step a4.Q a4.P).bind fun r5 =>
  bif (ilt r5.1 0) then
   (bif (apok (len r5.2.Buf) 1 56) then
   some (GWorker.mk r5.2.Id r5.2.Goal r5.2.Until r5.2.T r5.2.Held (appL r5.2.Buf [(GData.mk a4.Epoch a4.Step a4.Q a4.P a4.Msgs)]) r5.2.Coming r5.2.Out)
   else none)
  else
  some r5.2)
 else
 some a1
theorem II (K : Nat) (a1 : GWorker) (a2 : GGraph) (a3 : GJob) (a4 : GMail) (r : GWorker) (F : Ed K a1 a2 a3 a4 = some r) : Evt E H 43 [.box 38 (wl0 a1), .agg (eGGraph a2), .agg (eGJob a3), .agg (eGMail a4)] (P5 r) := by
 rw [Ed] at F
 apply jc F <;> intro h5 F
 apply jb F; intro r6 h7 F
 have q10 {l} (z : HA FZ l) := zC6 (ige_eq h5) <| zC4 (ige_eq h5) <| zc (Ho K a1 a4.Epoch a4.Step a4.Q a4.P _ h7) <| Dh (ige_eq h5) <| z
 apply jc F <;> intro h8 F
 apply jn F; intro h9 F
 apply jr F
 exact fpC FZ <| q10 <| zT h8 <| zX (tt (leqm [(i6 a4.Epoch), (i6 a4.Step), (i6 a4.Q), (i6 a4.P), (sE eGMsg a4.Msgs)] 1 5)) rfl <| zT h9 <| zV (app_ok (enc := eGData) (r6.2.Buf : List GData) [(GData.mk a4.Epoch a4.Step a4.Q a4.P a4.Msgs)]) <| z0
 apply jr F
 exact fpC FZ <| q10 <| zF h8 <| z0
 apply jr F
 exact fpC FZ <| zD6 (ige_eq h5) <| Ag (ige_eq h5) <| zf1 <| z0
def Ca : Hint := { H 44 with nt := 95, prot := 1, kp := 0 }
def Jj : Code := loopOf E 44 0
def KY (r1 : GWorker) : Res := ⟨[], [(wl0 r1)]⟩
def EF (K : Nat) (a1 : GMail) (r2 : Int × GWorker) : Nat → Int → Option (((List GHeld × List GPost)) ⊕ (Unit))
 | 0, _ => none
 | k + 1, v3 =>
  bif (ilt v3 (nlen (len a1.Ids))) then
   (bif (inr v3 (len a1.Ids)) then
   (elAt a1.Ids v3).bind fun x4 =>
   bif (ieq x4 a1.To) then
    (bif (inr r2.1 (len r2.2.Held)) then
    (elAt r2.2.Held r2.1).bind fun x5 =>
    bif (inr v3 (len a1.Incs)) then
    (elAt a1.Incs v3).bind fun x6 =>
    bif (inr r2.1 (len (α := GHeld) (putAt r2.2.Held r2.1 (GHeld.mk x5.X x5.Wait true)))) then
    (elAt (putAt r2.2.Held r2.1 (GHeld.mk x5.X x5.Wait true)) r2.1).bind fun x7 =>
    bif (apok (len r2.2.Out) 1 264) then
    some (.inl ((putAt r2.2.Held r2.1 (GHeld.mk x5.X x5.Wait true)), (appL r2.2.Out [(GPost.mk a1.To x6 (GMail.mk 7 a1.Epoch 0 0 0 0 0 0 [] [] [] x7.X []))])))
    else none
    else none
    else none
    else none)
   else
   EF K a1 r2 k (wadd .i64 v3 1)
   else none)
  else
  some (.inr ())
def Ht (a1 : GMail) (r2 : Int × GWorker) (v3 : Int) : TS := .on (kq 0 12 <| kq 448 18 <| kq 512 2 <| kq 3008 1 <| kq 3072 2 <| kq 3136 2 <| kq 3200 2 <| []) <| b0 0 r2.2 <| b5 448 a1 <| sq 512 [u0, (uI r2.1)] <| sq 3008 [⟨(.ad 7 0 9), 0, nob⟩] <| sq 3072 [u0, (uS e6 a1.Ids)] <| sq 3136 [u0, (uI (nlen (len a1.Ids)))] <| sq 3200 [u0, (uI v3)] []
def Lz (a1 : GMail) (r2 : Int × GWorker) (w3 : List GHeld × List GPost) : TS := .on (kq 0 12 <| []) <| sq 0 [(uX 38 11), (uI r2.2.Id), (uI r2.2.Goal), (uI r2.2.Until), (uI r2.2.T.Epoch), (uS e6 r2.2.T.Owners), (uS e6 r2.2.T.Ids), (uS e6 r2.2.T.Incs), (uO 69 eGHeld w3.1), (uO 112 eGData r2.2.Buf), (uO 113 eGComing r2.2.Coming), (uO 86 eGPost w3.2)] []
def Pj (a1 : GMail) (r2 : Int × GWorker) (w3 : Unit) : TS := .on (kq 0 12 <| []) <| b0 0 r2.2 []
theorem IW (K : Nat) (a1 : GMail) (r2 : Int × GWorker) : ∀ (k : Nat) (v3 : Int) (r : ((List GHeld × List GPost)) ⊕ (Unit)), EF K a1 r2 k v3 = some r → (Sum.elim (fun w => LoopEv E H Ca 0 Jj (Ht a1 r2 v3) .ret (Lz a1 r2 w)) (fun w => LoopEv E H Ca 0 Jj (Ht a1 r2 v3) (.exit 0) (Pj a1 r2 w))) r := by
 intro k
 induction k with
 | zero => intro v3 r F; cases F
 | succ k ih =>
  intro v3 r F
  rw [EF] at F
  apply jc F <;> intro h4 F
  apply jn F; intro h5 F
  apply jb F; intro x6 h7 F
  have q19 {l} (z : HA Ca l) := zT h4 <| zT h5 <| zX (.sub (flat e6 a1.Ids) (nidx v3 1) 1 [(i6 x6)]) ⟨rfl, sub_flat0 (eInt_len _) h7 1 (by decide)⟩ <| z
  apply jc F <;> intro h8 F
  apply jn F; intro h9 F
  apply jb F; intro x10 h11 F
  apply jn F; intro h12 F
  apply jb F; intro x13 h14 F
  apply jn F; intro h15 F
  apply jb F; intro x16 h17 F
  apply jn F; intro h18 F
  apply jr F
  exact lE <| q19 <| zT h8 <| zT h9 <| zX (tt (lfits (nadd (nidx r2.1 7) 6) 1 (flat eGHeld r2.2.Held))) (lfits_flat eGHeld_len h11 6 _ (by decide)) <| zX (.sl (len r2.2.Held) (lset (flat eGHeld r2.2.Held) (nadd (nidx r2.1 7) 6) [(.lit (.bool true))]) (len (α := GHeld) (putAt r2.2.Held r2.1 (GHeld.mk x10.X x10.Wait true))) (flat eGHeld (putAt r2.2.Held r2.1 (GHeld.mk x10.X x10.Wait true)))) (set_ok eGHeld_len h11 6 _ (by simp) rfl) <| zT h12 <| zX (.sub (flat e6 a1.Incs) (nidx v3 1) 1 [(i6 x13)]) ⟨rfl, sub_flat0 (eInt_len _) h14 1 (by decide)⟩ <| zT h15 <| zU eGHeld_len h17 0 5 <| zX (tt (leqm [(i6 a1.To), (i6 x13), (i6 7), (i6 a1.Epoch), (i6 0), (i6 0), (i6 0), (i6 0), (i6 0), (i6 0), (.sl 0 []), (.sl 0 []), (.sl 0 []), (i6 x16.X.P), (i6 x16.X.Step), (sE e6 x16.X.Vals), (sE eBool x16.X.Rest), (sE eGMsg x16.X.In), (.sl 0 [])] 1 19)) rfl <| zT h18 <| zV (app_ok (enc := eGPost) (r2.2.Out : List GPost) [(GPost.mk a1.To x13 (GMail.mk 7 a1.Epoch 0 0 0 0 0 0 [] [] [] x16.X []))]) <| z0
  exact lN2 (q19 <| zF h8 <| zi (wadd .i64 v3 1) <| z0) (ih _ _ F)
  apply jr F
  exact lE <| zF h4 <| z0
def Fy (K : Nat) (a1 : GWorker) (a2 : GGraph) (a3 : GJob) (a4 : GMail) : Option (GWorker) :=
 (EY K a1 a4.P).bind fun r5 =>
 bif (ieq a4.Epoch r5.2.T.Epoch) then
  (bif (ilt r5.1 0) then
   (some r5.2)
  else
  bif (inr r5.1 (len r5.2.Held)) then
  (elAt r5.2.Held r5.1).bind fun x6 =>
  bif x6.Wait then
   (some r5.2)
  else
  bif x6.Given then
   (some r5.2)
  else
  (EF K a4 r5 K 0).bind fun y7 =>
  Sum.elim (fun w8 =>
   some (GWorker.mk r5.2.Id r5.2.Goal r5.2.Until r5.2.T w8.1 r5.2.Buf r5.2.Coming w8.2))
   (fun w9 =>
   some r5.2) y7
  else none)
 else
 some r5.2
theorem Qv (K : Nat) (a1 : GWorker) (a2 : GGraph) (a3 : GJob) (a4 : GMail) (r : GWorker) (F : Fy K a1 a2 a3 a4 = some r) : Evt E H 44 [.box 38 (wl0 a1), .agg (eGGraph a2), .agg (eGJob a3), .agg (eGMail a4)] (KY r) := by
 rw [Fy] at F
 apply jb F; intro r5 h6 F
 apply jc F <;> intro h7 F
 have q18 {l} (z : HA Ca l) := zc (Gy K a1 a4.P _ h6) <| Cw (ine_t h7) <| z
 apply jc F <;> intro h8 F
 apply jr F
 exact fpC Ca <| q18 <| zA6 h8 <| BS h8 <| zt6 <| zt2 <| zr2 <| z0
 apply jn F; intro h9 F
 apply jb F; intro x10 h11 F
 have q19 {l} (z : HA Ca l) := zB6 h8 <| zT h9 <| zB2 h8 <| zU eGHeld_len h11 5 1 <| zF h8 <| z
 apply jc F <;> intro h12 F
 apply jr F
 exact fpC Ca <| q18 <| q19 <| zA6 h12 <| BS h12 <| zr1 <| z0
 have q20 {l} (z : HA Ca l) := zB6 h12 <| zT h9 <| zB2 h12 <| zU eGHeld_len h11 6 1 <| zF h12 <| z
 apply jc F <;> intro h13 F
 apply jr F
 exact fpC Ca <| q18 <| q19 <| q20 <| zT h13 <| z0
 apply jb F; intro y15 h14 F
 refine js F (fun w16 hx F => ?_) fun w17 hx F => ?_
 subst hx
 apply jr F
 exact fpC Ca <| q18 <| q19 <| q20 <| zF h13 <| zi (nl a4.Ids) <| zo (IW K a4 r5 K 0 _ h14) <| z0
 subst hx
 apply jr F
 exact fpC Ca <| q18 <| q19 <| q20 <| zF h13 <| zi (nl a4.Ids) <| zo (IW K a4 r5 K 0 _ h14) <| z0
 apply jr F
 exact fpC Ca <| zc (Gy K a1 a4.P _ h6) <| BS (ine_f h7) <| zt6 <| zt2 <| zr1 <| zt6 <| zt2 <| zr2 <| z0
def DC : Hint := { H 45 with nt := 64, prot := 1, kp := 0 }
def JH : Code := loopOf E 45 0
def Pw (r1 : GWorker) : Res := ⟨[], [(wl0 r1)]⟩
def Ee (K : Nat) (a1 : GWorker) (a2 : GMail) : Nat → Int → Option ((Unit) ⊕ (Unit))
 | 0, _ => none
 | k + 1, v3 =>
  bif (ilt v3 (nlen (len a1.Coming))) then
   (bif (inr v3 (len a1.Coming)) then
   (elAt a1.Coming v3).bind fun x4 =>
   bif (ieq x4.Epoch a2.Epoch) then
    (bif (ieq x4.X.P a2.X.P) then
     (some (.inl ()))
    else
    Ee K a1 a2 k (wadd .i64 v3 1))
   else
   Ee K a1 a2 k (wadd .i64 v3 1)
   else none)
  else
  some (.inr ())
def IJ (a1 : GWorker) (a2 : GMail) (v3 : Int) : TS := .on (kq 0 12 <| kq 448 18 <| kq 1152 1 <| kq 1216 1 <| kq 1280 1 <| kq 1344 2 <| kq 1408 2 <| kq 1472 2 <| []) <| b0 0 a1 <| b5 448 a2 <| sq 1152 [⟨(.ad 0 0 0), 0, nob⟩] <| sq 1216 [⟨(.ad 0 0 0), 0, nob⟩] <| sq 1280 [⟨(.ad 0 0 9), 0, nob⟩] <| sq 1344 [u0, ⟨(.vw 10 0), 0, nob⟩] <| sq 1408 [u0, (uI (nlen (len a1.Coming)))] <| sq 1472 [u0, (uI v3)] []
def NU (a1 : GWorker) (a2 : GMail) (w3 : Unit) : TS := .on (kq 0 12 <| kq 448 18 <| []) <| b0 0 a1 <| b5 448 a2 []
def M5 (a1 : GWorker) (a2 : GMail) (w3 : Unit) : TS := .on (kq 0 12 <| kq 448 18 <| []) <| b0 0 a1 <| b5 448 a2 []
theorem Il (K : Nat) (a1 : GWorker) (a2 : GMail) : ∀ (k : Nat) (v3 : Int) (r : (Unit) ⊕ (Unit)), Ee K a1 a2 k v3 = some r → (Sum.elim (fun w => LoopEv E H DC 0 JH (IJ a1 a2 v3) .ret (NU a1 a2 w)) (fun w => LoopEv E H DC 0 JH (IJ a1 a2 v3) (.exit 0) (M5 a1 a2 w))) r := by
 intro k
 induction k with
 | zero => intro v3 r F; cases F
 | succ k ih =>
  intro v3 r F
  rw [Ee] at F
  apply jc F <;> intro h4 F
  apply jn F; intro h5 F
  apply jb F; intro x6 h7 F
  have q10 {l} (z : HA DC l) := zT h4 <| zT h5 <| zS eGComing_len h7 6 <| z
  apply jc F <;> intro h8 F
  have q11 {l} (z : HA DC l) := zC6 h8 <| Dh h8 <| z
  apply jc F <;> intro h9 F
  apply jr F
  exact lE <| q10 <| q11 <| zT h9 <| z0
  exact lN2 (q10 <| q11 <| zF h9 <| zi (wadd .i64 v3 1) <| z0) (ih _ _ F)
  exact lN2 (q10 <| zD6 h8 <| Gl h8 <| zf1 <| zi (wadd .i64 v3 1) <| z0) (ih _ _ F)
  apply jr F
  exact lE <| zF h4 <| z0
def Fh (K : Nat) (a1 : GWorker) (a2 : GGraph) (a3 : GJob) (a4 : GMail) : Option (GWorker) :=
 bif (ilt a4.Epoch a1.T.Epoch) then
  (some a1)
 else
 (Ee K a1 a4 K 0).bind fun y5 =>
 Sum.elim (fun w6 =>
  some a1)
  (fun w7 =>
  bif (apok (len a1.Coming) 1 96) then
  (CY K (GWorker.mk a1.Id a1.Goal a1.Until a1.T a1.Held a1.Buf (appL a1.Coming [(GComing.mk a4.Epoch a4.X)]) a1.Out) (GMail.mk 8 a4.Epoch 0 0 a4.X.P 0 0 0 [] [] [] (GPart.mk 0 0 [] [] []) [])).bind fun r8 =>
  some r8
  else none) y5
theorem Q1 (K : Nat) (a1 : GWorker) (a2 : GGraph) (a3 : GJob) (a4 : GMail) (r : GWorker) (F : Fh K a1 a2 a3 a4 = some r) : Evt E H 45 [.box 38 (wl0 a1), .agg (eGGraph a2), .agg (eGJob a3), .agg (eGMail a4)] (Pw r) := by
 rw [Fh] at F
 apply jc F <;> intro h5 F
 apply jr F
 exact fpC DC <| zT h5 <| z0
 apply jb F; intro y7 h6 F
 refine js F (fun w8 hx F => ?_) fun w9 hx F => ?_
 subst hx
 apply jr F
 exact fpC DC <| zF h5 <| zi (nl a1.Coming) <| zo (Il K a1 a4 K 0 _ h6) <| z0
 subst hx
 apply jn F; intro h10 F
 apply jb F; intro r11 h12 F
 apply jr F
 exact fpC DC <| zF h5 <| zi (nl a1.Coming) <| zo (Il K a1 a4 K 0 _ h6) <| zX (tt (leqm [(i6 a4.Epoch), (i6 a4.X.P), (i6 a4.X.Step), (sE e6 a4.X.Vals), (sE eBool a4.X.Rest), (sE eGMsg a4.X.In)] 1 6)) rfl <| zT h10 <| zV (app_ok (enc := eGComing) (a1.Coming : List GComing) [(GComing.mk a4.Epoch a4.X)]) <| zc (E8 K (GWorker.mk a1.Id a1.Goal a1.Until a1.T a1.Held a1.Buf (appL a1.Coming [(GComing.mk a4.Epoch a4.X)]) a1.Out) (GMail.mk 8 a4.Epoch 0 0 a4.X.P 0 0 0 [] [] [] (GPart.mk 0 0 [] [] []) []) _ h12) <| z0
def B4 : Hint := { H 18 with nt := 43, prot := 0, kp := 0 }
def Ma (r1 : GWorker) : Res := ⟨[(.agg (wl0 r1))], []⟩
def F18 (K : Nat) (a50 : GGraph) (a51 : GJob) (a52 : GWorker) (a53 : GMail) : Option (GWorker) :=
 (F30 K a52).bind fun r60 =>
 (F31 K a50 a51).bind fun r1 =>
 bif (ieq r1 0) then
  ((F40 K a53).bind fun r2 =>
  bif r2 then
   (bif (ieq a53.Kind 1) then
    ((E9 K r60 a50 a51 a53).bind fun r3 =>
    some r3)
   else
   bif (ieq a53.Kind 3) then
    ((Fb K r60 a50 a51 a53).bind fun r4 =>
    some r4)
   else
   bif (ieq a53.Kind 4) then
    ((Ed K r60 a50 a51 a53).bind fun r5 =>
    some r5)
   else
   bif (ieq a53.Kind 6) then
    ((Fy K r60 a50 a51 a53).bind fun r6 =>
    some r6)
   else
   bif (ieq a53.Kind 7) then
    ((Fh K r60 a50 a51 a53).bind fun r7 =>
    some r7)
   else
   bif (ieq a53.Kind 9) then
    ((E6 K r60 a50 a51 a53).bind fun r8 =>
    some r8)
   else
   some r60)
  else
  some r60)
 else
 some r60
theorem Hm (K : Nat) (a50 : GGraph) (a51 : GJob) (a52 : GWorker) (a53 : GMail) (r : GWorker) (F : F18 K a50 a51 a52 a53 = some r) : Evt E H 18 [.agg (eGGraph a50), .agg (eGJob a51), .agg (eGWorker a52), .agg (eGMail a53)] (Ma r) := by
 rw [F18] at F
 apply jb F; intro r60 h61 F
 apply jb F; intro r1 h2 F
 have q25 {l} (z : HA B4 l) := zc (Gi K a52 _ h61) <| zl (Cc K a50 a51 _ h2) <| z
 apply jc F <;> intro h3 F
 apply jb F; intro r4 h5 F
 have q26 {l} (z : HA B4 l) := zB2 (ine_t h3) <| zl (MK K a53 _ h5) <| AA (ine_t h3) <| z
 apply jc F <;> intro h6 F
 apply jc F <;> intro h7 F
 apply jb F; intro r8 h9 F
 apply jr F
 exact fpC B4 <| q25 <| q26 <| zF (bnot_t h6) <| zT h7 <| zX (tt (bnot false)) (bnot_f rfl) <| zc (Mt K r60 a50 a51 a53 _ h9) <| z0
 apply jc F <;> intro h10 F
 apply jb F; intro r11 h12 F
 apply jr F
 exact fpC B4 <| q25 <| q26 <| zF (bnot_t h6) <| zF h7 <| zT h10 <| zX (tt (bnot false)) (bnot_f rfl) <| zc (L5 K r60 a50 a51 a53 _ h12) <| z0
 have q27 {l} (z : HA B4 l) := zF (bnot_t h6) <| zF h7 <| zF h10 <| z
 apply jc F <;> intro h13 F
 apply jb F; intro r14 h15 F
 apply jr F
 exact fpC B4 <| q25 <| q26 <| q27 <| zT h13 <| zX (tt (bnot false)) (bnot_f rfl) <| zc (II K r60 a50 a51 a53 _ h15) <| z0
 apply jc F <;> intro h16 F
 apply jb F; intro r17 h18 F
 apply jr F
 exact fpC B4 <| q25 <| q26 <| q27 <| zF h13 <| zT h16 <| zX (tt (bnot false)) (bnot_f rfl) <| zc (Qv K r60 a50 a51 a53 _ h18) <| z0
 apply jc F <;> intro h19 F
 apply jb F; intro r20 h21 F
 apply jr F
 exact fpC B4 <| q25 <| q26 <| q27 <| zF h13 <| zF h16 <| zT h19 <| zX (tt (bnot false)) (bnot_f rfl) <| zc (Q1 K r60 a50 a51 a53 _ h21) <| z0
 have q28 {l} (z : HA B4 l) := zF h13 <| zF h16 <| zF h19 <| z
 apply jc F <;> intro h22 F
 apply jb F; intro r23 h24 F
 apply jr F
 exact fpC B4 <| q25 <| q26 <| q27 <| q28 <| zT h22 <| zX (tt (bnot false)) (bnot_f rfl) <| zc (N0 K r60 a50 a51 a53 _ h24) <| z0
 apply jr F
 exact fpC B4 <| q25 <| q26 <| q27 <| q28 <| zF h22 <| zn1 <| z0
 apply jr F
 exact fpC B4 <| q25 <| q26 <| zT (bnot_f h6) <| z0
 apply jr F
 exact fpC B4 <| q25 <| Af (ine_f h3) <| zr1 <| z0
def Qa : Hint := { H 32 with nt := 8, prot := 0, kp := 0 }
def NH (r1 : Bool) : Res := ⟨[(.one (mB r1))], []⟩
def F32 (K : Nat) (a1 : Int) (a2 : Int) : Option (Bool) :=
 some (ilt a1 a2)
theorem LB (K : Nat) (a1 : Int) (a2 : Int) (r : Bool) (F : F32 K a1 a2 = some r) : Evt E H 32 [.one (i6 a1), .one (i6 a2)] (NH r) := by
 rw [F32] at F
 apply jr F
 exact fpC Qa <| z0
def Fa : Hint := { H 92 with nt := 21, prot := 0, kp := 0 }
def Hy : Code := loopOf E 92 0
def PV (r1 : Int × Bool) : Res := ⟨[(.one (mI r1.1)), (.one (mB r1.2))], []⟩
def E2 (K : Nat) (a1 : List GMsg) (a2 : Int) : Nat → Int → Option ((Int) ⊕ (Unit))
 | 0, _ => none
 | k + 1, v3 =>
  bif (ilt v3 (nlen (len a1))) then
   (bif (inr v3 (len a1)) then
   (elAt a1 v3).bind fun x4 =>
   bif (ieq x4.To a2) then
    (some (.inl x4.V))
   else
   E2 K a1 a2 k (wadd .i64 v3 1)
   else none)
  else
  some (.inr ())
def H5 (a1 : List GMsg) (a2 : Int) (v3 : Int) : TS := .on (kq 0 2 <| kq 64 2 <| kq 512 2 <| kq 576 2 <| kq 640 2 <| []) <| sq 0 [u0, (uS eGMsg a1)] <| sq 64 [u0, (uI a2)] <| sq 512 [u0, (uS eGMsg a1)] <| sq 576 [u0, (uI (nlen (len a1)))] <| sq 640 [u0, (uI v3)] []
def L2 (a1 : List GMsg) (a2 : Int) (w3 : Int) : TS := .on (kq 256 2 <| kq 320 2 <| []) <| sq 256 [u0, (uI w3)] <| sq 320 [u0, (uB true)] []
def Pp (a1 : List GMsg) (a2 : Int) (w3 : Unit) : TS := .on [] []
theorem J1 (K : Nat) (a1 : List GMsg) (a2 : Int) : ∀ (k : Nat) (v3 : Int) (r : (Int) ⊕ (Unit)), E2 K a1 a2 k v3 = some r → (Sum.elim (fun w => LoopEv E H Fa 0 Hy (H5 a1 a2 v3) .ret (L2 a1 a2 w)) (fun w => LoopEv E H Fa 0 Hy (H5 a1 a2 v3) (.exit 0) (Pp a1 a2 w))) r := by
 intro k
 induction k with
 | zero => intro v3 r F; cases F
 | succ k ih =>
  intro v3 r F
  rw [E2] at F
  apply jc F <;> intro h4 F
  apply jn F; intro h5 F
  apply jb F; intro x6 h7 F
  have q9 {l} (z : HA Fa l) := zT h4 <| zT h5 <| zS eGMsg_len h7 2 <| z
  apply jc F <;> intro h8 F
  apply jr F
  exact lE <| q9 <| zT h8 <| z0
  exact lN2 (q9 <| zF h8 <| zi (wadd .i64 v3 1) <| z0) (ih _ _ F)
  apply jr F
  exact lE <| zF h4 <| z0
def F92 (K : Nat) (a1 : List GMsg) (a2 : Int) : Option (Int × Bool) :=
 (E2 K a1 a2 K 0).bind fun y3 =>
 Sum.elim (fun w4 =>
  some (w4, true))
  (fun w5 =>
  some (0, false)) y3
theorem KB (K : Nat) (a1 : List GMsg) (a2 : Int) (r : Int × Bool) (F : F92 K a1 a2 = some r) : Evt E H 92 [.one (sE eGMsg a1), .one (i6 a2)] (PV r) := by
 rw [F92] at F
 apply jb F; intro y4 h3 F
 refine js F (fun w5 hx F => ?_) fun w6 hx F => ?_
 subst hx
 apply jr F
 exact fpC Fa <| zi (nl a1) <| zo (J1 K a1 a2 K 0 _ h3) <| z0
 subst hx
 apply jr F
 exact fpC Fa <| zi (nl a1) <| zo (J1 K a1 a2 K 0 _ h3) <| z0
def Gh : Hint := { H 104 with nt := 28, prot := 0, kp := 0 }
def ML : Code := loopOf E 104 0
def OY (r1 : List GEdge) : Res := ⟨[(.one (.own 132 (sE eGEdge r1)))], []⟩
def DN (K : Nat) (a1 : GGraph) (a2 : Int) : Nat → List GEdge → Int → Option (List GEdge)
 | 0, _, _ => none
 | k + 1, v3, v4 =>
  bif (ilt v4 (nlen (len a1.Edges))) then
   (bif (inr v4 (len a1.Edges)) then
   (elAt a1.Edges v4).bind fun x5 =>
   bif (ieq x5.From a2) then
    (bif (apok (len v3) 1 24) then
    DN K a1 a2 k (appL v3 [x5]) (wadd .i64 v4 1)
    else none)
   else
   DN K a1 a2 k v3 (wadd .i64 v4 1)
   else none)
  else
  some v3
def O3 (a1 : GGraph) (a2 : Int) (v3 : List GEdge) (v4 : Int) : TS := .on (kq 64 2 <| kq 128 3 <| kq 320 2 <| kq 704 1 <| kq 768 2 <| kq 832 2 <| kq 896 2 <| []) <| sq 64 [u0, (uI a2)] <| b2 128 a1 <| sq 320 [u0, (uO 132 eGEdge v3)] <| sq 704 [⟨(.ad 2 0 1), 0, nob⟩] <| sq 768 [u0, (uS eGEdge a1.Edges)] <| sq 832 [u0, (uI (nlen (len a1.Edges)))] <| sq 896 [u0, (uI v4)] []
def Ox (a1 : GGraph) (a2 : Int) (w3 : List GEdge) : TS := .on (kq 320 2 <| []) <| sq 320 [u0, (uO 132 eGEdge w3)] []
theorem Nv (K : Nat) (a1 : GGraph) (a2 : Int) : ∀ (k : Nat) (v3 : List GEdge) (v4 : Int) (r : List GEdge), DN K a1 a2 k v3 v4 = some r → LoopEv E H Gh 0 ML (O3 a1 a2 v3 v4) (.exit 0) (Ox a1 a2 r) := by
 intro k
 induction k with
 | zero => intro v3 v4 r F; cases F
 | succ k ih =>
  intro v3 v4 r F
  rw [DN] at F
  apply jc F <;> intro h5 F
  apply jn F; intro h6 F
  apply jb F; intro x7 h8 F
  have q11 {l} (z : HA Gh l) := zT h5 <| zT h6 <| zS eGEdge_len h8 3 <| z
  apply jc F <;> intro h9 F
  apply jn F; intro h10 F
  exact lN1 (q11 <| zT h9 <| zX (tt (leqm [(i6 x7.From), (i6 x7.To), (i6 x7.W)] 1 3)) rfl <| zT h10 <| zV (app_ok (enc := eGEdge) (v3 : List GEdge) [x7]) <| zi (wadd .i64 v4 1) <| z0) (ih _ _ _ F)
  exact lN1 (q11 <| zF h9 <| zi (wadd .i64 v4 1) <| z0) (ih _ _ _ F)
  apply jr F
  exact lE <| zF h5 <| z0
def BF (K : Nat) (a1 : GGraph) (a2 : Int) : Option (List GEdge) :=
 (F56 K a1).bind fun r3 =>
 bif (ieq r3 0) then
  ((DN K a1 a2 K [] 0).bind fun w4 =>
  some w4)
 else
 some []
theorem Cs (K : Nat) (a1 : GGraph) (a2 : Int) (r : List GEdge) (F : BF K a1 a2 = some r) : Evt E H 104 [.agg (eGGraph a1), .one (i6 a2)] (OY r) := by
 rw [BF] at F
 apply jb F; intro r3 h4 F
 apply jc F <;> intro h5 F
 apply jb F; intro w7 h6 F
 apply jr F
 exact fpC Gh <| zl (F3 K a1 _ h4) <| zF (ine_t h5) <| zi (nl a1.Edges) <| zo (Nv K a1 a2 K [] 0 _ h6) <| z0
 apply jr F
 exact fpC Gh <| zl (F3 K a1 _ h4) <| zT (ine_f h5) <| z0
def Ky : Hint := { H 82 with nt := 8, prot := 0, kp := 0 }
def Nc (r1 : Bool) : Res := ⟨[(.one (mB r1))], []⟩
def F82 (K : Nat) (a1 : Int) (a2 : Int) : Option (Bool) :=
 some (ilt a1 a2)
theorem Ck (K : Nat) (a1 : Int) (a2 : Int) (r : Bool) (F : F82 K a1 a2 = some r) : Evt E H 82 [.one (i6 a1), .one (i6 a2)] (Nc r) := by
 rw [F82] at F
 apply jr F
 exact fpC Ky <| z0
def Gf : Hint := { H 84 with nt := 23, prot := 0, kp := 0 }
def QX (r1 : Int × Bool) : Res := ⟨[(.one (mI r1.1)), (.one (mB r1.2))], []⟩
def F84 (K : Nat) (a1 : Int) (a2 : Int) : Option (Int × Bool) :=
 bif (beqb (ige a1 0) (ige a2 0)) then
  (bif (beqb (ige (wadd .i64 a1 a2) 0) (ige a1 0)) then
   (some ((wadd .i64 a1 a2), true))
  else
  some (0, false))
 else
 some ((wadd .i64 a1 a2), true)
theorem Fv (K : Nat) (a1 : Int) (a2 : Int) (r : Int × Bool) (F : F84 K a1 a2 = some r) : Evt E H 84 [.one (i6 a1), .one (i6 a2)] (QX r) := by
 rw [F84] at F
 apply jc F <;> intro h3 F
 have q5 {l} (z : HA Gf l) := zi (wadd .i64 a1 a2) <| C3 h3 <| z
 apply jc F <;> intro h4 F
 apply jr F
 exact fpC Gf <| q5 <| zF (bnot_t h4) <| z0
 apply jr F
 exact fpC Gf <| q5 <| zT (bnot_f h4) <| z0
 apply jr F
 exact fpC Gf <| zi (wadd .i64 a1 a2) <| Ag h3 <| zf1 <| z0
def QO : Hint := { H 83 with nt := 12, prot := 0, kp := 0 }
def LU (r1 : Int × Bool) : Res := ⟨[(.one (mI r1.1)), (.one (mB r1.2))], []⟩
def F83 (K : Nat) (a1 : Int) (a2 : GEdge) : Option (Int × Bool) :=
 (F84 K a1 a2.W).bind fun r3 =>
 some (r3.1, r3.2)
theorem Q2 (K : Nat) (a1 : Int) (a2 : GEdge) (r : Int × Bool) (F : F83 K a1 a2 = some r) : Evt E H 83 [.one (i6 a1), .agg (eGEdge a2)] (LU r) := by
 rw [F83] at F
 apply jb F; intro r3 h4 F
 apply jr F
 exact fpC QO <| zl (Fv K a1 a2.W _ h4) <| z0
def Qx : Hint := { H 85 with nt := 10, prot := 0, kp := 0 }
def Ps (r1 : Int × Bool) : Res := ⟨[(.one (mI r1.1)), (.one (mB r1.2))], []⟩
def F85 (K : Nat) (a1 : Int) (a2 : GEdge) : Option (Int × Bool) :=
 (F84 K a1 1).bind fun r3 =>
 some (r3.1, r3.2)
theorem L9 (K : Nat) (a1 : Int) (a2 : GEdge) (r : Int × Bool) (F : F85 K a1 a2 = some r) : Evt E H 85 [.one (i6 a1), .agg (eGEdge a2)] (Ps r) := by
 rw [F85] at F
 apply jb F; intro r3 h4 F
 apply jr F
 exact fpC Qx <| zl (Fv K a1 1 _ h4) <| z0
def Ln : Hint := { H 87 with nt := 7, prot := 0, kp := 0 }
def Qh (r1 : Int × Bool) : Res := ⟨[(.one (mI r1.1)), (.one (mB r1.2))], []⟩
def F87 (K : Nat) (a1 : Int) (a2 : GEdge) : Option (Int × Bool) :=
 some (a1, true)
theorem JG (K : Nat) (a1 : Int) (a2 : GEdge) (r : Int × Bool) (F : F87 K a1 a2 = some r) : Evt E H 87 [.one (i6 a1), .agg (eGEdge a2)] (Qh r) := by
 rw [F87] at F
 apply jr F
 exact fpC Ln <| z0
def Mi : Hint := { H 89 with nt := 8, prot := 0, kp := 0 }
def Lg (r1 : Bool) : Res := ⟨[(.one (mB r1))], []⟩
def F89 (K : Nat) (a1 : Int) (a2 : Int) : Option (Bool) :=
 some (igt a1 a2)
theorem F8 (K : Nat) (a1 : Int) (a2 : Int) (r : Bool) (F : F89 K a1 a2 = some r) : Evt E H 89 [.one (i6 a1), .one (i6 a2)] (Lg r) := by
 rw [F89] at F
 apply jr F
 exact fpC Mi <| z0
def J2 : Hint := { H 116 with nt := 12, prot := 0, kp := 0 }
def Oa (r1 : Int) : Res := ⟨[(.one (.im (.lit (.int .u64 r1))))], []⟩
def D4 (K : Nat) (a1 : Int) : Option (Int) :=
 bif (ilt a1 0) then
  (some (wadd .u64 (wconv .u64 (wneg .i64 (wadd .i64 a1 1))) 1))
 else
 some (wconv .u64 a1)
theorem HR (K : Nat) (a1 : Int) (r : Int) (F : D4 K a1 = some r) : Evt E H 116 [.one (i6 a1)] (Oa r) := by
 rw [D4] at F
 apply jc F <;> intro h2 F
 apply jr F
 exact fpC J2 <| zT h2 <| zi (wadd .i64 a1 1) <| zi (wneg .i64 (wadd .i64 a1 1)) <| zi (wconv .u64 (wneg .i64 (wadd .i64 a1 1))) <| zi (wadd .u64 (wconv .u64 (wneg .i64 (wadd .i64 a1 1))) 1) <| z0
 apply jr F
 exact fpC J2 <| zF h2 <| zi (wconv .u64 a1) <| z0
def Pv : Hint := { H 115 with nt := 60, prot := 0, kp := 0 }
def LD (r2 : GA193) : Res := ⟨[(.agg [(.im (.lit (.int .u64 r2.x0))), (.im (.lit (.int .u64 r2.x1)))])], []⟩
def Fi (K : Nat) (a1 : Int) (a2 : Int) : Option (GA193) :=
 some (GA193.mk (wadd .u64 (wadd .u64 (wadd .u64 (wmul .u64 (wquo .u64 a1 4294967296) (wquo .u64 a2 4294967296)) (wquo .u64 (wmul .u64 (wquo .u64 a1 4294967296) (wrem a2 4294967296)) 4294967296)) (wquo .u64 (wmul .u64 (wrem a1 4294967296) (wquo .u64 a2 4294967296)) 4294967296)) (wquo .u64 (wadd .u64 (wadd .u64 (wquo .u64 (wmul .u64 (wrem a1 4294967296) (wrem a2 4294967296)) 4294967296) (wrem (wmul .u64 (wquo .u64 a1 4294967296) (wrem a2 4294967296)) 4294967296)) (wrem (wmul .u64 (wrem a1 4294967296) (wquo .u64 a2 4294967296)) 4294967296)) 4294967296)) (wadd .u64 (wmul .u64 (wrem (wadd .u64 (wadd .u64 (wquo .u64 (wmul .u64 (wrem a1 4294967296) (wrem a2 4294967296)) 4294967296) (wrem (wmul .u64 (wquo .u64 a1 4294967296) (wrem a2 4294967296)) 4294967296)) (wrem (wmul .u64 (wrem a1 4294967296) (wquo .u64 a2 4294967296)) 4294967296)) 4294967296) 4294967296) (wrem (wmul .u64 (wrem a1 4294967296) (wrem a2 4294967296)) 4294967296)))
theorem Po (K : Nat) (a1 : Int) (a2 : Int) (r : GA193) (F : Fi K a1 a2 = some r) : Evt E H 115 [.one (.lit (.int .u64 a1)), .one (.lit (.int .u64 a2))] (LD r) := by
 rw [Fi] at F
 apply jr F
 exact fpC Pv <| zY (ff (izero 4294967296)) <| zi (wquo .u64 a1 4294967296) <| zY (ff (izero 4294967296)) <| zi (wquo .u64 a2 4294967296) <| zi (wmul .u64 (wquo .u64 a1 4294967296) (wquo .u64 a2 4294967296)) <| zY (ff (izero 4294967296)) <| zi (wquo .u64 a1 4294967296) <| zY (ff (izero 4294967296)) <| zi (wrem a2 4294967296) <| zi (wmul .u64 (wquo .u64 a1 4294967296) (wrem a2 4294967296)) <| zY (ff (izero 4294967296)) <| zi (wrem a1 4294967296) <| zY (ff (izero 4294967296)) <| zi (wquo .u64 a2 4294967296) <| zi (wmul .u64 (wrem a1 4294967296) (wquo .u64 a2 4294967296)) <| zY (ff (izero 4294967296)) <| zi (wrem a1 4294967296) <| zY (ff (izero 4294967296)) <| zi (wrem a2 4294967296) <| zi (wmul .u64 (wrem a1 4294967296) (wrem a2 4294967296)) <| zY (ff (ieq 3 0)) <| zY (ff (ieq 3 1)) <| zY (ff (ieq 3 2)) <| zY (tt (ieq 3 3)) <| zY (ff (izero 4294967296)) <| zi (wquo .u64 (wmul .u64 (wrem a1 4294967296) (wrem a2 4294967296)) 4294967296) <| zY (ff (ieq 1 0)) <| zY (tt (ieq 1 1)) <| zY (ff (izero 4294967296)) <| zi (wrem (wmul .u64 (wquo .u64 a1 4294967296) (wrem a2 4294967296)) 4294967296) <| zi (wadd .u64 (wquo .u64 (wmul .u64 (wrem a1 4294967296) (wrem a2 4294967296)) 4294967296) (wrem (wmul .u64 (wquo .u64 a1 4294967296) (wrem a2 4294967296)) 4294967296)) <| zY (ff (ieq 2 0)) <| zY (ff (ieq 2 1)) <| zY (tt (ieq 2 2)) <| zY (ff (izero 4294967296)) <| zi (wrem (wmul .u64 (wrem a1 4294967296) (wquo .u64 a2 4294967296)) 4294967296) <| zi (wadd .u64 (wadd .u64 (wquo .u64 (wmul .u64 (wrem a1 4294967296) (wrem a2 4294967296)) 4294967296) (wrem (wmul .u64 (wquo .u64 a1 4294967296) (wrem a2 4294967296)) 4294967296)) (wrem (wmul .u64 (wrem a1 4294967296) (wquo .u64 a2 4294967296)) 4294967296)) <| zY (tt (ieq 0 0)) <| zY (ff (ieq 1 0)) <| zY (tt (ieq 1 1)) <| zY (ff (izero 4294967296)) <| zi (wquo .u64 (wmul .u64 (wquo .u64 a1 4294967296) (wrem a2 4294967296)) 4294967296) <| zi (wadd .u64 (wmul .u64 (wquo .u64 a1 4294967296) (wquo .u64 a2 4294967296)) (wquo .u64 (wmul .u64 (wquo .u64 a1 4294967296) (wrem a2 4294967296)) 4294967296)) <| zY (ff (ieq 2 0)) <| zY (ff (ieq 2 1)) <| zY (tt (ieq 2 2)) <| zY (ff (izero 4294967296)) <| zi (wquo .u64 (wmul .u64 (wrem a1 4294967296) (wquo .u64 a2 4294967296)) 4294967296) <| zi (wadd .u64 (wadd .u64 (wmul .u64 (wquo .u64 a1 4294967296) (wquo .u64 a2 4294967296)) (wquo .u64 (wmul .u64 (wquo .u64 a1 4294967296) (wrem a2 4294967296)) 4294967296)) (wquo .u64 (wmul .u64 (wrem a1 4294967296) (wquo .u64 a2 4294967296)) 4294967296)) <| zY (ff (izero 4294967296)) <| zi (wquo .u64 (wadd .u64 (wadd .u64 (wquo .u64 (wmul .u64 (wrem a1 4294967296) (wrem a2 4294967296)) 4294967296) (wrem (wmul .u64 (wquo .u64 a1 4294967296) (wrem a2 4294967296)) 4294967296)) (wrem (wmul .u64 (wrem a1 4294967296) (wquo .u64 a2 4294967296)) 4294967296)) 4294967296) <| zi (wadd .u64 (wadd .u64 (wadd .u64 (wmul .u64 (wquo .u64 a1 4294967296) (wquo .u64 a2 4294967296)) (wquo .u64 (wmul .u64 (wquo .u64 a1 4294967296) (wrem a2 4294967296)) 4294967296)) (wquo .u64 (wmul .u64 (wrem a1 4294967296) (wquo .u64 a2 4294967296)) 4294967296)) (wquo .u64 (wadd .u64 (wadd .u64 (wquo .u64 (wmul .u64 (wrem a1 4294967296) (wrem a2 4294967296)) 4294967296) (wrem (wmul .u64 (wquo .u64 a1 4294967296) (wrem a2 4294967296)) 4294967296)) (wrem (wmul .u64 (wrem a1 4294967296) (wquo .u64 a2 4294967296)) 4294967296)) 4294967296)) <| zY (ff (izero 4294967296)) <| zi (wrem (wadd .u64 (wadd .u64 (wquo .u64 (wmul .u64 (wrem a1 4294967296) (wrem a2 4294967296)) 4294967296) (wrem (wmul .u64 (wquo .u64 a1 4294967296) (wrem a2 4294967296)) 4294967296)) (wrem (wmul .u64 (wrem a1 4294967296) (wquo .u64 a2 4294967296)) 4294967296)) 4294967296) <| zi (wmul .u64 (wrem (wadd .u64 (wadd .u64 (wquo .u64 (wmul .u64 (wrem a1 4294967296) (wrem a2 4294967296)) 4294967296) (wrem (wmul .u64 (wquo .u64 a1 4294967296) (wrem a2 4294967296)) 4294967296)) (wrem (wmul .u64 (wrem a1 4294967296) (wquo .u64 a2 4294967296)) 4294967296)) 4294967296) 4294967296) <| zY (ff (ieq 3 0)) <| zY (ff (ieq 3 1)) <| zY (ff (ieq 3 2)) <| zY (tt (ieq 3 3)) <| zY (ff (izero 4294967296)) <| zi (wrem (wmul .u64 (wrem a1 4294967296) (wrem a2 4294967296)) 4294967296) <| zi (wadd .u64 (wmul .u64 (wrem (wadd .u64 (wadd .u64 (wquo .u64 (wmul .u64 (wrem a1 4294967296) (wrem a2 4294967296)) 4294967296) (wrem (wmul .u64 (wquo .u64 a1 4294967296) (wrem a2 4294967296)) 4294967296)) (wrem (wmul .u64 (wrem a1 4294967296) (wquo .u64 a2 4294967296)) 4294967296)) 4294967296) 4294967296) (wrem (wmul .u64 (wrem a1 4294967296) (wrem a2 4294967296)) 4294967296)) <| z0
def C8 : Hint := { H 114 with nt := 41, prot := 0, kp := 0 }
def OK (r1 : Int × Bool) : Res := ⟨[(.one (mI r1.1)), (.one (mB r1.2))], []⟩
def Ft (K : Nat) (a2 : Int) (a3 : Int) : Option (Int × Bool) :=
 (D4 K a2).bind fun r4 =>
 (D4 K a3).bind fun r5 =>
 (Fi K r4 r5).bind fun r6 =>
 bif (ilt 0 r6.x0) then
  (some (0, false))
 else
 bif (ilt 9223372036854775808 r6.x1) then
  (some (0, false))
 else
 bif (ieq r6.x1 9223372036854775808) then
  (bif (beqb (ilt a2 0) (ilt a3 0)) then
   (some (0, false))
  else
  some ((-9223372036854775808), true))
 else
 bif (beqb (ilt a2 0) (ilt a3 0)) then
  (some ((wconv .i64 r6.x1), true))
 else
 some ((wneg .i64 (wconv .i64 r6.x1)), true)
theorem J5 (K : Nat) (a2 : Int) (a3 : Int) (r : Int × Bool) (F : Ft K a2 a3 = some r) : Evt E H 114 [.one (i6 a2), .one (i6 a3)] (OK r) := by
 rw [Ft] at F
 apply jb F; intro r4 h5 F
 apply jb F; intro r6 h7 F
 apply jb F; intro r8 h9 F
 have q15 {l} (z : HA C8 l) := zl (HR K a2 _ h5) <| zl (HR K a3 _ h7) <| zl (Po K r4 r6 _ h9) <| zY (tt (ieq 0 0)) <| z
 apply jc F <;> intro h10 F
 apply jr F
 exact fpC C8 <| q15 <| Af (igt_eq h10) <| zr1 <| z0
 have q16 {l} (z : HA C8 l) := zB1 (igt_eq h10) <| zY (ff (ieq 1 0)) <| zY (tt (ieq 1 1)) <| Cw (igt_eq h10) <| z
 apply jc F <;> intro h11 F
 apply jr F
 exact fpC C8 <| q15 <| q16 <| zT (igt_eq h11) <| z0
 have q17 {l} (z : HA C8 l) := zF (igt_eq h11) <| zY (ff (ieq 1 0)) <| zY (tt (ieq 1 1)) <| z
 apply jc F <;> intro h12 F
 apply jc F <;> intro h13 F
 apply jr F
 exact fpC C8 <| q15 <| q16 <| q17 <| zT h12 <| zF (bnot_t h13) <| z0
 apply jr F
 exact fpC C8 <| q15 <| q16 <| q17 <| zT h12 <| zT (bnot_f h13) <| z0
 apply jc F <;> intro h14 F
 apply jr F
 exact fpC C8 <| q15 <| q16 <| q17 <| zF h12 <| zF (bnot_t h14) <| zY (ff (ieq 1 0)) <| zY (tt (ieq 1 1)) <| zi (wconv .i64 r8.x1) <| z0
 apply jr F
 exact fpC C8 <| q15 <| q16 <| q17 <| zF h12 <| zT (bnot_f h14) <| zY (ff (ieq 1 0)) <| zY (tt (ieq 1 1)) <| zi (wconv .i64 r8.x1) <| zi (wneg .i64 (wconv .i64 r8.x1)) <| z0
def FN : Hint := { H 111 with nt := 25, prot := 0, kp := 0 }
def N8 (r1 : Int × Bool) : Res := ⟨[(.one (mI r1.1)), (.one (mB r1.2))], []⟩
def Dx (K : Nat) (a1 : Int) (a2 : Int) (a3 : Int) : Option (Int × Bool) :=
 (Ft K a1 a2).bind fun r4 =>
 bif r4.2 then
  (bif (ilt a3 1) then
   (some (0, false))
  else
  bif (izero a3) then none else
  some ((wquo .i64 r4.1 a3), true))
 else
 some (0, false)
theorem Ij (K : Nat) (a1 : Int) (a2 : Int) (a3 : Int) (r : Int × Bool) (F : Dx K a1 a2 a3 = some r) : Evt E H 111 [.one (i6 a1), .one (i6 a2), .one (i6 a3)] (N8 r) := by
 rw [Dx] at F
 apply jb F; intro r4 h5 F
 apply jc F <;> intro h6 F
 have q9 {l} (z : HA FN l) := zl (J5 K a1 a2 _ h5) <| Cw (bnot_t h6) <| z
 apply jc F <;> intro h7 F
 apply jr F
 exact fpC FN <| q9 <| zT h7 <| z0
 refine cond_some F (fun _ F => nomatch F) (fun h8 F => ?_)
 apply jr F
 exact fpC FN <| q9 <| zF h7 <| zF h8 <| zi (wquo .i64 r4.1 a3) <| z0
 apply jr F
 exact fpC FN <| zl (J5 K a1 a2 _ h5) <| BS (bnot_f h6) <| zr1 <| z0
def BG : Hint := { H 105 with nt := 68, prot := 0, kp := 0 }
def IE : Code := loopOf E 105 0
def Mk (r1 : Int × List GMsg × Bool × Int) : Res := ⟨[(.one (mI r1.1)), (.one (.own 78 (sE eGMsg r1.2.1))), (.one (mB r1.2.2.1)), (.one (mI r1.2.2.2))], []⟩
def DD (K : Nat) (v1 : List GEdge) (v2 : Int) : Nat → List GMsg → Int → Option ((Unit) ⊕ (List GMsg))
 | 0, _, _ => none
 | k + 1, v3, v4 =>
  bif (ilt v4 (nlen (len v1))) then
   (bif (inr v4 (len v1)) then
   (elAt v1 v4).bind fun x5 =>
   (Dx K v2 1 (nlen (len v1))).bind fun r6 =>
   bif r6.2 then
    (bif (apok (len v3) 1 16) then
    DD K v1 v2 k (appL v3 [(GMsg.mk x5.To r6.1)]) (wadd .i64 v4 1)
    else none)
   else
   some (.inl ())
   else none)
  else
  some (.inr v3)
def Ih (v1 : List GEdge) (v2 : Int) (v3 : List GMsg) (v4 : Int) : TS := .on (kq 0 2 <| kq 128 2 <| kq 1024 2 <| kq 2752 2 <| kq 2816 2 <| kq 2880 2 <| []) <| sq 0 [u0, (uS eGEdge v1)] <| sq 128 [u0, (uI v2)] <| sq 1024 [u0, (uO 78 eGMsg v3)] <| sq 2752 [u0, (uS eGEdge v1)] <| sq 2816 [u0, (uI (nlen (len v1)))] <| sq 2880 [u0, (uI v4)] []
def M9 (v1 : List GEdge) (v2 : Int) (w3 : Unit) : TS := .on (kq 512 2 <| kq 576 2 <| kq 640 2 <| kq 704 2 <| []) <| sq 512 [u0, (uI 0)] <| sq 576 [u0, (uN 78)] <| sq 640 [u0, (uB false)] <| sq 704 [u0, (uI 8)] []
def Nu (v1 : List GEdge) (v2 : Int) (w3 : List GMsg) : TS := .on (kq 128 2 <| kq 1024 2 <| []) <| sq 128 [u0, (uI v2)] <| sq 1024 [u0, (uO 78 eGMsg w3)] []
theorem F7 (K : Nat) (v1 : List GEdge) (v2 : Int) : ∀ (k : Nat) (v3 : List GMsg) (v4 : Int) (r : (Unit) ⊕ (List GMsg)), DD K v1 v2 k v3 v4 = some r → (Sum.elim (fun w => LoopEv E H BG 0 IE (Ih v1 v2 v3 v4) .ret (M9 v1 v2 w)) (fun w => LoopEv E H BG 0 IE (Ih v1 v2 v3 v4) (.exit 0) (Nu v1 v2 w))) r := by
 intro k
 induction k with
 | zero => intro v3 v4 r F; cases F
 | succ k ih =>
  intro v3 v4 r F
  rw [DD] at F
  apply jc F <;> intro h5 F
  apply jn F; intro h6 F
  apply jb F; intro x7 h8 F
  apply jb F; intro r9 h10 F
  have q13 {l} (z : HA BG l) := zT h5 <| zT h6 <| zS eGEdge_len h8 3 <| zi (nl v1) <| zl (Ij K v2 1 (nl v1) _ h10) <| z
  apply jc F <;> intro h11 F
  apply jn F; intro h12 F
  exact lN2 (q13 <| zF (bnot_t h11) <| zX (tt (leqm [(i6 x7.To), (i6 r9.1)] 1 2)) rfl <| zT h12 <| zV (app_ok (enc := eGMsg) (v3 : List GMsg) [(GMsg.mk x7.To r9.1)]) <| zi (wadd .i64 v4 1) <| z0) (ih _ _ _ F)
  apply jr F
  exact lE <| q13 <| zT (bnot_f h11) <| z0
  apply jr F
  exact lE <| zF h5 <| z0
def Dk (K : Nat) (a1 : List GEdge) (a2 : Int) (a3 : Int) (a4 : Int) : Option (Int × List GMsg × Bool × Int) :=
 bif (ilt 0 a2) then
  ((Dx K a4 85 100).bind fun r5 =>
  (F84 K 150000 r5.1).bind fun r6 =>
  bif r5.2 then
   (bif r6.2 then
    (bif (ile 10 a2) then
     (some (r6.1, ([], (true, 0))))
    else
    (DD K a1 r6.1 K [] 0).bind fun y7 =>
    Sum.elim (fun w8 =>
     some (0, ([], (false, 8))))
     (fun w9 =>
     some (r6.1, (w9, (false, 0)))) y7)
   else
   some (0, ([], (false, 8))))
  else
  some (0, ([], (false, 8))))
 else
 bif (ile 10 a2) then
  (some (a3, ([], (true, 0))))
 else
 (DD K a1 a3 K [] 0).bind fun y10 =>
 Sum.elim (fun w11 =>
  some (0, ([], (false, 8))))
  (fun w12 =>
  some (a3, (w12, (false, 0)))) y10
theorem Gj (K : Nat) (a1 : List GEdge) (a2 : Int) (a3 : Int) (a4 : Int) (r : Int × List GMsg × Bool × Int) (F : Dk K a1 a2 a3 a4 = some r) : Evt E H 105 [.one (sE eGEdge a1), .one (i6 a2), .one (i6 a3), .one (i6 a4)] (Mk r) := by
 rw [Dk] at F
 apply jc F <;> intro h5 F
 apply jb F; intro r6 h7 F
 apply jb F; intro r8 h9 F
 have q22 {l} (z : HA BG l) := zT (igt_eq h5) <| zl (Ij K a4 85 100 _ h7) <| zl (Fv K 150000 r6.1 _ h9) <| z
 apply jc F <;> intro h10 F
 have q23 {l} (z : HA BG l) := Cw (bnot_t h10) <| z
 apply jc F <;> intro h11 F
 apply jc F <;> intro h12 F
 apply jr F
 exact fpC BG <| q22 <| q23 <| zF (bnot_t h11) <| zT (ige_eq h12) <| z0
 have q24 {l} (z : HA BG l) := zF (bnot_t h11) <| zF (ige_eq h12) <| zi (nl a1) <| z
 apply jb F; intro y14 h13 F
 refine js F (fun w15 hx F => ?_) fun w16 hx F => ?_
 subst hx
 apply jr F
 exact fpC BG <| q22 <| q23 <| q24 <| zo (F7 K a1 r8.1 K [] 0 _ h13) <| z0
 subst hx
 apply jr F
 exact fpC BG <| q22 <| q23 <| q24 <| zo (F7 K a1 r8.1 K [] 0 _ h13) <| z0
 apply jr F
 exact fpC BG <| q22 <| q23 <| zT (bnot_f h11) <| z0
 apply jr F
 exact fpC BG <| q22 <| BS (bnot_f h10) <| zr1 <| z0
 apply jc F <;> intro h17 F
 apply jr F
 exact fpC BG <| zF (igt_eq h5) <| zT (ige_eq h17) <| z0
 have q25 {l} (z : HA BG l) := zF (igt_eq h5) <| zF (ige_eq h17) <| zi (nl a1) <| z
 apply jb F; intro y19 h18 F
 refine js F (fun w20 hx F => ?_) fun w21 hx F => ?_
 subst hx
 apply jr F
 exact fpC BG <| q25 <| zo (F7 K a1 a3 K [] 0 _ h18) <| z0
 subst hx
 apply jr F
 exact fpC BG <| q25 <| zo (F7 K a1 a3 K [] 0 _ h18) <| z0
def Aa : Hint := { H 93 with nt := 122, prot := 0, kp := 0 }
def Dm : Code := loopOf E 93 0
def Pq (r1 : Int × List GMsg × Bool × Int) : Res := ⟨[(.one (mI r1.1)), (.one (.own 78 (sE eGMsg r1.2.1))), (.one (mB r1.2.2.1)), (.one (mI r1.2.2.2))], []⟩
def Cd (K : Nat) (v1 : Int) (v2 : Bool) (v3 : List GEdge) : Nat → List GMsg → Int → Option ((Unit) ⊕ (List GMsg))
 | 0, _, _ => none
 | k + 1, v4, v5 =>
  bif (ilt v5 (nlen (len v3))) then
   (bif (inr v5 (len v3)) then
   (elAt v3 v5).bind fun x6 =>
   (F83 K v1 x6).bind fun r7 =>
   bif r7.2 then
    (bif (apok (len v4) 1 16) then
    Cd K v1 v2 v3 k (appL v4 [(GMsg.mk x6.To r7.1)]) (wadd .i64 v5 1)
    else none)
   else
   some (.inl ())
   else none)
  else
  some (.inr v4)
def JX (v1 : Int) (v2 : Bool) (v3 : List GEdge) (v4 : List GMsg) (v5 : Int) : TS := .on (kq 256 2 <| kq 1216 5 <| kq 1344 2 <| kq 1472 2 <| kq 6144 2 <| kq 6208 2 <| kq 6272 2 <| []) <| sq 256 [u0, (uI v1)] <| sq 1216 [(uX 138 4), ⟨.im, 0, (.lit (fnV 81))⟩, ⟨.im, 0, (.lit (fnV 82))⟩, (uB v2), ⟨.im, 0, (.lit (fnV 83))⟩] <| sq 1344 [u0, (uO 132 eGEdge v3)] <| sq 1472 [u0, (uO 78 eGMsg v4)] <| sq 6144 [u0, ⟨(.vw 1345 0), 0, nob⟩] <| sq 6208 [u0, (uI (nlen (len v3)))] <| sq 6272 [u0, (uI v5)] []
def Pr (v1 : Int) (v2 : Bool) (v3 : List GEdge) (w4 : Unit) : TS := .on (kq 896 2 <| kq 960 2 <| kq 1024 2 <| kq 1088 2 <| []) <| sq 896 [u0, (uI 0)] <| sq 960 [u0, (uN 78)] <| sq 1024 [u0, (uB false)] <| sq 1088 [u0, (uI 8)] []
def Qo (v1 : Int) (v2 : Bool) (v3 : List GEdge) (w4 : List GMsg) : TS := .on (kq 256 2 <| kq 1472 2 <| []) <| sq 256 [u0, (uI v1)] <| sq 1472 [u0, (uO 78 eGMsg w4)] []
theorem BM (K : Nat) (v1 : Int) (v2 : Bool) (v3 : List GEdge) : ∀ (k : Nat) (v4 : List GMsg) (v5 : Int) (r : (Unit) ⊕ (List GMsg)), Cd K v1 v2 v3 k v4 v5 = some r → (Sum.elim (fun w => LoopEv E H Aa 0 Dm (JX v1 v2 v3 v4 v5) .ret (Pr v1 v2 v3 w)) (fun w => LoopEv E H Aa 0 Dm (JX v1 v2 v3 v4 v5) (.exit 0) (Qo v1 v2 v3 w))) r := by
 intro k
 induction k with
 | zero => intro v4 v5 r F; cases F
 | succ k ih =>
  intro v4 v5 r F
  rw [Cd] at F
  apply jc F <;> intro h6 F
  apply jn F; intro h7 F
  apply jb F; intro x8 h9 F
  apply jb F; intro r10 h11 F
  have q14 {l} (z : HA Aa l) := zT h6 <| zT h7 <| zS eGEdge_len h9 3 <| zl (Q2 K v1 x8 _ h11) <| z
  apply jc F <;> intro h12 F
  apply jn F; intro h13 F
  exact lN2 (q14 <| zF (bnot_t h12) <| zX (tt (leqm [(i6 x8.To), (i6 r10.1)] 1 2)) rfl <| zT h13 <| zV (app_ok (enc := eGMsg) (v4 : List GMsg) [(GMsg.mk x8.To r10.1)]) <| zi (wadd .i64 v5 1) <| z0) (ih _ _ _ F)
  apply jr F
  exact lE <| q14 <| zT (bnot_f h12) <| z0
  apply jr F
  exact lE <| zF h6 <| z0
def Ch (K : Nat) (v1 : Int) (v2 : Bool) (v3 : List GEdge) : Nat → List GMsg → Int → Option ((Unit) ⊕ (List GMsg))
 | 0, _, _ => none
 | k + 1, v4, v5 =>
  bif (ilt v5 (nlen (len v3))) then
   (bif (inr v5 (len v3)) then
   (elAt v3 v5).bind fun x6 =>
   (F85 K v1 x6).bind fun r7 =>
   bif r7.2 then
    (bif (apok (len v4) 1 16) then
    Ch K v1 v2 v3 k (appL v4 [(GMsg.mk x6.To r7.1)]) (wadd .i64 v5 1)
    else none)
   else
   some (.inl ())
   else none)
  else
  some (.inr v4)
def HJ (v1 : Int) (v2 : Bool) (v3 : List GEdge) (v4 : List GMsg) (v5 : Int) : TS := .on (kq 256 2 <| kq 1216 5 <| kq 1344 2 <| kq 1472 2 <| kq 6144 2 <| kq 6208 2 <| kq 6272 2 <| []) <| sq 256 [u0, (uI v1)] <| sq 1216 [(uX 138 4), ⟨.im, 0, (.lit (fnV 81))⟩, ⟨.im, 0, (.lit (fnV 82))⟩, (uB v2), ⟨.im, 0, (.lit (fnV 85))⟩] <| sq 1344 [u0, (uO 132 eGEdge v3)] <| sq 1472 [u0, (uO 78 eGMsg v4)] <| sq 6144 [u0, ⟨(.vw 1345 0), 0, nob⟩] <| sq 6208 [u0, (uI (nlen (len v3)))] <| sq 6272 [u0, (uI v5)] []
def OB (v1 : Int) (v2 : Bool) (v3 : List GEdge) (w4 : Unit) : TS := .on (kq 896 2 <| kq 960 2 <| kq 1024 2 <| kq 1088 2 <| []) <| sq 896 [u0, (uI 0)] <| sq 960 [u0, (uN 78)] <| sq 1024 [u0, (uB false)] <| sq 1088 [u0, (uI 8)] []
def Mn (v1 : Int) (v2 : Bool) (v3 : List GEdge) (w4 : List GMsg) : TS := .on (kq 256 2 <| kq 1472 2 <| []) <| sq 256 [u0, (uI v1)] <| sq 1472 [u0, (uO 78 eGMsg w4)] []
theorem BO (K : Nat) (v1 : Int) (v2 : Bool) (v3 : List GEdge) : ∀ (k : Nat) (v4 : List GMsg) (v5 : Int) (r : (Unit) ⊕ (List GMsg)), Ch K v1 v2 v3 k v4 v5 = some r → (Sum.elim (fun w => LoopEv E H Aa 0 Dm (HJ v1 v2 v3 v4 v5) .ret (OB v1 v2 v3 w)) (fun w => LoopEv E H Aa 0 Dm (HJ v1 v2 v3 v4 v5) (.exit 0) (Mn v1 v2 v3 w))) r := by
 intro k
 induction k with
 | zero => intro v4 v5 r F; cases F
 | succ k ih =>
  intro v4 v5 r F
  rw [Ch] at F
  apply jc F <;> intro h6 F
  apply jn F; intro h7 F
  apply jb F; intro x8 h9 F
  apply jb F; intro r10 h11 F
  have q14 {l} (z : HA Aa l) := zT h6 <| zT h7 <| zS eGEdge_len h9 3 <| zl (L9 K v1 x8 _ h11) <| z
  apply jc F <;> intro h12 F
  apply jn F; intro h13 F
  exact lN2 (q14 <| zF (bnot_t h12) <| zX (tt (leqm [(i6 x8.To), (i6 r10.1)] 1 2)) rfl <| zT h13 <| zV (app_ok (enc := eGMsg) (v4 : List GMsg) [(GMsg.mk x8.To r10.1)]) <| zi (wadd .i64 v5 1) <| z0) (ih _ _ _ F)
  apply jr F
  exact lE <| q14 <| zT (bnot_f h12) <| z0
  apply jr F
  exact lE <| zF h6 <| z0
def Cj (K : Nat) (v1 : Int) (v2 : Bool) (v3 : List GEdge) : Nat → List GMsg → Int → Option ((Unit) ⊕ (List GMsg))
 | 0, _, _ => none
 | k + 1, v4, v5 =>
  bif (ilt v5 (nlen (len v3))) then
   (bif (inr v5 (len v3)) then
   (elAt v3 v5).bind fun x6 =>
   (F87 K v1 x6).bind fun r7 =>
   bif r7.2 then
    (bif (apok (len v4) 1 16) then
    Cj K v1 v2 v3 k (appL v4 [(GMsg.mk x6.To r7.1)]) (wadd .i64 v5 1)
    else none)
   else
   some (.inl ())
   else none)
  else
  some (.inr v4)
def JW (v1 : Int) (v2 : Bool) (v3 : List GEdge) (v4 : List GMsg) (v5 : Int) : TS := .on (kq 256 2 <| kq 1216 5 <| kq 1344 2 <| kq 1472 2 <| kq 6144 2 <| kq 6208 2 <| kq 6272 2 <| []) <| sq 256 [u0, (uI v1)] <| sq 1216 [(uX 138 4), ⟨.im, 0, (.lit (fnV 86))⟩, ⟨.im, 0, (.lit (fnV 82))⟩, (uB v2), ⟨.im, 0, (.lit (fnV 87))⟩] <| sq 1344 [u0, (uO 132 eGEdge v3)] <| sq 1472 [u0, (uO 78 eGMsg v4)] <| sq 6144 [u0, ⟨(.vw 1345 0), 0, nob⟩] <| sq 6208 [u0, (uI (nlen (len v3)))] <| sq 6272 [u0, (uI v5)] []
def KU (v1 : Int) (v2 : Bool) (v3 : List GEdge) (w4 : Unit) : TS := .on (kq 896 2 <| kq 960 2 <| kq 1024 2 <| kq 1088 2 <| []) <| sq 896 [u0, (uI 0)] <| sq 960 [u0, (uN 78)] <| sq 1024 [u0, (uB false)] <| sq 1088 [u0, (uI 8)] []
def M8 (v1 : Int) (v2 : Bool) (v3 : List GEdge) (w4 : List GMsg) : TS := .on (kq 256 2 <| kq 1472 2 <| []) <| sq 256 [u0, (uI v1)] <| sq 1472 [u0, (uO 78 eGMsg w4)] []
theorem BZ (K : Nat) (v1 : Int) (v2 : Bool) (v3 : List GEdge) : ∀ (k : Nat) (v4 : List GMsg) (v5 : Int) (r : (Unit) ⊕ (List GMsg)), Cj K v1 v2 v3 k v4 v5 = some r → (Sum.elim (fun w => LoopEv E H Aa 0 Dm (JW v1 v2 v3 v4 v5) .ret (KU v1 v2 v3 w)) (fun w => LoopEv E H Aa 0 Dm (JW v1 v2 v3 v4 v5) (.exit 0) (M8 v1 v2 v3 w))) r := by
 intro k
 induction k with
 | zero => intro v4 v5 r F; cases F
 | succ k ih =>
  intro v4 v5 r F
  rw [Cj] at F
  apply jc F <;> intro h6 F
  apply jn F; intro h7 F
  apply jb F; intro x8 h9 F
  apply jb F; intro r10 h11 F
  have q14 {l} (z : HA Aa l) := zT h6 <| zT h7 <| zS eGEdge_len h9 3 <| zl (JG K v1 x8 _ h11) <| z
  apply jc F <;> intro h12 F
  apply jn F; intro h13 F
  exact lN2 (q14 <| zF (bnot_t h12) <| zX (tt (leqm [(i6 x8.To), (i6 r10.1)] 1 2)) rfl <| zT h13 <| zV (app_ok (enc := eGMsg) (v4 : List GMsg) [(GMsg.mk x8.To r10.1)]) <| zi (wadd .i64 v5 1) <| z0) (ih _ _ _ F)
  apply jr F
  exact lE <| q14 <| zT (bnot_f h12) <| z0
  apply jr F
  exact lE <| zF h6 <| z0
def Co (K : Nat) (v1 : Int) (v2 : Bool) (v3 : List GEdge) : Nat → List GMsg → Int → Option ((Unit) ⊕ (List GMsg))
 | 0, _, _ => none
 | k + 1, v4, v5 =>
  bif (ilt v5 (nlen (len v3))) then
   (bif (inr v5 (len v3)) then
   (elAt v3 v5).bind fun x6 =>
   (F87 K v1 x6).bind fun r7 =>
   bif r7.2 then
    (bif (apok (len v4) 1 16) then
    Co K v1 v2 v3 k (appL v4 [(GMsg.mk x6.To r7.1)]) (wadd .i64 v5 1)
    else none)
   else
   some (.inl ())
   else none)
  else
  some (.inr v4)
def Io (v1 : Int) (v2 : Bool) (v3 : List GEdge) (v4 : List GMsg) (v5 : Int) : TS := .on (kq 256 2 <| kq 1216 5 <| kq 1344 2 <| kq 1472 2 <| kq 6144 2 <| kq 6208 2 <| kq 6272 2 <| []) <| sq 256 [u0, (uI v1)] <| sq 1216 [(uX 138 4), ⟨.im, 0, (.lit (fnV 88))⟩, ⟨.im, 0, (.lit (fnV 89))⟩, (uB v2), ⟨.im, 0, (.lit (fnV 87))⟩] <| sq 1344 [u0, (uO 132 eGEdge v3)] <| sq 1472 [u0, (uO 78 eGMsg v4)] <| sq 6144 [u0, ⟨(.vw 1345 0), 0, nob⟩] <| sq 6208 [u0, (uI (nlen (len v3)))] <| sq 6272 [u0, (uI v5)] []
def LC (v1 : Int) (v2 : Bool) (v3 : List GEdge) (w4 : Unit) : TS := .on (kq 896 2 <| kq 960 2 <| kq 1024 2 <| kq 1088 2 <| []) <| sq 896 [u0, (uI 0)] <| sq 960 [u0, (uN 78)] <| sq 1024 [u0, (uB false)] <| sq 1088 [u0, (uI 8)] []
def Of (v1 : Int) (v2 : Bool) (v3 : List GEdge) (w4 : List GMsg) : TS := .on (kq 256 2 <| kq 1472 2 <| []) <| sq 256 [u0, (uI v1)] <| sq 1472 [u0, (uO 78 eGMsg w4)] []
theorem BX (K : Nat) (v1 : Int) (v2 : Bool) (v3 : List GEdge) : ∀ (k : Nat) (v4 : List GMsg) (v5 : Int) (r : (Unit) ⊕ (List GMsg)), Co K v1 v2 v3 k v4 v5 = some r → (Sum.elim (fun w => LoopEv E H Aa 0 Dm (Io v1 v2 v3 v4 v5) .ret (LC v1 v2 v3 w)) (fun w => LoopEv E H Aa 0 Dm (Io v1 v2 v3 v4 v5) (.exit 0) (Of v1 v2 v3 w))) r := by
 intro k
 induction k with
 | zero => intro v4 v5 r F; cases F
 | succ k ih =>
  intro v4 v5 r F
  rw [Co] at F
  apply jc F <;> intro h6 F
  apply jn F; intro h7 F
  apply jb F; intro x8 h9 F
  apply jb F; intro r10 h11 F
  have q14 {l} (z : HA Aa l) := zT h6 <| zT h7 <| zS eGEdge_len h9 3 <| zl (JG K v1 x8 _ h11) <| z
  apply jc F <;> intro h12 F
  apply jn F; intro h13 F
  exact lN2 (q14 <| zF (bnot_t h12) <| zX (tt (leqm [(i6 x8.To), (i6 r10.1)] 1 2)) rfl <| zT h13 <| zV (app_ok (enc := eGMsg) (v4 : List GMsg) [(GMsg.mk x8.To r10.1)]) <| zi (wadd .i64 v5 1) <| z0) (ih _ _ _ F)
  apply jr F
  exact lE <| q14 <| zT (bnot_f h12) <| z0
  apply jr F
  exact lE <| zF h6 <| z0
def F93 (K : Nat) (a1 : GGraph) (a2 : GJob) (a3 : Int) (a4 : Int) (a5 : Int) (a6 : Int) (a7 : Bool) : Option (Int × List GMsg × Bool × Int) :=
 (F31 K a1 a2).bind fun r8 =>
 bif (ieq r8 0) then
  (bif (ilt a4 0) then
   (some (0, ([], (false, 4))))
  else
  bif (ile a1.N a4) then
   (some (0, ([], (false, 4))))
  else
  bif (ilt a3 0) then
   (some (0, ([], (false, 1))))
  else
  bif (ilt 40 a3) then
   (some (0, ([], (false, 1))))
  else
  bif a7 then
   ((F57 K a2.Prog).bind fun r9 =>
   bif (areFns [r9.1.start_, r9.1.better_, r9.1.send_] [81, 82, 83]) then
    ((BF K a1 a4).bind fun r10 =>
    bif (ieq a3 0) then
     (bif r9.1.only_ then
      ((F82 K a6 a5).bind fun r11 =>
      bif r11 then
       ((Cd K a6 r9.1.only_ r10 K [] 0).bind fun y12 =>
       Sum.elim (fun w13 =>
        some (0, ([], (false, 8))))
        (fun w14 =>
        some (a6, (w14, (true, 0)))) y12)
      else
      bif (ieq a4 a2.Source) then
       ((Cd K a5 r9.1.only_ r10 K [] 0).bind fun y15 =>
       Sum.elim (fun w16 =>
        some (0, ([], (false, 8))))
        (fun w17 =>
        some (a5, (w17, (true, 0)))) y15)
      else
      some (a5, ([], (true, 0))))
     else
     (F82 K a6 a5).bind fun r18 =>
     bif r18 then
      ((Cd K a6 r9.1.only_ r10 K [] 0).bind fun y19 =>
      Sum.elim (fun w20 =>
       some (0, ([], (false, 8))))
       (fun w21 =>
       some (a6, (w21, (true, 0)))) y19)
     else
     (Cd K a5 r9.1.only_ r10 K [] 0).bind fun y22 =>
     Sum.elim (fun w23 =>
      some (0, ([], (false, 8))))
      (fun w24 =>
      some (a5, (w24, (true, 0)))) y22)
    else
    (F82 K a6 a5).bind fun r25 =>
    bif r25 then
     ((Cd K a6 r9.1.only_ r10 K [] 0).bind fun y26 =>
     Sum.elim (fun w27 =>
      some (0, ([], (false, 8))))
      (fun w28 =>
      some (a6, (w28, (true, 0)))) y26)
    else
    some (a5, ([], (true, 0))))
   else
   bif (areFns [r9.1.start_, r9.1.better_, r9.1.send_] [81, 82, 85]) then
    ((BF K a1 a4).bind fun r29 =>
    bif (ieq a3 0) then
     (bif r9.1.only_ then
      ((F82 K a6 a5).bind fun r30 =>
      bif r30 then
       ((Ch K a6 r9.1.only_ r29 K [] 0).bind fun y31 =>
       Sum.elim (fun w32 =>
        some (0, ([], (false, 8))))
        (fun w33 =>
        some (a6, (w33, (true, 0)))) y31)
      else
      bif (ieq a4 a2.Source) then
       ((Ch K a5 r9.1.only_ r29 K [] 0).bind fun y34 =>
       Sum.elim (fun w35 =>
        some (0, ([], (false, 8))))
        (fun w36 =>
        some (a5, (w36, (true, 0)))) y34)
      else
      some (a5, ([], (true, 0))))
     else
     (F82 K a6 a5).bind fun r37 =>
     bif r37 then
      ((Ch K a6 r9.1.only_ r29 K [] 0).bind fun y38 =>
      Sum.elim (fun w39 =>
       some (0, ([], (false, 8))))
       (fun w40 =>
       some (a6, (w40, (true, 0)))) y38)
     else
     (Ch K a5 r9.1.only_ r29 K [] 0).bind fun y41 =>
     Sum.elim (fun w42 =>
      some (0, ([], (false, 8))))
      (fun w43 =>
      some (a5, (w43, (true, 0)))) y41)
    else
    (F82 K a6 a5).bind fun r44 =>
    bif r44 then
     ((Ch K a6 r9.1.only_ r29 K [] 0).bind fun y45 =>
     Sum.elim (fun w46 =>
      some (0, ([], (false, 8))))
      (fun w47 =>
      some (a6, (w47, (true, 0)))) y45)
    else
    some (a5, ([], (true, 0))))
   else
   bif (areFns [r9.1.start_, r9.1.better_, r9.1.send_] [86, 82, 87]) then
    ((BF K a1 a4).bind fun r48 =>
    bif (ieq a3 0) then
     (bif r9.1.only_ then
      ((F82 K a6 a5).bind fun r49 =>
      bif r49 then
       ((Cj K a6 r9.1.only_ r48 K [] 0).bind fun y50 =>
       Sum.elim (fun w51 =>
        some (0, ([], (false, 8))))
        (fun w52 =>
        some (a6, (w52, (true, 0)))) y50)
      else
      bif (ieq a4 a2.Source) then
       ((Cj K a5 r9.1.only_ r48 K [] 0).bind fun y53 =>
       Sum.elim (fun w54 =>
        some (0, ([], (false, 8))))
        (fun w55 =>
        some (a5, (w55, (true, 0)))) y53)
      else
      some (a5, ([], (true, 0))))
     else
     (F82 K a6 a5).bind fun r56 =>
     bif r56 then
      ((Cj K a6 r9.1.only_ r48 K [] 0).bind fun y57 =>
      Sum.elim (fun w58 =>
       some (0, ([], (false, 8))))
       (fun w59 =>
       some (a6, (w59, (true, 0)))) y57)
     else
     (Cj K a5 r9.1.only_ r48 K [] 0).bind fun y60 =>
     Sum.elim (fun w61 =>
      some (0, ([], (false, 8))))
      (fun w62 =>
      some (a5, (w62, (true, 0)))) y60)
    else
    (F82 K a6 a5).bind fun r63 =>
    bif r63 then
     ((Cj K a6 r9.1.only_ r48 K [] 0).bind fun y64 =>
     Sum.elim (fun w65 =>
      some (0, ([], (false, 8))))
      (fun w66 =>
      some (a6, (w66, (true, 0)))) y64)
    else
    some (a5, ([], (true, 0))))
   else
   bif (areFns [r9.1.start_, r9.1.better_, r9.1.send_] [88, 89, 87]) then
    ((BF K a1 a4).bind fun r67 =>
    bif (ieq a3 0) then
     (bif r9.1.only_ then
      ((F89 K a6 a5).bind fun r68 =>
      bif r68 then
       ((Co K a6 r9.1.only_ r67 K [] 0).bind fun y69 =>
       Sum.elim (fun w70 =>
        some (0, ([], (false, 8))))
        (fun w71 =>
        some (a6, (w71, (true, 0)))) y69)
      else
      bif (ieq a4 a2.Source) then
       ((Co K a5 r9.1.only_ r67 K [] 0).bind fun y72 =>
       Sum.elim (fun w73 =>
        some (0, ([], (false, 8))))
        (fun w74 =>
        some (a5, (w74, (true, 0)))) y72)
      else
      some (a5, ([], (true, 0))))
     else
     (F89 K a6 a5).bind fun r75 =>
     bif r75 then
      ((Co K a6 r9.1.only_ r67 K [] 0).bind fun y76 =>
      Sum.elim (fun w77 =>
       some (0, ([], (false, 8))))
       (fun w78 =>
       some (a6, (w78, (true, 0)))) y76)
     else
     (Co K a5 r9.1.only_ r67 K [] 0).bind fun y79 =>
     Sum.elim (fun w80 =>
      some (0, ([], (false, 8))))
      (fun w81 =>
      some (a5, (w81, (true, 0)))) y79)
    else
    (F89 K a6 a5).bind fun r82 =>
    bif r82 then
     ((Co K a6 r9.1.only_ r67 K [] 0).bind fun y83 =>
     Sum.elim (fun w84 =>
      some (0, ([], (false, 8))))
      (fun w85 =>
      some (a6, (w85, (true, 0)))) y83)
    else
    some (a5, ([], (true, 0))))
   else
   bif (areFns [r9.1.start_, r9.1.better_, r9.1.send_] [90, 0, 87]) then
    ((BF K a1 a4).bind fun r86 =>
    (Dk K r86 a3 a5 a6).bind fun r87 =>
    some (r87.1, (r87.2.1, (r87.2.2.1, r87.2.2.2))))
   else
   bif (areFns [r9.1.start_, r9.1.better_, r9.1.send_] [0, 0, 0]) then
   (BF K a1 a4).bind fun r88 =>
   (Dk K r88 a3 a5 a6).bind fun r89 =>
   some (r89.1, (r89.2.1, (r89.2.2.1, r89.2.2.2)))
   else none)
  else
  (F57 K a2.Prog).bind fun r90 =>
  bif (areFns [r90.1.start_, r90.1.better_, r90.1.send_] [81, 82, 83]) then
   ((BF K a1 a4).bind fun r91 =>
   bif (ieq a3 0) then
    (bif r90.1.only_ then
     (bif (ieq a4 a2.Source) then
      ((Cd K a5 r90.1.only_ r91 K [] 0).bind fun y92 =>
      Sum.elim (fun w93 =>
       some (0, ([], (false, 8))))
       (fun w94 =>
       some (a5, (w94, (true, 0)))) y92)
     else
     some (a5, ([], (true, 0))))
    else
    (Cd K a5 r90.1.only_ r91 K [] 0).bind fun y95 =>
    Sum.elim (fun w96 =>
     some (0, ([], (false, 8))))
     (fun w97 =>
     some (a5, (w97, (true, 0)))) y95)
   else
   some (a5, ([], (true, 0))))
  else
  bif (areFns [r90.1.start_, r90.1.better_, r90.1.send_] [81, 82, 85]) then
   ((BF K a1 a4).bind fun r98 =>
   bif (ieq a3 0) then
    (bif r90.1.only_ then
     (bif (ieq a4 a2.Source) then
      ((Ch K a5 r90.1.only_ r98 K [] 0).bind fun y99 =>
      Sum.elim (fun w100 =>
       some (0, ([], (false, 8))))
       (fun w101 =>
       some (a5, (w101, (true, 0)))) y99)
     else
     some (a5, ([], (true, 0))))
    else
    (Ch K a5 r90.1.only_ r98 K [] 0).bind fun y102 =>
    Sum.elim (fun w103 =>
     some (0, ([], (false, 8))))
     (fun w104 =>
     some (a5, (w104, (true, 0)))) y102)
   else
   some (a5, ([], (true, 0))))
  else
  bif (areFns [r90.1.start_, r90.1.better_, r90.1.send_] [86, 82, 87]) then
   ((BF K a1 a4).bind fun r105 =>
   bif (ieq a3 0) then
    (bif r90.1.only_ then
     (bif (ieq a4 a2.Source) then
      ((Cj K a5 r90.1.only_ r105 K [] 0).bind fun y106 =>
      Sum.elim (fun w107 =>
       some (0, ([], (false, 8))))
       (fun w108 =>
       some (a5, (w108, (true, 0)))) y106)
     else
     some (a5, ([], (true, 0))))
    else
    (Cj K a5 r90.1.only_ r105 K [] 0).bind fun y109 =>
    Sum.elim (fun w110 =>
     some (0, ([], (false, 8))))
     (fun w111 =>
     some (a5, (w111, (true, 0)))) y109)
   else
   some (a5, ([], (true, 0))))
  else
  bif (areFns [r90.1.start_, r90.1.better_, r90.1.send_] [88, 89, 87]) then
   ((BF K a1 a4).bind fun r112 =>
   bif (ieq a3 0) then
    (bif r90.1.only_ then
     (bif (ieq a4 a2.Source) then
      ((Co K a5 r90.1.only_ r112 K [] 0).bind fun y113 =>
      Sum.elim (fun w114 =>
       some (0, ([], (false, 8))))
       (fun w115 =>
       some (a5, (w115, (true, 0)))) y113)
     else
     some (a5, ([], (true, 0))))
    else
    (Co K a5 r90.1.only_ r112 K [] 0).bind fun y116 =>
    Sum.elim (fun w117 =>
     some (0, ([], (false, 8))))
     (fun w118 =>
     some (a5, (w118, (true, 0)))) y116)
   else
   some (a5, ([], (true, 0))))
  else
  bif (areFns [r90.1.start_, r90.1.better_, r90.1.send_] [90, 0, 87]) then
   ((BF K a1 a4).bind fun r119 =>
   (Dk K r119 a3 a5 0).bind fun r120 =>
   some (r120.1, (r120.2.1, (r120.2.2.1, r120.2.2.2))))
  else
  bif (areFns [r90.1.start_, r90.1.better_, r90.1.send_] [0, 0, 0]) then
  (BF K a1 a4).bind fun r121 =>
  (Dk K r121 a3 a5 0).bind fun r122 =>
  some (r122.1, (r122.2.1, (r122.2.2.1, r122.2.2.2)))
  else none)
 else
 some (0, ([], (false, r8)))
theorem Hu (K : Nat) (a1 : GGraph) (a2 : GJob) (a3 : Int) (a4 : Int) (a5 : Int) (a6 : Int) (a7 : Bool) (r : Int × List GMsg × Bool × Int) (F : F93 K a1 a2 a3 a4 a5 a6 a7 = some r) : Evt E H 93 [.agg (eGGraph a1), .agg (eGJob a2), .one (i6 a3), .one (i6 a4), .one (i6 a5), .one (i6 a6), .one (.lit (.bool a7))] (Pq r) := by
 rw [F93] at F
 apply jb F; intro r8 h9 F
 apply jc F <;> intro h10 F
 have q236 {l} (z : HA Aa l) := zl (Cc K a1 a2 _ h9) <| zF (ine_t h10) <| z
 apply jc F <;> intro h11 F
 apply jr F
 exact fpC Aa <| q236 <| D5 h11 <| zr1 <| z0
 have q237 {l} (z : HA Aa l) := FJ h11 <| z
 apply jc F <;> intro h12 F
 apply jr F
 exact fpC Aa <| q236 <| q237 <| zT (ige_eq h12) <| z0
 apply jc F <;> intro h13 F
 apply jr F
 exact fpC Aa <| q236 <| q237 <| zF (ige_eq h12) <| BS h13 <| zr1 <| z0
 have q238 {l} (z : HA Aa l) := zF (ige_eq h12) <| Cw h13 <| z
 apply jc F <;> intro h14 F
 apply jr F
 exact fpC Aa <| q236 <| q237 <| q238 <| zT (igt_eq h14) <| z0
 apply jc F <;> intro h15 F
 apply jb F; intro r16 h17 F
 apply jc F <;> intro h18 F
 apply jb F; intro r19 h20 F
 have q239 {l} (z : HA Aa l) := zF (igt_eq h14) <| zF (bnot_t h15) <| zl (EJ _ h18 (Al K a2.Prog _ h17)) <| zl (Cs K a1 a4 _ h20) <| zf1 <| z
 apply jc F <;> intro h21 F
 have q240 {l} (z : HA Aa l) := zC4 h21 <| z
 apply jc F <;> intro h22 F
 apply jb F; intro r23 h24 F
 have q241 {l} (z : HA Aa l) := zB4 (bnot_t h22) <| zC1 h21 <| zF (bnot_t h22) <| zT h21 <| zC5 h15 <| zl (Ck K a6 a5 _ h24) <| zT h15 <| z
 apply jc F <;> intro h25 F
 have q242 {l} (z : HA Aa l) := zT h25 <| zn1 <| zi (nl r19) <| z
 apply jb F; intro y27 h26 F
 refine js F (fun w28 hx F => ?_) fun w29 hx F => ?_
 subst hx
 apply jr F
 exact fpC Aa <| q236 <| q237 <| q238 <| q239 <| q240 <| q241 <| q242 <| zo (BM K a6 r16.1.only_ r19 K [] 0 _ h26) <| z0
 subst hx
 apply jr F
 exact fpC Aa <| q236 <| q237 <| q238 <| q239 <| q240 <| q241 <| q242 <| zo (BM K a6 r16.1.only_ r19 K [] 0 _ h26) <| z0
 apply jc F <;> intro h30 F
 have q243 {l} (z : HA Aa l) := zF h25 <| zF (bnot_t h30) <| zi (nl r19) <| z
 apply jb F; intro y32 h31 F
 refine js F (fun w33 hx F => ?_) fun w34 hx F => ?_
 subst hx
 apply jr F
 exact fpC Aa <| q236 <| q237 <| q238 <| q239 <| q240 <| q241 <| q243 <| zo (BM K a5 r16.1.only_ r19 K [] 0 _ h31) <| z0
 subst hx
 apply jr F
 exact fpC Aa <| q236 <| q237 <| q238 <| q239 <| q240 <| q241 <| q243 <| zo (BM K a5 r16.1.only_ r19 K [] 0 _ h31) <| z0
 apply jr F
 exact fpC Aa <| q236 <| q237 <| q238 <| q239 <| q240 <| q241 <| zF h25 <| zT (bnot_f h30) <| z0
 apply jb F; intro r35 h36 F
 have q244 {l} (z : HA Aa l) := zA4 (bnot_f h22) <| zC1 h21 <| zT (bnot_f h22) <| zT h21 <| zC5 h15 <| zl (Ck K a6 a5 _ h36) <| zT h15 <| z
 apply jc F <;> intro h37 F
 have q245 {l} (z : HA Aa l) := zT h37 <| zn1 <| zi (nl r19) <| z
 apply jb F; intro y39 h38 F
 refine js F (fun w40 hx F => ?_) fun w41 hx F => ?_
 subst hx
 apply jr F
 exact fpC Aa <| q236 <| q237 <| q238 <| q239 <| q240 <| q244 <| q245 <| zo (BM K a6 r16.1.only_ r19 K [] 0 _ h38) <| z0
 subst hx
 apply jr F
 exact fpC Aa <| q236 <| q237 <| q238 <| q239 <| q240 <| q244 <| q245 <| zo (BM K a6 r16.1.only_ r19 K [] 0 _ h38) <| z0
 have q246 {l} (z : HA Aa l) := zF h37 <| zn1 <| zi (nl r19) <| z
 apply jb F; intro y43 h42 F
 refine js F (fun w44 hx F => ?_) fun w45 hx F => ?_
 subst hx
 apply jr F
 exact fpC Aa <| q236 <| q237 <| q238 <| q239 <| q240 <| q244 <| q246 <| zo (BM K a5 r16.1.only_ r19 K [] 0 _ h42) <| z0
 subst hx
 apply jr F
 exact fpC Aa <| q236 <| q237 <| q238 <| q239 <| q240 <| q244 <| q246 <| zo (BM K a5 r16.1.only_ r19 K [] 0 _ h42) <| z0
 apply jb F; intro r46 h47 F
 have q247 {l} (z : HA Aa l) := Ag h21 <| zC5 h15 <| zl (Ck K a6 a5 _ h47) <| zT h15 <| z
 apply jc F <;> intro h48 F
 have q248 {l} (z : HA Aa l) := zT h48 <| zn1 <| zi (nl r19) <| z
 apply jb F; intro y50 h49 F
 refine js F (fun w51 hx F => ?_) fun w52 hx F => ?_
 subst hx
 apply jr F
 exact fpC Aa <| q236 <| q237 <| q238 <| q239 <| q247 <| q248 <| zo (BM K a6 r16.1.only_ r19 K [] 0 _ h49) <| z0
 subst hx
 apply jr F
 exact fpC Aa <| q236 <| q237 <| q238 <| q239 <| q247 <| q248 <| zo (BM K a6 r16.1.only_ r19 K [] 0 _ h49) <| z0
 apply jr F
 exact fpC Aa <| q236 <| q237 <| q238 <| q239 <| q247 <| zF h48 <| zX (tt (bnot false)) (bnot_f rfl) <| z0
 apply jc F <;> intro h53 F
 apply jb F; intro r54 h55 F
 have q249 {l} (z : HA Aa l) := zF (igt_eq h14) <| zF (bnot_t h15) <| zl (EK _ h53 (Al K a2.Prog _ h17)) <| zl (Cs K a1 a4 _ h55) <| zf1 <| z
 apply jc F <;> intro h56 F
 have q250 {l} (z : HA Aa l) := zC4 h56 <| z
 apply jc F <;> intro h57 F
 apply jb F; intro r58 h59 F
 have q251 {l} (z : HA Aa l) := zB4 (bnot_t h57) <| zC1 h56 <| zF (bnot_t h57) <| zT h56 <| zC5 h15 <| zl (Ck K a6 a5 _ h59) <| zT h15 <| z
 apply jc F <;> intro h60 F
 have q252 {l} (z : HA Aa l) := zT h60 <| zn1 <| zi (nl r54) <| z
 apply jb F; intro y62 h61 F
 refine js F (fun w63 hx F => ?_) fun w64 hx F => ?_
 subst hx
 apply jr F
 exact fpC Aa <| q236 <| q237 <| q238 <| q249 <| q250 <| q251 <| q252 <| zo (BO K a6 r16.1.only_ r54 K [] 0 _ h61) <| z0
 subst hx
 apply jr F
 exact fpC Aa <| q236 <| q237 <| q238 <| q249 <| q250 <| q251 <| q252 <| zo (BO K a6 r16.1.only_ r54 K [] 0 _ h61) <| z0
 apply jc F <;> intro h65 F
 have q253 {l} (z : HA Aa l) := zF h60 <| zF (bnot_t h65) <| zi (nl r54) <| z
 apply jb F; intro y67 h66 F
 refine js F (fun w68 hx F => ?_) fun w69 hx F => ?_
 subst hx
 apply jr F
 exact fpC Aa <| q236 <| q237 <| q238 <| q249 <| q250 <| q251 <| q253 <| zo (BO K a5 r16.1.only_ r54 K [] 0 _ h66) <| z0
 subst hx
 apply jr F
 exact fpC Aa <| q236 <| q237 <| q238 <| q249 <| q250 <| q251 <| q253 <| zo (BO K a5 r16.1.only_ r54 K [] 0 _ h66) <| z0
 apply jr F
 exact fpC Aa <| q236 <| q237 <| q238 <| q249 <| q250 <| q251 <| zF h60 <| zT (bnot_f h65) <| z0
 apply jb F; intro r70 h71 F
 have q254 {l} (z : HA Aa l) := zA4 (bnot_f h57) <| zC1 h56 <| zT (bnot_f h57) <| zT h56 <| zC5 h15 <| zl (Ck K a6 a5 _ h71) <| zT h15 <| z
 apply jc F <;> intro h72 F
 have q255 {l} (z : HA Aa l) := zT h72 <| zn1 <| zi (nl r54) <| z
 apply jb F; intro y74 h73 F
 refine js F (fun w75 hx F => ?_) fun w76 hx F => ?_
 subst hx
 apply jr F
 exact fpC Aa <| q236 <| q237 <| q238 <| q249 <| q250 <| q254 <| q255 <| zo (BO K a6 r16.1.only_ r54 K [] 0 _ h73) <| z0
 subst hx
 apply jr F
 exact fpC Aa <| q236 <| q237 <| q238 <| q249 <| q250 <| q254 <| q255 <| zo (BO K a6 r16.1.only_ r54 K [] 0 _ h73) <| z0
 have q256 {l} (z : HA Aa l) := zF h72 <| zn1 <| zi (nl r54) <| z
 apply jb F; intro y78 h77 F
 refine js F (fun w79 hx F => ?_) fun w80 hx F => ?_
 subst hx
 apply jr F
 exact fpC Aa <| q236 <| q237 <| q238 <| q249 <| q250 <| q254 <| q256 <| zo (BO K a5 r16.1.only_ r54 K [] 0 _ h77) <| z0
 subst hx
 apply jr F
 exact fpC Aa <| q236 <| q237 <| q238 <| q249 <| q250 <| q254 <| q256 <| zo (BO K a5 r16.1.only_ r54 K [] 0 _ h77) <| z0
 apply jb F; intro r81 h82 F
 have q257 {l} (z : HA Aa l) := Ag h56 <| zC5 h15 <| zl (Ck K a6 a5 _ h82) <| zT h15 <| z
 apply jc F <;> intro h83 F
 have q258 {l} (z : HA Aa l) := zT h83 <| zn1 <| zi (nl r54) <| z
 apply jb F; intro y85 h84 F
 refine js F (fun w86 hx F => ?_) fun w87 hx F => ?_
 subst hx
 apply jr F
 exact fpC Aa <| q236 <| q237 <| q238 <| q249 <| q257 <| q258 <| zo (BO K a6 r16.1.only_ r54 K [] 0 _ h84) <| z0
 subst hx
 apply jr F
 exact fpC Aa <| q236 <| q237 <| q238 <| q249 <| q257 <| q258 <| zo (BO K a6 r16.1.only_ r54 K [] 0 _ h84) <| z0
 apply jr F
 exact fpC Aa <| q236 <| q237 <| q238 <| q249 <| q257 <| zF h83 <| zX (tt (bnot false)) (bnot_f rfl) <| z0
 apply jc F <;> intro h88 F
 apply jb F; intro r89 h90 F
 have q259 {l} (z : HA Aa l) := zF (igt_eq h14) <| zF (bnot_t h15) <| zl (Ez _ h88 (Al K a2.Prog _ h17)) <| zl (Cs K a1 a4 _ h90) <| zf1 <| z
 apply jc F <;> intro h91 F
 have q260 {l} (z : HA Aa l) := zC4 h91 <| z
 apply jc F <;> intro h92 F
 apply jb F; intro r93 h94 F
 have q261 {l} (z : HA Aa l) := zB4 (bnot_t h92) <| zC1 h91 <| zF (bnot_t h92) <| zT h91 <| zC5 h15 <| zl (Ck K a6 a5 _ h94) <| zT h15 <| z
 apply jc F <;> intro h95 F
 have q262 {l} (z : HA Aa l) := zT h95 <| zn1 <| zi (nl r89) <| z
 apply jb F; intro y97 h96 F
 refine js F (fun w98 hx F => ?_) fun w99 hx F => ?_
 subst hx
 apply jr F
 exact fpC Aa <| q236 <| q237 <| q238 <| q259 <| q260 <| q261 <| q262 <| zo (BZ K a6 r16.1.only_ r89 K [] 0 _ h96) <| z0
 subst hx
 apply jr F
 exact fpC Aa <| q236 <| q237 <| q238 <| q259 <| q260 <| q261 <| q262 <| zo (BZ K a6 r16.1.only_ r89 K [] 0 _ h96) <| z0
 apply jc F <;> intro h100 F
 have q263 {l} (z : HA Aa l) := zF h95 <| zF (bnot_t h100) <| zi (nl r89) <| z
 apply jb F; intro y102 h101 F
 refine js F (fun w103 hx F => ?_) fun w104 hx F => ?_
 subst hx
 apply jr F
 exact fpC Aa <| q236 <| q237 <| q238 <| q259 <| q260 <| q261 <| q263 <| zo (BZ K a5 r16.1.only_ r89 K [] 0 _ h101) <| z0
 subst hx
 apply jr F
 exact fpC Aa <| q236 <| q237 <| q238 <| q259 <| q260 <| q261 <| q263 <| zo (BZ K a5 r16.1.only_ r89 K [] 0 _ h101) <| z0
 apply jr F
 exact fpC Aa <| q236 <| q237 <| q238 <| q259 <| q260 <| q261 <| zF h95 <| zT (bnot_f h100) <| z0
 apply jb F; intro r105 h106 F
 have q264 {l} (z : HA Aa l) := zA4 (bnot_f h92) <| zC1 h91 <| zT (bnot_f h92) <| zT h91 <| zC5 h15 <| zl (Ck K a6 a5 _ h106) <| zT h15 <| z
 apply jc F <;> intro h107 F
 have q265 {l} (z : HA Aa l) := zT h107 <| zn1 <| zi (nl r89) <| z
 apply jb F; intro y109 h108 F
 refine js F (fun w110 hx F => ?_) fun w111 hx F => ?_
 subst hx
 apply jr F
 exact fpC Aa <| q236 <| q237 <| q238 <| q259 <| q260 <| q264 <| q265 <| zo (BZ K a6 r16.1.only_ r89 K [] 0 _ h108) <| z0
 subst hx
 apply jr F
 exact fpC Aa <| q236 <| q237 <| q238 <| q259 <| q260 <| q264 <| q265 <| zo (BZ K a6 r16.1.only_ r89 K [] 0 _ h108) <| z0
 have q266 {l} (z : HA Aa l) := zF h107 <| zn1 <| zi (nl r89) <| z
 apply jb F; intro y113 h112 F
 refine js F (fun w114 hx F => ?_) fun w115 hx F => ?_
 subst hx
 apply jr F
 exact fpC Aa <| q236 <| q237 <| q238 <| q259 <| q260 <| q264 <| q266 <| zo (BZ K a5 r16.1.only_ r89 K [] 0 _ h112) <| z0
 subst hx
 apply jr F
 exact fpC Aa <| q236 <| q237 <| q238 <| q259 <| q260 <| q264 <| q266 <| zo (BZ K a5 r16.1.only_ r89 K [] 0 _ h112) <| z0
 apply jb F; intro r116 h117 F
 have q267 {l} (z : HA Aa l) := Ag h91 <| zC5 h15 <| zl (Ck K a6 a5 _ h117) <| zT h15 <| z
 apply jc F <;> intro h118 F
 have q268 {l} (z : HA Aa l) := zT h118 <| zn1 <| zi (nl r89) <| z
 apply jb F; intro y120 h119 F
 refine js F (fun w121 hx F => ?_) fun w122 hx F => ?_
 subst hx
 apply jr F
 exact fpC Aa <| q236 <| q237 <| q238 <| q259 <| q267 <| q268 <| zo (BZ K a6 r16.1.only_ r89 K [] 0 _ h119) <| z0
 subst hx
 apply jr F
 exact fpC Aa <| q236 <| q237 <| q238 <| q259 <| q267 <| q268 <| zo (BZ K a6 r16.1.only_ r89 K [] 0 _ h119) <| z0
 apply jr F
 exact fpC Aa <| q236 <| q237 <| q238 <| q259 <| q267 <| zF h118 <| zX (tt (bnot false)) (bnot_f rfl) <| z0
 apply jc F <;> intro h123 F
 apply jb F; intro r124 h125 F
 have q269 {l} (z : HA Aa l) := zF (igt_eq h14) <| zF (bnot_t h15) <| zl (Es _ h123 (Al K a2.Prog _ h17)) <| zl (Cs K a1 a4 _ h125) <| zf1 <| z
 apply jc F <;> intro h126 F
 have q270 {l} (z : HA Aa l) := zC4 h126 <| z
 apply jc F <;> intro h127 F
 apply jb F; intro r128 h129 F
 have q271 {l} (z : HA Aa l) := zB4 (bnot_t h127) <| zC1 h126 <| zF (bnot_t h127) <| zT h126 <| zC5 h15 <| zl (F8 K a6 a5 _ h129) <| zT h15 <| z
 apply jc F <;> intro h130 F
 have q272 {l} (z : HA Aa l) := zT h130 <| zn1 <| zi (nl r124) <| z
 apply jb F; intro y132 h131 F
 refine js F (fun w133 hx F => ?_) fun w134 hx F => ?_
 subst hx
 apply jr F
 exact fpC Aa <| q236 <| q237 <| q238 <| q269 <| q270 <| q271 <| q272 <| zo (BX K a6 r16.1.only_ r124 K [] 0 _ h131) <| z0
 subst hx
 apply jr F
 exact fpC Aa <| q236 <| q237 <| q238 <| q269 <| q270 <| q271 <| q272 <| zo (BX K a6 r16.1.only_ r124 K [] 0 _ h131) <| z0
 apply jc F <;> intro h135 F
 have q273 {l} (z : HA Aa l) := zF h130 <| zF (bnot_t h135) <| zi (nl r124) <| z
 apply jb F; intro y137 h136 F
 refine js F (fun w138 hx F => ?_) fun w139 hx F => ?_
 subst hx
 apply jr F
 exact fpC Aa <| q236 <| q237 <| q238 <| q269 <| q270 <| q271 <| q273 <| zo (BX K a5 r16.1.only_ r124 K [] 0 _ h136) <| z0
 subst hx
 apply jr F
 exact fpC Aa <| q236 <| q237 <| q238 <| q269 <| q270 <| q271 <| q273 <| zo (BX K a5 r16.1.only_ r124 K [] 0 _ h136) <| z0
 apply jr F
 exact fpC Aa <| q236 <| q237 <| q238 <| q269 <| q270 <| q271 <| zF h130 <| zT (bnot_f h135) <| z0
 apply jb F; intro r140 h141 F
 have q274 {l} (z : HA Aa l) := zA4 (bnot_f h127) <| zC1 h126 <| zT (bnot_f h127) <| zT h126 <| zC5 h15 <| zl (F8 K a6 a5 _ h141) <| zT h15 <| z
 apply jc F <;> intro h142 F
 have q275 {l} (z : HA Aa l) := zT h142 <| zn1 <| zi (nl r124) <| z
 apply jb F; intro y144 h143 F
 refine js F (fun w145 hx F => ?_) fun w146 hx F => ?_
 subst hx
 apply jr F
 exact fpC Aa <| q236 <| q237 <| q238 <| q269 <| q270 <| q274 <| q275 <| zo (BX K a6 r16.1.only_ r124 K [] 0 _ h143) <| z0
 subst hx
 apply jr F
 exact fpC Aa <| q236 <| q237 <| q238 <| q269 <| q270 <| q274 <| q275 <| zo (BX K a6 r16.1.only_ r124 K [] 0 _ h143) <| z0
 have q276 {l} (z : HA Aa l) := zF h142 <| zn1 <| zi (nl r124) <| z
 apply jb F; intro y148 h147 F
 refine js F (fun w149 hx F => ?_) fun w150 hx F => ?_
 subst hx
 apply jr F
 exact fpC Aa <| q236 <| q237 <| q238 <| q269 <| q270 <| q274 <| q276 <| zo (BX K a5 r16.1.only_ r124 K [] 0 _ h147) <| z0
 subst hx
 apply jr F
 exact fpC Aa <| q236 <| q237 <| q238 <| q269 <| q270 <| q274 <| q276 <| zo (BX K a5 r16.1.only_ r124 K [] 0 _ h147) <| z0
 apply jb F; intro r151 h152 F
 have q277 {l} (z : HA Aa l) := Ag h126 <| zC5 h15 <| zl (F8 K a6 a5 _ h152) <| zT h15 <| z
 apply jc F <;> intro h153 F
 have q278 {l} (z : HA Aa l) := zT h153 <| zn1 <| zi (nl r124) <| z
 apply jb F; intro y155 h154 F
 refine js F (fun w156 hx F => ?_) fun w157 hx F => ?_
 subst hx
 apply jr F
 exact fpC Aa <| q236 <| q237 <| q238 <| q269 <| q277 <| q278 <| zo (BX K a6 r16.1.only_ r124 K [] 0 _ h154) <| z0
 subst hx
 apply jr F
 exact fpC Aa <| q236 <| q237 <| q238 <| q269 <| q277 <| q278 <| zo (BX K a6 r16.1.only_ r124 K [] 0 _ h154) <| z0
 apply jr F
 exact fpC Aa <| q236 <| q237 <| q238 <| q269 <| q277 <| zF h153 <| zX (tt (bnot false)) (bnot_f rfl) <| z0
 apply jc F <;> intro h158 F
 apply jb F; intro r159 h160 F
 apply jb F; intro r161 h162 F
 apply jr F
 exact fpC Aa <| q236 <| q237 <| q238 <| zF (igt_eq h14) <| zF (bnot_t h15) <| zl (EG _ h158 (Al K a2.Prog _ h17)) <| zl (Cs K a1 a4 _ h160) <| zr1 <| zl (Gj K r159 a3 a5 a6 _ h162) <| z0
 apply jn F; intro h163 F
 apply jb F; intro r164 h165 F
 apply jb F; intro r166 h167 F
 apply jr F
 exact fpC Aa <| q236 <| q237 <| q238 <| zF (igt_eq h14) <| zF (bnot_t h15) <| zl (EO _ h163 (Al K a2.Prog _ h17)) <| zl (Cs K a1 a4 _ h165) <| zr1 <| zl (Gj K r164 a3 a5 a6 _ h167) <| z0
 apply jb F; intro r168 h169 F
 apply jc F <;> intro h170 F
 apply jb F; intro r171 h172 F
 have q279 {l} (z : HA Aa l) := zF (igt_eq h14) <| zT (bnot_f h15) <| zl (EJ _ h170 (Al K a2.Prog _ h169)) <| zl (Cs K a1 a4 _ h172) <| zf1 <| z
 apply jc F <;> intro h173 F
 have q280 {l} (z : HA Aa l) := zC4 h173 <| z
 apply jc F <;> intro h174 F
 have q281 {l} (z : HA Aa l) := zB4 (bnot_t h174) <| zC1 h173 <| zF (bnot_t h174) <| zT h173 <| Ag h15 <| zf1 <| z
 apply jc F <;> intro h175 F
 apply jb F; intro y177 h176 F
 refine js F (fun w178 hx F => ?_) fun w179 hx F => ?_
 subst hx
 apply jr F
 exact fpC Aa <| q236 <| q237 <| q238 <| q279 <| q280 <| q281 <| zF (bnot_t h175) <| zi (nl r171) <| zo (BM K a5 r168.1.only_ r171 K [] 0 _ h176) <| z0
 subst hx
 apply jr F
 exact fpC Aa <| q236 <| q237 <| q238 <| q279 <| q280 <| q281 <| zF (bnot_t h175) <| zi (nl r171) <| zo (BM K a5 r168.1.only_ r171 K [] 0 _ h176) <| z0
 apply jr F
 exact fpC Aa <| q236 <| q237 <| q238 <| q279 <| q280 <| q281 <| zT (bnot_f h175) <| z0
 have q282 {l} (z : HA Aa l) := zA4 (bnot_f h174) <| zC1 h173 <| zT (bnot_f h174) <| zT h173 <| Ag h15 <| zf1 <| zn1 <| zi (nl r171) <| z
 apply jb F; intro y181 h180 F
 refine js F (fun w182 hx F => ?_) fun w183 hx F => ?_
 subst hx
 apply jr F
 exact fpC Aa <| q236 <| q237 <| q238 <| q279 <| q280 <| q282 <| zo (BM K a5 r168.1.only_ r171 K [] 0 _ h180) <| z0
 subst hx
 apply jr F
 exact fpC Aa <| q236 <| q237 <| q238 <| q279 <| q280 <| q282 <| zo (BM K a5 r168.1.only_ r171 K [] 0 _ h180) <| z0
 apply jr F
 exact fpC Aa <| q236 <| q237 <| q238 <| q279 <| Ag h173 <| Ag h15 <| zf1 <| zX (tt (bnot false)) (bnot_f rfl) <| z0
 apply jc F <;> intro h184 F
 apply jb F; intro r185 h186 F
 have q283 {l} (z : HA Aa l) := zF (igt_eq h14) <| zT (bnot_f h15) <| zl (EK _ h184 (Al K a2.Prog _ h169)) <| zl (Cs K a1 a4 _ h186) <| zf1 <| z
 apply jc F <;> intro h187 F
 have q284 {l} (z : HA Aa l) := zC4 h187 <| z
 apply jc F <;> intro h188 F
 have q285 {l} (z : HA Aa l) := zB4 (bnot_t h188) <| zC1 h187 <| zF (bnot_t h188) <| zT h187 <| Ag h15 <| zf1 <| z
 apply jc F <;> intro h189 F
 apply jb F; intro y191 h190 F
 refine js F (fun w192 hx F => ?_) fun w193 hx F => ?_
 subst hx
 apply jr F
 exact fpC Aa <| q236 <| q237 <| q238 <| q283 <| q284 <| q285 <| zF (bnot_t h189) <| zi (nl r185) <| zo (BO K a5 r168.1.only_ r185 K [] 0 _ h190) <| z0
 subst hx
 apply jr F
 exact fpC Aa <| q236 <| q237 <| q238 <| q283 <| q284 <| q285 <| zF (bnot_t h189) <| zi (nl r185) <| zo (BO K a5 r168.1.only_ r185 K [] 0 _ h190) <| z0
 apply jr F
 exact fpC Aa <| q236 <| q237 <| q238 <| q283 <| q284 <| q285 <| zT (bnot_f h189) <| z0
 have q286 {l} (z : HA Aa l) := zA4 (bnot_f h188) <| zC1 h187 <| zT (bnot_f h188) <| zT h187 <| Ag h15 <| zf1 <| zn1 <| zi (nl r185) <| z
 apply jb F; intro y195 h194 F
 refine js F (fun w196 hx F => ?_) fun w197 hx F => ?_
 subst hx
 apply jr F
 exact fpC Aa <| q236 <| q237 <| q238 <| q283 <| q284 <| q286 <| zo (BO K a5 r168.1.only_ r185 K [] 0 _ h194) <| z0
 subst hx
 apply jr F
 exact fpC Aa <| q236 <| q237 <| q238 <| q283 <| q284 <| q286 <| zo (BO K a5 r168.1.only_ r185 K [] 0 _ h194) <| z0
 apply jr F
 exact fpC Aa <| q236 <| q237 <| q238 <| q283 <| Ag h187 <| Ag h15 <| zf1 <| zX (tt (bnot false)) (bnot_f rfl) <| z0
 apply jc F <;> intro h198 F
 apply jb F; intro r199 h200 F
 have q287 {l} (z : HA Aa l) := zF (igt_eq h14) <| zT (bnot_f h15) <| zl (Ez _ h198 (Al K a2.Prog _ h169)) <| zl (Cs K a1 a4 _ h200) <| zf1 <| z
 apply jc F <;> intro h201 F
 have q288 {l} (z : HA Aa l) := zC4 h201 <| z
 apply jc F <;> intro h202 F
 have q289 {l} (z : HA Aa l) := zB4 (bnot_t h202) <| zC1 h201 <| zF (bnot_t h202) <| zT h201 <| Ag h15 <| zf1 <| z
 apply jc F <;> intro h203 F
 apply jb F; intro y205 h204 F
 refine js F (fun w206 hx F => ?_) fun w207 hx F => ?_
 subst hx
 apply jr F
 exact fpC Aa <| q236 <| q237 <| q238 <| q287 <| q288 <| q289 <| zF (bnot_t h203) <| zi (nl r199) <| zo (BZ K a5 r168.1.only_ r199 K [] 0 _ h204) <| z0
 subst hx
 apply jr F
 exact fpC Aa <| q236 <| q237 <| q238 <| q287 <| q288 <| q289 <| zF (bnot_t h203) <| zi (nl r199) <| zo (BZ K a5 r168.1.only_ r199 K [] 0 _ h204) <| z0
 apply jr F
 exact fpC Aa <| q236 <| q237 <| q238 <| q287 <| q288 <| q289 <| zT (bnot_f h203) <| z0
 have q290 {l} (z : HA Aa l) := zA4 (bnot_f h202) <| zC1 h201 <| zT (bnot_f h202) <| zT h201 <| Ag h15 <| zf1 <| zn1 <| zi (nl r199) <| z
 apply jb F; intro y209 h208 F
 refine js F (fun w210 hx F => ?_) fun w211 hx F => ?_
 subst hx
 apply jr F
 exact fpC Aa <| q236 <| q237 <| q238 <| q287 <| q288 <| q290 <| zo (BZ K a5 r168.1.only_ r199 K [] 0 _ h208) <| z0
 subst hx
 apply jr F
 exact fpC Aa <| q236 <| q237 <| q238 <| q287 <| q288 <| q290 <| zo (BZ K a5 r168.1.only_ r199 K [] 0 _ h208) <| z0
 apply jr F
 exact fpC Aa <| q236 <| q237 <| q238 <| q287 <| Ag h201 <| Ag h15 <| zf1 <| zX (tt (bnot false)) (bnot_f rfl) <| z0
 apply jc F <;> intro h212 F
 apply jb F; intro r213 h214 F
 have q291 {l} (z : HA Aa l) := zF (igt_eq h14) <| zT (bnot_f h15) <| zl (Es _ h212 (Al K a2.Prog _ h169)) <| zl (Cs K a1 a4 _ h214) <| zf1 <| z
 apply jc F <;> intro h215 F
 have q292 {l} (z : HA Aa l) := zC4 h215 <| z
 apply jc F <;> intro h216 F
 have q293 {l} (z : HA Aa l) := zB4 (bnot_t h216) <| zC1 h215 <| zF (bnot_t h216) <| zT h215 <| Ag h15 <| zf1 <| z
 apply jc F <;> intro h217 F
 apply jb F; intro y219 h218 F
 refine js F (fun w220 hx F => ?_) fun w221 hx F => ?_
 subst hx
 apply jr F
 exact fpC Aa <| q236 <| q237 <| q238 <| q291 <| q292 <| q293 <| zF (bnot_t h217) <| zi (nl r213) <| zo (BX K a5 r168.1.only_ r213 K [] 0 _ h218) <| z0
 subst hx
 apply jr F
 exact fpC Aa <| q236 <| q237 <| q238 <| q291 <| q292 <| q293 <| zF (bnot_t h217) <| zi (nl r213) <| zo (BX K a5 r168.1.only_ r213 K [] 0 _ h218) <| z0
 apply jr F
 exact fpC Aa <| q236 <| q237 <| q238 <| q291 <| q292 <| q293 <| zT (bnot_f h217) <| z0
 have q294 {l} (z : HA Aa l) := zA4 (bnot_f h216) <| zC1 h215 <| zT (bnot_f h216) <| zT h215 <| Ag h15 <| zf1 <| zn1 <| zi (nl r213) <| z
 apply jb F; intro y223 h222 F
 refine js F (fun w224 hx F => ?_) fun w225 hx F => ?_
 subst hx
 apply jr F
 exact fpC Aa <| q236 <| q237 <| q238 <| q291 <| q292 <| q294 <| zo (BX K a5 r168.1.only_ r213 K [] 0 _ h222) <| z0
 subst hx
 apply jr F
 exact fpC Aa <| q236 <| q237 <| q238 <| q291 <| q292 <| q294 <| zo (BX K a5 r168.1.only_ r213 K [] 0 _ h222) <| z0
 apply jr F
 exact fpC Aa <| q236 <| q237 <| q238 <| q291 <| Ag h215 <| Ag h15 <| zf1 <| zX (tt (bnot false)) (bnot_f rfl) <| z0
 apply jc F <;> intro h226 F
 apply jb F; intro r227 h228 F
 apply jb F; intro r229 h230 F
 apply jr F
 exact fpC Aa <| q236 <| q237 <| q238 <| zF (igt_eq h14) <| zT (bnot_f h15) <| zl (EG _ h226 (Al K a2.Prog _ h169)) <| zl (Cs K a1 a4 _ h228) <| zr1 <| zl (Gj K r227 a3 a5 0 _ h230) <| z0
 apply jn F; intro h231 F
 apply jb F; intro r232 h233 F
 apply jb F; intro r234 h235 F
 apply jr F
 exact fpC Aa <| q236 <| q237 <| q238 <| zF (igt_eq h14) <| zT (bnot_f h15) <| zl (EO _ h231 (Al K a2.Prog _ h169)) <| zl (Cs K a1 a4 _ h233) <| zr1 <| zl (Gj K r232 a3 a5 0 _ h235) <| z0
 apply jr F
 exact fpC Aa <| zl (Cc K a1 a2 _ h9) <| zT (ine_f h10) <| z0
def EI : Hint := { H 94 with nt := 21, prot := 0, kp := 0 }
def Oz (r1 : Int) : Res := ⟨[(.one (mI r1))], []⟩
def F94 (K : Nat) (a1 : GJob) (a2 : Int) : Option (Int) :=
 bif (ilt a2 0) then
  (some (-1))
 else
 bif (ilt a1.Parts 1) then
  (some (-1))
 else
 bif (ilt 6 a1.Parts) then
  (some (-1))
 else
 bif (izero a1.Parts) then none else
 some (wrem a2 a1.Parts)
theorem Hw (K : Nat) (a1 : GJob) (a2 : Int) (r : Int) (F : F94 K a1 a2 = some r) : Evt E H 94 [.agg (eGJob a1), .one (i6 a2)] (Oz r) := by
 rw [F94] at F
 apply jc F <;> intro h3 F
 apply jr F
 exact fpC EI <| Af h3 <| zt3 <| zr2 <| z0
 have q7 {l} (z : HA EI l) := Ah h3 <| z
 apply jc F <;> intro h4 F
 apply jr F
 exact fpC EI <| q7 <| Af h4 <| zr1 <| z0
 have q8 {l} (z : HA EI l) := Ah h4 <| z
 apply jc F <;> intro h5 F
 apply jr F
 exact fpC EI <| q7 <| q8 <| zT (igt_eq h5) <| z0
 refine cond_some F (fun _ F => nomatch F) (fun h6 F => ?_)
 apply jr F
 exact fpC EI <| q7 <| q8 <| zF (igt_eq h5) <| zF h6 <| zi (wrem a2 a1.Parts) <| z0
def Ax : Hint := { H 106 with nt := 41, prot := 0, kp := 0 }
def QA (r1 : Int × Int) : Res := ⟨[(.one (mI r1.1)), (.one (mI r1.2))], []⟩
def Dt (K : Nat) (a1 : Int) (a2 : Int) (a3 : Int) : Option (Int × Int) :=
 (F57 K a1).bind fun r4 =>
 bif (areFns [r4.1.start_, r4.1.better_, r4.1.send_] [81, 82, 83]) then
  (bif r4.2 then
   ((F82 K a3 a2).bind fun r5 =>
   bif r5 then
    (some (a3, 0))
   else
   some (a2, 0))
  else
  some (0, 1))
 else
 bif (areFns [r4.1.start_, r4.1.better_, r4.1.send_] [81, 82, 85]) then
  (bif r4.2 then
   ((F82 K a3 a2).bind fun r6 =>
   bif r6 then
    (some (a3, 0))
   else
   some (a2, 0))
  else
  some (0, 1))
 else
 bif (areFns [r4.1.start_, r4.1.better_, r4.1.send_] [86, 82, 87]) then
  (bif r4.2 then
   ((F82 K a3 a2).bind fun r7 =>
   bif r7 then
    (some (a3, 0))
   else
   some (a2, 0))
  else
  some (0, 1))
 else
 bif (areFns [r4.1.start_, r4.1.better_, r4.1.send_] [88, 89, 87]) then
  (bif r4.2 then
   ((F89 K a3 a2).bind fun r8 =>
   bif r8 then
    (some (a3, 0))
   else
   some (a2, 0))
  else
  some (0, 1))
 else
 bif (areFns [r4.1.start_, r4.1.better_, r4.1.send_] [90, 0, 87]) then
  (bif r4.2 then
   ((F84 K a2 a3).bind fun r9 =>
   bif r9.2 then
    (some (r9.1, 0))
   else
   some (0, 8))
  else
  some (0, 1))
 else
 bif (areFns [r4.1.start_, r4.1.better_, r4.1.send_] [0, 0, 0]) then
 bif r4.2 then
  ((F84 K a2 a3).bind fun r10 =>
  bif r10.2 then
   (some (r10.1, 0))
  else
  some (0, 8))
 else
 some (0, 1)
 else none
theorem GZ (K : Nat) (a1 : Int) (a2 : Int) (a3 : Int) (r : Int × Int) (F : Dt K a1 a2 a3 = some r) : Evt E H 106 [.one (i6 a1), .one (i6 a2), .one (i6 a3)] (QA r) := by
 rw [Dt] at F
 apply jb F; intro r4 h5 F
 apply jc F <;> intro h6 F
 apply jc F <;> intro h7 F
 apply jb F; intro r8 h9 F
 have q36 {l} (z : HA Ax l) := zl (EJ _ h6 (Al K a1 _ h5)) <| zF (bnot_t h7) <| zf1 <| zl (Ck K a3 a2 _ h9) <| z
 apply jc F <;> intro h10 F
 apply jr F
 exact fpC Ax <| q36 <| zT h10 <| z0
 apply jr F
 exact fpC Ax <| q36 <| zF h10 <| z0
 apply jr F
 exact fpC Ax <| zl (EJ _ h6 (Al K a1 _ h5)) <| zT (bnot_f h7) <| z0
 apply jc F <;> intro h11 F
 apply jc F <;> intro h12 F
 apply jb F; intro r13 h14 F
 have q37 {l} (z : HA Ax l) := zl (EK _ h11 (Al K a1 _ h5)) <| zF (bnot_t h12) <| zf1 <| zl (Ck K a3 a2 _ h14) <| z
 apply jc F <;> intro h15 F
 apply jr F
 exact fpC Ax <| q37 <| zT h15 <| z0
 apply jr F
 exact fpC Ax <| q37 <| zF h15 <| z0
 apply jr F
 exact fpC Ax <| zl (EK _ h11 (Al K a1 _ h5)) <| zT (bnot_f h12) <| z0
 apply jc F <;> intro h16 F
 apply jc F <;> intro h17 F
 apply jb F; intro r18 h19 F
 have q38 {l} (z : HA Ax l) := zl (Ez _ h16 (Al K a1 _ h5)) <| zF (bnot_t h17) <| zf1 <| zl (Ck K a3 a2 _ h19) <| z
 apply jc F <;> intro h20 F
 apply jr F
 exact fpC Ax <| q38 <| zT h20 <| z0
 apply jr F
 exact fpC Ax <| q38 <| zF h20 <| z0
 apply jr F
 exact fpC Ax <| zl (Ez _ h16 (Al K a1 _ h5)) <| zT (bnot_f h17) <| z0
 apply jc F <;> intro h21 F
 apply jc F <;> intro h22 F
 apply jb F; intro r23 h24 F
 have q39 {l} (z : HA Ax l) := zl (Es _ h21 (Al K a1 _ h5)) <| zF (bnot_t h22) <| zf1 <| zl (F8 K a3 a2 _ h24) <| z
 apply jc F <;> intro h25 F
 apply jr F
 exact fpC Ax <| q39 <| zT h25 <| z0
 apply jr F
 exact fpC Ax <| q39 <| zF h25 <| z0
 apply jr F
 exact fpC Ax <| zl (Es _ h21 (Al K a1 _ h5)) <| zT (bnot_f h22) <| z0
 apply jc F <;> intro h26 F
 apply jc F <;> intro h27 F
 apply jb F; intro r28 h29 F
 have q40 {l} (z : HA Ax l) := zl (EG _ h26 (Al K a1 _ h5)) <| zF (bnot_t h27) <| zr1 <| zl (Fv K a2 a3 _ h29) <| z
 apply jc F <;> intro h30 F
 apply jr F
 exact fpC Ax <| q40 <| zF (bnot_t h30) <| z0
 apply jr F
 exact fpC Ax <| q40 <| zT (bnot_f h30) <| z0
 apply jr F
 exact fpC Ax <| zl (EG _ h26 (Al K a1 _ h5)) <| zT (bnot_f h27) <| z0
 apply jn F; intro h31 F
 apply jc F <;> intro h32 F
 apply jb F; intro r33 h34 F
 have q41 {l} (z : HA Ax l) := zl (EO _ h31 (Al K a1 _ h5)) <| zF (bnot_t h32) <| zr1 <| zl (Fv K a2 a3 _ h34) <| z
 apply jc F <;> intro h35 F
 apply jr F
 exact fpC Ax <| q41 <| zF (bnot_t h35) <| z0
 apply jr F
 exact fpC Ax <| q41 <| zT (bnot_f h35) <| z0
 apply jr F
 exact fpC Ax <| zl (EO _ h31 (Al K a1 _ h5)) <| zT (bnot_f h32) <| z0
def FO : Hint := { H 113 with nt := 24, prot := 0, kp := 0 }
def K7 (r1 : Bool) : Res := ⟨[(.one (mB r1))], []⟩
def FG (K : Nat) (a1 : GMsg) (a2 : GMsg) : Option (Bool) :=
 bif (ilt a1.To a2.To) then
  (some true)
 else
 bif (ieq a1.To a2.To) then
  (some (ilt a1.V a2.V))
 else
 some false
theorem On (K : Nat) (a1 : GMsg) (a2 : GMsg) (r : Bool) (F : FG K a1 a2 = some r) : Evt E H 113 [.agg (eGMsg a1), .agg (eGMsg a2)] (K7 r) := by
 rw [FG] at F
 apply jc F <;> intro h3 F
 apply jr F
 exact fpC FO <| zA6 h3 <| CX h3 <| z0
 have q5 {l} (z : HA FO l) := zB6 h3 <| z
 apply jc F <;> intro h4 F
 apply jr F
 exact fpC FO <| q5 <| zC5 h4 <| zB1 h3 <| zT h4 <| zF h3 <| z0
 apply jr F
 exact fpC FO <| q5 <| zD5 h4 <| zB1 h3 <| zF h4 <| zF h3 <| z0
def Fq : Hint := { H 112 with nt := 68, prot := 0, kp := 0 }
def Nk : Code := loopOf E 112 0
def Mo (r1 : List GMsg) : Res := ⟨[(.one (.own 78 (sE eGMsg r1)))], []⟩
def DO (K : Nat)  : Nat → List GMsg → List GMsg → List GMsg → Option (List GMsg × List GMsg × List GMsg)
 | 0, _, _, _ => none
 | k + 1, v1, v2, v3 =>
  bif (ilt 0 (nlen (len v1))) then
   (bif (ilt 0 (nlen (len v2))) then
    (bif (inr 0 (len v2)) then
    (elAt v2 0).bind fun x4 =>
    bif (inr 0 (len v1)) then
    (elAt v1 0).bind fun x5 =>
    (FG K x4 x5).bind fun r6 =>
    bif r6 then
     (bif (apok (len v3) 1 16) then
     bif (bnd 1 (nlen (len v2)) (len v2)) then
     DO K  k v1 (subL v2 1 (nlen (len v2))) (appL v3 [x4])
     else none
     else none)
    else
    bif (apok (len v3) 1 16) then
    bif (bnd 1 (nlen (len v1)) (len v1)) then
    DO K  k (subL v1 1 (nlen (len v1))) v2 (appL v3 [x5])
    else none
    else none
    else none
    else none)
   else
   some (v1, (v2, v3)))
  else
  some (v1, (v2, v3))
def Lv  (v1 : List GMsg) (v2 : List GMsg) (v3 : List GMsg) : TS := .on (kq 64 2 <| kq 384 2 <| kq 448 2 <| kq 512 2 <| []) <| sq 64 [u0, ⟨.im, 0, (.lit (fnV 113))⟩] <| sq 384 [u0, (uS eGMsg v1)] <| sq 448 [u0, (uS eGMsg v2)] <| sq 512 [u0, (uO 78 eGMsg v3)] []
def K1  (w1 : List GMsg × List GMsg × List GMsg) : TS := .on (kq 384 2 <| kq 448 2 <| kq 512 2 <| []) <| sq 384 [u0, (uS eGMsg w1.1)] <| sq 448 [u0, (uS eGMsg w1.2.1)] <| sq 512 [u0, (uO 78 eGMsg w1.2.2)] []
theorem P1 (K : Nat)  : ∀ (k : Nat) (v1 : List GMsg) (v2 : List GMsg) (v3 : List GMsg) (r : List GMsg × List GMsg × List GMsg), DO K  k v1 v2 v3 = some r → LoopEv E H Fq 0 Nk (Lv  v1 v2 v3) (.exit 0) (K1  r) := by
 intro k
 induction k with
 | zero => intro v1 v2 v3 r F; cases F
 | succ k ih =>
  intro v1 v2 v3 r F
  rw [DO] at F
  apply jc F <;> intro h4 F
  have q19 {l} (z : HA Fq l) := zi (nl v1) <| zC2 (igt_eq h4) <| zi (nl v2) <| Dh (igt_eq h4) <| z
  apply jc F <;> intro h5 F
  apply jn F; intro h6 F
  apply jb F; intro x7 h8 F
  apply jn F; intro h9 F
  apply jb F; intro x10 h11 F
  apply jb F; intro r12 h13 F
  have q20 {l} (z : HA Fq l) := zT (igt_eq h5) <| zT h6 <| zS eGMsg_len h8 2 <| zT h9 <| zS eGMsg_len h11 2 <| zl (On K x7 x10 _ h13) <| z
  apply jc F <;> intro h14 F
  apply jn F; intro h15 F
  apply jn F; intro h16 F
  exact lN1 (q19 <| q20 <| zT h14 <| zT h6 <| zS eGMsg_len h8 2 <| zX (tt (leqm [(i6 x7.To), (i6 x7.V)] 1 2)) rfl <| zT h15 <| zV (app_ok (enc := eGMsg) (v3 : List GMsg) [x7]) <| zT h16 <| zV (sub_ok eGMsg_len h16) <| z0) (ih _ _ _ _ F)
  apply jn F; intro h17 F
  apply jn F; intro h18 F
  exact lN1 (q19 <| q20 <| zF h14 <| zT h9 <| zS eGMsg_len h11 2 <| zX (tt (leqm [(i6 x10.To), (i6 x10.V)] 1 2)) rfl <| zT h17 <| zV (app_ok (enc := eGMsg) (v3 : List GMsg) [x10]) <| zT h18 <| zV (sub_ok eGMsg_len h18) <| z0) (ih _ _ _ _ F)
  apply jr F
  exact lE <| q19 <| zF (igt_eq h5) <| z0
  apply jr F
  exact lE <| zi (nl v1) <| CL (igt_eq h4) <| zf1 <| z0
def DW (K : Nat) : Nat → List GMsg → Option (List GMsg)
 | 0, _ => none
 | d + 1, a1 =>
 bif (ilt (nlen (len a1)) 2) then
  (bif (apok 0 (len a1) 16) then
  some (appL [] a1)
  else none)
 else
 bif (bnd 0 (wquo .i64 (nlen (len a1)) 2) (len a1)) then
 (DW K d (subL a1 0 (wquo .i64 (nlen (len a1)) 2))).bind fun r2 =>
 bif (bnd (wquo .i64 (nlen (len a1)) 2) (nlen (len a1)) (len a1)) then
 (DW K d (subL a1 (wquo .i64 (nlen (len a1)) 2) (nlen (len a1)))).bind fun r3 =>
 bif (mkok 0 (nlen (len a1)) 16) then
 (DO K  K r2 r3 (repL (α := GMsg) 0 (GMsg.mk 0 0))).bind fun w4 =>
 bif (apok (len w4.2.2) (len w4.1) 16) then
 bif (apok (len (α := GMsg) (appL w4.2.2 w4.1)) (len w4.2.1) 16) then
 some (appL (appL w4.2.2 w4.1) w4.2.1)
 else none
 else none
 else none
 else none
 else none
theorem Lm (K : Nat) : ∀ (d : Nat) (a1 : List GMsg) (r : List GMsg), DW K d a1 = some r → Evt E H 112 [.one (sE eGMsg a1), .one (.lit (fnV 113))] (Mo r) := by
 intro d
 induction d with
 | zero => intro a1 r F; cases F
 | succ d ih =>
  intro a1 r F
  rw [DW] at F
  apply jc F <;> intro h2 F
  apply jn F; intro h3 F
  apply jr F
  exact fpC Fq <| zi (nl a1) <| zT h2 <| zX (tt (leqm (flat eGMsg a1) (len a1) 2)) (leqm_flat eGMsg_len _) <| zT h3 <| zV (app_ok (enc := eGMsg) ([] : List GMsg) a1) <| z0
  apply jn F; intro h4 F
  apply jb F; intro r5 h6 F
  apply jn F; intro h7 F
  apply jb F; intro r8 h9 F
  apply jn F; intro h10 F
  apply jb F; intro w12 h11 F
  apply jn F; intro h13 F
  apply jn F; intro h14 F
  apply jr F
  exact fpC Fq <| zi (nl a1) <| zF h2 <| zi (nl a1) <| zY (ff (izero 2)) <| zi (wquo .i64 (nl a1) 2) <| zT h4 <| zV (sub_ok eGMsg_len h4) <| zl (ih (subL a1 0 (wquo .i64 (nl a1) 2)) _ h6) <| zT h7 <| zV (sub_ok eGMsg_len h7) <| zl (ih (subL a1 (wquo .i64 (nl a1) 2) (nl a1)) _ h9) <| zi (nl a1) <| zT h10 <| zX (.sl (nint 0) (lrep 0 [(i6 0), (i6 0)]) (len (α := GMsg) (repL (α := GMsg) 0 (GMsg.mk 0 0))) (flat eGMsg (repL (α := GMsg) 0 (GMsg.mk 0 0)))) (rep_okC (enc := eGMsg) (n := 0) (x := (GMsg.mk 0 0)) rfl) <| zo (P1 K  K r5 r8 (repL (α := GMsg) 0 (GMsg.mk 0 0)) _ h11) <| zX (tt (leqm (flat eGMsg w12.1) (len w12.1) 2)) (leqm_flat eGMsg_len _) <| zT h13 <| zV (app_ok (enc := eGMsg) (w12.2.2 : List GMsg) w12.1) <| zX (tt (leqm (flat eGMsg w12.2.1) (len w12.2.1) 2)) (leqm_flat eGMsg_len _) <| zT h14 <| zV (app_ok (enc := eGMsg) ((appL w12.2.2 w12.1) : List GMsg) w12.2.1) <| z0
def PC : Hint := { H 107 with nt := 5, prot := 0, kp := 0 }
def KM (r1 : List GMsg) : Res := ⟨[(.one (.own 78 (sE eGMsg r1)))], []⟩
def EU (K : Nat) (a1 : List GMsg) : Option (List GMsg) :=
 (DW K K a1).bind fun r2 =>
 some r2
theorem I7 (K : Nat) (a1 : List GMsg) (r : List GMsg) (F : EU K a1 = some r) : Evt E H 107 [.one (sE eGMsg a1)] (KM r) := by
 rw [EU] at F
 apply jb F; intro r2 h3 F
 apply jr F
 exact fpC PC <| zl (Lm K K a1 _ h3) <| z0
def Db : Hint := { H 95 with nt := 72, prot := 0, kp := 0 }
def IX : Code := loopOf E 95 0
def Mb (r1 : List GMsg × Int) : Res := ⟨[(.one (.own 78 (sE eGMsg r1.1))), (.one (mI r1.2))], []⟩
def CQ (K : Nat) (a1 : Int) (r2 : List GMsg) : Nat → List GMsg → Int → Option ((Int) ⊕ (List GMsg))
 | 0, _, _ => none
 | k + 1, v3, v4 =>
  bif (ilt v4 (nlen (len r2))) then
   (bif (inr v4 (len r2)) then
   (elAt r2 v4).bind fun x5 =>
   bif (ilt 0 (nlen (len v3))) then
    (bif (inr (wsub .i64 (nlen (len v3)) 1) (len v3)) then
    (elAt v3 (wsub .i64 (nlen (len v3)) 1)).bind fun x6 =>
    bif (ieq x6.To x5.To) then
     ((Dt K a1 x6.V x5.V).bind fun r7 =>
     bif (ieq r7.2 0) then
      (CQ K a1 r2 k (putAt v3 (wsub .i64 (nlen (len v3)) 1) (GMsg.mk x6.To r7.1)) (wadd .i64 v4 1))
     else
     some (.inl r7.2))
    else
    bif (apok (len v3) 1 16) then
    CQ K a1 r2 k (appL v3 [x5]) (wadd .i64 v4 1)
    else none
    else none)
   else
   bif (apok (len v3) 1 16) then
   CQ K a1 r2 k (appL v3 [x5]) (wadd .i64 v4 1)
   else none
   else none)
  else
  some (.inr v3)
def Ir (a1 : Int) (r2 : List GMsg) (v3 : List GMsg) (v4 : Int) : TS := .on (kq 0 2 <| kq 512 2 <| kq 1472 2 <| kq 1536 2 <| kq 1600 2 <| []) <| sq 0 [u0, (uI a1)] <| sq 512 [u0, (uO 78 eGMsg v3)] <| sq 1472 [u0, (uO 78 eGMsg r2)] <| sq 1536 [u0, (uI (nlen (len r2)))] <| sq 1600 [u0, (uI v4)] []
def OU (a1 : Int) (r2 : List GMsg) (w3 : Int) : TS := .on (kq 256 2 <| kq 320 2 <| []) <| sq 256 [u0, (uN 78)] <| sq 320 [u0, (uI w3)] []
def P2 (a1 : Int) (r2 : List GMsg) (w3 : List GMsg) : TS := .on (kq 512 2 <| []) <| sq 512 [u0, (uO 78 eGMsg w3)] []
theorem Ke (K : Nat) (a1 : Int) (r2 : List GMsg) : ∀ (k : Nat) (v3 : List GMsg) (v4 : Int) (r : (Int) ⊕ (List GMsg)), CQ K a1 r2 k v3 v4 = some r → (Sum.elim (fun w => LoopEv E H Db 0 IX (Ir a1 r2 v3 v4) .ret (OU a1 r2 w)) (fun w => LoopEv E H Db 0 IX (Ir a1 r2 v3 v4) (.exit 0) (P2 a1 r2 w))) r := by
 intro k
 induction k with
 | zero => intro v3 v4 r F; cases F
 | succ k ih =>
  intro v3 v4 r F
  rw [CQ] at F
  apply jc F <;> intro h5 F
  apply jn F; intro h6 F
  apply jb F; intro x7 h8 F
  have q19 {l} (z : HA Db l) := zT h5 <| zT h6 <| zS eGMsg_len h8 2 <| zi (nl v3) <| z
  apply jc F <;> intro h9 F
  apply jn F; intro h10 F
  apply jb F; intro x11 h12 F
  have q20 {l} (z : HA Db l) := zC3 (igt_eq h9) <| zi (wsub .i64 (nl v3) 1) <| zC1 (igt_eq h9) <| zT h10 <| zC2 (igt_eq h9) <| zU eGMsg_len h12 0 1 <| D1 (igt_eq h9) <| z
  apply jc F <;> intro h13 F
  apply jb F; intro r14 h15 F
  have q21 {l} (z : HA Db l) := zT h13 <| zi (wsub .i64 (nl v3) 1) <| zT h10 <| zU eGMsg_len h12 1 1 <| zl (GZ K a1 x11.V x7.V _ h15) <| z
  apply jc F <;> intro h16 F
  exact lN2 (q19 <| q20 <| q21 <| zF (ine_t h16) <| zi (wsub .i64 (nl v3) 1) <| zT h10 <| zX (tt (lfits (nadd (nidx (wsub .i64 (nl v3) 1) 2) 1) 1 (flat eGMsg v3))) (lfits_flat eGMsg_len h12 1 _ (by decide)) <| zX (.sl (len v3) (lset (flat eGMsg v3) (nadd (nidx (wsub .i64 (nl v3) 1) 2) 1) [(i6 r14.1)]) (len (α := GMsg) (putAt v3 (wsub .i64 (nl v3) 1) (GMsg.mk x11.To r14.1))) (flat eGMsg (putAt v3 (wsub .i64 (nl v3) 1) (GMsg.mk x11.To r14.1)))) (set_ok eGMsg_len h12 1 _ (by simp) rfl) <| zi (wadd .i64 v4 1) <| z0) (ih _ _ _ F)
  apply jr F
  exact lE <| q19 <| q20 <| q21 <| zT (ine_f h16) <| z0
  apply jn F; intro h17 F
  exact lN2 (q19 <| q20 <| zF h13 <| zX (tt (leqm [(i6 x7.To), (i6 x7.V)] 1 2)) rfl <| zT h17 <| zV (app_ok (enc := eGMsg) (v3 : List GMsg) [x7]) <| zi (wadd .i64 v4 1) <| z0) (ih _ _ _ F)
  apply jn F; intro h18 F
  exact lN2 (q19 <| zD6 (igt_eq h9) <| CL (igt_eq h9) <| zf1 <| zX (tt (leqm [(i6 x7.To), (i6 x7.V)] 1 2)) rfl <| zT h18 <| zV (app_ok (enc := eGMsg) (v3 : List GMsg) [x7]) <| zi (wadd .i64 v4 1) <| z0) (ih _ _ _ F)
  apply jr F
  exact lE <| zF h5 <| z0
def F95 (K : Nat) (a1 : Int) (a2 : List GMsg) : Option (List GMsg × Int) :=
 (Dt K a1 0 0).bind fun r3 =>
 bif (ieq r3.2 0) then
  ((EU K a2).bind fun r4 =>
  (CQ K a1 r4 K [] 0).bind fun y5 =>
  Sum.elim (fun w6 =>
   some ([], w6))
   (fun w7 =>
   some (w7, 0)) y5)
 else
 some ([], r3.2)
theorem DQ (K : Nat) (a1 : Int) (a2 : List GMsg) (r : List GMsg × Int) (F : F95 K a1 a2 = some r) : Evt E H 95 [.one (i6 a1), .one (sE eGMsg a2)] (Mb r) := by
 rw [F95] at F
 apply jb F; intro r3 h4 F
 apply jc F <;> intro h5 F
 apply jb F; intro r6 h7 F
 have q12 {l} (z : HA Db l) := zl (GZ K a1 0 0 _ h4) <| zF (ine_t h5) <| zl (I7 K a2 _ h7) <| zi (nl r6) <| z
 apply jb F; intro y9 h8 F
 refine js F (fun w10 hx F => ?_) fun w11 hx F => ?_
 subst hx
 apply jr F
 exact fpC Db <| q12 <| zo (Ke K a1 r6 K [] 0 _ h8) <| z0
 subst hx
 apply jr F
 exact fpC Db <| q12 <| zo (Ke K a1 r6 K [] 0 _ h8) <| z0
 apply jr F
 exact fpC Db <| zl (GZ K a1 0 0 _ h4) <| zT (ine_f h5) <| z0
def Aw : Hint := { H 58 with nt := 160, prot := 0, kp := 0 }
def HX : Code := loopOf E 58 0
def PO : Code := loopOf E 58 1
def JR : Code := loopOf E 58 2
def PR (r1 : GPart × List (List GMsg) × Int) : Res := ⟨[(.agg [(mI r1.1.P), (mI r1.1.Step), (.own 2 (sE e6 r1.1.Vals)), (.own 4 (sE eBool r1.1.Rest)), (.own 78 (sE eGMsg r1.1.In))]), (.one (.own 43 (sE (eSl eGMsg) r1.2.1))), (.one (mI r1.2.2))], []⟩
def BW (K : Nat) (v1 : Int) (v2 : List GEdge) (v3 : Int) (v4 : Int) (v5 : Int) (v6 : Int) (v7 : Int) (v8 : Int) (v9 : List Int) (v10 : List Bool) (v11 : List GMsg) (v12 : List Int) (v13 : List Bool) (v14 : Int) (v15 : Bool) (v16 : List GMsg) (v17 : Int) : Nat → List GMsg → List GMsg → List GMsg → List GMsg → List GMsg → List GMsg → Int → Option (List GMsg × List GMsg × List GMsg × List GMsg × List GMsg × List GMsg)
 | 0, _, _, _, _, _, _, _ => none
 | k + 1, v18, v19, v20, v21, v22, v23, v24 =>
  bif (ilt v24 (nlen (len v16))) then
   (bif (inr v24 (len v16)) then
   (elAt v16 v24).bind fun x25 =>
   (F94 K (GJob.mk v3 v4 v5 v6) x25.To).bind fun r26 =>
   bif (ieq r26 0) then
    (bif (apok (len v18) 1 16) then
    BW K v1 v2 v3 v4 v5 v6 v7 v8 v9 v10 v11 v12 v13 v14 v15 v16 v17 k (appL v18 [x25]) v19 v20 v21 v22 v23 (wadd .i64 v24 1)
    else none)
   else
   bif (ieq r26 1) then
    (bif (apok (len v19) 1 16) then
    BW K v1 v2 v3 v4 v5 v6 v7 v8 v9 v10 v11 v12 v13 v14 v15 v16 v17 k v18 (appL v19 [x25]) v20 v21 v22 v23 (wadd .i64 v24 1)
    else none)
   else
   bif (ieq r26 2) then
    (bif (apok (len v20) 1 16) then
    BW K v1 v2 v3 v4 v5 v6 v7 v8 v9 v10 v11 v12 v13 v14 v15 v16 v17 k v18 v19 (appL v20 [x25]) v21 v22 v23 (wadd .i64 v24 1)
    else none)
   else
   bif (ieq r26 3) then
    (bif (apok (len v21) 1 16) then
    BW K v1 v2 v3 v4 v5 v6 v7 v8 v9 v10 v11 v12 v13 v14 v15 v16 v17 k v18 v19 v20 (appL v21 [x25]) v22 v23 (wadd .i64 v24 1)
    else none)
   else
   bif (ieq r26 4) then
    (bif (apok (len v22) 1 16) then
    BW K v1 v2 v3 v4 v5 v6 v7 v8 v9 v10 v11 v12 v13 v14 v15 v16 v17 k v18 v19 v20 v21 (appL v22 [x25]) v23 (wadd .i64 v24 1)
    else none)
   else
   bif (ieq r26 5) then
   bif (apok (len v23) 1 16) then
   BW K v1 v2 v3 v4 v5 v6 v7 v8 v9 v10 v11 v12 v13 v14 v15 v16 v17 k v18 v19 v20 v21 v22 (appL v23 [x25]) (wadd .i64 v24 1)
   else none
   else none
   else none)
  else
  some (v18, (v19, (v20, (v21, (v22, v23)))))
def QI (v1 : Int) (v2 : List GEdge) (v3 : Int) (v4 : Int) (v5 : Int) (v6 : Int) (v7 : Int) (v8 : Int) (v9 : List Int) (v10 : List Bool) (v11 : List GMsg) (v12 : List Int) (v13 : List Bool) (v14 : Int) (v15 : Bool) (v16 : List GMsg) (v17 : Int) (v18 : List GMsg) (v19 : List GMsg) (v20 : List GMsg) (v21 : List GMsg) (v22 : List GMsg) (v23 : List GMsg) (v24 : Int) : TS := .on (kq 192 3 <| kq 256 5 <| kq 320 6 <| kq 384 6 <| kq 640 6 <| kq 704 7 <| kq 832 2 <| kq 1088 2 <| kq 1216 2 <| kq 3328 1 <| kq 3392 2 <| kq 3456 2 <| kq 3520 2 <| kq 6592 2 <| kq 6656 2 <| kq 6720 2 <| []) <| sq 192 [(uX 24 2), (uI v1), (uS eGEdge v2)] <| sq 256 [(uX 26 4), (uI v3), (uI v4), (uI v5), (uI v6)] <| sq 320 [(uX 45 5), (uI v7), (uI v8), (uS e6 v9), (uS eBool v10), (uS eGMsg v11)] <| b4 384 <| sq 640 [(uX 45 5), (uI v7), (uI (wadd .i64 v8 1)), (uO 2 e6 v12), (uO 4 eBool v13), (uN 78)] <| sq 704 [(uX 172 6), (uO 78 eGMsg v18), (uO 78 eGMsg v19), (uO 78 eGMsg v20), (uO 78 eGMsg v21), (uO 78 eGMsg v22), (uO 78 eGMsg v23)] <| sq 832 [u0, (uI v14)] <| sq 1088 [u0, (uB v15)] <| sq 1216 [u0, (uO 78 eGMsg v16)] <| sq 3328 [⟨(.ad 5 0 2), 0, nob⟩] <| sq 3392 [u0, (uS e6 v9)] <| sq 3456 [u0, (uI (nlen (len v9)))] <| sq 3520 [u0, (uI v17)] <| sq 6592 [u0, ⟨(.vw 1217 0), 0, nob⟩] <| sq 6656 [u0, (uI (nlen (len v16)))] <| sq 6720 [u0, (uI v24)] []
def QN (v1 : Int) (v2 : List GEdge) (v3 : Int) (v4 : Int) (v5 : Int) (v6 : Int) (v7 : Int) (v8 : Int) (v9 : List Int) (v10 : List Bool) (v11 : List GMsg) (v12 : List Int) (v13 : List Bool) (v14 : Int) (v15 : Bool) (v16 : List GMsg) (v17 : Int) (w18 : List GMsg × List GMsg × List GMsg × List GMsg × List GMsg × List GMsg) : TS := .on (kq 192 3 <| kq 256 5 <| kq 320 6 <| kq 384 6 <| kq 640 6 <| kq 704 7 <| kq 832 2 <| kq 1088 2 <| kq 3328 1 <| kq 3392 2 <| kq 3456 2 <| kq 3520 2 <| []) <| sq 192 [(uX 24 2), (uI v1), (uS eGEdge v2)] <| sq 256 [(uX 26 4), (uI v3), (uI v4), (uI v5), (uI v6)] <| sq 320 [(uX 45 5), (uI v7), (uI v8), (uS e6 v9), (uS eBool v10), (uS eGMsg v11)] <| b4 384 <| sq 640 [(uX 45 5), (uI v7), (uI (wadd .i64 v8 1)), (uO 2 e6 v12), (uO 4 eBool v13), (uN 78)] <| sq 704 [(uX 172 6), (uO 78 eGMsg w18.1), (uO 78 eGMsg w18.2.1), (uO 78 eGMsg w18.2.2.1), (uO 78 eGMsg w18.2.2.2.1), (uO 78 eGMsg w18.2.2.2.2.1), (uO 78 eGMsg w18.2.2.2.2.2)] <| sq 832 [u0, (uI v14)] <| sq 1088 [u0, (uB v15)] <| sq 3328 [⟨(.ad 5 0 2), 0, nob⟩] <| sq 3392 [u0, (uS e6 v9)] <| sq 3456 [u0, (uI (nlen (len v9)))] <| sq 3520 [u0, (uI v17)] []
theorem Iw (K : Nat) (v1 : Int) (v2 : List GEdge) (v3 : Int) (v4 : Int) (v5 : Int) (v6 : Int) (v7 : Int) (v8 : Int) (v9 : List Int) (v10 : List Bool) (v11 : List GMsg) (v12 : List Int) (v13 : List Bool) (v14 : Int) (v15 : Bool) (v16 : List GMsg) (v17 : Int) : ∀ (k : Nat) (v18 : List GMsg) (v19 : List GMsg) (v20 : List GMsg) (v21 : List GMsg) (v22 : List GMsg) (v23 : List GMsg) (v24 : Int) (r : List GMsg × List GMsg × List GMsg × List GMsg × List GMsg × List GMsg), BW K v1 v2 v3 v4 v5 v6 v7 v8 v9 v10 v11 v12 v13 v14 v15 v16 v17 k v18 v19 v20 v21 v22 v23 v24 = some r → LoopEv E H Aw 2 PO (QI v1 v2 v3 v4 v5 v6 v7 v8 v9 v10 v11 v12 v13 v14 v15 v16 v17 v18 v19 v20 v21 v22 v23 v24) (.exit 2) (QN v1 v2 v3 v4 v5 v6 v7 v8 v9 v10 v11 v12 v13 v14 v15 v16 v17 r) := by
 intro k
 induction k with
 | zero => intro v18 v19 v20 v21 v22 v23 v24 r F; cases F
 | succ k ih =>
  intro v18 v19 v20 v21 v22 v23 v24 r F
  rw [BW] at F
  apply jc F <;> intro h25 F
  apply jn F; intro h26 F
  apply jb F; intro x27 h28 F
  apply jb F; intro r29 h30 F
  have q43 {l} (z : HA Aw l) := zT h25 <| zT h26 <| zS eGMsg_len h28 2 <| zl (Hw K (GJob.mk v3 v4 v5 v6) x27.To _ h30) <| z
  apply jc F <;> intro h31 F
  apply jn F; intro h32 F
  exact lN1 (q43 <| zT h31 <| zX (tt (leqm [(i6 x27.To), (i6 x27.V)] 1 2)) rfl <| zT h32 <| zV (app_ok (enc := eGMsg) (v18 : List GMsg) [x27]) <| zT h31 <| zi (wadd .i64 v24 1) <| z0) (ih _ _ _ _ _ _ _ _ F)
  apply jc F <;> intro h33 F
  apply jn F; intro h34 F
  exact lN1 (q43 <| zF h31 <| zT h33 <| zX (tt (leqm [(i6 x27.To), (i6 x27.V)] 1 2)) rfl <| zT h34 <| zV (app_ok (enc := eGMsg) (v19 : List GMsg) [x27]) <| zF h31 <| zT h33 <| zi (wadd .i64 v24 1) <| z0) (ih _ _ _ _ _ _ _ _ F)
  apply jc F <;> intro h35 F
  apply jn F; intro h36 F
  exact lN1 (q43 <| zF h31 <| zF h33 <| zT h35 <| zX (tt (leqm [(i6 x27.To), (i6 x27.V)] 1 2)) rfl <| zT h36 <| zV (app_ok (enc := eGMsg) (v20 : List GMsg) [x27]) <| zF h31 <| zF h33 <| zT h35 <| zi (wadd .i64 v24 1) <| z0) (ih _ _ _ _ _ _ _ _ F)
  have q44 {l} (z : HA Aw l) := zF h31 <| zF h33 <| zF h35 <| z
  apply jc F <;> intro h37 F
  apply jn F; intro h38 F
  exact lN1 (q43 <| q44 <| zT h37 <| zX (tt (leqm [(i6 x27.To), (i6 x27.V)] 1 2)) rfl <| zT h38 <| zV (app_ok (enc := eGMsg) (v21 : List GMsg) [x27]) <| zF h31 <| zF h33 <| zF h35 <| zT h37 <| zi (wadd .i64 v24 1) <| z0) (ih _ _ _ _ _ _ _ _ F)
  apply jc F <;> intro h39 F
  apply jn F; intro h40 F
  exact lN1 (q43 <| q44 <| zF h37 <| zT h39 <| zX (tt (leqm [(i6 x27.To), (i6 x27.V)] 1 2)) rfl <| zT h40 <| zV (app_ok (enc := eGMsg) (v22 : List GMsg) [x27]) <| zF h31 <| zF h33 <| zF h35 <| zF h37 <| zT h39 <| zi (wadd .i64 v24 1) <| z0) (ih _ _ _ _ _ _ _ _ F)
  apply jn F; intro h41 F
  apply jn F; intro h42 F
  exact lN1 (q43 <| q44 <| zF h37 <| zF h39 <| zT h41 <| zX (tt (leqm [(i6 x27.To), (i6 x27.V)] 1 2)) rfl <| zT h42 <| zV (app_ok (enc := eGMsg) (v23 : List GMsg) [x27]) <| zF h31 <| zF h33 <| zF h35 <| zF h37 <| zF h39 <| zT h41 <| zi (wadd .i64 v24 1) <| z0) (ih _ _ _ _ _ _ _ _ F)
  apply jr F
  exact lE <| zF h25 <| z0
def CT (K : Nat) (v1 : Int) (v2 : List GEdge) (v3 : Int) (v4 : Int) (v5 : Int) (v6 : Int) (v7 : Int) (v8 : Int) (v9 : List Int) (v10 : List Bool) (v11 : List GMsg) : Nat → List Int → List Bool → List GMsg → List GMsg → List GMsg → List GMsg → List GMsg → List GMsg → Int → Option ((Int) ⊕ (List Int × List Bool × List GMsg × List GMsg × List GMsg × List GMsg × List GMsg × List GMsg))
 | 0, _, _, _, _, _, _, _, _, _ => none
 | k + 1, v12, v13, v14, v15, v16, v17, v18, v19, v20 =>
  bif (ilt v20 (nlen (len v9))) then
   (bif (inr v20 (len v9)) then
   (elAt v9 v20).bind fun x21 =>
   (F92 K v11 (wadd .i64 v7 (wmul .i64 v20 v6))).bind fun r22 =>
   bif (inr v20 (len v10)) then
   (elAt v10 v20).bind fun x23 =>
   bif x23 then
    (bif r22.2 then
     ((F93 K (GGraph.mk v1 v2) (GJob.mk v3 v4 v5 v6) v8 (wadd .i64 v7 (wmul .i64 v20 v6)) x21 r22.1 r22.2).bind fun r24 =>
     bif (ieq r24.2.2.2 0) then
      ((BW K v1 v2 v3 v4 v5 v6 v7 v8 v9 v10 v11 v12 v13 r24.1 r24.2.2.1 r24.2.1 v20 K v14 v15 v16 v17 v18 v19 0).bind fun w25 =>
      bif (apok (len v12) 1 8) then
      bif (apok (len v13) 1 1) then
      CT K v1 v2 v3 v4 v5 v6 v7 v8 v9 v10 v11 k (appL v12 [r24.1]) (appL v13 [r24.2.2.1]) w25.1 w25.2.1 w25.2.2.1 w25.2.2.2.1 w25.2.2.2.2.1 w25.2.2.2.2.2 (wadd .i64 v20 1)
      else none
      else none)
     else
     some (.inl r24.2.2.2))
    else
    bif (apok (len v12) 1 8) then
    bif (apok (len v13) 1 1) then
    CT K v1 v2 v3 v4 v5 v6 v7 v8 v9 v10 v11 k (appL v12 [x21]) (appL v13 [true]) v14 v15 v16 v17 v18 v19 (wadd .i64 v20 1)
    else none
    else none)
   else
   (F93 K (GGraph.mk v1 v2) (GJob.mk v3 v4 v5 v6) v8 (wadd .i64 v7 (wmul .i64 v20 v6)) x21 r22.1 r22.2).bind fun r26 =>
   bif (ieq r26.2.2.2 0) then
    ((BW K v1 v2 v3 v4 v5 v6 v7 v8 v9 v10 v11 v12 v13 r26.1 r26.2.2.1 r26.2.1 v20 K v14 v15 v16 v17 v18 v19 0).bind fun w27 =>
    bif (apok (len v12) 1 8) then
    bif (apok (len v13) 1 1) then
    CT K v1 v2 v3 v4 v5 v6 v7 v8 v9 v10 v11 k (appL v12 [r26.1]) (appL v13 [r26.2.2.1]) w27.1 w27.2.1 w27.2.2.1 w27.2.2.2.1 w27.2.2.2.2.1 w27.2.2.2.2.2 (wadd .i64 v20 1)
    else none
    else none)
   else
   some (.inl r26.2.2.2)
   else none
   else none)
  else
  some (.inr (v12, (v13, (v14, (v15, (v16, (v17, (v18, v19))))))))
def Ko (v1 : Int) (v2 : List GEdge) (v3 : Int) (v4 : Int) (v5 : Int) (v6 : Int) (v7 : Int) (v8 : Int) (v9 : List Int) (v10 : List Bool) (v11 : List GMsg) (v12 : List Int) (v13 : List Bool) (v14 : List GMsg) (v15 : List GMsg) (v16 : List GMsg) (v17 : List GMsg) (v18 : List GMsg) (v19 : List GMsg) (v20 : Int) : TS := .on (kq 192 3 <| kq 256 5 <| kq 320 6 <| kq 384 6 <| kq 640 6 <| kq 704 7 <| kq 3328 1 <| kq 3392 2 <| kq 3456 2 <| kq 3520 2 <| []) <| sq 192 [(uX 24 2), (uI v1), (uS eGEdge v2)] <| sq 256 [(uX 26 4), (uI v3), (uI v4), (uI v5), (uI v6)] <| sq 320 [(uX 45 5), (uI v7), (uI v8), (uS e6 v9), (uS eBool v10), (uS eGMsg v11)] <| b4 384 <| sq 640 [(uX 45 5), (uI v7), (uI (wadd .i64 v8 1)), (uO 2 e6 v12), (uO 4 eBool v13), (uN 78)] <| sq 704 [(uX 172 6), (uO 78 eGMsg v14), (uO 78 eGMsg v15), (uO 78 eGMsg v16), (uO 78 eGMsg v17), (uO 78 eGMsg v18), (uO 78 eGMsg v19)] <| sq 3328 [⟨(.ad 5 0 2), 0, nob⟩] <| sq 3392 [u0, (uS e6 v9)] <| sq 3456 [u0, (uI (nlen (len v9)))] <| sq 3520 [u0, (uI v20)] []
def M0 (v1 : Int) (v2 : List GEdge) (v3 : Int) (v4 : Int) (v5 : Int) (v6 : Int) (v7 : Int) (v8 : Int) (v9 : List Int) (v10 : List Bool) (v11 : List GMsg) (w12 : Int) : TS := .on (kq 384 6 <| kq 448 2 <| kq 512 2 <| []) <| b4 384 <| sq 448 [u0, (uN 43)] <| sq 512 [u0, (uI w12)] []
def Ot (v1 : Int) (v2 : List GEdge) (v3 : Int) (v4 : Int) (v5 : Int) (v6 : Int) (v7 : Int) (v8 : Int) (v9 : List Int) (v10 : List Bool) (v11 : List GMsg) (w12 : List Int × List Bool × List GMsg × List GMsg × List GMsg × List GMsg × List GMsg × List GMsg) : TS := .on (kq 256 5 <| kq 384 6 <| kq 640 6 <| kq 704 7 <| []) <| sq 256 [(uX 26 4), (uI v3), (uI v4), (uI v5), (uI v6)] <| b4 384 <| sq 640 [(uX 45 5), (uI v7), (uI (wadd .i64 v8 1)), (uO 2 e6 w12.1), (uO 4 eBool w12.2.1), (uN 78)] <| sq 704 [(uX 172 6), (uO 78 eGMsg w12.2.2.1), (uO 78 eGMsg w12.2.2.2.1), (uO 78 eGMsg w12.2.2.2.2.1), (uO 78 eGMsg w12.2.2.2.2.2.1), (uO 78 eGMsg w12.2.2.2.2.2.2.1), (uO 78 eGMsg w12.2.2.2.2.2.2.2)] []
theorem Hs (K : Nat) (v1 : Int) (v2 : List GEdge) (v3 : Int) (v4 : Int) (v5 : Int) (v6 : Int) (v7 : Int) (v8 : Int) (v9 : List Int) (v10 : List Bool) (v11 : List GMsg) : ∀ (k : Nat) (v12 : List Int) (v13 : List Bool) (v14 : List GMsg) (v15 : List GMsg) (v16 : List GMsg) (v17 : List GMsg) (v18 : List GMsg) (v19 : List GMsg) (v20 : Int) (r : (Int) ⊕ (List Int × List Bool × List GMsg × List GMsg × List GMsg × List GMsg × List GMsg × List GMsg)), CT K v1 v2 v3 v4 v5 v6 v7 v8 v9 v10 v11 k v12 v13 v14 v15 v16 v17 v18 v19 v20 = some r → (Sum.elim (fun w => LoopEv E H Aw 0 HX (Ko v1 v2 v3 v4 v5 v6 v7 v8 v9 v10 v11 v12 v13 v14 v15 v16 v17 v18 v19 v20) .ret (M0 v1 v2 v3 v4 v5 v6 v7 v8 v9 v10 v11 w)) (fun w => LoopEv E H Aw 0 HX (Ko v1 v2 v3 v4 v5 v6 v7 v8 v9 v10 v11 v12 v13 v14 v15 v16 v17 v18 v19 v20) (.exit 0) (Ot v1 v2 v3 v4 v5 v6 v7 v8 v9 v10 v11 w))) r := by
 intro k
 induction k with
 | zero => intro v12 v13 v14 v15 v16 v17 v18 v19 v20 r F; cases F
 | succ k ih =>
  intro v12 v13 v14 v15 v16 v17 v18 v19 v20 r F
  rw [CT] at F
  apply jc F <;> intro h21 F
  apply jn F; intro h22 F
  apply jb F; intro x23 h24 F
  apply jb F; intro r25 h26 F
  apply jn F; intro h27 F
  apply jb F; intro x28 h29 F
  have q48 {l} (z : HA Aw l) := zT h21 <| zT h22 <| zX (.sub (flat e6 v9) (nidx v20 1) 1 [(i6 x23)]) ⟨rfl, sub_flat0 (eInt_len _) h24 1 (by decide)⟩ <| zi (wmul .i64 v20 v6) <| zi (wadd .i64 v7 (wmul .i64 v20 v6)) <| zl (KB K v11 (wadd .i64 v7 (wmul .i64 v20 v6)) _ h26) <| zT h27 <| zS eBool_len h29 1 <| z
  apply jc F <;> intro h30 F
  apply jc F <;> intro h31 F
  apply jb F; intro r32 h33 F
  have q49 {l} (z : HA Aw l) := AA (bnot_t h30) <| zT h31 <| zl (Hu K (GGraph.mk v1 v2) (GJob.mk v3 v4 v5 v6) v8 (wadd .i64 v7 (wmul .i64 v20 v6)) x23 r25.1 r25.2 _ h33) <| z
  apply jc F <;> intro h34 F
  apply jb F; intro w36 h35 F
  apply jn F; intro h37 F
  apply jn F; intro h38 F
  exact lN2 (q48 <| q49 <| zF (ine_t h34) <| zi (nl r32.2.1) <| zo (Iw K v1 v2 v3 v4 v5 v6 v7 v8 v9 v10 v11 v12 v13 r32.1 r32.2.2.1 r32.2.1 v20 K v14 v15 v16 v17 v18 v19 0 _ h35) <| zX (tt (leqm [(i6 r32.1)] 1 1)) rfl <| zT h37 <| zV (app_ok (enc := e6) (v12 : List Int) [r32.1]) <| zX (tt (leqm [(.lit (.bool r32.2.2.1))] 1 1)) rfl <| zT h38 <| zV (app_ok (enc := eBool) (v13 : List Bool) [r32.2.2.1]) <| zi (wadd .i64 v20 1) <| z0) (ih _ _ _ _ _ _ _ _ _ _ F)
  apply jr F
  exact lE <| q48 <| q49 <| zT (ine_f h34) <| z0
  apply jn F; intro h39 F
  apply jn F; intro h40 F
  exact lN2 (q48 <| AA (bnot_t h30) <| zF h31 <| zX (tt (leqm [(i6 x23)] 1 1)) rfl <| zT h39 <| zV (app_ok (enc := e6) (v12 : List Int) [x23]) <| zX (tt (leqm [(.lit (.bool true))] 1 1)) rfl <| zT h40 <| zV (app_ok (enc := eBool) (v13 : List Bool) [true]) <| zi (wadd .i64 v20 1) <| z0) (ih _ _ _ _ _ _ _ _ _ _ F)
  apply jb F; intro r41 h42 F
  have q50 {l} (z : HA Aw l) := CX (bnot_f h30) <| zr1 <| zl (Hu K (GGraph.mk v1 v2) (GJob.mk v3 v4 v5 v6) v8 (wadd .i64 v7 (wmul .i64 v20 v6)) x23 r25.1 r25.2 _ h42) <| z
  apply jc F <;> intro h43 F
  apply jb F; intro w45 h44 F
  apply jn F; intro h46 F
  apply jn F; intro h47 F
  exact lN2 (q48 <| q50 <| zF (ine_t h43) <| zi (nl r41.2.1) <| zo (Iw K v1 v2 v3 v4 v5 v6 v7 v8 v9 v10 v11 v12 v13 r41.1 r41.2.2.1 r41.2.1 v20 K v14 v15 v16 v17 v18 v19 0 _ h44) <| zX (tt (leqm [(i6 r41.1)] 1 1)) rfl <| zT h46 <| zV (app_ok (enc := e6) (v12 : List Int) [r41.1]) <| zX (tt (leqm [(.lit (.bool r41.2.2.1))] 1 1)) rfl <| zT h47 <| zV (app_ok (enc := eBool) (v13 : List Bool) [r41.2.2.1]) <| zi (wadd .i64 v20 1) <| z0) (ih _ _ _ _ _ _ _ _ _ _ F)
  apply jr F
  exact lE <| q48 <| q50 <| zT (ine_f h43) <| z0
  apply jr F
  exact lE <| zF h21 <| z0
def Cl (K : Nat) (v1 : Int) (v2 : Int) (v3 : Int) (v4 : Int) (v5 : Int) (v6 : Int) (v7 : List Int) (v8 : List Bool) (v9 : List GMsg) (v10 : List GMsg) (v11 : List GMsg) (v12 : List GMsg) (v13 : List GMsg) (v14 : List GMsg) : Nat → List (List GMsg) → Int → Option ((Int) ⊕ (List (List GMsg)))
 | 0, _, _ => none
 | k + 1, v15, v16 =>
  bif (ilt v16 v4) then
   (bif (ieq v16 0) then
    ((F95 K v1 v9).bind fun r17 =>
    bif (ieq r17.2 0) then
     (bif (apok (len v15) 1 24) then
     Cl K v1 v2 v3 v4 v5 v6 v7 v8 v9 v10 v11 v12 v13 v14 k (appL v15 [r17.1]) (wadd .i64 v16 1)
     else none)
    else
    some (.inl r17.2))
   else
   bif (ieq v16 1) then
    ((F95 K v1 v10).bind fun r18 =>
    bif (ieq r18.2 0) then
     (bif (apok (len v15) 1 24) then
     Cl K v1 v2 v3 v4 v5 v6 v7 v8 v9 v10 v11 v12 v13 v14 k (appL v15 [r18.1]) (wadd .i64 v16 1)
     else none)
    else
    some (.inl r18.2))
   else
   bif (ieq v16 2) then
    ((F95 K v1 v11).bind fun r19 =>
    bif (ieq r19.2 0) then
     (bif (apok (len v15) 1 24) then
     Cl K v1 v2 v3 v4 v5 v6 v7 v8 v9 v10 v11 v12 v13 v14 k (appL v15 [r19.1]) (wadd .i64 v16 1)
     else none)
    else
    some (.inl r19.2))
   else
   bif (ieq v16 3) then
    ((F95 K v1 v12).bind fun r20 =>
    bif (ieq r20.2 0) then
     (bif (apok (len v15) 1 24) then
     Cl K v1 v2 v3 v4 v5 v6 v7 v8 v9 v10 v11 v12 v13 v14 k (appL v15 [r20.1]) (wadd .i64 v16 1)
     else none)
    else
    some (.inl r20.2))
   else
   bif (ieq v16 4) then
    ((F95 K v1 v13).bind fun r21 =>
    bif (ieq r21.2 0) then
     (bif (apok (len v15) 1 24) then
     Cl K v1 v2 v3 v4 v5 v6 v7 v8 v9 v10 v11 v12 v13 v14 k (appL v15 [r21.1]) (wadd .i64 v16 1)
     else none)
    else
    some (.inl r21.2))
   else
   bif (ieq v16 5) then
   (F95 K v1 v14).bind fun r22 =>
   bif (ieq r22.2 0) then
    (bif (apok (len v15) 1 24) then
    Cl K v1 v2 v3 v4 v5 v6 v7 v8 v9 v10 v11 v12 v13 v14 k (appL v15 [r22.1]) (wadd .i64 v16 1)
    else none)
   else
   some (.inl r22.2)
   else none)
  else
  some (.inr v15)
def Kk (v1 : Int) (v2 : Int) (v3 : Int) (v4 : Int) (v5 : Int) (v6 : Int) (v7 : List Int) (v8 : List Bool) (v9 : List GMsg) (v10 : List GMsg) (v11 : List GMsg) (v12 : List GMsg) (v13 : List GMsg) (v14 : List GMsg) (v15 : List (List GMsg)) (v16 : Int) : TS := .on (kq 256 5 <| kq 384 6 <| kq 640 6 <| kq 704 7 <| kq 1600 2 <| kq 8704 2 <| kq 8768 2 <| []) <| sq 256 [(uX 26 4), (uI v1), (uI v2), (uI v3), (uI v4)] <| b4 384 <| sq 640 [(uX 45 5), (uI v5), (uI v6), (uO 2 e6 v7), (uO 4 eBool v8), (uN 78)] <| sq 704 [(uX 172 6), (uO 78 eGMsg v9), (uO 78 eGMsg v10), (uO 78 eGMsg v11), (uO 78 eGMsg v12), (uO 78 eGMsg v13), (uO 78 eGMsg v14)] <| sq 1600 [u0, (uO 43 (eSl eGMsg) v15)] <| sq 8704 [u0, (uI v4)] <| sq 8768 [u0, (uI v16)] []
def PP (v1 : Int) (v2 : Int) (v3 : Int) (v4 : Int) (v5 : Int) (v6 : Int) (v7 : List Int) (v8 : List Bool) (v9 : List GMsg) (v10 : List GMsg) (v11 : List GMsg) (v12 : List GMsg) (v13 : List GMsg) (v14 : List GMsg) (w15 : Int) : TS := .on (kq 384 6 <| kq 448 2 <| kq 512 2 <| []) <| b4 384 <| sq 448 [u0, (uN 43)] <| sq 512 [u0, (uI w15)] []
def QQ (v1 : Int) (v2 : Int) (v3 : Int) (v4 : Int) (v5 : Int) (v6 : Int) (v7 : List Int) (v8 : List Bool) (v9 : List GMsg) (v10 : List GMsg) (v11 : List GMsg) (v12 : List GMsg) (v13 : List GMsg) (v14 : List GMsg) (w15 : List (List GMsg)) : TS := .on (kq 384 6 <| kq 640 6 <| kq 1600 2 <| []) <| b4 384 <| sq 640 [(uX 45 5), (uI v5), (uI v6), (uO 2 e6 v7), (uO 4 eBool v8), (uN 78)] <| sq 1600 [u0, (uO 43 (eSl eGMsg) w15)] []
theorem Kr (K : Nat) (v1 : Int) (v2 : Int) (v3 : Int) (v4 : Int) (v5 : Int) (v6 : Int) (v7 : List Int) (v8 : List Bool) (v9 : List GMsg) (v10 : List GMsg) (v11 : List GMsg) (v12 : List GMsg) (v13 : List GMsg) (v14 : List GMsg) : ∀ (k : Nat) (v15 : List (List GMsg)) (v16 : Int) (r : (Int) ⊕ (List (List GMsg))), Cl K v1 v2 v3 v4 v5 v6 v7 v8 v9 v10 v11 v12 v13 v14 k v15 v16 = some r → (Sum.elim (fun w => LoopEv E H Aw 4 JR (Kk v1 v2 v3 v4 v5 v6 v7 v8 v9 v10 v11 v12 v13 v14 v15 v16) .ret (PP v1 v2 v3 v4 v5 v6 v7 v8 v9 v10 v11 v12 v13 v14 w)) (fun w => LoopEv E H Aw 4 JR (Kk v1 v2 v3 v4 v5 v6 v7 v8 v9 v10 v11 v12 v13 v14 v15 v16) (.exit 4) (QQ v1 v2 v3 v4 v5 v6 v7 v8 v9 v10 v11 v12 v13 v14 w))) r := by
 intro k
 induction k with
 | zero => intro v15 v16 r F; cases F
 | succ k ih =>
  intro v15 v16 r F
  rw [Cl] at F
  apply jc F <;> intro h17 F
  apply jc F <;> intro h18 F
  apply jb F; intro r19 h20 F
  have q48 {l} (z : HA Aw l) := zT h17 <| zT h18 <| zl (DQ K v1 v9 _ h20) <| z
  apply jc F <;> intro h21 F
  apply jn F; intro h22 F
  exact lN2 (q48 <| zF (ine_t h21) <| zX (tt (leqm [(sE eGMsg r19.1)] 1 1)) rfl <| zT h22 <| zV (app_ok (enc := (eSl eGMsg)) (v15 : List (List GMsg)) [r19.1]) <| zi (wadd .i64 v16 1) <| z0) (ih _ _ _ F)
  apply jr F
  exact lE <| q48 <| zT (ine_f h21) <| z0
  apply jc F <;> intro h23 F
  apply jb F; intro r24 h25 F
  have q49 {l} (z : HA Aw l) := zT h17 <| zF h18 <| zT h23 <| zl (DQ K v1 v10 _ h25) <| z
  apply jc F <;> intro h26 F
  apply jn F; intro h27 F
  exact lN2 (q49 <| zF (ine_t h26) <| zX (tt (leqm [(sE eGMsg r24.1)] 1 1)) rfl <| zT h27 <| zV (app_ok (enc := (eSl eGMsg)) (v15 : List (List GMsg)) [r24.1]) <| zi (wadd .i64 v16 1) <| z0) (ih _ _ _ F)
  apply jr F
  exact lE <| q49 <| zT (ine_f h26) <| z0
  have q50 {l} (z : HA Aw l) := zT h17 <| zF h18 <| zF h23 <| z
  apply jc F <;> intro h28 F
  apply jb F; intro r29 h30 F
  have q51 {l} (z : HA Aw l) := zT h28 <| zl (DQ K v1 v11 _ h30) <| z
  apply jc F <;> intro h31 F
  apply jn F; intro h32 F
  exact lN2 (q50 <| q51 <| zF (ine_t h31) <| zX (tt (leqm [(sE eGMsg r29.1)] 1 1)) rfl <| zT h32 <| zV (app_ok (enc := (eSl eGMsg)) (v15 : List (List GMsg)) [r29.1]) <| zi (wadd .i64 v16 1) <| z0) (ih _ _ _ F)
  apply jr F
  exact lE <| q50 <| q51 <| zT (ine_f h31) <| z0
  apply jc F <;> intro h33 F
  apply jb F; intro r34 h35 F
  have q52 {l} (z : HA Aw l) := zF h28 <| zT h33 <| zl (DQ K v1 v12 _ h35) <| z
  apply jc F <;> intro h36 F
  apply jn F; intro h37 F
  exact lN2 (q50 <| q52 <| zF (ine_t h36) <| zX (tt (leqm [(sE eGMsg r34.1)] 1 1)) rfl <| zT h37 <| zV (app_ok (enc := (eSl eGMsg)) (v15 : List (List GMsg)) [r34.1]) <| zi (wadd .i64 v16 1) <| z0) (ih _ _ _ F)
  apply jr F
  exact lE <| q50 <| q52 <| zT (ine_f h36) <| z0
  apply jc F <;> intro h38 F
  apply jb F; intro r39 h40 F
  have q53 {l} (z : HA Aw l) := zF h28 <| zF h33 <| zT h38 <| zl (DQ K v1 v13 _ h40) <| z
  apply jc F <;> intro h41 F
  apply jn F; intro h42 F
  exact lN2 (q50 <| q53 <| zF (ine_t h41) <| zX (tt (leqm [(sE eGMsg r39.1)] 1 1)) rfl <| zT h42 <| zV (app_ok (enc := (eSl eGMsg)) (v15 : List (List GMsg)) [r39.1]) <| zi (wadd .i64 v16 1) <| z0) (ih _ _ _ F)
  apply jr F
  exact lE <| q50 <| q53 <| zT (ine_f h41) <| z0
  apply jn F; intro h43 F
  apply jb F; intro r44 h45 F
  have q54 {l} (z : HA Aw l) := zF h28 <| zF h33 <| zF h38 <| zT h43 <| zl (DQ K v1 v14 _ h45) <| z
  apply jc F <;> intro h46 F
  apply jn F; intro h47 F
  exact lN2 (q50 <| q54 <| zF (ine_t h46) <| zX (tt (leqm [(sE eGMsg r44.1)] 1 1)) rfl <| zT h47 <| zV (app_ok (enc := (eSl eGMsg)) (v15 : List (List GMsg)) [r44.1]) <| zi (wadd .i64 v16 1) <| z0) (ih _ _ _ F)
  apply jr F
  exact lE <| q50 <| q54 <| zT (ine_f h46) <| z0
  apply jr F
  exact lE <| zF h17 <| z0
def F58 (K : Nat) (a1 : GGraph) (a2 : GJob) (a3 : GPart) : Option (GPart × List (List GMsg) × Int) :=
 (F31 K a1 a2).bind fun r4 =>
 bif (ieq r4 0) then
  ((F91 K a1 a2 a3).bind fun r5 =>
  bif r5 then
   (bif (ieq a3.Step 40) then
    (some ((GPart.mk 0 0 [] [] []), ([], 6)))
   else
   (CT K a1.N a1.Edges a2.Prog a2.Source a2.Limit a2.Parts a3.P a3.Step a3.Vals a3.Rest a3.In K [] [] [] [] [] [] [] [] 0).bind fun y6 =>
   Sum.elim (fun w7 =>
    some ((GPart.mk 0 0 [] [] []), ([], w7)))
    (fun w8 =>
    (Cl K a2.Prog a2.Source a2.Limit a2.Parts a3.P (wadd .i64 a3.Step 1) w8.1 w8.2.1 w8.2.2.1 w8.2.2.2.1 w8.2.2.2.2.1 w8.2.2.2.2.2.1 w8.2.2.2.2.2.2.1 w8.2.2.2.2.2.2.2 K [] 0).bind fun y9 =>
    Sum.elim (fun w10 =>
     some ((GPart.mk 0 0 [] [] []), ([], w10)))
     (fun w11 =>
     some ((GPart.mk a3.P (wadd .i64 a3.Step 1) w8.1 w8.2.1 []), (w11, 0))) y9) y6)
  else
  some ((GPart.mk 0 0 [] [] []), ([], 1)))
 else
 some ((GPart.mk 0 0 [] [] []), ([], r4))
theorem OQ (K : Nat) (a1 : GGraph) (a2 : GJob) (a3 : GPart) (r : GPart × List (List GMsg) × Int) (F : F58 K a1 a2 a3 = some r) : Evt E H 58 [.agg (eGGraph a1), .agg (eGJob a2), .agg (eGPart a3)] (PR r) := by
 rw [F58] at F
 apply jb F; intro r4 h5 F
 apply jc F <;> intro h6 F
 apply jb F; intro r7 h8 F
 have q19 {l} (z : HA Aw l) := zl (Cc K a1 a2 _ h5) <| zF (ine_t h6) <| zl (GI K a1 a2 a3 _ h8) <| z
 apply jc F <;> intro h9 F
 apply jc F <;> intro h10 F
 apply jr F
 exact fpC Aw <| q19 <| zF (bnot_t h9) <| zT h10 <| z0
 have q20 {l} (z : HA Aw l) := zF (bnot_t h9) <| zF h10 <| zi (wadd .i64 a3.Step 1) <| zi (nl a3.Vals) <| z
 apply jb F; intro y12 h11 F
 refine js F (fun w13 hx F => ?_) fun w14 hx F => ?_
 subst hx
 apply jr F
 exact fpC Aw <| q19 <| q20 <| zo (Hs K a1.N a1.Edges a2.Prog a2.Source a2.Limit a2.Parts a3.P a3.Step a3.Vals a3.Rest a3.In K [] [] [] [] [] [] [] [] 0 _ h11) <| z0
 subst hx
 apply jb F; intro y16 h15 F
 refine js F (fun w17 hx F => ?_) fun w18 hx F => ?_
 subst hx
 apply jr F
 exact fpC Aw <| q19 <| q20 <| zo (Hs K a1.N a1.Edges a2.Prog a2.Source a2.Limit a2.Parts a3.P a3.Step a3.Vals a3.Rest a3.In K [] [] [] [] [] [] [] [] 0 _ h11) <| zo (Kr K a2.Prog a2.Source a2.Limit a2.Parts a3.P (wadd .i64 a3.Step 1) w14.1 w14.2.1 w14.2.2.1 w14.2.2.2.1 w14.2.2.2.2.1 w14.2.2.2.2.2.1 w14.2.2.2.2.2.2.1 w14.2.2.2.2.2.2.2 K [] 0 _ h15) <| z0
 subst hx
 apply jr F
 exact fpC Aw <| q19 <| q20 <| zo (Hs K a1.N a1.Edges a2.Prog a2.Source a2.Limit a2.Parts a3.P a3.Step a3.Vals a3.Rest a3.In K [] [] [] [] [] [] [] [] 0 _ h11) <| zo (Kr K a2.Prog a2.Source a2.Limit a2.Parts a3.P (wadd .i64 a3.Step 1) w14.1 w14.2.1 w14.2.2.1 w14.2.2.2.1 w14.2.2.2.2.1 w14.2.2.2.2.2.1 w14.2.2.2.2.2.2.1 w14.2.2.2.2.2.2.2 K [] 0 _ h15) <| z0
 apply jr F
 exact fpC Aw <| q19 <| zT (bnot_f h9) <| z0
 apply jr F
 exact fpC Aw <| zl (Cc K a1 a2 _ h5) <| zT (ine_f h6) <| z0
def PS : Hint := { H 59 with nt := 17, prot := 1, kp := 1792 }
def Ld (r1 : GWorker) : Res := ⟨[], [(wl0 r1)]⟩
def ED (K : Nat) (a1 : GWorker) (a2 : Int) : Option (GWorker) :=
 (CY K a1 (GMail.mk 5 a1.T.Epoch 0 a1.Goal a2 0 0 8 [] [] [] (GPart.mk 0 0 [] [] []) [])).bind fun r3 =>
 some r3
theorem J6 (K : Nat) (a1 : GWorker) (a2 : Int) (r : GWorker) (F : ED K a1 a2 = some r) : Evt E H 59 [.box 38 (wl0 a1), .one (i6 a2)] (Ld r) := by
 rw [ED] at F
 apply jb F; intro r3 h4 F
 apply jr F
 exact fpC PS <| zc (E8 K a1 (GMail.mk 5 a1.T.Epoch 0 a1.Goal a2 0 0 8 [] [] [] (GPart.mk 0 0 [] [] []) []) _ h4) <| z0
def C6 : Hint := { H 33 with nt := 136, prot := 1, kp := 256 }
def Mr : Code := loopOf E 33 0
def Oj (r1 : List GDid × GWorker) : Res := ⟨[(.one (.own 66 (sE eGDid r1.1)))], [(wl0 r1.2)]⟩
def Di (K : Nat) (a1 : GGraph) (a2 : GJob) (x3 : GHeld) (r4 : GPart × List (List GMsg) × Int) : Nat → Int → Int → Int → Int → List Int → List Int → List Int → List GHeld → List GData → List GComing → List GPost → Int → Option (Int × Int × Int × Int × List Int × List Int × List Int × List GHeld × List GData × List GComing × List GPost)
 | 0, _, _, _, _, _, _, _, _, _, _, _, _ => none
 | k + 1, v5, v6, v7, v8, v9, v10, v11, v12, v13, v14, v15, v16 =>
  bif (ilt v16 (nlen (len r4.2.1))) then
   (bif (inr v16 (len r4.2.1)) then
   (elAt r4.2.1 v16).bind fun x17 =>
   (F60 K (GTable.mk v8 v9 v10 v11) v16).bind fun r18 =>
   bif (ieq r18.1 v5) then
    ((Ed K (GWorker.mk v5 v6 v7 (GTable.mk v8 v9 v10 v11) v12 v13 v14 v15) a1 a2 (GMail.mk 4 v8 0 v6 v16 x3.X.P 0 0 [] [] [] (GPart.mk 0 0 [] [] []) x17)).bind fun r19 =>
    Di K a1 a2 x3 r4 k r19.Id r19.Goal r19.Until r19.T.Epoch r19.T.Owners r19.T.Ids r19.T.Incs r19.Held r19.Buf r19.Coming r19.Out (wadd .i64 v16 1))
   else
   bif (apok (len v15) 1 264) then
   Di K a1 a2 x3 r4 k v5 v6 v7 v8 v9 v10 v11 v12 v13 v14 (appL v15 [(GPost.mk r18.1 r18.2.1 (GMail.mk 4 v8 0 v6 v16 x3.X.P 0 0 [] [] [] (GPart.mk 0 0 [] [] []) x17))]) (wadd .i64 v16 1)
   else none
   else none)
  else
  some (v5, (v6, (v7, (v8, (v9, (v10, (v11, (v12, (v13, (v14, v15))))))))))
def OV (a1 : GGraph) (a2 : GJob) (x3 : GHeld) (r4 : GPart × List (List GMsg) × Int) (v5 : Int) (v6 : Int) (v7 : Int) (v8 : Int) (v9 : List Int) (v10 : List Int) (v11 : List Int) (v12 : List GHeld) (v13 : List GData) (v14 : List GComing) (v15 : List GPost) (v16 : Int) : TS := .on (kq 0 12 <| kq 320 3 <| kq 384 5 <| kq 576 2 <| kq 704 2 <| kq 4416 2 <| kq 4480 2 <| kq 4544 2 <| []) <| sq 0 [(uX 38 11), (uI v5), (uI v6), (uI v7), (uI v8), (uS e6 v9), (uS e6 v10), (uS e6 v11), (uO 69 eGHeld v12), (uO 112 eGData v13), (uO 113 eGComing v14), (uO 86 eGPost v15)] <| b2 320 a1 <| b3 384 a2 <| sq 576 [u0, (uI x3.X.P)] <| sq 704 [u0, (uO 43 (eSl eGMsg) r4.2.1)] <| sq 4416 [u0, ⟨(.vw 705 0), 0, nob⟩] <| sq 4480 [u0, (uI (nlen (len r4.2.1)))] <| sq 4544 [u0, (uI v16)] []
def Oh (a1 : GGraph) (a2 : GJob) (x3 : GHeld) (r4 : GPart × List (List GMsg) × Int) (w5 : Int × Int × Int × Int × List Int × List Int × List Int × List GHeld × List GData × List GComing × List GPost) : TS := .on (kq 0 12 <| kq 576 2 <| []) <| sq 0 [(uX 38 11), (uI w5.1), (uI w5.2.1), (uI w5.2.2.1), (uI w5.2.2.2.1), (uS e6 w5.2.2.2.2.1), (uS e6 w5.2.2.2.2.2.1), (uS e6 w5.2.2.2.2.2.2.1), (uO 69 eGHeld w5.2.2.2.2.2.2.2.1), (uO 112 eGData w5.2.2.2.2.2.2.2.2.1), (uO 113 eGComing w5.2.2.2.2.2.2.2.2.2.1), (uO 86 eGPost w5.2.2.2.2.2.2.2.2.2.2)] <| sq 576 [u0, (uI x3.X.P)] []
theorem OZ (K : Nat) (a1 : GGraph) (a2 : GJob) (x3 : GHeld) (r4 : GPart × List (List GMsg) × Int) : ∀ (k : Nat) (v5 : Int) (v6 : Int) (v7 : Int) (v8 : Int) (v9 : List Int) (v10 : List Int) (v11 : List Int) (v12 : List GHeld) (v13 : List GData) (v14 : List GComing) (v15 : List GPost) (v16 : Int) (r : Int × Int × Int × Int × List Int × List Int × List Int × List GHeld × List GData × List GComing × List GPost), Di K a1 a2 x3 r4 k v5 v6 v7 v8 v9 v10 v11 v12 v13 v14 v15 v16 = some r → LoopEv E H C6 0 Mr (OV a1 a2 x3 r4 v5 v6 v7 v8 v9 v10 v11 v12 v13 v14 v15 v16) (.exit 0) (Oh a1 a2 x3 r4 r) := by
 intro k
 induction k with
 | zero => intro v5 v6 v7 v8 v9 v10 v11 v12 v13 v14 v15 v16 r F; cases F
 | succ k ih =>
  intro v5 v6 v7 v8 v9 v10 v11 v12 v13 v14 v15 v16 r F
  rw [Di] at F
  apply jc F <;> intro h17 F
  apply jn F; intro h18 F
  apply jb F; intro x19 h20 F
  apply jb F; intro r21 h22 F
  have q27 {l} (z : HA C6 l) := zT h17 <| zT h18 <| zX (.sub (flat (eSl eGMsg) r4.2.1) (nidx v16 1) 1 [(sE eGMsg x19)]) ⟨rfl, sub_flat0 (eSl_len _) h20 1 (by decide)⟩ <| zl (Hf K (GTable.mk v8 v9 v10 v11) v16 _ h22) <| z
  apply jc F <;> intro h23 F
  apply jb F; intro r24 h25 F
  exact lN1 (q27 <| zT h23 <| zc (II K (GWorker.mk v5 v6 v7 (GTable.mk v8 v9 v10 v11) v12 v13 v14 v15) a1 a2 (GMail.mk 4 v8 0 v6 v16 x3.X.P 0 0 [] [] [] (GPart.mk 0 0 [] [] []) x19) _ h25) <| zi (wadd .i64 v16 1) <| z0) (ih _ _ _ _ _ _ _ _ _ _ _ _ _ F)
  apply jn F; intro h26 F
  exact lN1 (q27 <| zF h23 <| zX (tt (leqm [(i6 r21.1), (i6 r21.2.1), (i6 4), (i6 v8), (i6 0), (i6 v6), (i6 v16), (i6 x3.X.P), (i6 0), (i6 0), (.sl 0 []), (.sl 0 []), (.sl 0 []), (i6 0), (i6 0), (.sl 0 []), (.sl 0 []), (.sl 0 []), (sE eGMsg x19)] 1 19)) rfl <| zT h26 <| zV (app_ok (enc := eGPost) (v15 : List GPost) [(GPost.mk r21.1 r21.2.1 (GMail.mk 4 v8 0 v6 v16 x3.X.P 0 0 [] [] [] (GPart.mk 0 0 [] [] []) x19))]) <| zi (wadd .i64 v16 1) <| z0) (ih _ _ _ _ _ _ _ _ _ _ _ _ _ F)
  apply jr F
  exact lE <| zF h17 <| z0
def DR (K : Nat) (a1 : GWorker) (a2 : GGraph) (a3 : GJob) (a4 : Int) : Option (List GDid × GWorker) :=
 bif (inr a4 (len a1.Held)) then
 (elAt a1.Held a4).bind fun x5 =>
 (F58 K a2 a3 x5.X).bind fun r6 =>
 bif (ieq r6.2.2 6) then
  (some ([], a1))
 else
 bif (ieq r6.2.2 1) then
  (some ([], a1))
 else
 bif (ieq r6.2.2 0) then
  (bif (inr a4 (len (α := GHeld) (putAt a1.Held a4 (GHeld.mk x5.X true x5.Given)))) then
  (elAt (putAt a1.Held a4 (GHeld.mk x5.X true x5.Given)) a4).bind fun x7 =>
  (Di K a2 a3 x5 r6 K a1.Id a1.Goal a1.Until a1.T.Epoch a1.T.Owners a1.T.Ids a1.T.Incs (putAt (putAt a1.Held a4 (GHeld.mk x5.X true x5.Given)) a4 (GHeld.mk r6.1 x7.Wait x7.Given)) a1.Buf a1.Coming a1.Out 0).bind fun w8 =>
  some ([(GDid.mk w8.2.2.2.1 w8.2.1 x5.X.P)], (GWorker.mk w8.1 w8.2.1 w8.2.2.1 (GTable.mk w8.2.2.2.1 w8.2.2.2.2.1 w8.2.2.2.2.2.1 w8.2.2.2.2.2.2.1) w8.2.2.2.2.2.2.2.1 w8.2.2.2.2.2.2.2.2.1 w8.2.2.2.2.2.2.2.2.2.1 w8.2.2.2.2.2.2.2.2.2.2))
  else none)
 else
 (ED K (GWorker.mk a1.Id a1.Goal a1.Until a1.T (putAt a1.Held a4 (GHeld.mk x5.X true x5.Given)) a1.Buf a1.Coming a1.Out) x5.X.P).bind fun r9 =>
 some ([], r9)
 else none
theorem Pm (K : Nat) (a1 : GWorker) (a2 : GGraph) (a3 : GJob) (a4 : Int) (r : List GDid × GWorker) (F : DR K a1 a2 a3 a4 = some r) : Evt E H 33 [.box 38 (wl0 a1), .agg (eGGraph a2), .agg (eGJob a3), .one (i6 a4)] (Oj r) := by
 rw [DR] at F
 apply jn F; intro h5 F
 apply jb F; intro x6 h7 F
 apply jb F; intro r8 h9 F
 have q20 {l} (z : HA C6 l) := zT h5 <| zU eGHeld_len h7 0 1 <| zT h5 <| zU eGHeld_len h7 0 5 <| zc (OQ K a2 a3 x6.X _ h9) <| z
 apply jc F <;> intro h10 F
 apply jr F
 exact fpC C6 <| q20 <| BS h10 <| zr1 <| z0
 have q21 {l} (z : HA C6 l) := Cw h10 <| z
 apply jc F <;> intro h11 F
 apply jr F
 exact fpC C6 <| q20 <| q21 <| zT h11 <| z0
 have q22 {l} (z : HA C6 l) := zF h11 <| zT h5 <| zX (tt (lfits (nadd (nidx a4 7) 5) 1 (flat eGHeld a1.Held))) (lfits_flat eGHeld_len h7 5 _ (by decide)) <| zX (.sl (len a1.Held) (lset (flat eGHeld a1.Held) (nadd (nidx a4 7) 5) [(.lit (.bool true))]) (len (α := GHeld) (putAt a1.Held a4 (GHeld.mk x6.X true x6.Given))) (flat eGHeld (putAt a1.Held a4 (GHeld.mk x6.X true x6.Given)))) (set_ok eGHeld_len h7 5 _ (by simp) rfl) <| z
 apply jc F <;> intro h12 F
 apply jn F; intro h13 F
 apply jb F; intro x14 h15 F
 apply jb F; intro w17 h16 F
 apply jr F
 exact fpC C6 <| q20 <| q21 <| q22 <| zF (ine_t h12) <| zT h13 <| zX (tt (lfits (nadd (nidx a4 7) 0) 5 (flat eGHeld (putAt a1.Held a4 (GHeld.mk x6.X true x6.Given))))) (lfits_flat eGHeld_len h15 0 _ (by decide)) <| zX (.sl (len (α := GHeld) (putAt a1.Held a4 (GHeld.mk x6.X true x6.Given))) (lset (flat eGHeld (putAt a1.Held a4 (GHeld.mk x6.X true x6.Given))) (nadd (nidx a4 7) 0) [(i6 r8.1.P), (i6 r8.1.Step), (sE e6 r8.1.Vals), (sE eBool r8.1.Rest), (sE eGMsg r8.1.In)]) (len (α := GHeld) (putAt (putAt a1.Held a4 (GHeld.mk x6.X true x6.Given)) a4 (GHeld.mk r8.1 x14.Wait x14.Given))) (flat eGHeld (putAt (putAt a1.Held a4 (GHeld.mk x6.X true x6.Given)) a4 (GHeld.mk r8.1 x14.Wait x14.Given)))) (set_ok eGHeld_len h15 0 _ (by simp) rfl) <| zi (nl r8.2.1) <| zo (OZ K a2 a3 x6 r8 K a1.Id a1.Goal a1.Until a1.T.Epoch a1.T.Owners a1.T.Ids a1.T.Incs (putAt (putAt a1.Held a4 (GHeld.mk x6.X true x6.Given)) a4 (GHeld.mk r8.1 x14.Wait x14.Given)) a1.Buf a1.Coming a1.Out 0 _ h16) <| z0
 apply jb F; intro r18 h19 F
 apply jr F
 exact fpC C6 <| q20 <| q21 <| q22 <| zT (ine_f h12) <| zc (J6 K (GWorker.mk a1.Id a1.Goal a1.Until a1.T (putAt a1.Held a4 (GHeld.mk x6.X true x6.Given)) a1.Buf a1.Coming a1.Out) x6.X.P _ h19) <| z0
def Kd : Hint := { H 98 with nt := 18, prot := 0, kp := 0 }
def OE : Code := loopOf E 98 0
def KL (r1 : List GMsg) : Res := ⟨[(.one (.own 78 (sE eGMsg r1)))], []⟩
def E3 (K : Nat) (a1 : List (List GMsg)) : Nat → List GMsg → Int → Option (List GMsg)
 | 0, _, _ => none
 | k + 1, v2, v3 =>
  bif (ilt v3 (nlen (len a1))) then
   (bif (inr v3 (len a1)) then
   (elAt a1 v3).bind fun x4 =>
   bif (apok (len v2) (len x4) 16) then
   E3 K a1 k (appL v2 x4) (wadd .i64 v3 1)
   else none
   else none)
  else
  some v2
def My (a1 : List (List GMsg)) (v2 : List GMsg) (v3 : Int) : TS := .on (kq 0 2 <| kq 192 2 <| kq 384 2 <| kq 448 2 <| kq 512 2 <| []) <| sq 0 [u0, (uS (eSl eGMsg) a1)] <| sq 192 [u0, (uO 78 eGMsg v2)] <| sq 384 [u0, (uS (eSl eGMsg) a1)] <| sq 448 [u0, (uI (nlen (len a1)))] <| sq 512 [u0, (uI v3)] []
def Qb (a1 : List (List GMsg)) (w2 : List GMsg) : TS := .on (kq 192 2 <| []) <| sq 192 [u0, (uO 78 eGMsg w2)] []
theorem Qk (K : Nat) (a1 : List (List GMsg)) : ∀ (k : Nat) (v2 : List GMsg) (v3 : Int) (r : List GMsg), E3 K a1 k v2 v3 = some r → LoopEv E H Kd 0 OE (My a1 v2 v3) (.exit 0) (Qb a1 r) := by
 intro k
 induction k with
 | zero => intro v2 v3 r F; cases F
 | succ k ih =>
  intro v2 v3 r F
  rw [E3] at F
  apply jc F <;> intro h4 F
  apply jn F; intro h5 F
  apply jb F; intro x6 h7 F
  apply jn F; intro h8 F
  exact lN1 (zT h4 <| zT h5 <| zX (.sub (flat (eSl eGMsg) a1) (nidx v3 1) 1 [(sE eGMsg x6)]) ⟨rfl, sub_flat0 (eSl_len _) h7 1 (by decide)⟩ <| zX (tt (leqm (flat eGMsg x6) (len x6) 2)) (leqm_flat eGMsg_len _) <| zT h8 <| zV (app_ok (enc := eGMsg) (v2 : List GMsg) x6) <| zi (wadd .i64 v3 1) <| z0) (ih _ _ _ F)
  apply jr F
  exact lE <| zF h4 <| z0
def F98 (K : Nat) (a1 : List (List GMsg)) : Option (List GMsg) :=
 (E3 K a1 K [] 0).bind fun w2 =>
 (EU K w2).bind fun r3 =>
 some r3
theorem LX (K : Nat) (a1 : List (List GMsg)) (r : List GMsg) (F : F98 K a1 = some r) : Evt E H 98 [.one (sE (eSl eGMsg) a1)] (KL r) := by
 rw [F98] at F
 apply jb F; intro w3 h2 F
 apply jb F; intro r4 h5 F
 apply jr F
 exact fpC Kd <| zi (nl a1) <| zo (Qk K a1 K [] 0 _ h2) <| zl (I7 K w3 _ h5) <| z0
def Mx : Hint := { H 99 with nt := 14, prot := 0, kp := 0 }
def KK (r1 : GPart) : Res := ⟨[(.agg [(mI r1.P), (mI r1.Step), (.own 2 (sE e6 r1.Vals)), (.own 4 (sE eBool r1.Rest)), (mS eGMsg r1.In)])], []⟩
def F99 (K : Nat) (a1 : GPart) : Option (GPart) :=
 bif (apok 0 (len a1.Vals) 8) then
 bif (apok 0 (len a1.Rest) 1) then
 some (GPart.mk a1.P a1.Step (appL [] a1.Vals) (appL [] a1.Rest) a1.In)
 else none
 else none
theorem OL (K : Nat) (a1 : GPart) (r : GPart) (F : F99 K a1 = some r) : Evt E H 99 [.agg (eGPart a1)] (KK r) := by
 rw [F99] at F
 apply jn F; intro h2 F
 apply jn F; intro h3 F
 apply jr F
 exact fpC Mx <| zX (tt (leqm (flat e6 a1.Vals) (len a1.Vals) 1)) (leqm_flat (eInt_len _) _) <| zT h2 <| zV (app_ok (enc := e6) ([] : List Int) a1.Vals) <| zX (tt (leqm (flat eBool a1.Rest) (len a1.Rest) 1)) (leqm_flat eBool_len _) <| zT h3 <| zV (app_ok (enc := eBool) ([] : List Bool) a1.Rest) <| z0
def BR : Hint := { H 62 with nt := 76, prot := 0, kp := 0 }
def HZ : Code := loopOf E 62 0
def Pu (r1 : GPart × Int) : Res := ⟨[(.agg [(mI r1.1.P), (mI r1.1.Step), (.own 2 (sE e6 r1.1.Vals)), (.own 4 (sE eBool r1.1.Rest)), (.own 78 (sE eGMsg r1.1.In))]), (.one (mI r1.2))], []⟩
def EQ (K : Nat) (a1 : GGraph) (a2 : GJob) (a3 : GPart) (r4 : List GMsg) : Nat → Int → Option ((Unit) ⊕ (Unit))
 | 0, _ => none
 | k + 1, v5 =>
  bif (ilt v5 (nlen (len r4))) then
   (bif (inr v5 (len r4)) then
   (elAt r4 v5).bind fun x6 =>
   bif (ile a1.N x6.To) then
    (some (.inl ()))
   else
   (F94 K a2 x6.To).bind fun r7 =>
   bif (ieq r7 a3.P) then
    (EQ K a1 a2 a3 r4 k (wadd .i64 v5 1))
   else
   some (.inl ())
   else none)
  else
  some (.inr ())
def I8 (a1 : GGraph) (a2 : GJob) (a3 : GPart) (r4 : List GMsg) (v5 : Int) : TS := .on (kq 256 3 <| kq 320 5 <| kq 384 6 <| kq 512 6 <| kq 704 2 <| kq 2432 2 <| kq 2496 2 <| kq 2560 2 <| []) <| b2 256 a1 <| b3 320 a2 <| b9 384 a3 <| b4 512 <| sq 704 [u0, (uO 78 eGMsg r4)] <| sq 2432 [u0, ⟨(.vw 705 0), 0, nob⟩] <| sq 2496 [u0, (uI (nlen (len r4)))] <| sq 2560 [u0, (uI v5)] []
def MM (a1 : GGraph) (a2 : GJob) (a3 : GPart) (r4 : List GMsg) (w5 : Unit) : TS := .on (kq 512 6 <| kq 576 2 <| []) <| b4 512 <| sq 576 [u0, (uI 1)] []
def Lu (a1 : GGraph) (a2 : GJob) (a3 : GPart) (r4 : List GMsg) (w5 : Unit) : TS := .on (kq 320 5 <| kq 384 6 <| kq 512 6 <| kq 704 2 <| []) <| b3 320 a2 <| b9 384 a3 <| b4 512 <| sq 704 [u0, (uO 78 eGMsg r4)] []
theorem Ks (K : Nat) (a1 : GGraph) (a2 : GJob) (a3 : GPart) (r4 : List GMsg) : ∀ (k : Nat) (v5 : Int) (r : (Unit) ⊕ (Unit)), EQ K a1 a2 a3 r4 k v5 = some r → (Sum.elim (fun w => LoopEv E H BR 0 HZ (I8 a1 a2 a3 r4 v5) .ret (MM a1 a2 a3 r4 w)) (fun w => LoopEv E H BR 0 HZ (I8 a1 a2 a3 r4 v5) (.exit 0) (Lu a1 a2 a3 r4 w))) r := by
 intro k
 induction k with
 | zero => intro v5 r F; cases F
 | succ k ih =>
  intro v5 r F
  rw [EQ] at F
  apply jc F <;> intro h6 F
  apply jn F; intro h7 F
  apply jb F; intro x8 h9 F
  have q14 {l} (z : HA BR l) := zT h6 <| zT h7 <| zS eGMsg_len h9 2 <| z
  apply jc F <;> intro h10 F
  apply jr F
  exact lE <| q14 <| zA6 (ige_eq h10) <| CX (ige_eq h10) <| zr1 <| z0
  apply jb F; intro r11 h12 F
  have q15 {l} (z : HA BR l) := zB4 (ige_eq h10) <| zl (Hw K a2 x8.To _ h12) <| Ah (ige_eq h10) <| z
  apply jc F <;> intro h13 F
  exact lN2 (q14 <| q15 <| zF (ine_t h13) <| zi (wadd .i64 v5 1) <| z0) (ih _ _ F)
  apply jr F
  exact lE <| q14 <| q15 <| zT (ine_f h13) <| z0
  apply jr F
  exact lE <| zF h6 <| z0
def F62 (K : Nat) (a1 : GGraph) (a2 : GJob) (a3 : GPart) (a4 : List (List GMsg)) : Option (GPart × Int) :=
 (F31 K a1 a2).bind fun r5 =>
 bif (ieq r5 0) then
  ((F91 K a1 a2 a3).bind fun r6 =>
  bif r6 then
   (bif (ilt 0 (nlen (len a3.In))) then
    (some ((GPart.mk 0 0 [] [] []), 1))
   else
   (F98 K a4).bind fun r7 =>
   (EQ K a1 a2 a3 r7 K 0).bind fun y8 =>
   Sum.elim (fun w9 =>
    some ((GPart.mk 0 0 [] [] []), 1))
    (fun w10 =>
    (F95 K a2.Prog r7).bind fun r11 =>
    bif (ieq r11.2 0) then
     ((F99 K a3).bind fun r12 =>
     some ((GPart.mk r12.P r12.Step r12.Vals r12.Rest r11.1), 0))
    else
    some ((GPart.mk 0 0 [] [] []), r11.2)) y8)
  else
  some ((GPart.mk 0 0 [] [] []), 1))
 else
 some ((GPart.mk 0 0 [] [] []), r5)
theorem LF (K : Nat) (a1 : GGraph) (a2 : GJob) (a3 : GPart) (a4 : List (List GMsg)) (r : GPart × Int) (F : F62 K a1 a2 a3 a4 = some r) : Evt E H 62 [.agg (eGGraph a1), .agg (eGJob a2), .agg (eGPart a3), .one (sE (eSl eGMsg) a4)] (Pu r) := by
 rw [F62] at F
 apply jb F; intro r5 h6 F
 apply jc F <;> intro h7 F
 apply jb F; intro r8 h9 F
 have q23 {l} (z : HA BR l) := zl (Cc K a1 a2 _ h6) <| zF (ine_t h7) <| zl (GI K a1 a2 a3 _ h9) <| z
 apply jc F <;> intro h10 F
 have q24 {l} (z : HA BR l) := zB3 (bnot_t h10) <| zi (nl a3.In) <| AA (bnot_t h10) <| z
 apply jc F <;> intro h11 F
 apply jr F
 exact fpC BR <| q23 <| q24 <| zT (igt_eq h11) <| z0
 apply jb F; intro r12 h13 F
 have q25 {l} (z : HA BR l) := zF (igt_eq h11) <| zl (LX K a4 _ h13) <| zi (nl r12) <| z
 apply jb F; intro y15 h14 F
 refine js F (fun w16 hx F => ?_) fun w17 hx F => ?_
 subst hx
 apply jr F
 exact fpC BR <| q23 <| q24 <| q25 <| zo (Ks K a1 a2 a3 r12 K 0 _ h14) <| z0
 subst hx
 apply jb F; intro r18 h19 F
 have q26 {l} (z : HA BR l) := zo (Ks K a1 a2 a3 r12 K 0 _ h14) <| zl (DQ K a2.Prog r12 _ h19) <| z
 apply jc F <;> intro h20 F
 apply jb F; intro r21 h22 F
 apply jr F
 exact fpC BR <| q23 <| q24 <| q25 <| q26 <| zF (ine_t h20) <| zc (OL K a3 _ h22) <| z0
 apply jr F
 exact fpC BR <| q23 <| q24 <| q25 <| q26 <| zT (ine_f h20) <| z0
 apply jr F
 exact fpC BR <| q23 <| D5 (bnot_f h10) <| zr1 <| z0
 apply jr F
 exact fpC BR <| zl (Cc K a1 a2 _ h6) <| zT (ine_f h7) <| z0
def Ci : Hint := { H 34 with nt := 153, prot := 1, kp := 256 }
def Kf : Code := loopOf E 34 0
def Ph : Code := loopOf E 34 1
def Mc (r1 : GWorker) : Res := ⟨[], [(wl0 r1)]⟩
def EZ (K : Nat) (v1 : Int) (v2 : Int) (v3 : List GEdge) (v4 : Int) (v5 : Int) (v6 : Int) (v7 : Int) (v8 : Int) : Nat → Int → Int → Int → Int → List Int → List Int → List Int → List GHeld → List GData → List GComing → List GPost → List (List GMsg) → Int → Option (((Int × Int × Int × Int × List Int × List Int × List Int × List GHeld × List GData × List GComing × List GPost × List (List GMsg))) ⊕ (Int × Int × Int × Int × List Int × List Int × List Int × List GHeld × List GData × List GComing × List GPost × List (List GMsg)))
 | 0, _, _, _, _, _, _, _, _, _, _, _, _, _ => none
 | k + 1, v9, v10, v11, v12, v13, v14, v15, v16, v17, v18, v19, v20, v21 =>
  bif (ilt v21 v7) then
   ((Dq K (GWorker.mk v9 v10 v11 (GTable.mk v12 v13 v14 v15) v16 v17 v18 v19) v12 v10 v21 v8).bind fun r22 =>
   bif (ilt r22.1 0) then
    (some (.inl (r22.2.Id, (r22.2.Goal, (r22.2.Until, (r22.2.T.Epoch, (r22.2.T.Owners, (r22.2.T.Ids, (r22.2.T.Incs, (r22.2.Held, (r22.2.Buf, (r22.2.Coming, (r22.2.Out, v20)))))))))))))
   else
   bif (inr r22.1 (len r22.2.Buf)) then
   (elAt r22.2.Buf r22.1).bind fun x23 =>
   bif (apok (len v20) 1 24) then
   EZ K v1 v2 v3 v4 v5 v6 v7 v8 k r22.2.Id r22.2.Goal r22.2.Until r22.2.T.Epoch r22.2.T.Owners r22.2.T.Ids r22.2.T.Incs r22.2.Held r22.2.Buf r22.2.Coming r22.2.Out (appL v20 [x23.Msgs]) (wadd .i64 v21 1)
   else none
   else none)
  else
  some (.inr (v9, (v10, (v11, (v12, (v13, (v14, (v15, (v16, (v17, (v18, (v19, v20))))))))))))
def Ji (v1 : Int) (v2 : Int) (v3 : List GEdge) (v4 : Int) (v5 : Int) (v6 : Int) (v7 : Int) (v8 : Int) (v9 : Int) (v10 : Int) (v11 : Int) (v12 : Int) (v13 : List Int) (v14 : List Int) (v15 : List Int) (v16 : List GHeld) (v17 : List GData) (v18 : List GComing) (v19 : List GPost) (v20 : List (List GMsg)) (v21 : Int) : TS := .on (kq 0 12 <| kq 192 2 <| kq 320 3 <| kq 384 5 <| kq 512 2 <| kq 576 2 <| kq 1728 2 <| kq 1792 2 <| []) <| sq 0 [(uX 38 11), (uI v9), (uI v10), (uI v11), (uI v12), (uS e6 v13), (uS e6 v14), (uS e6 v15), (uO 69 eGHeld v16), (uO 112 eGData v17), (uO 113 eGComing v18), (uO 86 eGPost v19)] <| sq 192 [u0, (uI v1)] <| sq 320 [(uX 24 2), (uI v2), (uS eGEdge v3)] <| sq 384 [(uX 26 4), (uI v4), (uI v5), (uI v6), (uI v7)] <| sq 512 [u0, (uI v8)] <| sq 576 [u0, (uO 43 (eSl eGMsg) v20)] <| sq 1728 [u0, (uI v7)] <| sq 1792 [u0, (uI v21)] []
def Qq (v1 : Int) (v2 : Int) (v3 : List GEdge) (v4 : Int) (v5 : Int) (v6 : Int) (v7 : Int) (v8 : Int) (w9 : Int × Int × Int × Int × List Int × List Int × List Int × List GHeld × List GData × List GComing × List GPost × List (List GMsg)) : TS := .on (kq 0 12 <| kq 192 2 <| kq 320 3 <| kq 384 5 <| kq 512 2 <| kq 576 2 <| []) <| sq 0 [(uX 38 11), (uI w9.1), (uI w9.2.1), (uI w9.2.2.1), (uI w9.2.2.2.1), (uS e6 w9.2.2.2.2.1), (uS e6 w9.2.2.2.2.2.1), (uS e6 w9.2.2.2.2.2.2.1), (uO 69 eGHeld w9.2.2.2.2.2.2.2.1), (uO 112 eGData w9.2.2.2.2.2.2.2.2.1), (uO 113 eGComing w9.2.2.2.2.2.2.2.2.2.1), (uO 86 eGPost w9.2.2.2.2.2.2.2.2.2.2.1)] <| sq 192 [u0, (uI v1)] <| sq 320 [(uX 24 2), (uI v2), (uS eGEdge v3)] <| sq 384 [(uX 26 4), (uI v4), (uI v5), (uI v6), (uI v7)] <| sq 512 [u0, (uI v8)] <| sq 576 [u0, (uO 43 (eSl eGMsg) w9.2.2.2.2.2.2.2.2.2.2.2)] []
def Mg (v1 : Int) (v2 : Int) (v3 : List GEdge) (v4 : Int) (v5 : Int) (v6 : Int) (v7 : Int) (v8 : Int) (w9 : Int × Int × Int × Int × List Int × List Int × List Int × List GHeld × List GData × List GComing × List GPost × List (List GMsg)) : TS := .on (kq 0 12 <| kq 192 2 <| kq 320 3 <| kq 384 5 <| kq 512 2 <| kq 576 2 <| []) <| sq 0 [(uX 38 11), (uI w9.1), (uI w9.2.1), (uI w9.2.2.1), (uI w9.2.2.2.1), (uS e6 w9.2.2.2.2.1), (uS e6 w9.2.2.2.2.2.1), (uS e6 w9.2.2.2.2.2.2.1), (uO 69 eGHeld w9.2.2.2.2.2.2.2.1), (uO 112 eGData w9.2.2.2.2.2.2.2.2.1), (uO 113 eGComing w9.2.2.2.2.2.2.2.2.2.1), (uO 86 eGPost w9.2.2.2.2.2.2.2.2.2.2.1)] <| sq 192 [u0, (uI v1)] <| sq 320 [(uX 24 2), (uI v2), (uS eGEdge v3)] <| sq 384 [(uX 26 4), (uI v4), (uI v5), (uI v6), (uI v7)] <| sq 512 [u0, (uI v8)] <| sq 576 [u0, (uO 43 (eSl eGMsg) w9.2.2.2.2.2.2.2.2.2.2.2)] []
theorem Jn (K : Nat) (v1 : Int) (v2 : Int) (v3 : List GEdge) (v4 : Int) (v5 : Int) (v6 : Int) (v7 : Int) (v8 : Int) : ∀ (k : Nat) (v9 : Int) (v10 : Int) (v11 : Int) (v12 : Int) (v13 : List Int) (v14 : List Int) (v15 : List Int) (v16 : List GHeld) (v17 : List GData) (v18 : List GComing) (v19 : List GPost) (v20 : List (List GMsg)) (v21 : Int) (r : ((Int × Int × Int × Int × List Int × List Int × List Int × List GHeld × List GData × List GComing × List GPost × List (List GMsg))) ⊕ (Int × Int × Int × Int × List Int × List Int × List Int × List GHeld × List GData × List GComing × List GPost × List (List GMsg))), EZ K v1 v2 v3 v4 v5 v6 v7 v8 k v9 v10 v11 v12 v13 v14 v15 v16 v17 v18 v19 v20 v21 = some r → (Sum.elim (fun w => LoopEv E H Ci 0 Kf (Ji v1 v2 v3 v4 v5 v6 v7 v8 v9 v10 v11 v12 v13 v14 v15 v16 v17 v18 v19 v20 v21) .ret (Qq v1 v2 v3 v4 v5 v6 v7 v8 w)) (fun w => LoopEv E H Ci 0 Kf (Ji v1 v2 v3 v4 v5 v6 v7 v8 v9 v10 v11 v12 v13 v14 v15 v16 v17 v18 v19 v20 v21) (.exit 0) (Mg v1 v2 v3 v4 v5 v6 v7 v8 w))) r := by
 intro k
 induction k with
 | zero => intro v9 v10 v11 v12 v13 v14 v15 v16 v17 v18 v19 v20 v21 r F; cases F
 | succ k ih =>
  intro v9 v10 v11 v12 v13 v14 v15 v16 v17 v18 v19 v20 v21 r F
  rw [EZ] at F
  apply jc F <;> intro h22 F
  apply jb F; intro r23 h24 F
  apply jc F <;> intro h25 F
  apply jr F
  exact lE <| zT h22 <| zc (Ho K (GWorker.mk v9 v10 v11 (GTable.mk v12 v13 v14 v15) v16 v17 v18 v19) v12 v10 v21 v8 _ h24) <| zT h25 <| z0
  apply jn F; intro h26 F
  apply jb F; intro x27 h28 F
  apply jn F; intro h29 F
  exact lN2 (zT h22 <| zc (Ho K (GWorker.mk v9 v10 v11 (GTable.mk v12 v13 v14 v15) v16 v17 v18 v19) v12 v10 v21 v8 _ h24) <| zF h25 <| zT h26 <| zU eGData_len h28 4 1 <| zX (tt (leqm [(sE eGMsg x27.Msgs)] 1 1)) rfl <| zT h29 <| zV (app_ok (enc := (eSl eGMsg)) (v20 : List (List GMsg)) [x27.Msgs]) <| zi (wadd .i64 v21 1) <| z0) (ih _ _ _ _ _ _ _ _ _ _ _ _ _ _ F)
  apply jr F
  exact lE <| zF h22 <| z0
def Cx (K : Nat) (v1 : Int) (v2 : Int) (v3 : Int) (v4 : Int) (v5 : List Int) (v6 : List Int) (v7 : List Int) (v8 : List GHeld) (v9 : List GData) (v10 : List GComing) (v11 : List GPost) (v12 : Int) (v13 : Int) (v14 : List GEdge) (v15 : Int) (v16 : Int) (v17 : Int) (v18 : Int) (v19 : Int) (v20 : List (List GMsg)) : Nat → List GData → Int → Option (List GData)
 | 0, _, _ => none
 | k + 1, v21, v22 =>
  bif (ilt v22 (nlen (len v9))) then
   (bif (inr v22 (len v9)) then
   (elAt v9 v22).bind fun x23 =>
   bif (ieq x23.Epoch v4) then
    (bif (ieq x23.Step v2) then
     (bif (ieq x23.P v19) then
      (bif (ilt x23.Q 0) then
       (bif (apok (len v21) 1 56) then
       Cx K v1 v2 v3 v4 v5 v6 v7 v8 v9 v10 v11 v12 v13 v14 v15 v16 v17 v18 v19 v20 k (appL v21 [x23]) (wadd .i64 v22 1)
       else none)
      else
      bif (ile v18 x23.Q) then
       (bif (apok (len v21) 1 56) then
       Cx K v1 v2 v3 v4 v5 v6 v7 v8 v9 v10 v11 v12 v13 v14 v15 v16 v17 v18 v19 v20 k (appL v21 [x23]) (wadd .i64 v22 1)
       else none)
      else
      Cx K v1 v2 v3 v4 v5 v6 v7 v8 v9 v10 v11 v12 v13 v14 v15 v16 v17 v18 v19 v20 k v21 (wadd .i64 v22 1))
     else
     bif (apok (len v21) 1 56) then
     Cx K v1 v2 v3 v4 v5 v6 v7 v8 v9 v10 v11 v12 v13 v14 v15 v16 v17 v18 v19 v20 k (appL v21 [x23]) (wadd .i64 v22 1)
     else none)
    else
    bif (apok (len v21) 1 56) then
    Cx K v1 v2 v3 v4 v5 v6 v7 v8 v9 v10 v11 v12 v13 v14 v15 v16 v17 v18 v19 v20 k (appL v21 [x23]) (wadd .i64 v22 1)
    else none)
   else
   bif (apok (len v21) 1 56) then
   Cx K v1 v2 v3 v4 v5 v6 v7 v8 v9 v10 v11 v12 v13 v14 v15 v16 v17 v18 v19 v20 k (appL v21 [x23]) (wadd .i64 v22 1)
   else none
   else none)
  else
  some v21
def PL (v1 : Int) (v2 : Int) (v3 : Int) (v4 : Int) (v5 : List Int) (v6 : List Int) (v7 : List Int) (v8 : List GHeld) (v9 : List GData) (v10 : List GComing) (v11 : List GPost) (v12 : Int) (v13 : Int) (v14 : List GEdge) (v15 : Int) (v16 : Int) (v17 : Int) (v18 : Int) (v19 : Int) (v20 : List (List GMsg)) (v21 : List GData) (v22 : Int) : TS := .on (kq 0 12 <| kq 192 2 <| kq 320 3 <| kq 384 5 <| kq 512 2 <| kq 576 2 <| kq 768 2 <| kq 3712 1 <| kq 3776 1 <| kq 3840 1 <| kq 3904 2 <| kq 3968 2 <| kq 4032 2 <| []) <| sq 0 [(uX 38 11), (uI v1), (uI v2), (uI v3), (uI v4), (uS e6 v5), (uS e6 v6), (uS e6 v7), (uO 69 eGHeld v8), (uO 112 eGData v9), (uO 113 eGComing v10), (uO 86 eGPost v11)] <| sq 192 [u0, (uI v12)] <| sq 320 [(uX 24 2), (uI v13), (uS eGEdge v14)] <| sq 384 [(uX 26 4), (uI v15), (uI v16), (uI v17), (uI v18)] <| sq 512 [u0, (uI v19)] <| sq 576 [u0, (uO 43 (eSl eGMsg) v20)] <| sq 768 [u0, (uO 112 eGData v21)] <| sq 3712 [⟨(.ad 0 0 0), 0, nob⟩] <| sq 3776 [⟨(.ad 0 0 0), 0, nob⟩] <| sq 3840 [⟨(.ad 0 0 8), 0, nob⟩] <| sq 3904 [u0, ⟨(.vw 9 0), 0, nob⟩] <| sq 3968 [u0, (uI (nlen (len v9)))] <| sq 4032 [u0, (uI v22)] []
def Qn (v1 : Int) (v2 : Int) (v3 : Int) (v4 : Int) (v5 : List Int) (v6 : List Int) (v7 : List Int) (v8 : List GHeld) (v9 : List GData) (v10 : List GComing) (v11 : List GPost) (v12 : Int) (v13 : Int) (v14 : List GEdge) (v15 : Int) (v16 : Int) (v17 : Int) (v18 : Int) (v19 : Int) (v20 : List (List GMsg)) (w21 : List GData) : TS := .on (kq 0 12 <| kq 192 2 <| kq 320 3 <| kq 384 5 <| kq 512 2 <| kq 576 2 <| kq 768 2 <| []) <| sq 0 [(uX 38 11), (uI v1), (uI v2), (uI v3), (uI v4), (uS e6 v5), (uS e6 v6), (uS e6 v7), (uO 69 eGHeld v8), (uO 112 eGData v9), (uO 113 eGComing v10), (uO 86 eGPost v11)] <| sq 192 [u0, (uI v12)] <| sq 320 [(uX 24 2), (uI v13), (uS eGEdge v14)] <| sq 384 [(uX 26 4), (uI v15), (uI v16), (uI v17), (uI v18)] <| sq 512 [u0, (uI v19)] <| sq 576 [u0, (uO 43 (eSl eGMsg) v20)] <| sq 768 [u0, (uO 112 eGData w21)] []
theorem KD (K : Nat) (v1 : Int) (v2 : Int) (v3 : Int) (v4 : Int) (v5 : List Int) (v6 : List Int) (v7 : List Int) (v8 : List GHeld) (v9 : List GData) (v10 : List GComing) (v11 : List GPost) (v12 : Int) (v13 : Int) (v14 : List GEdge) (v15 : Int) (v16 : Int) (v17 : Int) (v18 : Int) (v19 : Int) (v20 : List (List GMsg)) : ∀ (k : Nat) (v21 : List GData) (v22 : Int) (r : List GData), Cx K v1 v2 v3 v4 v5 v6 v7 v8 v9 v10 v11 v12 v13 v14 v15 v16 v17 v18 v19 v20 k v21 v22 = some r → LoopEv E H Ci 2 Ph (PL v1 v2 v3 v4 v5 v6 v7 v8 v9 v10 v11 v12 v13 v14 v15 v16 v17 v18 v19 v20 v21 v22) (.exit 2) (Qn v1 v2 v3 v4 v5 v6 v7 v8 v9 v10 v11 v12 v13 v14 v15 v16 v17 v18 v19 v20 r) := by
 intro k
 induction k with
 | zero => intro v21 v22 r F; cases F
 | succ k ih =>
  intro v21 v22 r F
  rw [Cx] at F
  apply jc F <;> intro h23 F
  apply jn F; intro h24 F
  apply jb F; intro x25 h26 F
  have q37 {l} (z : HA Ci l) := zT h23 <| zT h24 <| zS eGData_len h26 5 <| z
  apply jc F <;> intro h27 F
  have q38 {l} (z : HA Ci l) := zB6 (ine_t h27) <| AA (ine_t h27) <| z
  apply jc F <;> intro h28 F
  have q39 {l} (z : HA Ci l) := FJ (ine_t h28) <| z
  apply jc F <;> intro h29 F
  have q40 {l} (z : HA Ci l) := Ah (ine_t h29) <| z
  apply jc F <;> intro h30 F
  apply jn F; intro h31 F
  exact lN1 (q37 <| q38 <| q39 <| q40 <| AQ h30 <| zr1 <| zX (tt (leqm [(i6 x25.Epoch), (i6 x25.Step), (i6 x25.Q), (i6 x25.P), (sE eGMsg x25.Msgs)] 1 5)) rfl <| zT h31 <| zV (app_ok (enc := eGData) (v21 : List GData) [x25]) <| zi (wadd .i64 v22 1) <| z0) (ih _ _ _ F)
  have q41 {l} (z : HA Ci l) := BP h30 <| z
  apply jc F <;> intro h32 F
  apply jn F; intro h33 F
  exact lN1 (q37 <| q38 <| q39 <| q40 <| q41 <| zT (ige_eq h32) <| zX (tt (leqm [(i6 x25.Epoch), (i6 x25.Step), (i6 x25.Q), (i6 x25.P), (sE eGMsg x25.Msgs)] 1 5)) rfl <| zT h33 <| zV (app_ok (enc := eGData) (v21 : List GData) [x25]) <| zi (wadd .i64 v22 1) <| z0) (ih _ _ _ F)
  exact lN1 (q37 <| q38 <| q39 <| q40 <| q41 <| zF (ige_eq h32) <| zi (wadd .i64 v22 1) <| z0) (ih _ _ _ F)
  apply jn F; intro h34 F
  exact lN1 (q37 <| q38 <| q39 <| Af (ine_f h29) <| zt5 <| zr2 <| zX (tt (leqm [(i6 x25.Epoch), (i6 x25.Step), (i6 x25.Q), (i6 x25.P), (sE eGMsg x25.Msgs)] 1 5)) rfl <| zT h34 <| zV (app_ok (enc := eGData) (v21 : List GData) [x25]) <| zi (wadd .i64 v22 1) <| z0) (ih _ _ _ F)
  apply jn F; intro h35 F
  exact lN1 (q37 <| q38 <| D5 (ine_f h28) <| zt3 <| zr1 <| zt5 <| zr2 <| zX (tt (leqm [(i6 x25.Epoch), (i6 x25.Step), (i6 x25.Q), (i6 x25.P), (sE eGMsg x25.Msgs)] 1 5)) rfl <| zT h35 <| zV (app_ok (enc := eGData) (v21 : List GData) [x25]) <| zi (wadd .i64 v22 1) <| z0) (ih _ _ _ F)
  apply jn F; intro h36 F
  exact lN1 (q37 <| zA6 (ine_f h27) <| CX (ine_f h27) <| zt4 <| zr1 <| zt3 <| zr1 <| zt5 <| zr2 <| zX (tt (leqm [(i6 x25.Epoch), (i6 x25.Step), (i6 x25.Q), (i6 x25.P), (sE eGMsg x25.Msgs)] 1 5)) rfl <| zT h36 <| zV (app_ok (enc := eGData) (v21 : List GData) [x25]) <| zi (wadd .i64 v22 1) <| z0) (ih _ _ _ F)
  apply jr F
  exact lE <| zF h23 <| z0
def DE (K : Nat) (a1 : GWorker) (a2 : GGraph) (a3 : GJob) (a4 : Int) : Option (GWorker) :=
 bif (inr a4 (len a1.Held)) then
 (elAt a1.Held a4).bind fun x5 =>
 (EZ K a4 a2.N a2.Edges a3.Prog a3.Source a3.Limit a3.Parts x5.X.P K a1.Id a1.Goal a1.Until a1.T.Epoch a1.T.Owners a1.T.Ids a1.T.Incs a1.Held a1.Buf a1.Coming a1.Out [] 0).bind fun y6 =>
 Sum.elim (fun w7 =>
  some (GWorker.mk w7.1 w7.2.1 w7.2.2.1 (GTable.mk w7.2.2.2.1 w7.2.2.2.2.1 w7.2.2.2.2.2.1 w7.2.2.2.2.2.2.1) w7.2.2.2.2.2.2.2.1 w7.2.2.2.2.2.2.2.2.1 w7.2.2.2.2.2.2.2.2.2.1 w7.2.2.2.2.2.2.2.2.2.2.1))
  (fun w8 =>
  (Cx K w8.1 w8.2.1 w8.2.2.1 w8.2.2.2.1 w8.2.2.2.2.1 w8.2.2.2.2.2.1 w8.2.2.2.2.2.2.1 w8.2.2.2.2.2.2.2.1 w8.2.2.2.2.2.2.2.2.1 w8.2.2.2.2.2.2.2.2.2.1 w8.2.2.2.2.2.2.2.2.2.2.1 a4 a2.N a2.Edges a3.Prog a3.Source a3.Limit a3.Parts x5.X.P w8.2.2.2.2.2.2.2.2.2.2.2 K [] 0).bind fun w9 =>
  bif (inr a4 (len w8.2.2.2.2.2.2.2.1)) then
  (elAt w8.2.2.2.2.2.2.2.1 a4).bind fun x10 =>
  (F62 K a2 a3 x10.X w8.2.2.2.2.2.2.2.2.2.2.2).bind fun r11 =>
  bif (ieq r11.2 0) then
   ((CY K (GWorker.mk w8.1 w8.2.1 w8.2.2.1 (GTable.mk w8.2.2.2.1 w8.2.2.2.2.1 w8.2.2.2.2.2.1 w8.2.2.2.2.2.2.1) (putAt w8.2.2.2.2.2.2.2.1 a4 (GHeld.mk r11.1 false false)) w9 w8.2.2.2.2.2.2.2.2.2.1 w8.2.2.2.2.2.2.2.2.2.2.1) (GMail.mk 5 w8.2.2.2.1 0 w8.2.1 x5.X.P 0 0 0 [] [] [] r11.1 [])).bind fun r12 =>
   some r12)
  else
  (ED K (GWorker.mk w8.1 w8.2.1 w8.2.2.1 (GTable.mk w8.2.2.2.1 w8.2.2.2.2.1 w8.2.2.2.2.2.1 w8.2.2.2.2.2.2.1) w8.2.2.2.2.2.2.2.1 w9 w8.2.2.2.2.2.2.2.2.2.1 w8.2.2.2.2.2.2.2.2.2.2.1) x5.X.P).bind fun r13 =>
  some r13
  else none) y6
 else none
theorem PA (K : Nat) (a1 : GWorker) (a2 : GGraph) (a3 : GJob) (a4 : Int) (r : GWorker) (F : DE K a1 a2 a3 a4 = some r) : Evt E H 34 [.box 38 (wl0 a1), .agg (eGGraph a2), .agg (eGJob a3), .one (i6 a4)] (Mc r) := by
 rw [DE] at F
 apply jn F; intro h5 F
 apply jb F; intro x6 h7 F
 apply jb F; intro y9 h8 F
 refine js F (fun w10 hx F => ?_) fun w11 hx F => ?_
 subst hx
 apply jr F
 exact fpC Ci <| zT h5 <| zU eGHeld_len h7 0 1 <| zo (Jn K a4 a2.N a2.Edges a3.Prog a3.Source a3.Limit a3.Parts x6.X.P K a1.Id a1.Goal a1.Until a1.T.Epoch a1.T.Owners a1.T.Ids a1.T.Incs a1.Held a1.Buf a1.Coming a1.Out [] 0 _ h8) <| z0
 subst hx
 apply jb F; intro w13 h12 F
 apply jn F; intro h14 F
 apply jb F; intro x15 h16 F
 apply jb F; intro r17 h18 F
 have q24 {l} (z : HA Ci l) := zT h5 <| zU eGHeld_len h7 0 1 <| zo (Jn K a4 a2.N a2.Edges a3.Prog a3.Source a3.Limit a3.Parts x6.X.P K a1.Id a1.Goal a1.Until a1.T.Epoch a1.T.Owners a1.T.Ids a1.T.Incs a1.Held a1.Buf a1.Coming a1.Out [] 0 _ h8) <| zi (nl w11.2.2.2.2.2.2.2.2.1) <| zo (KD K w11.1 w11.2.1 w11.2.2.1 w11.2.2.2.1 w11.2.2.2.2.1 w11.2.2.2.2.2.1 w11.2.2.2.2.2.2.1 w11.2.2.2.2.2.2.2.1 w11.2.2.2.2.2.2.2.2.1 w11.2.2.2.2.2.2.2.2.2.1 w11.2.2.2.2.2.2.2.2.2.2.1 a4 a2.N a2.Edges a3.Prog a3.Source a3.Limit a3.Parts x6.X.P w11.2.2.2.2.2.2.2.2.2.2.2 K [] 0 _ h12) <| zT h14 <| zU eGHeld_len h16 0 5 <| zl (LF K a2 a3 x15.X w11.2.2.2.2.2.2.2.2.2.2.2 _ h18) <| z
 apply jc F <;> intro h19 F
 apply jb F; intro r20 h21 F
 apply jr F
 exact fpC Ci <| q24 <| zF (ine_t h19) <| zT h14 <| zX (tt (lfits (nidx a4 7) 7 (flat eGHeld w11.2.2.2.2.2.2.2.1))) (lfits_flat0 eGHeld_len h16 _ (by decide)) <| zX (.sl (len w11.2.2.2.2.2.2.2.1) (lset (flat eGHeld w11.2.2.2.2.2.2.2.1) (nidx a4 7) [(i6 r17.1.P), (i6 r17.1.Step), (sE e6 r17.1.Vals), (sE eBool r17.1.Rest), (sE eGMsg r17.1.In), (.lit (.bool false)), (.lit (.bool false))]) (len (α := GHeld) (putAt w11.2.2.2.2.2.2.2.1 a4 (GHeld.mk r17.1 false false))) (flat eGHeld (putAt w11.2.2.2.2.2.2.2.1 a4 (GHeld.mk r17.1 false false)))) (set_ok0 eGHeld_len h16 _ (by simp) rfl) <| zc (E8 K (GWorker.mk w11.1 w11.2.1 w11.2.2.1 (GTable.mk w11.2.2.2.1 w11.2.2.2.2.1 w11.2.2.2.2.2.1 w11.2.2.2.2.2.2.1) (putAt w11.2.2.2.2.2.2.2.1 a4 (GHeld.mk r17.1 false false)) w13 w11.2.2.2.2.2.2.2.2.2.1 w11.2.2.2.2.2.2.2.2.2.2.1) (GMail.mk 5 w11.2.2.2.1 0 w11.2.1 x6.X.P 0 0 0 [] [] [] r17.1 []) _ h21) <| z0
 apply jb F; intro r22 h23 F
 apply jr F
 exact fpC Ci <| q24 <| zT (ine_f h19) <| zc (J6 K (GWorker.mk w11.1 w11.2.1 w11.2.2.1 (GTable.mk w11.2.2.2.1 w11.2.2.2.2.1 w11.2.2.2.2.2.1 w11.2.2.2.2.2.2.1) w11.2.2.2.2.2.2.2.1 w13 w11.2.2.2.2.2.2.2.2.2.1 w11.2.2.2.2.2.2.2.2.2.2.1) x6.X.P _ h23) <| z0
def Cf : Hint := { H 14 with nt := 97, prot := 0, kp := 0 }
def PD : Code := loopOf E 14 0
def KX : Code := loopOf E 14 1
def LA (r1 : GWorker × List GPost × List GDid) : Res := ⟨[(.agg (wl0 r1.1)), (.one (.own 86 (sE eGPost r1.2.1))), (.one (.own 66 (sE eGDid r1.2.2)))], []⟩
def CZ (K : Nat) (a1 : GGraph) (a2 : GJob) (r3 : GWorker) : Nat → Int → Int → Int → Int → List Int → List Int → List Int → List GHeld → List GData → List GComing → List GPost → List GDid → Int → Option (Int × Int × Int × Int × List Int × List Int × List Int × List GHeld × List GData × List GComing × List GPost × List GDid)
 | 0, _, _, _, _, _, _, _, _, _, _, _, _, _ => none
 | k + 1, v4, v5, v6, v7, v8, v9, v10, v11, v12, v13, v14, v15, v16 =>
  bif (ilt v16 (nlen (len r3.Held))) then
   (bif (inr v16 (len v11)) then
   (elAt v11 v16).bind fun x17 =>
   bif x17.Wait then
    (CZ K a1 a2 r3 k v4 v5 v6 v7 v8 v9 v10 v11 v12 v13 v14 v15 (wadd .i64 v16 1))
   else
   bif x17.Given then
    (CZ K a1 a2 r3 k v4 v5 v6 v7 v8 v9 v10 v11 v12 v13 v14 v15 (wadd .i64 v16 1))
   else
   bif (ieq x17.X.Step v5) then
    ((DR K (GWorker.mk v4 v5 v6 (GTable.mk v7 v8 v9 v10) v11 v12 v13 v14) a1 a2 v16).bind fun r18 =>
    bif (apok (len v15) (len r18.1) 24) then
    CZ K a1 a2 r3 k r18.2.Id r18.2.Goal r18.2.Until r18.2.T.Epoch r18.2.T.Owners r18.2.T.Ids r18.2.T.Incs r18.2.Held r18.2.Buf r18.2.Coming r18.2.Out (appL v15 r18.1) (wadd .i64 v16 1)
    else none)
   else
   CZ K a1 a2 r3 k v4 v5 v6 v7 v8 v9 v10 v11 v12 v13 v14 v15 (wadd .i64 v16 1)
   else none)
  else
  some (v4, (v5, (v6, (v7, (v8, (v9, (v10, (v11, (v12, (v13, (v14, v15)))))))))))
def MT (a1 : GGraph) (a2 : GJob) (r3 : GWorker) (v4 : Int) (v5 : Int) (v6 : Int) (v7 : Int) (v8 : List Int) (v9 : List Int) (v10 : List Int) (v11 : List GHeld) (v12 : List GData) (v13 : List GComing) (v14 : List GPost) (v15 : List GDid) (v16 : Int) : TS := .on (kq 256 3 <| kq 320 5 <| kq 384 12 <| kq 512 12 <| kq 704 2 <| kq 1920 1 <| kq 1984 2 <| kq 2048 2 <| kq 2112 2 <| []) <| b2 256 a1 <| b3 320 a2 <| sq 384 [(uX 38 11), (uI v4), (uI v5), (uI v6), (uI v7), (uS e6 v8), (uS e6 v9), (uS e6 v10), (uO 69 eGHeld v11), (uO 112 eGData v12), (uO 113 eGComing v13), (uO 86 eGPost v14)] <| b14 512 <| sq 704 [u0, (uO 66 eGDid v15)] <| sq 1920 [⟨(.ad 6 0 7), 0, nob⟩] <| sq 1984 [u0, ⟨(.vw 392 0), 0, nob⟩] <| sq 2048 [u0, (uI (nlen (len r3.Held)))] <| sq 2112 [u0, (uI v16)] []
def Nw (a1 : GGraph) (a2 : GJob) (r3 : GWorker) (w4 : Int × Int × Int × Int × List Int × List Int × List Int × List GHeld × List GData × List GComing × List GPost × List GDid) : TS := .on (kq 256 3 <| kq 320 5 <| kq 384 12 <| kq 512 12 <| kq 704 2 <| []) <| b2 256 a1 <| b3 320 a2 <| sq 384 [(uX 38 11), (uI w4.1), (uI w4.2.1), (uI w4.2.2.1), (uI w4.2.2.2.1), (uS e6 w4.2.2.2.2.1), (uS e6 w4.2.2.2.2.2.1), (uS e6 w4.2.2.2.2.2.2.1), (uO 69 eGHeld w4.2.2.2.2.2.2.2.1), (uO 112 eGData w4.2.2.2.2.2.2.2.2.1), (uO 113 eGComing w4.2.2.2.2.2.2.2.2.2.1), (uO 86 eGPost w4.2.2.2.2.2.2.2.2.2.2.1)] <| b14 512 <| sq 704 [u0, (uO 66 eGDid w4.2.2.2.2.2.2.2.2.2.2.2)] []
theorem Oq (K : Nat) (a1 : GGraph) (a2 : GJob) (r3 : GWorker) : ∀ (k : Nat) (v4 : Int) (v5 : Int) (v6 : Int) (v7 : Int) (v8 : List Int) (v9 : List Int) (v10 : List Int) (v11 : List GHeld) (v12 : List GData) (v13 : List GComing) (v14 : List GPost) (v15 : List GDid) (v16 : Int) (r : Int × Int × Int × Int × List Int × List Int × List Int × List GHeld × List GData × List GComing × List GPost × List GDid), CZ K a1 a2 r3 k v4 v5 v6 v7 v8 v9 v10 v11 v12 v13 v14 v15 v16 = some r → LoopEv E H Cf 0 PD (MT a1 a2 r3 v4 v5 v6 v7 v8 v9 v10 v11 v12 v13 v14 v15 v16) (.exit 0) (Nw a1 a2 r3 r) := by
 intro k
 induction k with
 | zero => intro v4 v5 v6 v7 v8 v9 v10 v11 v12 v13 v14 v15 v16 r F; cases F
 | succ k ih =>
  intro v4 v5 v6 v7 v8 v9 v10 v11 v12 v13 v14 v15 v16 r F
  rw [CZ] at F
  apply jc F <;> intro h17 F
  apply jn F; intro h18 F
  apply jb F; intro x19 h20 F
  have q27 {l} (z : HA Cf l) := zT h17 <| zT h18 <| zS eGHeld_len h20 7 <| z
  apply jc F <;> intro h21 F
  exact lN1 (q27 <| CL (bnot_t h21) <| zk6 <| zf2 <| zi (wadd .i64 v16 1) <| z0) (ih _ _ _ _ _ _ _ _ _ _ _ _ _ _ F)
  have q28 {l} (z : HA Cf l) := D1 (bnot_f h21) <| z
  apply jc F <;> intro h22 F
  exact lN1 (q27 <| q28 <| FH (bnot_t h22) <| zf1 <| zi (wadd .i64 v16 1) <| z0) (ih _ _ _ _ _ _ _ _ _ _ _ _ _ _ F)
  have q29 {l} (z : HA Cf l) := IC (bnot_f h22) <| z
  apply jc F <;> intro h23 F
  apply jb F; intro r24 h25 F
  apply jn F; intro h26 F
  exact lN1 (q27 <| q28 <| q29 <| zT h23 <| zc (Pm K (GWorker.mk v4 v5 v6 (GTable.mk v7 v8 v9 v10) v11 v12 v13 v14) a1 a2 v16 _ h25) <| zX (tt (leqm (flat eGDid r24.1) (len r24.1) 3)) (leqm_flat eGDid_len _) <| zT h26 <| zV (app_ok (enc := eGDid) (v15 : List GDid) r24.1) <| zi (wadd .i64 v16 1) <| z0) (ih _ _ _ _ _ _ _ _ _ _ _ _ _ _ F)
  exact lN1 (q27 <| q28 <| q29 <| zF h23 <| zi (wadd .i64 v16 1) <| z0) (ih _ _ _ _ _ _ _ _ _ _ _ _ _ _ F)
  apply jr F
  exact lE <| zF h17 <| z0
def C5 (K : Nat) (a1 : GGraph) (a2 : GJob) (w3 : Int × Int × Int × Int × List Int × List Int × List Int × List GHeld × List GData × List GComing × List GPost × List GDid) : Nat → Int → Int → Int → Int → List Int → List Int → List Int → List GHeld → List GData → List GComing → List GPost → Int → Option (Int × Int × Int × Int × List Int × List Int × List Int × List GHeld × List GData × List GComing × List GPost)
 | 0, _, _, _, _, _, _, _, _, _, _, _, _ => none
 | k + 1, v4, v5, v6, v7, v8, v9, v10, v11, v12, v13, v14, v15 =>
  bif (ilt v15 (nlen (len w3.2.2.2.2.2.2.2.1))) then
   (bif (inr v15 (len v11)) then
   (elAt v11 v15).bind fun x16 =>
   bif x16.Wait then
    (bif (ieq x16.X.Step (wadd .i64 v5 1)) then
     ((DE K (GWorker.mk v4 v5 v6 (GTable.mk v7 v8 v9 v10) v11 v12 v13 v14) a1 a2 v15).bind fun r17 =>
     C5 K a1 a2 w3 k r17.Id r17.Goal r17.Until r17.T.Epoch r17.T.Owners r17.T.Ids r17.T.Incs r17.Held r17.Buf r17.Coming r17.Out (wadd .i64 v15 1))
    else
    C5 K a1 a2 w3 k v4 v5 v6 v7 v8 v9 v10 v11 v12 v13 v14 (wadd .i64 v15 1))
   else
   C5 K a1 a2 w3 k v4 v5 v6 v7 v8 v9 v10 v11 v12 v13 v14 (wadd .i64 v15 1)
   else none)
  else
  some (v4, (v5, (v6, (v7, (v8, (v9, (v10, (v11, (v12, (v13, v14))))))))))
def NY (a1 : GGraph) (a2 : GJob) (w3 : Int × Int × Int × Int × List Int × List Int × List Int × List GHeld × List GData × List GComing × List GPost × List GDid) (v4 : Int) (v5 : Int) (v6 : Int) (v7 : Int) (v8 : List Int) (v9 : List Int) (v10 : List Int) (v11 : List GHeld) (v12 : List GData) (v13 : List GComing) (v14 : List GPost) (v15 : Int) : TS := .on (kq 256 3 <| kq 320 5 <| kq 384 12 <| kq 512 12 <| kq 704 2 <| kq 4032 2 <| kq 4096 2 <| []) <| b2 256 a1 <| b3 320 a2 <| sq 384 [(uX 38 11), (uI v4), (uI v5), (uI v6), (uI v7), (uS e6 v8), (uS e6 v9), (uS e6 v10), (uO 69 eGHeld v11), (uO 112 eGData v12), (uO 113 eGComing v13), (uO 86 eGPost v14)] <| b14 512 <| sq 704 [u0, (uO 66 eGDid w3.2.2.2.2.2.2.2.2.2.2.2)] <| sq 4032 [u0, (uI (nlen (len w3.2.2.2.2.2.2.2.1)))] <| sq 4096 [u0, (uI v15)] []
def Li (a1 : GGraph) (a2 : GJob) (w3 : Int × Int × Int × Int × List Int × List Int × List Int × List GHeld × List GData × List GComing × List GPost × List GDid) (w4 : Int × Int × Int × Int × List Int × List Int × List Int × List GHeld × List GData × List GComing × List GPost) : TS := .on (kq 384 12 <| kq 512 12 <| kq 704 2 <| []) <| sq 384 [(uX 38 11), (uI w4.1), (uI w4.2.1), (uI w4.2.2.1), (uI w4.2.2.2.1), (uS e6 w4.2.2.2.2.1), (uS e6 w4.2.2.2.2.2.1), (uS e6 w4.2.2.2.2.2.2.1), (uO 69 eGHeld w4.2.2.2.2.2.2.2.1), (uO 112 eGData w4.2.2.2.2.2.2.2.2.1), (uO 113 eGComing w4.2.2.2.2.2.2.2.2.2.1), (uO 86 eGPost w4.2.2.2.2.2.2.2.2.2.2)] <| b14 512 <| sq 704 [u0, (uO 66 eGDid w3.2.2.2.2.2.2.2.2.2.2.2)] []
theorem LY (K : Nat) (a1 : GGraph) (a2 : GJob) (w3 : Int × Int × Int × Int × List Int × List Int × List Int × List GHeld × List GData × List GComing × List GPost × List GDid) : ∀ (k : Nat) (v4 : Int) (v5 : Int) (v6 : Int) (v7 : Int) (v8 : List Int) (v9 : List Int) (v10 : List Int) (v11 : List GHeld) (v12 : List GData) (v13 : List GComing) (v14 : List GPost) (v15 : Int) (r : Int × Int × Int × Int × List Int × List Int × List Int × List GHeld × List GData × List GComing × List GPost), C5 K a1 a2 w3 k v4 v5 v6 v7 v8 v9 v10 v11 v12 v13 v14 v15 = some r → LoopEv E H Cf 2 KX (NY a1 a2 w3 v4 v5 v6 v7 v8 v9 v10 v11 v12 v13 v14 v15) (.exit 2) (Li a1 a2 w3 r) := by
 intro k
 induction k with
 | zero => intro v4 v5 v6 v7 v8 v9 v10 v11 v12 v13 v14 v15 r F; cases F
 | succ k ih =>
  intro v4 v5 v6 v7 v8 v9 v10 v11 v12 v13 v14 v15 r F
  rw [C5] at F
  apply jc F <;> intro h16 F
  apply jn F; intro h17 F
  apply jb F; intro x18 h19 F
  have q24 {l} (z : HA Cf l) := zT h16 <| zT h17 <| zU eGHeld_len h19 5 1 <| z
  apply jc F <;> intro h20 F
  have q25 {l} (z : HA Cf l) := zC4 h20 <| zT h17 <| zC3 h20 <| zU eGHeld_len h19 1 1 <| zC3 h20 <| zi (wadd .i64 v5 1) <| Dh h20 <| z
  apply jc F <;> intro h21 F
  apply jb F; intro r22 h23 F
  exact lN1 (q24 <| q25 <| zT h21 <| zc (PA K (GWorker.mk v4 v5 v6 (GTable.mk v7 v8 v9 v10) v11 v12 v13 v14) a1 a2 v15 _ h23) <| zi (wadd .i64 v15 1) <| z0) (ih _ _ _ _ _ _ _ _ _ _ _ _ _ F)
  exact lN1 (q24 <| q25 <| zF h21 <| zi (wadd .i64 v15 1) <| z0) (ih _ _ _ _ _ _ _ _ _ _ _ _ _ F)
  exact lN1 (q24 <| zD6 h20 <| Ag h20 <| zf1 <| zi (wadd .i64 v15 1) <| z0) (ih _ _ _ _ _ _ _ _ _ _ _ _ _ F)
  apply jr F
  exact lE <| zF h16 <| z0
def F14 (K : Nat) (a1 : GGraph) (a2 : GJob) (a3 : GWorker) (a4 : Int) : Option (GWorker × List GPost × List GDid) :=
 (F30 K a3).bind fun r5 =>
 (F31 K a1 a2).bind fun r6 =>
 bif (ieq r6 0) then
  ((F32 K a4 r5.Until).bind fun r7 =>
  bif r7 then
   ((CZ K a1 a2 r5 K r5.Id r5.Goal r5.Until r5.T.Epoch r5.T.Owners r5.T.Ids r5.T.Incs r5.Held r5.Buf r5.Coming r5.Out [] 0).bind fun w8 =>
   (C5 K a1 a2 w8 K w8.1 w8.2.1 w8.2.2.1 w8.2.2.2.1 w8.2.2.2.2.1 w8.2.2.2.2.2.1 w8.2.2.2.2.2.2.1 w8.2.2.2.2.2.2.2.1 w8.2.2.2.2.2.2.2.2.1 w8.2.2.2.2.2.2.2.2.2.1 w8.2.2.2.2.2.2.2.2.2.2.1 0).bind fun w9 =>
   some ((GWorker.mk w9.1 w9.2.1 w9.2.2.1 (GTable.mk w9.2.2.2.1 w9.2.2.2.2.1 w9.2.2.2.2.2.1 w9.2.2.2.2.2.2.1) w9.2.2.2.2.2.2.2.1 w9.2.2.2.2.2.2.2.2.1 w9.2.2.2.2.2.2.2.2.2.1 []), (w9.2.2.2.2.2.2.2.2.2.2, w8.2.2.2.2.2.2.2.2.2.2.2)))
  else
  some (r5, ([], [])))
 else
 some (r5, ([], []))
theorem KA (K : Nat) (a1 : GGraph) (a2 : GJob) (a3 : GWorker) (a4 : Int) (r : GWorker × List GPost × List GDid) (F : F14 K a1 a2 a3 a4 = some r) : Evt E H 14 [.agg (eGGraph a1), .agg (eGJob a2), .agg (eGWorker a3), .one (i6 a4)] (LA r) := by
 rw [F14] at F
 apply jb F; intro r5 h6 F
 apply jb F; intro r7 h8 F
 have q17 {l} (z : HA Cf l) := zc (Gi K a3 _ h6) <| zl (Cc K a1 a2 _ h8) <| z
 apply jc F <;> intro h9 F
 apply jb F; intro r10 h11 F
 have q18 {l} (z : HA Cf l) := zB4 (ine_t h9) <| zl (LB K a4 r5.Until _ h11) <| AA (ine_t h9) <| z
 apply jc F <;> intro h12 F
 apply jb F; intro w14 h13 F
 apply jb F; intro w16 h15 F
 apply jr F
 exact fpC Cf <| q17 <| q18 <| zF (bnot_t h12) <| zi (nl r5.Held) <| zo (Oq K a1 a2 r5 K r5.Id r5.Goal r5.Until r5.T.Epoch r5.T.Owners r5.T.Ids r5.T.Incs r5.Held r5.Buf r5.Coming r5.Out [] 0 _ h13) <| zi (nl w14.2.2.2.2.2.2.2.1) <| zo (LY K a1 a2 w14 K w14.1 w14.2.1 w14.2.2.1 w14.2.2.2.1 w14.2.2.2.2.1 w14.2.2.2.2.2.1 w14.2.2.2.2.2.2.1 w14.2.2.2.2.2.2.2.1 w14.2.2.2.2.2.2.2.2.1 w14.2.2.2.2.2.2.2.2.2.1 w14.2.2.2.2.2.2.2.2.2.2.1 0 _ h15) <| z0
 apply jr F
 exact fpC Cf <| q17 <| q18 <| zT (bnot_f h12) <| z0
 apply jr F
 exact fpC Cf <| q17 <| AQ (ine_f h9) <| zr1 <| z0
def Ix : Hint := { H 22 with nt := 13, prot := 0, kp := 0 }
def Pz (r1 : GWorker) : Res := ⟨[(.agg (wl0 r1))], []⟩
def F22 (K : Nat) (a1 : GWorker) (a2 : Int) : Option (GWorker) :=
 (F30 K a1).bind fun r3 =>
 bif (ilt r3.Until a2) then
  (some (GWorker.mk r3.Id r3.Goal a2 r3.T r3.Held r3.Buf r3.Coming r3.Out))
 else
 some r3
theorem M6 (K : Nat) (a1 : GWorker) (a2 : Int) (r : GWorker) (F : F22 K a1 a2 = some r) : Evt E H 22 [.agg (eGWorker a1), .one (i6 a2)] (Pz r) := by
 rw [F22] at F
 apply jb F; intro r3 h4 F
 apply jc F <;> intro h5 F
 apply jr F
 exact fpC Ix <| zc (Gi K a1 _ h4) <| zT (igt_eq h5) <| z0
 apply jr F
 exact fpC Ix <| zc (Gi K a1 _ h4) <| zF (igt_eq h5) <| z0
def G0 : Hint := { H 13 with nt := 36, prot := 0, kp := 0 }
def M7 (r1 : GWorker × List GPost × List GDid) : Res := ⟨[(.agg (wl0 r1.1)), (.one (.own 86 (sE eGPost r1.2.1))), (.one (.own 66 (sE eGDid r1.2.2)))], []⟩
def F13 (K : Nat) (a45 : GGraph) (a46 : GJob) (a47 : GWorker) (a48 : GAct) : Option (GWorker × List GPost × List GDid) :=
 bif (ieq a48.Kind 0) then
  ((F18 K a45 a46 a47 a48.M).bind fun r1 =>
  some (r1, ([], [])))
 else
 bif (ieq a48.Kind 1) then
  ((F14 K a45 a46 a47 a48.N).bind fun r2 =>
  some (r2.1, (r2.2.1, r2.2.2)))
 else
 (F22 K a47 a48.N).bind fun r3 =>
 some (r3, ([], []))
theorem O0 (K : Nat) (a45 : GGraph) (a46 : GJob) (a47 : GWorker) (a48 : GAct) (r : GWorker × List GPost × List GDid) (F : F13 K a45 a46 a47 a48 = some r) : Evt E H 13 [.agg (eGGraph a45), .agg (eGJob a46), .agg (eGWorker a47), .agg (eGAct a48)] (M7 r) := by
 rw [F13] at F
 apply jc F <;> intro h49 F
 apply jb F; intro r1 h2 F
 apply jr F
 exact fpC G0 <| zT h49 <| zc (Hm K a45 a46 a47 a48.M _ h2) <| z0
 apply jc F <;> intro h3 F
 apply jb F; intro r4 h5 F
 apply jr F
 exact fpC G0 <| zF h49 <| zT h3 <| zc (KA K a45 a46 a47 a48.N _ h5) <| z0
 apply jb F; intro r6 h7 F
 apply jr F
 exact fpC G0 <| zF h49 <| zF h3 <| zc (M6 K a47 a48.N _ h7) <| z0
def LH : Hint := { H 27 with nt := 30, prot := 0, kp := 0 }
def K0 (r1 : GMail) : Res := ⟨[(.agg [(mI r1.Kind), (mI r1.Epoch), (mI r1.Fresh), (mI r1.Step), (mI r1.P), (mI r1.Q), (mI r1.To), (mI r1.E), (mS e6 r1.Owners), (mS e6 r1.Ids), (mS e6 r1.Incs), (mI r1.X.P), (mI r1.X.Step), (mS e6 r1.X.Vals), (mS eBool r1.X.Rest), (mS eGMsg r1.X.In), (mS eGMsg r1.Msgs)])], []⟩
def F27 (K : Nat) (a1 : GMail) : Option (GMail) :=
 some a1
theorem Nd (K : Nat) (a1 : GMail) (r : GMail) (F : F27 K a1 = some r) : Evt E H 27 [.agg (eGMail a1)] (K0 r) := by
 rw [F27] at F
 apply jr F
 exact fpC LH <| z0
def Kp : Hint := { H 38 with nt := 32, prot := 0, kp := 0 }
def Py : Code := loopOf E 38 0
def Pb (r1 : List GPost153) : Res := ⟨[(.one (.own 154 (sE eGPost153 r1)))], []⟩
def Em (K : Nat) (a1 : List GPost) : Nat → List GPost153 → Int → Option (List GPost153)
 | 0, _, _ => none
 | k + 1, v2, v3 =>
  bif (ilt v3 (nlen (len a1))) then
   (bif (inr v3 (len a1)) then
   (elAt a1 v3).bind fun x4 =>
   (F27 K x4.M).bind fun r5 =>
   bif (apok (len v2) 1 264) then
   Em K a1 k (appL v2 [(GPost153.mk x4.To x4.Inc r5)]) (wadd .i64 v3 1)
   else none
   else none)
  else
  some v2
def Lh (a1 : List GPost) (v2 : List GPost153) (v3 : Int) : TS := .on (kq 0 2 <| kq 192 2 <| kq 256 2 <| []) <| sq 0 [u0, (uS eGPost a1)] <| sq 192 [u0, (uO 154 eGPost153 v2)] <| sq 256 [u0, (uI v3)] []
def L4 (a1 : List GPost) (w2 : List GPost153) : TS := .on (kq 192 2 <| []) <| sq 192 [u0, (uO 154 eGPost153 w2)] []
theorem ON (K : Nat) (a1 : List GPost) : ∀ (k : Nat) (v2 : List GPost153) (v3 : Int) (r : List GPost153), Em K a1 k v2 v3 = some r → LoopEv E H Kp 0 Py (Lh a1 v2 v3) (.exit 0) (L4 a1 r) := by
 intro k
 induction k with
 | zero => intro v2 v3 r F; cases F
 | succ k ih =>
  intro v2 v3 r F
  rw [Em] at F
  apply jc F <;> intro h4 F
  apply jn F; intro h5 F
  apply jb F; intro x6 h7 F
  apply jb F; intro r8 h9 F
  apply jn F; intro h10 F
  exact lN1 (zi (nl a1) <| zT h4 <| zT h5 <| zU eGPost_len h7 0 1 <| zT h5 <| zU eGPost_len h7 1 1 <| zT h5 <| zU eGPost_len h7 2 17 <| zc (Nd K x6.M _ h9) <| zX (tt (leqm [(i6 x6.To), (i6 x6.Inc), (i6 r8.Kind), (i6 r8.Epoch), (i6 r8.Fresh), (i6 r8.Step), (i6 r8.P), (i6 r8.Q), (i6 r8.To), (i6 r8.E), (sE e6 r8.Owners), (sE e6 r8.Ids), (sE e6 r8.Incs), (i6 r8.X.P), (i6 r8.X.Step), (sE e6 r8.X.Vals), (sE eBool r8.X.Rest), (sE eGMsg r8.X.In), (sE eGMsg r8.Msgs)] 1 19)) rfl <| zT h10 <| zV (app_ok (enc := eGPost153) (v2 : List GPost153) [(GPost153.mk x6.To x6.Inc r8)]) <| zi (wadd .i64 v3 1) <| z0) (ih _ _ _ F)
  apply jr F
  exact lE <| zi (nl a1) <| zF h4 <| z0
def F38 (K : Nat) (a1 : List GPost) : Option (List GPost153) :=
 (Em K a1 K [] 0).bind fun w2 =>
 some w2
theorem NF (K : Nat) (a1 : List GPost) (r : List GPost153) (F : F38 K a1 = some r) : Evt E H 38 [.one (sE eGPost a1)] (Pb r) := by
 rw [F38] at F
 apply jb F; intro w3 h2 F
 apply jr F
 exact fpC Kp <| zo (ON K a1 K [] 0 _ h2) <| z0
def F5 : Hint := { H 16 with nt := 116, prot := 0, kp := 0 }
def Lr : Code := loopOf E 16 0
def NO : Code := loopOf E 16 1
def KV : Code := loopOf E 16 2
def Mw (r1 : GWorker60) : Res := ⟨[(.agg [(mI r1.Id), (mI r1.Goal), (mI r1.Until), (mI r1.T.Epoch), (mS e6 r1.T.Owners), (mS e6 r1.T.Ids), (mS e6 r1.T.Incs), (.own 105 (sE eGHeld r1.Held)), (.own 107 (sE eGData r1.Buf)), (.own 110 (sE eGComing r1.Coming)), (.own 154 (sE eGPost153 r1.Out))])], []⟩
def Ef (K : Nat) (a1 : GWorker) (r2 : List GPost153) : Nat → List GHeld → Int → Option (List GHeld)
 | 0, _, _ => none
 | k + 1, v3, v4 =>
  bif (ilt v4 (nlen (len a1.Held))) then
   (bif (inr v4 (len a1.Held)) then
   (elAt a1.Held v4).bind fun x5 =>
   bif (apok (len v3) 1 96) then
   Ef K a1 r2 k (appL v3 [x5]) (wadd .i64 v4 1)
   else none
   else none)
  else
  some v3
def Qw (a1 : GWorker) (r2 : List GPost153) (v3 : List GHeld) (v4 : Int) : TS := .on (kq 64 12 <| kq 128 12 <| kq 192 12 <| kq 256 2 <| []) <| b12 64 a1 <| b8 128 <| sq 192 [(uX 61 11), (uI a1.Id), (uI a1.Goal), (uI a1.Until), (uI a1.T.Epoch), (uS e6 a1.T.Owners), (uS e6 a1.T.Ids), (uS e6 a1.T.Incs), (uO 105 eGHeld v3), (uN 107), (uN 110), (uO 154 eGPost153 r2)] <| sq 256 [u0, (uI v4)] []
def OC (a1 : GWorker) (r2 : List GPost153) (w3 : List GHeld) : TS := .on (kq 64 12 <| kq 128 12 <| kq 192 12 <| []) <| b12 64 a1 <| b8 128 <| sq 192 [(uX 61 11), (uI a1.Id), (uI a1.Goal), (uI a1.Until), (uI a1.T.Epoch), (uS e6 a1.T.Owners), (uS e6 a1.T.Ids), (uS e6 a1.T.Incs), (uO 105 eGHeld w3), (uN 107), (uN 110), (uO 154 eGPost153 r2)] []
theorem PZ (K : Nat) (a1 : GWorker) (r2 : List GPost153) : ∀ (k : Nat) (v3 : List GHeld) (v4 : Int) (r : List GHeld), Ef K a1 r2 k v3 v4 = some r → LoopEv E H F5 0 Lr (Qw a1 r2 v3 v4) (.exit 0) (OC a1 r2 r) := by
 intro k
 induction k with
 | zero => intro v3 v4 r F; cases F
 | succ k ih =>
  intro v3 v4 r F
  rw [Ef] at F
  apply jc F <;> intro h5 F
  apply jn F; intro h6 F
  apply jb F; intro x7 h8 F
  apply jn F; intro h9 F
  exact lN1 (zi (nl a1.Held) <| zT h5 <| zT h6 <| zU eGHeld_len h8 0 5 <| zT h6 <| zU eGHeld_len h8 5 1 <| zT h6 <| zU eGHeld_len h8 6 1 <| zX (tt (leqm [(i6 x7.X.P), (i6 x7.X.Step), (sE e6 x7.X.Vals), (sE eBool x7.X.Rest), (sE eGMsg x7.X.In), (.lit (.bool x7.Wait)), (.lit (.bool x7.Given))] 1 7)) rfl <| zT h9 <| zV (app_ok (enc := eGHeld) (v3 : List GHeld) [x7]) <| zi (wadd .i64 v4 1) <| z0) (ih _ _ _ F)
  apply jr F
  exact lE <| zi (nl a1.Held) <| zF h5 <| z0
def EX (K : Nat) (a1 : GWorker) (r2 : List GPost153) (w3 : List GHeld) : Nat → List GData → Int → Option (List GData)
 | 0, _, _ => none
 | k + 1, v4, v5 =>
  bif (ilt v5 (nlen (len a1.Buf))) then
   (bif (inr v5 (len a1.Buf)) then
   (elAt a1.Buf v5).bind fun x6 =>
   bif (apok (len v4) 1 56) then
   EX K a1 r2 w3 k (appL v4 [x6]) (wadd .i64 v5 1)
   else none
   else none)
  else
  some v4
def MQ (a1 : GWorker) (r2 : List GPost153) (w3 : List GHeld) (v4 : List GData) (v5 : Int) : TS := .on (kq 64 12 <| kq 128 12 <| kq 192 12 <| kq 320 2 <| []) <| b12 64 a1 <| b8 128 <| sq 192 [(uX 61 11), (uI a1.Id), (uI a1.Goal), (uI a1.Until), (uI a1.T.Epoch), (uS e6 a1.T.Owners), (uS e6 a1.T.Ids), (uS e6 a1.T.Incs), (uO 105 eGHeld w3), (uO 107 eGData v4), (uN 110), (uO 154 eGPost153 r2)] <| sq 320 [u0, (uI v5)] []
def OO (a1 : GWorker) (r2 : List GPost153) (w3 : List GHeld) (w4 : List GData) : TS := .on (kq 64 12 <| kq 128 12 <| kq 192 12 <| []) <| b12 64 a1 <| b8 128 <| sq 192 [(uX 61 11), (uI a1.Id), (uI a1.Goal), (uI a1.Until), (uI a1.T.Epoch), (uS e6 a1.T.Owners), (uS e6 a1.T.Ids), (uS e6 a1.T.Incs), (uO 105 eGHeld w3), (uO 107 eGData w4), (uN 110), (uO 154 eGPost153 r2)] []
theorem Na (K : Nat) (a1 : GWorker) (r2 : List GPost153) (w3 : List GHeld) : ∀ (k : Nat) (v4 : List GData) (v5 : Int) (r : List GData), EX K a1 r2 w3 k v4 v5 = some r → LoopEv E H F5 2 NO (MQ a1 r2 w3 v4 v5) (.exit 2) (OO a1 r2 w3 r) := by
 intro k
 induction k with
 | zero => intro v4 v5 r F; cases F
 | succ k ih =>
  intro v4 v5 r F
  rw [EX] at F
  apply jc F <;> intro h6 F
  apply jn F; intro h7 F
  apply jb F; intro x8 h9 F
  apply jn F; intro h10 F
  exact lN1 (zi (nl a1.Buf) <| zT h6 <| zT h7 <| zS eGData_len h9 5 <| zX (tt (leqm [(i6 x8.Epoch), (i6 x8.Step), (i6 x8.Q), (i6 x8.P), (sE eGMsg x8.Msgs)] 1 5)) rfl <| zT h10 <| zV (app_ok (enc := eGData) (v4 : List GData) [x8]) <| zi (wadd .i64 v5 1) <| z0) (ih _ _ _ F)
  apply jr F
  exact lE <| zi (nl a1.Buf) <| zF h6 <| z0
def EW (K : Nat) (a1 : GWorker) (r2 : List GPost153) (w3 : List GHeld) (w4 : List GData) : Nat → List GComing → Int → Option (List GComing)
 | 0, _, _ => none
 | k + 1, v5, v6 =>
  bif (ilt v6 (nlen (len a1.Coming))) then
   (bif (inr v6 (len a1.Coming)) then
   (elAt a1.Coming v6).bind fun x7 =>
   bif (apok (len v5) 1 96) then
   EW K a1 r2 w3 w4 k (appL v5 [x7]) (wadd .i64 v6 1)
   else none
   else none)
  else
  some v5
def Nj (a1 : GWorker) (r2 : List GPost153) (w3 : List GHeld) (w4 : List GData) (v5 : List GComing) (v6 : Int) : TS := .on (kq 64 12 <| kq 128 12 <| kq 192 12 <| kq 448 2 <| []) <| b12 64 a1 <| b8 128 <| sq 192 [(uX 61 11), (uI a1.Id), (uI a1.Goal), (uI a1.Until), (uI a1.T.Epoch), (uS e6 a1.T.Owners), (uS e6 a1.T.Ids), (uS e6 a1.T.Incs), (uO 105 eGHeld w3), (uO 107 eGData w4), (uO 110 eGComing v5), (uO 154 eGPost153 r2)] <| sq 448 [u0, (uI v6)] []
def Oo (a1 : GWorker) (r2 : List GPost153) (w3 : List GHeld) (w4 : List GData) (w5 : List GComing) : TS := .on (kq 128 12 <| kq 192 12 <| []) <| b8 128 <| sq 192 [(uX 61 11), (uI a1.Id), (uI a1.Goal), (uI a1.Until), (uI a1.T.Epoch), (uS e6 a1.T.Owners), (uS e6 a1.T.Ids), (uS e6 a1.T.Incs), (uO 105 eGHeld w3), (uO 107 eGData w4), (uO 110 eGComing w5), (uO 154 eGPost153 r2)] []
theorem PE (K : Nat) (a1 : GWorker) (r2 : List GPost153) (w3 : List GHeld) (w4 : List GData) : ∀ (k : Nat) (v5 : List GComing) (v6 : Int) (r : List GComing), EW K a1 r2 w3 w4 k v5 v6 = some r → LoopEv E H F5 4 KV (Nj a1 r2 w3 w4 v5 v6) (.exit 4) (Oo a1 r2 w3 w4 r) := by
 intro k
 induction k with
 | zero => intro v5 v6 r F; cases F
 | succ k ih =>
  intro v5 v6 r F
  rw [EW] at F
  apply jc F <;> intro h7 F
  apply jn F; intro h8 F
  apply jb F; intro x9 h10 F
  apply jn F; intro h11 F
  exact lN1 (zi (nl a1.Coming) <| zT h7 <| zT h8 <| zU eGComing_len h10 0 1 <| zT h8 <| zU eGComing_len h10 1 5 <| zX (tt (leqm [(i6 x9.Epoch), (i6 x9.X.P), (i6 x9.X.Step), (sE e6 x9.X.Vals), (sE eBool x9.X.Rest), (sE eGMsg x9.X.In)] 1 6)) rfl <| zT h11 <| zV (app_ok (enc := eGComing) (v5 : List GComing) [x9]) <| zi (wadd .i64 v6 1) <| z0) (ih _ _ _ F)
  apply jr F
  exact lE <| zi (nl a1.Coming) <| zF h7 <| z0
def F16 (K : Nat) (a1 : GWorker) : Option (GWorker60) :=
 (F38 K a1.Out).bind fun r2 =>
 (Ef K a1 r2 K [] 0).bind fun w3 =>
 (EX K a1 r2 w3 K [] 0).bind fun w4 =>
 (EW K a1 r2 w3 w4 K [] 0).bind fun w5 =>
 some (GWorker60.mk a1.Id a1.Goal a1.Until a1.T w3 w4 w5 r2)
end
end Go.Proofs.Ytbaihlhoedbpkaa.Tm

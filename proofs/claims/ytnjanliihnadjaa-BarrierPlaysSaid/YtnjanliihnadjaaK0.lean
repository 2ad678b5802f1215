/- The tree machine: definitions. A pure interpreter over the loaded program's Code; slices are trees, ownership is checked while it runs. Conditions: none; nothing is proved here. -/
import Derived.Calls
namespace Go.Proofs.Ytnjanliihnadjaa.Tm

/-- What one cell reads as: a value without memory, or a slice of n elements, its cells one behind the other. -/
inductive T where
  | lit (v : Value)
  | sl (n : Nat) (cs : List T)

/-- What is kept under a key. Key of slot s: s*64 (how its value is made), s*64+1 .. (its cells). -/
inductive K where
  | dead | one | agg (n : Nat) | box (e : TypeId) (n : Nat) | tup (sh : List Nat)
  | ad (s ver off : Nat) | el (p ver : Nat) | ai
  | im | own (e : TypeId) | vw (p ver : Nat) | und

structure Ent where
  k : K
  ver : Nat
  t : T

def nob : T := .lit (.tuple #[])
def Ent.no : Ent := ⟨.dead, 0, nob⟩

/-- A state: which keys are there (as bits), and what they hold, the newest first. -/
structure TS where
  m : Nat
  l : List (Nat × Ent)

def hasBit (m k : Nat) : Bool := Nat.beq (Nat.land (Nat.shiftRight m k) 1) 1
def setBit (m k : Nat) : Nat := Nat.lor m (Nat.shiftLeft 1 k)

/-- Written by the recursor: the kernel reckons with it. -/
noncomputable def walk (l : List (Nat × Ent)) : Nat → Ent :=
  List.rec (motive := fun _ => Nat → Ent) (fun _ => Ent.no) (fun x _ ih k => Bool.rec (motive := fun _ => Ent) (ih k) x.2 (Nat.beq x.1 k)) l

noncomputable def TS.get (ts : TS) (k : Nat) : Ent := Bool.rec (motive := fun _ => Ent) Ent.no (walk ts.l k) (hasBit ts.m k)

def TS.put (ts : TS) (k : Nat) (e : Ent) : TS := ⟨setBit ts.m k, (k, e) :: ts.l⟩

def maskOf : List (Nat × Ent) → Nat
  | [] => 0
  | (k, _) :: r => setBit (maskOf r) k

def TS.of (l : List (Nat × Ent)) : TS := ⟨maskOf l, l⟩

def key (s o : Nat) : Nat := Nat.add (Nat.mul s 64) o

/-- A cell, as an operand finds it: immutable; a slice of the call's own that lives at key p; a fresh one; the nil slice. -/
inductive CV where
  | im (t : T) | ref (p ver : Nat) (e : TypeId) (t : T) | new (e : TypeId) (t : T) | nil

inductive D where
  | one (c : CV) | agg (cs : List CV) | tup (sh : List Nat) (cs : List CV)
  | ad (s ver off : Nat) | el (p ver idx : Nat) | ai (idx : Nat) (cs : List T)

/-- A cell that is handed over. -/
inductive RC where
  | im (t : T) | own (e : TypeId) (t : T) | nil

inductive RV where
  | one (c : RC) | agg (cs : List RC)

structure Res where
  vals : List RV
  boxes : List (List RC)

inductive AD where
  | one (t : T) | agg (ts : List T) | box (e : TypeId) (cs : List RC)

inductive Out where
  | unit | bool (b : Bool) | res (r : Res)

inductive Prog where
  | ret (a : Out)
  | fail
  | get (k : Nat) (f : Ent → Prog)
  | put (k : Nat) (e : Ent) (c : Prog)
  | test (b : Bool) (f : Bool → Prog)
  | sub (cs : List T) (idx n : Nat) (f : List T → Prog)
  | int (v : Int) (f : Int → Prog)
  | sl (n : Nat) (cs : List T) (f : Nat → List T → Prog)
  | call (g : FuncId) (args : List AD) (f : Res → Prog)

/-- An operation: handed what follows. -/
def C (α : Type) : Type := (α → Prog) → Prog

instance : Monad C where
  pure a := fun k => k a
  bind x f := fun k => x fun a => f a k

namespace C
def fail {α : Type} : C α := fun _ => .fail
def get (i : Nat) : C Ent := fun k => .get i k
def put (i : Nat) (e : Ent) : C Unit := fun k => .put i e (k ())
def test (b : Bool) : C Bool := fun k => .test b k
def sub (cs : List T) (i n : Nat) : C (List T) := fun k => .sub cs i n k
def int (v : Int) : C Int := fun k => .int v k
def sl (n : Nat) (cs : List T) : C (Nat × List T) := fun k => .sl n cs fun n cs => k (n, cs)
def call (g : FuncId) (as : List AD) : C Res := fun k => .call g as k
end C

/-! ### To have what is reckoned written out before it goes on (the kernel is lazy): each 'force' hands on the very thing. -/
def fNat {α : Type} (n : Nat) (f : Nat → α) : α := match n with
  | 0 => f 0
  | m + 1 => f (m + 1)
def fInt {α : Type} (n : Int) (f : Int → α) : α := match n with
  | .ofNat m => fNat m fun m => f (.ofNat m)
  | .negSucc m => fNat m fun m => f (.negSucc m)
def fBool {α : Type} (b : Bool) (f : Bool → α) : α := match b with
  | true => f true
  | false => f false
def fNats {α : Type} : List Nat → (List Nat → α) → α
  | [], f => f []
  | n :: r, f => fNat n fun n => fNats r fun r => f (n :: r)
def fKind {α : Type} (k : IntKind) (f : IntKind → α) : α := match k with
  | .i8 => f .i8 | .i16 => f .i16 | .i32 => f .i32 | .i64 => f .i64 | .u8 => f .u8 | .u16 => f .u16 | .u32 => f .u32 | .u64 => f .u64
def fByteL {α : Type} : List UInt8 → (List UInt8 → α) → α
  | [], f => f []
  | b :: r, f => fNat b.toNat fun n => fByteL r fun r => f (UInt8.ofNat n :: r)
def fVal {α : Type} (v : Value) (f : Value → α) : α := match v with
  | .int k n => fKind k fun k => fInt n fun n => f (.int k n)
  | .bool b => fBool b fun b => f (.bool b)
  | .string s => fByteL s.data.toList fun l => f (.string ⟨l.toArray⟩)
  | v => f v
def fT1 {α : Type} (t : T) (f : T → α) : α := match t with
  | .lit v => fVal v fun v => f (.lit v)
  | .sl n cs => fNat n fun n => f (.sl n cs)
def fTs {α : Type} : List T → (List T → α) → α
  | [], f => f []
  | t :: r, f => fT1 t fun t => fTs r fun r => f (t :: r)
def fT {α : Type} (t : T) (f : T → α) : α := match t with
  | .lit v => fVal v fun v => f (.lit v)
  | .sl n cs => fNat n fun n => fTs cs fun cs => f (.sl n cs)
def fK {α : Type} (k : K) (f : K → α) : α := match k with
  | .dead => f .dead
  | .one => f .one
  | .agg n => fNat n fun n => f (.agg n)
  | .box e n => fNat e fun e => fNat n fun n => f (.box e n)
  | .tup sh => fNats sh fun sh => f (.tup sh)
  | .ad s v o => fNat s fun s => fNat v fun v => fNat o fun o => f (.ad s v o)
  | .el p v => fNat p fun p => fNat v fun v => f (.el p v)
  | .ai => f .ai
  | .im => f .im
  | .und => f .und
  | .own e => fNat e fun e => f (.own e)
  | .vw p v => fNat p fun p => fNat v fun v => f (.vw p v)
def fEnt {α : Type} (e : Ent) (f : Ent → α) : α := fK e.k fun k => fNat e.ver fun v => fT e.t fun t => f ⟨k, v, t⟩
def fL {α : Type} : List (Nat × Ent) → (List (Nat × Ent) → α) → α
  | [], f => f []
  | (k, e) :: r, f => fNat k fun k => fEnt e fun e => fL r fun r => f ((k, e) :: r)
def fTS {α : Type} (ts : TS) (f : TS → α) : α := fL ts.l fun l => fNat ts.m fun m => f ⟨m, l⟩

/-- The run: answer, state, the keys that were read, the keys that were written (sets of numbers, as bits). -/
noncomputable def Prog.run (callF : FuncId → List AD → Option Res) (p : Prog) : TS → Nat → Nat → Option (Out × TS × Nat × Nat) :=
  Prog.rec (motive := fun _ => TS → Nat → Nat → Option (Out × TS × Nat × Nat))
    (fun a ts R W => some (a, ts, R, W))
    (fun _ _ _ => none)
    (fun k _ ih ts R W => ih (ts.get k) ts (setBit R k) W)
    (fun k e _ ih ts R W => fEnt e fun e => fNat (setBit ts.m k) fun m => ih ⟨m, (k, e) :: ts.l⟩ R (setBit W k))
    (fun b _ ih ts R W => fBool b fun b => ih b ts R W)
    (fun cs i n _ ih ts R W => (fun r => Bool.rec (motive := fun _ => Option (Out × TS × Nat × Nat)) none (ih r ts R W) (Nat.beq r.length n)) ((cs.drop i).take n))
    (fun v _ ih ts R W => fInt v fun v => ih v ts R W)
    (fun n cs _ ih ts R W => fNat n fun n => ih n cs ts R W)
    (fun g as _ ih ts R W => Option.rec (motive := fun _ => Option (Out × TS × Nat × Nat)) none (fun r => ih r ts R W) (callF g as))
    p

/-! ### Types and functions: tables, held against the program elsewhere -/
structure Ty where
  d : TypeDesc
  size : Nat
  bytes : Nat
  zero : List Value
  leaf : List (Option TypeId)
  nil : Option TypeId

structure Env where
  tys : List (Nat × Ty)
  fns : List (Nat × Func)
  eqs : List Nat

def lookT : List (Nat × Ty) → Nat → Option Ty
  | [], _ => none
  | (j, y) :: r, k => bif Nat.beq j k then some y else lookT r k

def lookF : List (Nat × Func) → Nat → Option Func
  | [], _ => none
  | (j, y) :: r, k => bif Nat.beq j k then some y else lookF r k

def isAggD : TypeDesc → Bool
  | .struct _ => true
  | .array _ _ => true
  | _ => false

def tinfo (E : Env) (t : TypeId) : C Ty := match lookT E.tys t with | some i => fun k => k i | none => C.fail
def tdesc (E : Env) (t : TypeId) : C TypeDesc := match lookT E.tys t with | some i => fun k => k i.d | none => C.fail
def tagg (E : Env) (t : TypeId) : C Bool := match lookT E.tys t with | some i => fun k => k (isAggD i.d) | none => C.fail
def tsize (E : Env) (t : TypeId) : C Nat := match lookT E.tys t with | some i => fun k => k i.size | none => C.fail
def tslice (E : Env) (t : TypeId) : C TypeId := match lookT E.tys t with
  | some i => match i.d with
    | .slice e => fun k => k e
    | _ => C.fail
  | none => C.fail

/-- The types of a value's cells: where a cell is a slice, its elements' type. -/
def leaves (E : Env) (t : TypeId) : List (Option TypeId) := match lookT E.tys t with | some i => i.leaf | none => []

/-- The kind under which the nil slice is kept. -/
def nilOf : Option TypeId → K
  | some e => .own e
  | none => .im
def nilE (E : Env) (t : TypeId) : Option TypeId := match lookT E.tys t with | some i => i.nil | none => none

/-! ### Cells -/
def cell (k : Nat) : C CV := C.get k >>= fun e => match e.k with
  | .im => pure (.im e.t)
  | .own ty => pure (.ref k e.ver ty e.t)
  | .vw p v => C.get p >>= fun q => bif Nat.beq q.ver v then (match q.k with | .own ty => pure (.ref p v ty q.t) | .im => pure (.im q.t) | _ => C.fail) else C.fail
  | _ => C.fail

def cells (s : Nat) : Nat → Nat → C (List CV)
  | _, 0 => fun k => k []
  | o, n + 1 => fun k => cell (key s o) fun c => cells s (Nat.succ o) n fun r => k (c :: r)

def isBox : K → Bool
  | .box _ _ => true
  | _ => false

def shLen : List Nat → Nat
  | [] => 0
  | 0 :: r => 1 + shLen r
  | (n + 1) :: r => n + shLen r

def slotD (s : Nat) : C D := C.get (key s 0) >>= fun e => match e.k with
  | .one => do let c ← cell (key s 1); pure (.one c)
  | .agg n => do let cs ← cells s 1 n; pure (.agg cs)
  | .tup sh => do let cs ← cells s 1 (shLen sh); pure (.tup sh cs)
  | .box _ _ => pure (.ad s e.ver 0)
  | .ad s' v o => C.get (key s' 0) >>= fun b => bif Nat.beq b.ver v && isBox b.k then pure (.ad s' v o) else C.fail
  | .el p v => C.get p >>= fun q => match q.k, e.t with
    | .own _, .sl i _ => bif Nat.beq q.ver v then pure (.el p v i) else C.fail
    | _, _ => C.fail
  | .ai => match e.t with | .sl i cs => pure (.ai i cs) | _ => C.fail
  | _ => C.fail

/-- A zero value's cell. -/
def zeroT : Value → T
  | .slice none 0 0 => .sl 0 []
  | v => .lit v

def zeroCV : Value → CV
  | .slice none 0 0 => .nil
  | v => .im (.lit v)

def isOne : Value → Bool
  | .agg _ => false
  | .tuple _ => false
  | _ => true

def constD : Value → C D
  | .slice none 0 0 => fun k => k (.one .nil)
  | .bool b => fun k => k (.one (.im (.lit (.bool b))))
  | .int t n => fun k => k (.one (.im (.lit (.int t n))))
  | .string s => fun k => k (.one (.im (.lit (.string s))))
  | .nilFunc => fun k => k (.one (.im (.lit .nilFunc)))
  | .agg cs => bif cs.toList.all isOne then (fun k => k (.agg (cs.toList.map zeroCV))) else C.fail
  | _ => C.fail

def opd : Operand → C D
  | .tmp s => slotD s
  | .const v => constD v
  | .func f => pure (.one (.im (.lit (.func (.func f) #[] #[]))))
  | .global _ => C.fail

/-- New content under a key: whoever looked at the old one looks no more. -/
def bump (i : Nat) (kk : K) (t : T) : C Unit := fun k => .get i fun e => .put i ⟨kk, Nat.succ e.ver, t⟩ (k ())

/-- A cell into a slot that only looks. -/
def look (k : Nat) (ty : Option TypeId) : CV → C Unit
  | .im t => bump k .im t
  | .ref p v _ _ => bump k (.vw p v) nob
  | .new e t => bump k (.own e) t
  | .nil => bump k (nilOf ty) (.sl 0 [])

def hd : List (Option TypeId) → Option TypeId
  | [] => none
  | x :: _ => x

def looks (s : Nat) : Nat → List (Option TypeId) → List CV → C Unit
  | _, _, [] => fun k => k ()
  | o, tys, c :: cs => fun k => look (key s o) (hd tys) c fun _ => looks s (Nat.succ o) tys.tail cs k

def setD (E : Env) (d : Nat) (ty : TypeId) : D → C Unit
  | .one c => fun k => bump (key d 0) .one nob fun _ => look (key d 1) (nilE E ty) c k
  | .agg cs => bif Nat.ble cs.length 62 then (fun k => bump (key d 0) (.agg cs.length) nob fun _ => looks d 1 (leaves E ty) cs k) else C.fail
  | .tup sh cs => bif Nat.ble cs.length 62 && Nat.beq cs.length (shLen sh) then (fun k => bump (key d 0) (.tup sh) nob fun _ => looks d 1 [] cs k) else C.fail
  | .ad s v o => bump (key d 0) (.ad s v o) nob
  | .el p v i => bump (key d 0) (.el p v) (.sl i [])
  | .ai i cs => bump (key d 0) .ai (.sl i cs)

/-- Does the key still hold what was seen there? -/
def stillOwn (e : Ent) (v : Nat) : Bool := match e.k with
  | .own _ => Nat.beq e.ver v
  | _ => false

/-- The cell is taken away from where it lives. -/
def take : CV → C RC
  | .im t => fun k => k (.im t)
  | .new e t => fun k => k (.own e t)
  | .nil => fun k => k .nil
  | .ref p v ty t => fun k => .get p fun e => bif stillOwn e v then .put p ⟨.dead, Nat.succ e.ver, nob⟩ (k (.own ty t)) else .fail

/-- The cell stays, and is never written again. -/
def freeze : CV → C T
  | .im t => fun k => k t
  | .new _ t => fun k => k t
  | .nil => fun k => k (.sl 0 [])
  | .ref p v _ t => fun k => .get p fun e => bif stillOwn e v then .put p ⟨.im, e.ver, t⟩ (k t) else .fail

def freezes : List CV → C (List T)
  | [] => fun k => k []
  | c :: cs => fun k => freeze c fun t => freezes cs fun r => k (t :: r)

def takes : List CV → C (List RC)
  | [] => fun k => k []
  | c :: cs => fun k => take c fun t => takes cs fun r => k (t :: r)

def putRC (k : Nat) (ty : Option TypeId) : RC → C Unit
  | .im t => bump k .im t
  | .own e t => bump k (.own e) t
  | .nil => bump k (nilOf ty) (.sl 0 [])

def putRCs (s : Nat) : Nat → List (Option TypeId) → List RC → C Unit
  | _, _, [] => fun k => k ()
  | o, tys, c :: cs => fun k => putRC (key s o) (hd tys) c fun _ => putRCs s (Nat.succ o) tys.tail cs k

/-- To read: the content, wherever it lives. -/
def peek : CV → T
  | .im t => t
  | .new _ t => t
  | .ref _ _ _ t => t
  | .nil => .sl 0 []

def cvs : D → C (List CV)
  | .one c => pure [c]
  | .agg cs => pure cs
  | _ => C.fail

/-! ### What is done with data (in the dev build these are symbols) -/
-- OPS
abbrev wadd (k : IntKind) (a b : Int) : Int := k.wrap (a + b)
abbrev wsub (k : IntKind) (a b : Int) : Int := k.wrap (a - b)
abbrev wmul (k : IntKind) (a b : Int) : Int := k.wrap (a * b)
abbrev wquo (k : IntKind) (a b : Int) : Int := k.wrap (a.tdiv b)
abbrev wrem (a b : Int) : Int := a.tmod b
abbrev wand (k : IntKind) (a b : Int) : Int := k.wrap (BitVec.ofInt k.bits a &&& BitVec.ofInt k.bits b).toNat
abbrev wor (k : IntKind) (a b : Int) : Int := k.wrap (BitVec.ofInt k.bits a ||| BitVec.ofInt k.bits b).toNat
abbrev wxor (k : IntKind) (a b : Int) : Int := k.wrap (BitVec.ofInt k.bits a ^^^ BitVec.ofInt k.bits b).toNat
abbrev wandn (k : IntKind) (a b : Int) : Int := k.wrap (BitVec.ofInt k.bits a &&& ~~~ BitVec.ofInt k.bits b).toNat
abbrev wneg (k : IntKind) (a : Int) : Int := k.wrap (0 - a)
abbrev wnot (k : IntKind) (a : Int) : Int := k.wrap (BitVec.ofInt k.bits (if k.signed then -1 else k.max) ^^^ BitVec.ofInt k.bits a).toNat
abbrev wshl (k : IntKind) (a b : Int) : Int := k.wrap (a * 2 ^ (min b.toNat k.bits))
abbrev wshr (k : IntKind) (a b : Int) : Int := a.fdiv (2 ^ (min b.toNat k.bits))
abbrev wconv (k : IntKind) (a : Int) : Int := k.wrap a
abbrev ieq (a b : Int) : Bool := a == b
abbrev ine (a b : Int) : Bool := a != b
abbrev ilt (a b : Int) : Bool := decide (a < b)
abbrev ile (a b : Int) : Bool := decide (a ≤ b)
abbrev igt (a b : Int) : Bool := decide (a > b)
abbrev ige (a b : Int) : Bool := decide (a ≥ b)
abbrev izero (a : Int) : Bool := decide (a = 0)
abbrev ineg (a : Int) : Bool := decide (a < 0)
abbrev bnot (b : Bool) : Bool := !b
abbrev band (a b : Bool) : Bool := a && b
abbrev beqb (a b : Bool) : Bool := a == b
abbrev seqs (a b : ByteArray) : Bool := a.toList == b.toList
abbrev slts (a b : ByteArray) : Bool := Op.bytesLess a.toList b.toList
abbrev sles (a b : ByteArray) : Bool := Op.bytesLess a.toList b.toList || a.toList == b.toList
abbrev sapp (a b : ByteArray) : ByteArray := a ++ b
abbrev sbig (a b : ByteArray) : Bool := decide (((a.size + b.size : Nat) : Int) > IntKind.i64.max)
abbrev slen (s : ByteArray) : Int := (s.size : Int)
abbrev sinr (i : Int) (s : ByteArray) : Bool := decide (0 ≤ i ∧ i.toNat < s.size)
abbrev sget (s : ByteArray) (i : Int) : Int := ((s.get! i.toNat).toNat : Int)
abbrev sbnd (l h : Int) (s : ByteArray) : Bool := decide (0 ≤ l ∧ l ≤ h ∧ h ≤ s.size)
abbrev ssub (s : ByteArray) (l h : Int) : ByteArray := s.extract l.toNat h.toNat
abbrev nlen (n : Nat) : Int := (n : Int)
abbrev inr (i : Int) (n : Nat) : Bool := decide (0 ≤ i ∧ i < n)
abbrev bnd (l h : Int) (n : Nat) : Bool := decide (0 ≤ l ∧ l ≤ h ∧ h ≤ n)
abbrev nidx (i : Int) (z : Nat) : Nat := i.toNat * z
abbrev nadd (a b : Nat) : Nat := a + b
abbrev nsub (l h : Int) : Nat := h.toNat - l.toNat
abbrev lsub (cs : List T) (l h : Int) (z : Nat) : List T := (cs.drop (l.toNat * z)).take ((h.toNat - l.toNat) * z)
abbrev mkok (l c : Int) (bytes : Nat) : Bool := decide (l = c ∧ 0 ≤ l ∧ l ≤ 140737488355328 ∧ l * bytes ≤ 140737488355328)
abbrev nint (l : Int) : Nat := l.toNat
abbrev lrep (l : Int) (z : List T) : List T := (List.replicate l.toNat z).flatten
abbrev apok (n m bytes : Nat) : Bool := decide (n + m ≤ 140737488355328 ∧ (n + m) * bytes ≤ 140737488355328)
abbrev lapp (cs xs : List T) : List T := cs ++ xs
abbrev lset (cs : List T) (i : Nat) (ts : List T) : List T := cs.take i ++ ts ++ cs.drop (i + ts.length)
abbrev lfits (i n : Nat) (xs : List T) : Bool := Nat.ble (Nat.add i n) xs.length
abbrev leqm (xs : List T) (m z : Nat) : Bool := Nat.beq xs.length (Nat.mul m z)
abbrev lcopy (xs cs : List T) (m n z : Nat) : List T := xs.take (min m n * z) ++ cs.drop (min m n * z)
abbrev nmin (m n : Nat) : Int := ((min m n : Nat) : Int)
def bytesOf : List T → Option (List UInt8)
  | [] => some []
  | .lit (.int .u8 n) :: r => match bytesOf r with
    | some l => some (UInt8.ofNat n.toNat :: l)
    | none => none
  | _ :: _ => none
abbrev isby (cs : List T) (n : Nat) : Bool := Nat.beq cs.length n && (bytesOf cs).isSome
abbrev bstr (cs : List T) : ByteArray := ⟨((bytesOf cs).getD []).toArray⟩
-- END

/-! ### Values without memory -/
def litOf : D → C Value
  | .one (.im (.lit v)) => pure v
  | _ => C.fail

def lit (v : Value) : C D := pure (.one (.im (.lit v)))

def intR (k : IntKind) (n : Int) : C D := C.int n >>= fun r => pure (.one (.im (.lit (.int k r))))

def intBin (op : BinOp) (k : IntKind) (a b : Int) : C D :=
  match op with
  | .add => intR k (wadd k a b)
  | .sub => intR k (wsub k a b)
  | .mul => intR k (wmul k a b)
  | .quo => C.test (izero b) >>= fun z => bif z then C.fail else intR k (wquo k a b)
  | .rem => C.test (izero b) >>= fun z => bif z then C.fail else intR k (wrem a b)
  | .and => intR k (wand k a b)
  | .or => intR k (wor k a b)
  | .xor => intR k (wxor k a b)
  | .andNot => intR k (wandn k a b)
  | .eql => lit (.bool (ieq a b))
  | .neq => lit (.bool (ine a b))
  | .lss => lit (.bool (ilt a b))
  | .leq => lit (.bool (ile a b))
  | .gtr => lit (.bool (igt a b))
  | .geq => lit (.bool (ige a b))
  | _ => C.fail

def shBin (op : BinOp) (k : IntKind) (a b : Int) : C D :=
  C.test (ineg b) >>= fun z => bif z then C.fail else
  match op with
  | .shl => intR k (wshl k a b)
  | .shr => intR k (wshr k a b)
  | _ => C.fail

def strBin (op : BinOp) (a b : ByteArray) : C D :=
  match op with
  | .add => C.test (sbig a b) >>= fun z => bif z then C.fail else lit (.string (sapp a b))
  | .eql => lit (.bool (seqs a b))
  | .neq => lit (.bool (bnot (seqs a b)))
  | .lss => lit (.bool (slts a b))
  | .leq => lit (.bool (sles a b))
  | .gtr => lit (.bool (bnot (sles a b)))
  | .geq => lit (.bool (bnot (slts a b)))
  | _ => C.fail

/-- Two cells of whole numbers, bools or strings. -/
def eqLit : TypeDesc → Value → Value → Option Bool
  | .int _, .int k a, .int k' b => bif decide (k = k') then some (ieq a b) else none
  | .bool, .bool a, .bool b => some (beqb a b)
  | .string, .string a, .string b => some (seqs a b)
  | _, _, _ => none

/-- Two structs whose fields are whole numbers, bools and strings. -/
def eqFields (E : Env) (xs ys : List CV) : List Field → Option Bool
  | [] => some true
  | f :: fs => match lookT E.tys f.type, xs[f.offset]?, ys[f.offset]? with
    | some i, some (.im (.lit x)), some (.im (.lit y)) => bif f.name != "_" then (match eqLit i.d x y, eqFields E xs ys fs with
      | some b, some r => some (band b r)
      | _, _ => none) else none
    | _, _, _ => none

def eqAgg (E : Env) (t : TypeId) (xs ys : List CV) : Option Bool := match lookT E.tys t with
  | some i => match i.d with
    | .struct fs => bif E.eqs.any (Nat.beq t) then eqFields E xs ys fs.toList else none
    | _ => none
  | none => none

def eqD (E : Env) (t : TypeId) (x y : D) : C Bool :=
  match x, y with
  | .one (.im (.lit (.bool a))), .one (.im (.lit (.bool b))) => (do
    match ← tdesc E t with
    | .bool => pure (beqb a b)
    | _ => C.fail)
  | .one (.im (.lit .nilFunc)), .one (.im (.lit .nilFunc)) => (do
    match ← tdesc E t with
    | .func _ _ _ => pure true
    | _ => C.fail)
  | .one (.im (.lit (.func _ _ _))), .one (.im (.lit .nilFunc)) => (do
    match ← tdesc E t with
    | .func _ _ _ => pure false
    | _ => C.fail)
  | .agg xs, .agg ys => (match eqAgg E t xs ys with | some b => pure b | none => C.fail)
  | _, _ => C.fail

def binD (E : Env) (op : BinOp) (t : TypeId) (x y : D) : C D :=
  match op, x, y with
  | .shl, .one (.im (.lit (.int k a))), .one (.im (.lit (.int _ b))) => shBin .shl k a b
  | .shr, .one (.im (.lit (.int k a))), .one (.im (.lit (.int _ b))) => shBin .shr k a b
  | op, .one (.im (.lit (.int k a))), .one (.im (.lit (.int k' b))) => bif decide (k = k') then intBin op k a b else C.fail
  | op, .one (.im (.lit (.string a))), .one (.im (.lit (.string b))) => strBin op a b
  | .eql, x, y => do let b ← eqD E t x y; lit (.bool b)
  | .neq, x, y => do let b ← eqD E t x y; lit (.bool (bnot b))
  | _, _, _ => C.fail

def unD (op : UnOp) (x : D) : C D :=
  match op, x with
  | .neg, .one (.im (.lit (.int k n))) => intR k (wneg k n)
  | .xor, .one (.im (.lit (.int k n))) => intR k (wnot k n)
  | .not, .one (.im (.lit (.bool b))) => lit (.bool (bnot b))
  | _, _ => C.fail

/-! ### Slices -/
def ofList (g : Bool) (ts : List T) : C D := bif g then (fun k => k (.agg (ts.map CV.im))) else (match ts with | [x] => fun k => k (.one (.im x)) | _ => C.fail)

def ofCells (g : Bool) (cs : List CV) : C D := bif g then (fun k => k (.agg cs)) else (match cs with | [x] => fun k => k (.one x) | _ => C.fail)

/-- Are there cells off .. off + n - 1 in the box? -/
def fits (off n : Nat) : K → Bool
  | .box _ m => Nat.ble (Nat.add off n) m
  | _ => false

def loadA (n : Nat) (g : Bool) : D → C D
  | .ad s _ off => fun k => .get (key s 0) fun b => bif fits off n b.k then cells s (Nat.succ off) n fun cs => ofCells g cs k else .fail
  | .el p v i => fun k => .get p fun q => bif stillOwn q v then (match q.t with | .sl _ cs => .sub cs i n fun ts => ofList g ts k | _ => .fail) else .fail
  | .ai i cs => fun k => .sub cs i n fun ts => ofList g ts k
  | _ => C.fail

def loadD (E : Env) (t : TypeId) (a : D) : C D := fun k => tinfo E t fun y => loadA y.size (isAggD y.d) a k

/-- Is it a cell of the box of slot s? -/
def inBox (s n : Nat) (k : Nat) : Bool := Nat.ble (key s 1) k && Nat.ble k (key s n)

def storeA (E : Env) (t : TypeId) (n : Nat) (cs : List CV) : D → C Unit
  | .ad s _ off => fun k => .get (key s 0) fun b => bif fits off n b.k then takes cs fun rs => putRCs s (Nat.succ off) (leaves E t) rs k else .fail
  | .el p v i => fun k => freezes cs fun ts => .get p fun q => bif stillOwn q v then (match q.t with
      | .sl m xs => .test (lfits i n xs) fun ok => bif ok then .sl m (lset xs i ts) fun m' xs' => .put p ⟨q.k, q.ver, .sl m' xs'⟩ (k ()) else .fail
      | _ => .fail) else .fail
  | _ => C.fail

def storeD (E : Env) (t : TypeId) (a x : D) : C Unit := fun k => tsize E t fun n => cvs x fun cs => bif Nat.beq cs.length n then storeA E t n cs a k else .fail

def indexAddrD (E : Env) (t : TypeId) (x i : D) : C D := do
  match ← litOf i with
  | .int _ i =>
    match ← tdesc E t with
    | .slice e => do
      let z ← tsize E e
      match x with
      | .one (.im (.sl n cs)) => C.test (inr i n) >>= fun ok => bif ok then pure (.ai (nidx i z) cs) else C.fail
      | .one (.ref p v _ (.sl n _)) => C.test (inr i n) >>= fun ok => bif ok then pure (.el p v (nidx i z)) else C.fail
      | _ => C.fail
    | .array n e => do
      let z ← tsize E e
      match x with
      | .ad s v off => C.test (decide (0 ≤ i ∧ i < n)) >>= fun ok => bif ok then pure (.ad s v (off + i.toNat * z)) else C.fail
      | _ => C.fail
    | _ => C.fail
  | _ => C.fail

def fieldOf (E : Env) (t : TypeId) (f : Nat) : C Field := do
  match ← tdesc E t with
  | .struct fs => match fs[f]? with | some f => pure f | none => C.fail
  | _ => C.fail

def fieldAddrD (E : Env) (t : TypeId) (x : D) (f : Nat) : C D := do
  let f ← fieldOf E t f
  let n ← tsize E f.type
  bif Nat.beq n 0 then C.fail else
  match x with
  | .ad s v off => pure (.ad s v (off + f.offset))
  | .el p v i => pure (.el p v (nadd i f.offset))
  | .ai i cs => pure (.ai (nadd i f.offset) cs)
  | _ => C.fail

def partD (E : Env) (t : TypeId) (cs : List CV) (off : Nat) : C D := do
  let n ← tsize E t
  let g ← tagg E t
  bif g then pure (.agg ((cs.drop off).take n)) else (match cs.drop off with | c :: _ => pure (.one c) | [] => C.fail)

def fieldD (E : Env) (t : TypeId) (x : D) (f : Nat) : C D := do
  let f ← fieldOf E t f
  match x with
  | .agg cs => partD E f.type cs f.offset
  | _ => C.fail

def indexD (E : Env) (t : TypeId) (x i : D) : C D := do
  match ← litOf i with
  | .int _ i =>
    match ← tdesc E t, x with
    | .string, .one (.im (.lit (.string s))) => C.test (sinr i s) >>= fun ok => bif ok then intR .u8 (sget s i) else C.fail
    | .array n e, .agg cs => C.test (decide (0 ≤ i ∧ i < n)) >>= fun ok => bif ok then (do let z ← tsize E e; partD E e cs (i.toNat * z)) else C.fail
    | _, _ => C.fail
  | _ => C.fail

def boundD : Option D → Int → C Int
  | none, dflt => pure dflt
  | some d, _ => do
    match ← litOf d with
    | .int _ i => pure i
    | _ => C.fail

def sliceD (E : Env) (t : TypeId) (x : D) (lo hi mx : Option D) : C D := do
  match ← tdesc E t, x, mx with
  | .string, .one (.im (.lit (.string s))), none => do
    let l ← boundD lo 0
    let h ← boundD hi (slen s)
    C.test (sbnd l h s) >>= fun ok => bif ok then lit (.string (ssub s l h)) else C.fail
  | .slice e, .one c, none => do
    let z ← tsize E e
    match ← freeze c with
    | .sl n cs => do
      let l ← boundD lo 0
      let h ← boundD hi (nlen n)
      C.test (bnd l h n) >>= fun ok => bif ok then C.sl (nsub l h) (lsub cs l h z) >>= fun p => pure (.one (.im (.sl p.1 p.2))) else C.fail
    | _ => C.fail
  | _, _, _ => C.fail

def fillD (E : Env) (place : Nat → C (Nat × Nat)) (cs : List CV) : List (Nat × D) → C (List CV)
  | [] => pure cs
  | (i, x) :: r => do
    let (off, n) ← place i
    let xs ← cvs x
    bif Nat.beq xs.length n && Nat.ble (off + n) cs.length then fillD E place (cs.take off ++ xs ++ cs.drop (off + n)) r else C.fail

def opds : List (Nat × Operand) → C (List (Nat × D))
  | [] => pure []
  | (i, x) :: r => do
    let d ← opd x
    let ds ← opds r
    pure ((i, d) :: ds)

def zeroOf (E : Env) (t : TypeId) : C (List Value) := match lookT E.tys t with | some i => fun k => k i.zero | none => C.fail

def buildD (E : Env) (t : TypeId) (parts : List (Nat × Operand)) : C D := do
  let z ← zeroOf E t
  let ds ← opds parts
  match ← tdesc E t with
  | .struct fs => do
    let cs ← fillD E (fun i => match fs[i]? with | some f => (do let n ← tsize E f.type; pure (f.offset, n)) | none => C.fail) (z.map zeroCV) ds
    pure (.agg cs)
  | .array _ e => do
    let n ← tsize E e
    let cs ← fillD E (fun i => pure (i * n, n)) (z.map zeroCV) ds
    pure (.agg cs)
  | _ => C.fail

def buildSliceD (E : Env) (t : TypeId) (len : Nat) (parts : List (Nat × Operand)) : C D := do
  let e ← tslice E t
  let n ← tsize E e
  let z ← zeroOf E e
  let ds ← opds parts
  bif Nat.ble (len * n) 16777216 && Nat.ble len 16777216 && Nat.beq z.length n then (do
    let cs ← fillD E (fun i => pure (i * n, n)) (List.replicate len (z.map zeroCV)).flatten ds
    let ts ← freezes cs
    pure (.one (.new e (.sl len ts)))) else C.fail

def makeD (E : Env) (t : TypeId) (l c : D) : C D := do
  let e ← tslice E t
  let i ← tinfo E e
  let z ← zeroOf E e
  match ← litOf l, ← litOf c with
  | .int _ l, .int _ c =>
    C.test (mkok l c i.bytes) >>= fun ok => bif ok && Nat.beq z.length i.size then
      (C.sl (nint l) (lrep l (z.map zeroT)) >>= fun p => pure (.one (.new e (.sl p.1 p.2)))) else C.fail
  | _, _ => C.fail

def otherThan (p : Nat) : CV → Bool
  | .ref q _ _ _ => !(Nat.beq p q)
  | _ => true

def appendFin (e : TypeId) (bytes n m : Nat) (cs xs : List T) : C D := fun k =>
  .test (apok n m bytes) fun ok => bif ok then .sl (nadd n m) (lapp cs xs) fun l r => k (.one (.new e (.sl l r))) else .fail

def appendTo (e : TypeId) (bytes m : Nat) (xs : List T) (cx : CV) : D → C D
  | .one (.ref p v ty (.sl n cs)) => bif Nat.beq ty e && otherThan p cx then
      (fun k => .get p fun q => bif stillOwn q v then .put p ⟨.dead, Nat.succ q.ver, nob⟩ (appendFin e bytes n m cs xs k) else .fail) else C.fail
  | .one .nil => appendFin e bytes 0 m [] xs
  | _ => C.fail

def appendD (E : Env) (t : TypeId) (b x : D) : C D := fun k => tslice E t fun e => tinfo E e fun i => match x with
  | .one cx => (match peek cx with
    | .sl m xs => .test (leqm xs m i.size) fun ok => bif ok && Nat.ble 1 i.size then appendTo e i.bytes m xs cx b k else .fail
    | _ => .fail)
  | _ => .fail

def copyTo (e : TypeId) (z m : Nat) (xs : List T) (cx : CV) : D → C D
  | .one (.ref p v ty (.sl n cs)) => bif Nat.beq ty e && otherThan p cx then
      (fun k => .get p fun q => bif stillOwn q v then .sl n (lcopy xs cs m n z) fun n' r => .put p ⟨q.k, q.ver, .sl n' r⟩ (intR .i64 (nmin m n) k) else .fail) else C.fail
  | _ => C.fail

def copyD (E : Env) (t : TypeId) (b x : D) : C D := fun k => tslice E t fun e => tsize E e fun z => match x with
  | .one cx => (match peek cx with
    | .sl m xs => .test (leqm xs m z) fun ok => bif ok then copyTo e z m xs cx b k else .fail
    | _ => .fail)
  | _ => .fail

def lenD (E : Env) (t : TypeId) (x : D) : C D := do
  match ← tdesc E t, x with
  | .string, .one (.im (.lit (.string s))) => intR .i64 (slen s)
  | .array n _, _ => lit (.int .i64 n)
  | .slice _, .one c => match peek c with
    | .sl n _ => intR .i64 (nlen n)
    | _ => C.fail
  | _, _ => C.fail

def minD (lt : Int → Int → Bool) : Value → List Value → C D
  | .int k a, [] => lit (.int k a)
  | .int k a, .int _ b :: r => C.test (lt b a) >>= fun z => minD lt (.int k (bif z then b else a)) r
  | _, _ => C.fail

def litsOf : List D → C (List Value)
  | [] => pure []
  | d :: r => do
    let v ← litOf d
    let vs ← litsOf r
    pure (v :: vs)

def convD (E : Env) (s t : TypeId) (x : D) : C D := do
  match ← tdesc E s, ← tdesc E t, x with
  | _, .int k, .one (.im (.lit (.int _ n))) => intR k (wconv k n)
  | _, .string, .one (.im (.lit (.string s))) => lit (.string s)
  | .slice e, .string, .one c => do
    match ← tdesc E e with
    | .int .u8 => match peek c with
      | .sl n cs => C.test (isby cs n) >>= fun ok => bif ok then lit (.string (bstr cs)) else C.fail
      | _ => C.fail
    | _ => C.fail
  | _, _, _ => C.fail

/-! ### Calls -/
def hasSl : T → Bool
  | .lit _ => false
  | .sl _ _ => true

def leadsT : T → Bool
  | .lit _ => false
  | .sl _ cs => cs.any hasSl

def RC.leads : RC → Bool
  | .im t => hasSl t
  | .own _ t => leadsT t
  | .nil => false

def RV.leads : RV → Bool
  | .one c => c.leads
  | .agg cs => cs.any RC.leads

/-- The cells of a box that is handed over: each as it is. -/
def boxCell (e : Ent) : C RC := match e.k with
  | .im => fun k => k (.im e.t)
  | .own ty => fun k => k (.own ty e.t)
  | _ => C.fail

def boxCells (s : Nat) : Nat → Nat → C (List RC)
  | _, 0 => fun k => k []
  | o, n + 1 => fun k => .get (key s o) fun e => boxCell e fun c => boxCells s (Nat.succ o) n fun r => k (c :: r)

/-- The arguments; the keys that are lent; the boxes that are handed over. -/
structure Args where
  as : List AD
  lent : List CV
  bs : List (Nat × Nat)

def argD (r : Args) : D → C Args
  | .one c => fun k => k ⟨.one (peek c) :: r.as, c :: r.lent, r.bs⟩
  | .agg cs => fun k => k ⟨.agg (cs.map peek) :: r.as, cs ++ r.lent, r.bs⟩
  | .ad s _ 0 => fun k => .get (key s 0) fun b => match b.k with
    | .box e n => boxCells s 1 n fun cs => k ⟨.box e cs :: r.as, r.lent, (s, n) :: r.bs⟩
    | _ => .fail
  | _ => C.fail

def argsD : List D → C Args
  | [] => fun k => k ⟨[], [], []⟩
  | d :: r => fun k => argsD r fun a => argD a d k

def apartFrom (bs : List (Nat × Nat)) : CV → Bool
  | .ref p _ _ _ => bs.all fun (s, n) => !(inBox s n p)
  | .new _ _ => false
  | _ => true

def distinctSlots : List (Nat × Nat) → Bool
  | [] => true
  | (s, _) :: r => r.all (fun (s', _) => !(Nat.beq s s')) && distinctSlots r

def freezeAll : List CV → C Unit
  | [] => fun k => k ()
  | .ref p v _ t :: r => fun k => .get p fun e => bif stillOwn e v then .put p ⟨.im, e.ver, t⟩ (freezeAll r k) else (match e.k with
    | .im => freezeAll r k
    | _ => .fail)
  | _ :: r => freezeAll r

def putBoxes : List (Nat × Nat) → List (List RC) → C Unit
  | [], [] => fun k => k ()
  | (s, n) :: bs, cs :: r => bif Nat.beq cs.length n then (fun k => putRCs s 1 [] cs fun _ => putBoxes bs r k) else C.fail
  | _, _ => C.fail

def RC.cv : RC → CV
  | .im t => .im t
  | .own e t => .new e t
  | .nil => .nil

def resD : List RV → D
  | [.one c] => .one c.cv
  | [.agg cs] => .agg (cs.map RC.cv)
  | vs => .tup (vs.map fun | .one _ => 0 | .agg cs => cs.length + 1) (vs.flatMap fun | .one c => [c.cv] | .agg cs => cs.map RC.cv)

def leadsAny (r : Res) : Bool := r.vals.any RV.leads || r.boxes.any (fun cs => cs.any RC.leads)

/-- By the types: does what comes back lead to memory? -/
def RC.leadsE (E : Env) : RC → Bool
  | .im t => hasSl t
  | .own e _ => (leaves E e).any Option.isSome
  | .nil => false
def RV.leadsE (E : Env) : RV → Bool
  | .one c => c.leadsE E
  | .agg cs => cs.any (RC.leadsE E)
def leadsS (E : Env) (r : Res) : Bool := r.vals.any (RV.leadsE E) || r.boxes.any (fun cs => cs.any (RC.leadsE E))

def callD (E : Env) (g : FuncId) (ds : List D) : C D := fun k => argsD ds fun a =>
  bif a.lent.all (apartFrom a.bs) && distinctSlots a.bs then
    .call g a.as fun r => bif leadsS E r then freezeAll a.lent fun _ => putBoxes a.bs r.boxes fun _ => k (resD r.vals) else .test (leadsAny r) fun ld => bif ld then .fail else putBoxes a.bs r.boxes fun _ => k (resD r.vals)
  else .fail

def opdl : List Operand → C (List D)
  | [] => fun k => k []
  | x :: r => fun k => opd x fun d => opdl r fun ds => k (d :: ds)

def opdo : Option Operand → C (Option D)
  | none => fun k => k none
  | some x => fun k => opd x fun d => k (some d)

/-! ### Operations -/
structure Hint where
  keep : Nat := 0
  heads : List (Nat × Nat × List Nat) := []
  fz : Nat := 0
  nt : Nat := 0
  prot : Nat := 0
  rim : Nat := 0
  tails : List (Nat × Nat) := []
  keeps : List (Nat × Nat) := []

/-- What an assignment to a variable does with what it takes: moved to it, or frozen. -/
def assignD (E : Env) (h : Hint) (d : Nat) (ty : TypeId) (x : D) : C Unit :=
  match x with
  | .one c => bif hasBit h.fz d then (fun k => freeze c fun t => setD E d ty (.one (.im t)) k)
    else (fun k => take c fun r => setD E d ty (.one r.cv) k)
  | .agg cs => bif hasBit h.fz d then (fun k => freezes cs fun ts => setD E d ty (.agg (ts.map CV.im)) k)
    else (fun k => takes cs fun rs => setD E d ty (.agg (rs.map RC.cv)) k)
  | x => setD E d ty x

def boxD (E : Env) (h : Hint) (d : Nat) (t : TypeId) (cs : List CV) : C Unit := fun k => tsize E t fun n =>
  bif Nat.beq cs.length n && Nat.ble n 62 then
    (bif hasBit h.fz d then freezes cs fun ts => bump (key d 0) (.box t n) nob fun _ => putRCs d 1 (leaves E t) (ts.map RC.im) k
      else takes cs fun rs => bump (key d 0) (.box t n) nob fun _ => putRCs d 1 (leaves E t) rs k)
  else .fail

def unit? (d : Option Nat) : C Unit := match d with | none => pure () | some _ => C.fail

def dstD (E : Env) (dst : Option Tmp) (ty : TypeId) (x : C D) : C Unit := fun k => x fun r => match dst with
  | some d => setD E d ty r k
  | none => k ()

def opAssign (E : Env) (h : Hint) (dst : Option Nat) (ty : TypeId) (x : Operand) : C Unit := fun k => opd x fun d => match dst with
  | some i => assignD E h i ty d k
  | none => k ()
def opMove (E : Env) (dst : Option Nat) (ty : TypeId) (x : Operand) : C Unit := fun k => opd x fun d => match dst with
  | some i => setD E i ty d k
  | none => k ()
def pickD (a b : Operand) : Value → C D
  | .bool r => fun k => .test r fun r => bif r then opd a k else opd b k
  | _ => C.fail
def opPick (c a b : Operand) : C D := fun k => opd c fun d => litOf d fun v => pickD a b v k
def opAlloc (E : Env) (h : Hint) (dst : Option Nat) (t : TypeId) : C Unit := fun k => zeroOf E t fun z => match dst with
  | some d => boxD E h d t (z.map zeroCV) k
  | none => .fail
def opBox (E : Env) (h : Hint) (dst : Option Nat) (t : TypeId) (x : Operand) : C Unit := fun k => opd x fun d => cvs d fun cs => match dst with
  | some d => boxD E h d t cs k
  | none => .fail
def opLoad (E : Env) (t : TypeId) (a : Operand) : C D := fun k => opd a fun d => loadD E t d k
def opStore (E : Env) (dst : Option Nat) (t : TypeId) (a x : Operand) : C Unit := fun k => unit? dst fun _ => opd a fun a => opd x fun x => storeD E t a x k
def nilCheckD : D → C D
  | .ad s w off => fun k => k (.ad s w off)
  | .el p w i => fun k => k (.el p w i)
  | .ai i cs => fun k => k (.ai i cs)
  | .one (.im (.lit (.func (.func f) a b))) => fun k => k (.one (.im (.lit (.func (.func f) a b))))
  | _ => C.fail
def opBin (E : Env) (op : BinOp) (t : TypeId) (x y : Operand) : C D := fun k => opd x fun x => opd y fun y => binD E op t x y k
def opUn (op : UnOp) (x : Operand) : C D := fun k => opd x fun x => unD op x k
def opConv (E : Env) (s t : TypeId) (x : Operand) : C D := fun k => opd x fun x => convD E s t x k
def opMake (E : Env) (t : TypeId) (l c : Operand) : C D := fun k => opd l fun l => opd c fun c => makeD E t l c k
def opSlice (E : Env) (t : TypeId) (x : Operand) (lo hi mx : Option Operand) : C D := fun k => opd x fun x => opdo lo fun lo => opdo hi fun hi => opdo mx fun mx => sliceD E t x lo hi mx k
def opFieldAddr (E : Env) (t : TypeId) (x : Operand) (f : Nat) : C D := fun k => opd x fun x => fieldAddrD E t x f k
def opField (E : Env) (t : TypeId) (x : Operand) (f : Nat) : C D := fun k => opd x fun x => fieldD E t x f k
def opIndexAddr (E : Env) (t : TypeId) (x i : Operand) : C D := fun k => opd x fun x => opd i fun i => indexAddrD E t x i k
def opIndex (E : Env) (t : TypeId) (x i : Operand) : C D := fun k => opd x fun x => opd i fun i => indexD E t x i k
/-- Only the cells of the component are read. -/
def extractS (s i : Nat) (sh : List Nat) : C D := match sh[i]? with
  | some 0 => fun k => cell (key s (Nat.succ (shLen (sh.take i)))) fun c => k (.one c)
  | some (n + 1) => fun k => cells s (Nat.succ (shLen (sh.take i))) n fun cs => k (.agg cs)
  | none => C.fail
def extractE (s i : Nat) : K → C D
  | .tup sh => extractS s i sh
  | _ => C.fail
def opExtract (x : Operand) (i : Nat) : C D := match x with
  | .tmp s => fun k => .get (key s 0) fun e => extractE s i e.k k
  | _ => C.fail

def lenB (E : Env) (tys : Array TypeId) : List D → C D
  | [x] => match tys[0]? with | some t => lenD E t x | none => C.fail
  | _ => C.fail
def appendB (E : Env) (tys : Array TypeId) : List D → C D
  | [b, x] => match tys[0]?, tys[1]? with | some t, some t' => bif Nat.beq t t' then appendD E t b x else C.fail | _, _ => C.fail
  | _ => C.fail
def copyB (E : Env) (tys : Array TypeId) : List D → C D
  | [b, x] => match tys[0]?, tys[1]? with | some t, some t' => bif Nat.beq t t' then copyD E t b x else C.fail | _, _ => C.fail
  | _ => C.fail
def minB (lt : Int → Int → Bool) (ds : List D) : C D := fun k => litsOf ds fun vs => match vs with
  | x :: r => minD lt x r k
  | [] => .fail
def builtinD (E : Env) (b : Builtin) (tys : Array TypeId) (ds : List D) : C D := match b with
  | .len => lenB E tys ds
  | .append => appendB E tys ds
  | .copy => copyB E tys ds
  | .min => minB (fun b a => ilt b a) ds
  | .max => minB (fun b a => igt b a) ds
  | _ => C.fail
def callV (E : Env) (ds : List D) : Value → C D
  | .func (.func g) first captured => bif first.isEmpty && captured.isEmpty then callD E g ds else C.fail
  | _ => C.fail
def opCall (E : Env) (c : Call) : C D := fun k => opdl c.args.toList fun ds => match c.callee with
  | .builtin b => builtinD E b c.argTypes ds k
  | .value f => opd f fun f => litOf f fun v => callV E ds v k
  | _ => .fail

def stepOp (E : Env) (h : Hint) (o : Oper) : C Unit :=
  match o.op with
  | .move x => opMove E o.dst o.type x
  | .assign x => opAssign E h o.dst o.type x
  | .pick c a b => dstD E o.dst o.type (opPick c a b)
  | .alloc t => opAlloc E h o.dst t
  | .box t x => opBox E h o.dst t x
  | .build t ps => dstD E o.dst o.type (buildD E t ps.toList)
  | .buildSlice t n ps => dstD E o.dst o.type (buildSliceD E t n ps.toList)
  | .load t a => dstD E o.dst o.type (opLoad E t a)
  | .store t a x => opStore E o.dst t a x
  | .nilCheck x => dstD E o.dst o.type (fun k => opd x fun d => nilCheckD d k)
  | .binOp op t x y _ => dstD E o.dst o.type (opBin E op t x y)
  | .unOp op _ x => dstD E o.dst o.type (opUn op x)
  | .convert s t x => dstD E o.dst o.type (opConv E s t x)
  | .makeSlice t l c => dstD E o.dst o.type (opMake E t l c)
  | .slice t x lo hi mx => dstD E o.dst o.type (opSlice E t x lo hi mx)
  | .fieldAddr t x f => dstD E o.dst o.type (opFieldAddr E t x f)
  | .field t x f => dstD E o.dst o.type (opField E t x f)
  | .indexAddr t x i => dstD E o.dst o.type (opIndexAddr E t x i)
  | .index t x i => dstD E o.dst o.type (opIndex E t x i)
  | .extract x i => dstD E o.dst o.type (opExtract x i)
  | .call c => dstD E o.dst o.type (opCall E c)
  | _ => C.fail

def setUndef (o : Oper) : C Unit := match o.dst with
  | some d => bump (key d 0) .und nob
  | none => fun k => k ()

/-- A destination is a slot of the frame, and none under whose pointer a box came in. -/
def dstOk (h : Hint) : Option Tmp → Bool
  | none => true
  | some d => Nat.blt d h.nt && !(hasBit h.prot d)

def guardV (E : Env) (h : Hint) (o : Oper) (want : Bool) (e : Ent) : C Unit := match e.k, e.t with
  | .im, .lit (.bool b) => fun k => .test (beqb b want) fun r => bif r then stepOp E h o k else setUndef o k
  | _, _ => C.fail

def guardM (E : Env) (h : Hint) (o : Oper) (want : Bool) (d : Nat) (m : Ent) : C Unit := match m.k with
  | .one => fun k => .get (key d 1) fun e => guardV E h o want e k
  | .und => setUndef o
  | _ => C.fail

def guardOp (E : Env) (h : Hint) (ops : Array Oper) (o : Oper) : C Unit :=
  match o.guard with
  | none => stepOp E h o
  | some (j, want) => match (ops[j]?).bind (·.dst) with
    | some d => fun k => .get (key d 0) fun m => guardM E h o want d m k
    | none => C.fail

/-! ### Regions -/
structure Foot where
  R : Nat
  W : Nat

noncomputable def runOps (E : Env) (h : Hint) (callF : FuncId → List AD → Option Res) (ops : Array Oper) (l : List Oper) : TS → Option (TS × List Foot) :=
  List.rec (motive := fun _ => TS → Option (TS × List Foot))
    (fun ts => some (ts, []))
    (fun o _ ih ts => match (bif dstOk h o.dst then guardOp E h ops o fun _ => .ret .unit else .fail).run callF ts 0 0 with
      | some (_, ts', R, W) => match ih ts' with
        | some (ts2, fs) => some (ts2, ⟨R, W⟩ :: fs)
        | none => none
      | none => none) l

/-- What each operation waits for, through others too: as bits. 'acc': of those ahead, the first one first. -/
def befOne (acc : List Nat) (es : List Edge) : Nat :=
  es.foldr (fun e m => bif Region.binds .any e then Nat.lor (Nat.lor (Nat.shiftLeft 1 e.on) (acc.getD e.on 0)) m else m) 0

def befs : List Oper → List Nat → List Nat
  | [], acc => acc
  | o :: r, acc => befs r (acc ++ [befOne acc o.after.toList])

def footApart (a b : Foot) : Bool := Nat.beq (Nat.land a.W (Nat.lor b.R b.W)) 0 && Nat.beq (Nat.land a.R b.W) 0

/-- Operation i (its footprint f) against those behind it: g stands beside f, or waits for it. -/
def indepOne (i : Nat) (f : Foot) : List Foot → List Nat → Bool
  | [], _ => true
  | g :: r, m :: ms => (footApart f g || hasBit m i) && indepOne i f r ms
  | _ :: _, [] => false

def indepL : Nat → List Foot → List Nat → Bool
  | _, [], _ => true
  | i, f :: r, _ :: ms => indepOne i f r ms && indepL (Nat.succ i) r ms
  | _, _ :: _, [] => false

def indep (ops : Array Oper) (fs : List Foot) : Bool := indepL 0 fs (befs ops.toList [])

/-- Each edge binds, and leads back. -/
def edgesOk : Nat → List Oper → Bool
  | _, [] => true
  | i, o :: r => o.after.toList.all (fun e => !Region.binds .any e || Nat.blt e.on i) && edgesOk (Nat.succ i) r

/-! ### What is kept behind a region -/
/-- An entry, its views set to version 0 where they still look at what they looked at. -/
noncomputable def normE {α : Type} (ts : TS) (e : Ent) (f : Ent → α) : α := match e with
  | ⟨.vw p v, _, t⟩ => bif Nat.beq (ts.get p).ver v then f ⟨.vw p 0, 0, t⟩ else f ⟨.dead, 0, t⟩
  | ⟨.el p v, _, t⟩ => bif Nat.beq (ts.get p).ver v then f ⟨.el p 0, 0, t⟩ else f ⟨.dead, 0, t⟩
  | ⟨.ad s v o, _, t⟩ => bif Nat.beq (ts.get (key s 0)).ver v then f ⟨.ad s 0 o, 0, t⟩ else f ⟨.dead, 0, t⟩
  | ⟨k, _, t⟩ => f ⟨k, 0, t⟩

/-- The newest entry of each key whose slot is kept. -/
noncomputable def cleanL {α : Type} (ts : TS) (keep : Nat) (l : List (Nat × Ent)) : Nat → (Nat → List (Nat × Ent) → α) → α :=
  List.rec (motive := fun _ => Nat → (Nat → List (Nat × Ent) → α) → α) (fun seen f => f seen [])
    (fun x _ ih seen f => Prod.rec (motive := fun _ => α) (fun k e =>
      Bool.rec (motive := fun _ => α) (ih seen f)
        (fNat (setBit seen k) fun m => normE ts e fun e => ih m fun m r => f m ((k, e) :: r))
        (Bool.rec (motive := fun _ => Bool) false (Bool.rec (motive := fun _ => Bool) true false (hasBit seen k)) (Bool.rec (motive := fun _ => Bool) false (hasBit ts.m k) (hasBit keep (Nat.shiftRight k 6))))) x) l

noncomputable def clean {α : Type} (ts : TS) (keep : Nat) (f : TS → α) : α := cleanL ts keep ts.l 0 fun m l => f ⟨m, l⟩

/-- By rising keys. -/
def insE (x : Nat × Ent) : List (Nat × Ent) → List (Nat × Ent)
  | [] => [x]
  | y :: r => bif Nat.ble x.1 y.1 then x :: y :: r else y :: insE x r
def sortE : List (Nat × Ent) → List (Nat × Ent)
  | [] => []
  | x :: r => insE x (sortE r)

noncomputable def freezeKeys : List Nat → TS → TS
  | [], ts => ts
  | k :: r, ts => match (ts.get k).k with
    | .own _ => freezeKeys r (ts.put k ⟨.im, (ts.get k).ver, (ts.get k).t⟩)
    | _ => freezeKeys r ts

/-! ### Code -/
inductive Ex where
  | normal | exit (id : Nat) | ret

def headOf (h : Hint) (lbl : Nat) : Option (Nat × List Nat) := (h.heads.find? fun x => Nat.beq x.1 lbl).map (·.2)

noncomputable def loopHead (h : Hint) (lbl : Nat) (ts : TS) : TS := match headOf h lbl with
  | some (ks, fz) => clean (freezeKeys fz ts) ks fun ts => ⟨ts.m, sortE ts.l⟩
  | none => ts

/-- What is kept where a loop is left. -/
noncomputable def loopTail (h : Hint) (lbl : Nat) (ts : TS) : TS := match (h.tails.find? fun x => Nat.beq x.1 lbl).map (·.2) with
  | some ks => clean ts ks fun ts => ⟨ts.m, sortE ts.l⟩
  | none => ts

noncomputable def tailed (h : Hint) (lbl : Nat) (body : TS → Option (Ex × TS)) (ts : TS) : Option (Ex × TS) := match body ts with
  | some (.normal, ts') => some (.normal, ts')
  | some (.exit i, ts') => fTS (loopTail h lbl ts') fun ts' => some (.exit i, ts')
  | some (.ret, ts') => fTS (loopTail h lbl ts') fun ts' => some (.ret, ts')
  | none => none

noncomputable def loopN (body : TS → Option (Ex × TS)) (head : TS → TS) (n : Nat) : TS → Option (Ex × TS) :=
  Nat.rec (motive := fun _ => TS → Option (Ex × TS)) (fun _ => none)
    (fun _ ih ts => match fTS (head ts) body with
      | some (.normal, ts') => ih ts'
      | some (e, ts') => some (e, ts')
      | none => none) n

def condP (c : Operand) : C Bool := do
  match ← litOf (← opd c) with
  | .bool b => C.test b
  | _ => C.fail

/-- What a region keeps. -/
def atRegion (h : Hint) (id : Nat) : Hint := match (h.keeps.find? fun x => Nat.beq x.1 id).map (·.2) with
  | some m => { h with keep := m }
  | none => h

noncomputable def codeRegion (E : Env) (h : Hint) (callF : FuncId → List AD → Option Res) (ops : Array Oper) (draw : Bool) (ts : TS) : Option (Ex × TS) :=
  match runOps E h callF ops ops.toList ts with
  | some (ts', fs) => bif !draw || (indep ops fs && edgesOk 0 ops.toList) then clean ts' h.keep fun ts2 => some (.normal, ts2) else none
  | none => none

noncomputable def codeCond (callF : FuncId → List AD → Option Res) (c : Operand) (x y : TS → Option (Ex × TS)) (ts : TS) : Option (Ex × TS) :=
  match (condP c fun b => .ret (.bool b)).run callF ts 0 0 with
  | some (.bool b, ts', _, _) => bif b then x ts' else y ts'
  | _ => none

def exBlock (id : Nat) : Option (Ex × TS) → Option (Ex × TS)
  | some (.exit j, ts') => bif Nat.beq j id then some (.normal, ts') else some (.exit j, ts')
  | r => r

def exSeq (f : TS → Option (Ex × TS)) : Option (Ex × TS) → Option (Ex × TS)
  | some (.normal, ts') => f ts'
  | r => r

noncomputable def code (E : Env) (h : Hint) (callF : FuncId → List AD → Option Res) (fuel : Nat) (c : Code) : Nat → TS → Option (Ex × TS) :=
  Code.rec (motive := fun _ => Nat → TS → Option (Ex × TS))
    (fun _ ts => some (.normal, ts))
    (fun id ops draw _ ts => codeRegion E (atRegion h id) callF ops draw ts)
    (fun _ _ iha ihb l ts => exSeq (ihb l) (iha l ts))
    (fun c _ _ ihx ihy l ts => codeCond callF c (ihx l) (ihy l) ts)
    (fun id _ ih _ ts => exBlock id (ih id ts))
    (fun _ ih l ts => loopN (tailed h l (ih l)) (loopHead h l) fuel ts)
    (fun _ _ _ _ _ _ _ _ => none)
    (fun id _ ts => some (.exit id, ts))
    (fun _ ih l ts => ih l ts)
    (fun _ _ ts => some (.normal, ts))
    (fun _ _ _ => none)
    (fun _ ts => some (.ret, ts))
    (fun _ _ _ => none) c

/-! ### Functions -/
def initRC (k : Nat) : RC → Nat × Ent
  | .im t => (k, ⟨.im, 0, t⟩)
  | .own e t => (k, ⟨.own e, 0, t⟩)
  | .nil => (k, ⟨.im, 0, .sl 0 []⟩)

def initCells (s : Nat) : Nat → List RC → List (Nat × Ent)
  | _, [] => []
  | o, c :: cs => initRC (key s o) c :: initCells s (Nat.succ o) cs

def initArg (s : Nat) : AD → List (Nat × Ent)
  | .one t => [(key s 0, ⟨.one, 0, nob⟩), (key s 1, ⟨.im, 0, t⟩)]
  | .agg ts => (key s 0, ⟨.agg ts.length, 0, nob⟩) :: initCells s 1 (ts.map RC.im)
  | .box e cs => (key s 0, ⟨.box e cs.length, 0, nob⟩) :: initCells s 1 cs

def initArgs : Nat → List AD → List (Nat × Ent)
  | _, [] => []
  | s, a :: as => initArg s a ++ initArgs (s + 1) as

/-- What is handed back: moved, or frozen where the mask says so. -/
def takeM (m i : Nat) (c : CV) : C RC := bif hasBit m i then (fun k => freeze c fun t => k (.im t)) else take c
def takesM (m : Nat) : Nat → List CV → C (List RC)
  | _, [] => fun k => k []
  | i, c :: cs => fun k => takeM m i c fun t => takesM m (Nat.succ i) cs fun r => k (t :: r)

def rvOf (m i : Nat) : D → C RV
  | .one c => fun k => takeM m i c fun r => k (.one r)
  | .agg cs => fun k => takesM m i cs fun rs => k (.agg rs)
  | _ => C.fail

def resultD (E : Env) (m i : Nat) : ResultVar → C RV
  | .tmp t => fun k => slotD t fun d => rvOf m i d k
  | .cell a t => fun k => slotD a fun p => loadD E t p fun d => rvOf m i d k

def lenRV : RV → Nat
  | .one _ => 1
  | .agg cs => cs.length

def resultsD (E : Env) (m : Nat) : Nat → List ResultVar → C (List RV)
  | _, [] => fun k => k []
  | i, v :: r => fun k => resultD E m i v fun x => resultsD E m (Nat.add i (lenRV x)) r fun xs => k (x :: xs)

def endBoxes : Nat → List AD → C (List (List RC))
  | _, [] => fun k => k []
  | s, .box e cs :: as => fun k => .get (key s 0) fun b => match b.k with
    | .box e' n => bif Nat.beq n cs.length && Nat.beq e' e then boxCells s 1 n fun x => endBoxes (Nat.succ s) as fun xs => k (x :: xs) else .fail
    | _ => .fail
  | s, .one _ :: as => endBoxes (Nat.succ s) as
  | s, .agg _ :: as => endBoxes (Nat.succ s) as

def endD (E : Env) (m : Nat) (fn : Func) (args : List AD) : C Res := fun k => resultsD E m 0 fn.results.toList fun vs => endBoxes 0 args fun bs => k ⟨vs, bs⟩

def protOf : Nat → List AD → Nat
  | _, [] => 0
  | s, .box _ _ :: as => setBit (protOf (Nat.succ s) as) s
  | s, _ :: as => protOf (Nat.succ s) as

def smallArg : AD → Bool
  | .one _ => true
  | .agg ts => Nat.ble ts.length 62
  | .box _ cs => Nat.ble cs.length 62

noncomputable def fnBody (E : Env) (h : Hint) (callF : FuncId → List AD → Option Res) (fuel : Nat) (fn : Func) (args : List AD) : Option Res :=
  match fn.body with
  | none => none
  | some c => bif Nat.beq args.length fn.params.size && args.all smallArg then (match code E { h with nt := fn.ntmps, prot := protOf 0 args } callF fuel c 0 (TS.of (initArgs 0 args)) with
    | some (.exit _, _) => none
    | some (_, ts) => match (endD E h.rim fn args fun r => .ret (.res r)).run callF ts 0 0 with
      | some (.res r, _, _, _) => some r
      | _ => none
    | none => none) else none

noncomputable def fnN (E : Env) (H : FuncId → Hint) (lf : Nat) : Nat → FuncId → List AD → Option Res
  | 0, _, _ => none
  | n + 1, f, args => match lookF E.fns f with
    | some fn => fnBody E (H f) (fnN E H lf n) lf fn args
    | none => none

/-! ## Runs over symbols: code as a tree of what it asks -/
inductive FEnd where
  | code (ex : Ex) (ts : TS)
  | res (r : Res)

inductive Free where
  | done (e : FEnd)
  | fail
  | mark (i : Nat) (f : Free)
  | test (b : Bool) (f : Bool → Free)
  | int (v : Int) (f : Int → Free)
  | sl (n : Nat) (cs : List T) (f : Nat → List T → Free)
  | sub (cs : List T) (i n : Nat) (f : List T → Free)
  | call (g : FuncId) (as : List AD) (f : Res → Free)
  | loop (lbl : Nat) (c : Code) (ts : TS) (f : Ex → TS → Free)

/-! ### The shape is written out, the symbols are left -/
def sVal {α : Type} (v : Value) (f : Value → α) : α := match v with
  | .int k n => fKind k fun k => f (.int k n)
  | v => f v
def sT {α : Type} (t : T) (f : T → α) : α := match t with
  | .lit v => sVal v fun v => f (.lit v)
  | .sl n cs => f (.sl n cs)
def sEnt {α : Type} (e : Ent) (f : Ent → α) : α := fK e.k fun k => fNat e.ver fun v => sT e.t fun t => f ⟨k, v, t⟩

noncomputable def progF (p : Prog) : TS → Nat → Nat → (Out → TS → Nat → Nat → Free) → Free :=
  Prog.rec (motive := fun _ => TS → Nat → Nat → (Out → TS → Nat → Nat → Free) → Free)
    (fun a ts R W k => k a ts R W)
    (fun _ _ _ _ => .fail)
    (fun q _ ih ts R W k => ih (ts.get q) ts (setBit R q) W k)
    (fun q e _ ih ts R W k => sEnt e fun e => fNat (setBit ts.m q) fun m => ih ⟨m, (q, e) :: ts.l⟩ R (setBit W q) k)
    (fun b _ ih ts R W k => .test b fun b => ih b ts R W k)
    (fun cs i n _ ih ts R W k => .sub cs i n fun r => ih r ts R W k)
    (fun v _ ih ts R W k => .int v fun v => ih v ts R W k)
    (fun n cs _ ih ts R W k => .sl n cs fun n cs => ih n cs ts R W k)
    (fun g as _ ih ts R W k => .call g as fun r => ih r ts R W k)
    p

noncomputable def runOpsF (E : Env) (h : Hint) (ops : Array Oper) (l : List Oper) : Nat → TS → (TS → List Foot → Free) → Free :=
  List.rec (motive := fun _ => Nat → TS → (TS → List Foot → Free) → Free)
    (fun _ ts k => k ts [])
    (fun o _ ih i ts k => .mark i (progF (bif dstOk h o.dst then guardOp E h ops o fun _ => .ret .unit else .fail) ts 0 0 fun _ ts' R W => ih (Nat.succ i) ts' fun ts2 fs => k ts2 (⟨R, W⟩ :: fs))) l

noncomputable def regionF (E : Env) (h : Hint) (id : Nat) (ops : Array Oper) (draw : Bool) (ts : TS) (k : Ex → TS → Free) : Free :=
  runOpsF E h ops ops.toList (Nat.mul id 1000) ts fun ts' fs => bif !draw || (indep ops fs && edgesOk 0 ops.toList) then clean ts' h.keep fun ts2 => k .normal ts2 else .fail

noncomputable def condF (c : Operand) (x y : TS → (Ex → TS → Free) → Free) (ts : TS) (k : Ex → TS → Free) : Free :=
  progF (condP c fun b => .ret (.bool b)) ts 0 0 fun o ts' _ _ => match o with
    | .bool b => bif b then x ts' k else y ts' k
    | _ => .fail

def blockK (id : Nat) (k : Ex → TS → Free) : Ex → TS → Free
  | .exit j, ts => bif Nat.beq j id then k .normal ts else k (.exit j) ts
  | e, ts => k e ts

def seqK (f : TS → (Ex → TS → Free) → Free) (k : Ex → TS → Free) : Ex → TS → Free
  | .normal, ts => f ts k
  | e, ts => k e ts

noncomputable def codeF (E : Env) (h : Hint) (c : Code) : Nat → TS → (Ex → TS → Free) → Free :=
  Code.rec (motive := fun _ => Nat → TS → (Ex → TS → Free) → Free)
    (fun _ ts k => k .normal ts)
    (fun id ops draw _ ts k => regionF E (atRegion h id) id ops draw ts k)
    (fun _ _ iha ihb l ts k => iha l ts (seqK (ihb l) k))
    (fun c _ _ ihx ihy l ts k => condF c (ihx l) (ihy l) ts k)
    (fun id _ ih _ ts k => ih id ts (blockK id k))
    (fun b _ l ts k => .loop l b (loopHead h l ts) k)
    (fun _ _ _ _ _ _ _ _ _ => .fail)
    (fun id _ ts k => k (.exit id) ts)
    (fun _ ih l ts k => ih l ts k)
    (fun _ _ ts k => k .normal ts)
    (fun _ _ _ _ => .fail)
    (fun _ ts k => k .ret ts)
    (fun _ _ _ _ => .fail) c

def hintOf (h : Hint) (fn : Func) (args : List AD) : Hint := { h with nt := fn.ntmps, prot := protOf 0 args }

noncomputable def endF (E : Env) (h : Hint) (fn : Func) (args : List AD) : Ex → TS → Free
  | .exit _, _ => .fail
  | _, ts => progF (endD E h.rim fn args fun r => .ret (.res r)) ts 0 0 fun o _ _ _ => match o with
    | .res r => .done (.res r)
    | _ => .fail

noncomputable def fnF (E : Env) (h : Hint) (fn : Func) (args : List AD) : Free :=
  match fn.body with
  | none => .fail
  | some c => bif Nat.beq args.length fn.params.size && args.all smallArg then codeF E (hintOf h fn args) c 0 (TS.of (initArgs 0 args)) (endF E h fn args) else .fail

/-- One round of a loop. -/
noncomputable def roundK (h : Hint) (l : Nat) : Ex → TS → Free := fun ex ts => match ex with
  | .normal => .done (.code .normal (loopHead h l ts))
  | e => .done (.code e (loopTail h l ts))
noncomputable def roundF (E : Env) (h : Hint) (l : Nat) (c : Code) (ts : TS) : Free := codeF E h c l ts (roundK h l)

/-! ### One way -/
inductive Ans where
  | test (b : Bool) | int (n : Int) | sl (n : Nat) (l : List T) | sub (l : List T) | call (r : Res) | loop (ex : Ex) (ts : TS)

inductive Cond where
  | test (b v : Bool) | int (v n : Int) | sl (v : Nat) (cs : List T) (n : Nat) (l : List T) | sub (cs : List T) (i n : Nat) (l : List T) | call (g : FuncId) (as : List AD) (r : Res)
  | loop (l : Nat) (c : Code) (ts : TS) (ex : Ex) (ts' : TS)

def addC (c : Cond) : Option (FEnd × List Cond) → Option (FEnd × List Cond)
  | some (e, cs) => some (e, c :: cs)
  | none => none

def Free.play : Free → List Ans → Option (FEnd × List Cond)
  | .done e, [] => some (e, [])
  | .mark _ f, os => f.play os
  | .test b f, .test v :: os => addC (.test b v) ((f v).play os)
  | .int b f, .int v :: os => addC (.int b v) ((f v).play os)
  | .sl v cs f, .sl n l :: os => addC (.sl v cs n l) ((f n l).play os)
  | .sub cs i n f, .sub v :: os => addC (.sub cs i n v) ((f v).play os)
  | .call g as f, .call r :: os => addC (.call g as r) ((f r).play os)
  | .loop l c ts f, .loop ex ts' :: os => addC (.loop l c ts ex ts') ((f ex ts').play os)
  | _, _ => none

/-- The function's tree. -/
noncomputable def fnT (E : Env) (H : FuncId → Hint) (f : FuncId) (as : List AD) : Free := match lookF E.fns f with
  | some fn => fnF E (H f) fn as
  | none => .fail
noncomputable def hintT (E : Env) (H : FuncId → Hint) (f : FuncId) (as : List AD) : Hint := match lookF E.fns f with
  | some fn => hintOf (H f) fn as
  | none => {}

end Go.Proofs.Ytnjanliihnadjaa.Tm

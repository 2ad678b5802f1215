/- What the row of WorkerLeased leans on: printed functions and plain laws. Conditions: none. -/
import Derived.Test.YtbaihlhoedbpkaaTy
import Derived.Test.YtbaihlhoedbpkaaTab
import Derived.Test.YtbaihlhoedbpkaaKn
import Derived.Test.YtbaihlhoedbpkaaWf
import Derived.IntWalk
import Derived.KernelRfl
import Derived.OpenShut
import Derived.Test.YtbaihlhoedbpkaaBWorkerLeased2
set_option linter.unusedVariables false
set_option linter.unusedSimpArgs false
namespace Go.Proofs.Ytbaihlhoedbpkaa.Tm
open Go
noncomputable section
section
variable {g : GGraph} {j : GJob} {id : Int} {n : Nat} {w : GWorker}
theorem K3 {K : Nat} (l : List GPost) (hl : l.length ≤ 900000) (hK : 1000000 ≤ K) : F38 K l = some (asP l) := by
 let step : GPost → List GPost153 → (List GPost153 → Option (List GPost153)) → Option (List GPost153) := fun x a c => (F27 K x.M).bind fun r => bif apok (len a) 1 264 then c (appL a [GPost153.mk x.To x.Inc r]) else none
 have hs := Ao (l := l) (L := fun k a i => EG K l k a i) step (fun a => some a) (fun k s i _ => rfl) om (K := K) om []
 have e := CC (step := step) (fun _ => true) (fun p : GPost => GPost153.mk p.To p.Inc p.M) 264 om 1000000 om l [] (by simp; omega) (fun x _ a c => rfl)
 have e' : EG K l K [] 0 = some (asP l) := (hs.trans e).trans (by rw [List.filter_eq_self.2 (fun _ _ => rfl)]; simp [asP])
 rw [F38, e']; rfl
def asW (w : GWorker) : GWorker60 := GWorker60.mk w.Id w.Goal w.Until w.T w.Held w.Buf w.Coming (asP w.Out)
theorem N2 {K : Nat} (hK : 1000000 ≤ K) (w : GWorker) (h : Sml w) : F16 K w = some (asW w) := by
 obtain ⟨h1, h2, h3, h4⟩ := h
 rw [F16, K3 w.Out om hK, bS]
 let s1 : GHeld → List GHeld → (List GHeld → Option (List GHeld)) → Option (List GHeld) := fun x a c => bif apok (len a) 1 96 then c (appL a [x]) else none
 have a1 := Ao (l := w.Held) (L := fun k a i => EL K w (asP w.Out) k a i) s1 (fun a => some a) (fun k s i _ => rfl) om (K := K) om []
 have b1 := CC (step := s1) (fun _ => true) (fun p => p) 96 om 1000000 om w.Held [] (by simp; omega) (fun x _ a c => rfl)
 have c1 : EL K w (asP w.Out) K [] 0 = some w.Held := (a1.trans b1).trans (by simp)
 let s2 : GData → List GData → (List GData → Option (List GData)) → Option (List GData) := fun x a c => bif apok (len a) 1 56 then c (appL a [x]) else none
 have a2 := Ao (l := w.Buf) (L := fun k a i => EI K w (asP w.Out) w.Held k a i) s2 (fun a => some a) (fun k s i _ => rfl) om (K := K) om []
 have b2 := CC (step := s2) (fun _ => true) (fun p => p) 56 om 1000000 om w.Buf [] (by simp; omega) (fun x _ a c => rfl)
 have c2 : EI K w (asP w.Out) w.Held K [] 0 = some w.Buf := (a2.trans b2).trans (by simp)
 let s3 : GComing → List GComing → (List GComing → Option (List GComing)) → Option (List GComing) := fun x a c => bif apok (len a) 1 96 then c (appL a [x]) else none
 have a3 := Ao (l := w.Coming) (L := fun k a i => Ej K w (asP w.Out) w.Held w.Buf k a i) s3 (fun a => some a) (fun k s i _ => rfl) om (K := K) om []
 have b3 := CC (step := s3) (fun _ => true) (fun p => p) 96 om 1000000 om w.Coming [] (by simp; omega) (fun x _ a c => rfl)
 have c3 : Ej K w (asP w.Out) w.Held w.Buf K [] 0 = some w.Coming := (a3.trans b3).trans (by simp)
 rw [c1, bS, c2, bS, c3]; rfl
theorem EN {K : Nat} (l : List Int) (hl : l.length < 1000000) (hK : l.length < K) : F64 K l l = some true := by
 have h := Bj (l := l) (L := fun k (_ : Unit) i => Em K l l k i) (fun i x (_ : Unit) c => bif inr (i : Int) (len l) then (elAt l (i : Int)).bind fun y => bif ieq x y then c () else some (.inl ()) else none) (fun _ => some (.inr ())) (fun k st i hi => rfl) om K () 0 om om
 have g := Du (l := l) (fun x y c => bif ieq x y then c else some (.inl ())) (fun x _ c => by rw [Ai]; rfl) l 0 rfl
 have h' : Em K l l K 0 = some (.inr ()) := h.trans g
 rw [F64, Ai, h']; rfl
theorem My {K : Nat} (hK : 1000000 ≤ K) (t : GTable) (h : BL t = true) : F35 K t t = some true := by
 obtain ⟨_, _, h3, h4, h5, _⟩ := Gq h
 rw [F35, Ai, EN t.Owners om om, EN t.Ids om om, EN t.Incs om om]; rfl
theorem Hk {K : Nat} (hK : 1000000 ≤ K) {x : GPart} (h : x.Vals.length ≤ 2000 ∧ x.Rest.length ≤ 2000 ∧ x.In.length ≤ 2000) : FM K x := ⟨⟨by omega, by omega⟩, ⟨by omega, by omega⟩, by omega, by omega⟩
theorem Mn {K : Nat} (hK : 1000000 ≤ K) (m : GMail) (h : FitM 100 m) : F65 K m m = some true := by
 obtain ⟨h1, h2, h3, h4, h5, h6, h7⟩ := h
 rw [F65, EN m.Owners om om, EN m.Ids om om, EN m.Incs om om, GM m.X (Hk hK ⟨by omega, by omega, by omega⟩), Hn m.Msgs om om]
 simp only [Ai, cT, bS]
theorem Po {K : Nat} (hK : 1000000 ≤ K) (l : List GPost153) (hl : l.length < 1000000) (hm : ∀ p ∈ l, FitM 100 p.M) : F36 K l l = some true := by
 have h := Bj (l := l) (L := fun k (_ : Unit) i => EF K l l k i) (fun i x (_ : Unit) c => bif inr (i : Int) (len l) then (elAt l (i : Int)).bind fun y => bif ieq x.To y.To then (bif ieq x.Inc y.Inc then (F65 K x.M y.M).bind fun r => bif r then c () else some (.inl ()) else some (.inl ())) else some (.inl ()) else none) (fun _ => some (.inr ())) (fun k st i hi => rfl) om K () 0 om om
 have g := Du (l := l) (fun x y c => bif ieq x.To y.To then (bif ieq x.Inc y.Inc then (F65 K x.M y.M).bind fun r => bif r then c else some (.inl ()) else some (.inl ())) else some (.inl ())) (fun x hx c => by rw [Ai, Ai, Mn hK x.M (hm x hx)]; rfl) l 0 rfl
 have h' : EF K l l K 0 = some (.inr ()) := h.trans g
 rw [F36, Ai, h']; rfl
theorem Nr {K : Nat} (hK : 1000000 ≤ K) (h : WI g j id n w) (hn : n ≤ 400000) : F15 K (asW w) (asW w) = some true := by
 have hs := h.sml hn
 have h1 := hs.h
 have h2 := hs.b
 have h3 := hs.c
 have h4 := hs.o
 have p1 : F36 K (asP w.Out) (asP w.Out) = some true := Po hK _ (by rw [asP, List.length_map]; omega) fun p hp => by
  obtain ⟨q, hq, rfl⟩ := List.mem_map.1 hp
  exact h.od q hq
 have e1 := Bj (l := w.Held) (L := fun k (_ : Unit) i => EH K (asW w) (asW w) k i) (fun i x (_ : Unit) c => bif inr (i : Int) (len w.Held) then (elAt w.Held (i : Int)).bind fun y => bif beqb x.Wait y.Wait then (bif beqb x.Given y.Given then (F28 K x.X y.X).bind fun r => bif r then c () else some (.inl ()) else some (.inl ())) else some (.inl ()) else none) (fun _ => some (.inr ())) (fun k st i hi => rfl) om K () 0 om om
 have f1 := Du (l := w.Held) (fun x y c => bif beqb x.Wait y.Wait then (bif beqb x.Given y.Given then (F28 K x.X y.X).bind fun r => bif r then c else some (.inl ()) else some (.inl ())) else some (.inl ())) (fun x hx c => by
  have := h.hx x hx
  rw [Gu, Gu, GM x.X (Hk hK ⟨by have := this.v; omega, by have := this.r; omega, by have := this.i; omega⟩)]; rfl) w.Held 0 rfl
 have g1 : EH K (asW w) (asW w) K 0 = some (.inr ()) := e1.trans f1
 have e2 := Bj (l := w.Buf) (L := fun k (_ : Unit) i => ER K (asW w) (asW w) k i) (fun i x (_ : Unit) c => bif inr (i : Int) (len w.Buf) then (elAt w.Buf (i : Int)).bind fun y => bif ieq x.Epoch y.Epoch then (bif ieq x.Step y.Step then (bif ieq x.Q y.Q then (bif ieq x.P y.P then (F37 K x.Msgs y.Msgs).bind fun r => bif r then c () else some (.inl ()) else some (.inl ())) else some (.inl ())) else some (.inl ())) else some (.inl ()) else none) (fun _ => some (.inr ())) (fun k st i hi => rfl) om K () 0 om om
 have f2 := Du (l := w.Buf) (fun x y c => bif ieq x.Epoch y.Epoch then (bif ieq x.Step y.Step then (bif ieq x.Q y.Q then (bif ieq x.P y.P then (F37 K x.Msgs y.Msgs).bind fun r => bif r then c else some (.inl ()) else some (.inl ())) else some (.inl ())) else some (.inl ())) else some (.inl ())) (fun x hx c => by
  have := (h.bd x hx).l
  rw [Ai, Ai, Ai, Ai, Hn x.Msgs om om]; rfl) w.Buf 0 rfl
 have g2 : ER K (asW w) (asW w) K 0 = some (.inr ()) := e2.trans f2
 have e3 := Bj (l := w.Coming) (L := fun k (_ : Unit) i => ET K (asW w) (asW w) k i) (fun i x (_ : Unit) c => bif inr (i : Int) (len w.Coming) then (elAt w.Coming (i : Int)).bind fun y => bif ieq x.Epoch y.Epoch then (F28 K x.X y.X).bind fun r => bif r then c () else some (.inl ()) else some (.inl ()) else none) (fun _ => some (.inr ())) (fun k st i hi => rfl) om K () 0 om om
 have f3 := Du (l := w.Coming) (fun x y c => bif ieq x.Epoch y.Epoch then (F28 K x.X y.X).bind fun r => bif r then c else some (.inl ()) else some (.inl ())) (fun x hx c => by
  have := h.cd x hx
  rw [Ai, GM x.X (Hk hK ⟨by have := this.v; omega, by have := this.r; omega, by have := this.i; omega⟩)]; rfl) w.Coming 0 rfl
 have g3 : ET K (asW w) (asW w) K 0 = some (.inr ()) := e3.trans f3
 rw [F15, Ai, Ai, Ai, Ai, Ai, Ai]
 show (F35 K w.T w.T).bind _ = _
 rw [My hK w.T h.tab, bS]
 show (F36 K (asP w.Out) (asP w.Out)).bind _ = _
 rw [p1, g1, g2, g3]; rfl
end
def hn3 : Hint := { H 3 with nt := 83, prot := 0, kp := 0 }
def Kv : Code := loopOf E 3 0
def F3_res (r1 : Bool) : Res := ⟨[(.one (mB r1))], []⟩
def Dq (K : Nat) (a0 : GGraph) (a1 : GJob) (a3 : List GAct) (a4 : Int) : Nat → Int → Int → Int → Int → List Int → List Int → List Int → List GHeld → List GData → List GComing → List GPost → Int → Option (Int × Int × Int × Int × List Int × List Int × List Int × List GHeld × List GData × List GComing × List GPost)
 | 0, _, _, _, _, _, _, _, _, _, _, _, _ => none
 | k + 1, v2, v5, v6, v7, v8, v9, v10, v11, v12, v13, v14, v15 =>
  bif (ilt v15 (nlen (len a3))) then
   (bif (ilt v15 40) then
    (bif (inr v15 (len a3)) then
    (elAt a3 v15).bind fun x16 =>
    (F12 K x16.M).bind fun r17 =>
    bif (ile r17 100) then
     ((F13 K a0 a1 (GWorker.mk v2 v5 v6 (GTable.mk v7 v8 v9 v10) v11 v12 v13 v14) x16).bind fun r18 =>
     Dq K a0 a1 a3 a4 k r18.1.Id r18.1.Goal r18.1.Until r18.1.T.Epoch r18.1.T.Owners r18.1.T.Ids r18.1.T.Incs r18.1.Held r18.1.Buf r18.1.Coming r18.1.Out (wadd .i64 v15 1))
    else
    Dq K a0 a1 a3 a4 k v2 v5 v6 v7 v8 v9 v10 v11 v12 v13 v14 (wadd .i64 v15 1)
    else none)
   else
   some (v2, (v5, (v6, (v7, (v8, (v9, (v10, (v11, (v12, (v13, v14)))))))))))
  else
  some (v2, (v5, (v6, (v7, (v8, (v9, (v10, (v11, (v12, (v13, v14))))))))))
def L4 (a0 : GGraph) (a1 : GJob) (a3 : List GAct) (a4 : Int) (v2 : Int) (v5 : Int) (v6 : Int) (v7 : Int) (v8 : List Int) (v9 : List Int) (v10 : List Int) (v11 : List GHeld) (v12 : List GData) (v13 : List GComing) (v14 : List GPost) (v15 : Int) : TS := .on (kq 192 2 <| kq 256 2 <| kq 320 3 <| kq 384 5 <| kq 704 12 <| kq 768 2 <| []) <| sq 192 [u0, (uS eGAct a3)] <| sq 256 [u0, (uI a4)] <| b2 320 a0 <| b3 384 a1 <| sq 704 [(uX 38 11), (uI v2), (uI v5), (uI v6), (uI v7), (uS e6 v8), (uS e6 v9), (uS e6 v10), (uO 69 eGHeld v11), (uO 112 eGData v12), (uO 113 eGComing v13), (uO 86 eGPost v14)] <| sq 768 [u0, (uI v15)] []
def P1 (a0 : GGraph) (a1 : GJob) (a3 : List GAct) (a4 : Int) (w2 : Int × Int × Int × Int × List Int × List Int × List Int × List GHeld × List GData × List GComing × List GPost) : TS := .on (kq 256 2 <| kq 320 3 <| kq 384 5 <| kq 704 12 <| []) <| sq 256 [u0, (uI a4)] <| b2 320 a0 <| b3 384 a1 <| sq 704 [(uX 38 11), (uI w2.1), (uI w2.2.1), (uI w2.2.2.1), (uI w2.2.2.2.1), (uS e6 w2.2.2.2.2.1), (uS e6 w2.2.2.2.2.2.1), (uS e6 w2.2.2.2.2.2.2.1), (uO 69 eGHeld w2.2.2.2.2.2.2.2.1), (uO 112 eGData w2.2.2.2.2.2.2.2.2.1), (uO 113 eGComing w2.2.2.2.2.2.2.2.2.2.1), (uO 86 eGPost w2.2.2.2.2.2.2.2.2.2.2)] []
theorem OL (K : Nat) (a0 : GGraph) (a1 : GJob) (a3 : List GAct) (a4 : Int) : ∀ (k : Nat) (v2 : Int) (v5 : Int) (v6 : Int) (v7 : Int) (v8 : List Int) (v9 : List Int) (v10 : List Int) (v11 : List GHeld) (v12 : List GData) (v13 : List GComing) (v14 : List GPost) (v15 : Int) (r : Int × Int × Int × Int × List Int × List Int × List Int × List GHeld × List GData × List GComing × List GPost), Dq K a0 a1 a3 a4 k v2 v5 v6 v7 v8 v9 v10 v11 v12 v13 v14 v15 = some r → LoopEv E H hn3 0 Kv (L4 a0 a1 a3 a4 v2 v5 v6 v7 v8 v9 v10 v11 v12 v13 v14 v15) (.exit 0) (P1 a0 a1 a3 a4 r) := by
 intro k
 induction k with
 | zero => intro v2 v5 v6 v7 v8 v9 v10 v11 v12 v13 v14 v15 r F; cases F
 | succ k ih =>
  intro v2 v5 v6 v7 v8 v9 v10 v11 v12 v13 v14 v15 r F
  rw [Dq] at F
  apply jc F <;> intro h16 F
  have q26 {l} (z : HA hn3 l) := zi (nl a3) <| Ia h16 <| z
  apply jc F <;> intro h17 F
  apply jn F; intro h18 F
  apply jb F; intro x19 h20 F
  apply jb F; intro r21 h22 F
  have q27 {l} (z : HA hn3 l) := zT h17 <| zT h18 <| zU eGAct_len h20 2 17 <| zl (Qy K x19.M _ h22) <| z
  apply jc F <;> intro h23 F
  apply jb F; intro r24 h25 F
  exact lN1 (q26 <| q27 <| zT h23 <| zT h18 <| zS eGAct_len h20 19 <| zc (PS K a0 a1 (GWorker.mk v2 v5 v6 (GTable.mk v7 v8 v9 v10) v11 v12 v13 v14) x19 _ h25) <| zi (wadd .i64 v15 1) <| z0) (ih _ _ _ _ _ _ _ _ _ _ _ _ _ F)
  exact lN1 (q26 <| q27 <| zF h23 <| zi (wadd .i64 v15 1) <| z0) (ih _ _ _ _ _ _ _ _ _ _ _ _ _ F)
  apply jr F
  exact lE <| q26 <| zF h17 <| z0
  apply jr F
  exact lE <| zi (nl a3) <| IW h16 <| zf1 <| z0
def F3 (K : Nat) (a0 : GGraph) (a1 : GJob) (a2 : Int) (a3 : List GAct) (a4 : Int) : Option (Bool) :=
 (F9 K a0).bind fun r7 =>
 bif r7 then
  (some true)
 else
 (F11 K a2).bind fun r12 =>
 (Dq K a0 a1 a3 a4 K r12.Id r12.Goal r12.Until r12.T.Epoch r12.T.Owners r12.T.Ids r12.T.Incs r12.Held r12.Buf r12.Coming r12.Out 0).bind fun w5 =>
 bif (ilt a4 w5.2.2.1) then
  ((F14 K a0 a1 (GWorker.mk w5.1 w5.2.1 w5.2.2.1 (GTable.mk w5.2.2.2.1 w5.2.2.2.2.1 w5.2.2.2.2.2.1 w5.2.2.2.2.2.2.1) w5.2.2.2.2.2.2.2.1 w5.2.2.2.2.2.2.2.2.1 w5.2.2.2.2.2.2.2.2.2.1 w5.2.2.2.2.2.2.2.2.2.2) w5.2.2.1).bind fun r6 =>
  bif (ieq (nlen (len r6.2.1)) 0) then
   (bif (ieq (nlen (len r6.2.2)) 0) then
    ((F16 K (GWorker.mk w5.1 w5.2.1 w5.2.2.1 (GTable.mk w5.2.2.2.1 w5.2.2.2.2.1 w5.2.2.2.2.2.1 w5.2.2.2.2.2.2.1) w5.2.2.2.2.2.2.2.1 w5.2.2.2.2.2.2.2.2.1 w5.2.2.2.2.2.2.2.2.2.1 w5.2.2.2.2.2.2.2.2.2.2)).bind fun r8 =>
    (F16 K r6.1).bind fun r9 =>
    (F15 K r8 r9).bind fun r10 =>
    bif r10 then
     (some true)
    else
    some false)
   else
   some false)
  else
  some false)
 else
 (F14 K a0 a1 (GWorker.mk w5.1 w5.2.1 w5.2.2.1 (GTable.mk w5.2.2.2.1 w5.2.2.2.2.1 w5.2.2.2.2.2.1 w5.2.2.2.2.2.2.1) w5.2.2.2.2.2.2.2.1 w5.2.2.2.2.2.2.2.2.1 w5.2.2.2.2.2.2.2.2.2.1 w5.2.2.2.2.2.2.2.2.2.2) a4).bind fun r11 =>
 bif (ieq (nlen (len r11.2.1)) 0) then
  (bif (ieq (nlen (len r11.2.2)) 0) then
   ((F16 K (GWorker.mk w5.1 w5.2.1 w5.2.2.1 (GTable.mk w5.2.2.2.1 w5.2.2.2.2.1 w5.2.2.2.2.2.1 w5.2.2.2.2.2.2.1) w5.2.2.2.2.2.2.2.1 w5.2.2.2.2.2.2.2.2.1 w5.2.2.2.2.2.2.2.2.2.1 w5.2.2.2.2.2.2.2.2.2.2)).bind fun r13 =>
   (F16 K r11.1).bind fun r14 =>
   (F15 K r13 r14).bind fun r15 =>
   bif r15 then
    (some true)
   else
   some false)
  else
  some false)
 else
 some false
theorem F3_ok (K : Nat) (a0 : GGraph) (a1 : GJob) (a2 : Int) (a3 : List GAct) (a4 : Int) (r : Bool) (F : F3 K a0 a1 a2 a3 a4 = some r) : Evt E H 3 [.agg (eGGraph a0), .agg (eGJob a1), .one (i6 a2), .one (sE eGAct a3), .one (i6 a4)] (F3_res r) := by
 rw [F3] at F
 apply jb F; intro r7 h8 F
 apply jc F <;> intro h9 F
 apply jr F
 exact fpC hn3 <| zl (Hu K a0 _ h8) <| zT h9 <| zX (.call 10 [] (Res.mk [(.one (mB true))] [])) knows10 <| zX (ff (leadsAny (Res.mk [(.one (mB true))] []))) lk <| z0
 apply jb F; intro r12 h13 F
 apply jb F; intro w6 h5 F
 have q35 {l} (z : HA hn3 l) := zl (Hu K a0 _ h8) <| zF h9 <| zc (MY K a2 _ h13) <| zo (OL K a0 a1 a3 a4 K r12.Id r12.Goal r12.Until r12.T.Epoch r12.T.Owners r12.T.Ids r12.T.Incs r12.Held r12.Buf r12.Coming r12.Out 0 _ h5) <| z
 apply jc F <;> intro h10 F
 apply jb F; intro r11 h14 F
 have q36 {l} (z : HA hn3 l) := zT h10 <| zc (Hc K a0 a1 (GWorker.mk w6.1 w6.2.1 w6.2.2.1 (GTable.mk w6.2.2.2.1 w6.2.2.2.2.1 w6.2.2.2.2.2.1 w6.2.2.2.2.2.2.1) w6.2.2.2.2.2.2.2.1 w6.2.2.2.2.2.2.2.2.1 w6.2.2.2.2.2.2.2.2.2.1 w6.2.2.2.2.2.2.2.2.2.2) w6.2.2.1 _ h14) <| zi (nl r11.2.1) <| z
 apply jc F <;> intro h15 F
 have q37 {l} (z : HA hn3 l) := zC2 h15 <| zi (nl r11.2.2) <| CP h15 <| z
 apply jc F <;> intro h16 F
 apply jb F; intro r17 h18 F
 apply jb F; intro r19 h20 F
 apply jb F; intro r21 h22 F
 have q38 {l} (z : HA hn3 l) := zC2 h16 <| zc (F1 K (GWorker.mk w6.1 w6.2.1 w6.2.2.1 (GTable.mk w6.2.2.2.1 w6.2.2.2.2.1 w6.2.2.2.2.2.1 w6.2.2.2.2.2.2.1) w6.2.2.2.2.2.2.2.1 w6.2.2.2.2.2.2.2.2.1 w6.2.2.2.2.2.2.2.2.2.1 w6.2.2.2.2.2.2.2.2.2.2) _ h18) <| zC2 h16 <| zc (F1 K r11.1 _ h20) <| zC1 h16 <| zl (Kb K r17 r19 _ h22) <| zT h16 <| z
 apply jc F <;> intro h23 F
 apply jr F
 exact fpC hn3 <| q35 <| q36 <| q37 <| q38 <| zC1 h23 <| zX (.call 10 [] (Res.mk [(.one (mB true))] [])) knows10 <| zX (ff (leadsAny (Res.mk [(.one (mB true))] []))) lk <| zT h23 <| z0
 apply jr F
 exact fpC hn3 <| q35 <| q36 <| q37 <| q38 <| Gc h23 <| z0
 apply jr F
 exact fpC hn3 <| q35 <| q36 <| q37 <| Af h16 <| zk1 <| zf1 <| z0
 apply jr F
 exact fpC hn3 <| q35 <| q36 <| Cs h15 <| zk5 <| zf1 <| zk1 <| zf1 <| z0
 apply jb F; intro r24 h25 F
 have q39 {l} (z : HA hn3 l) := zF h10 <| zc (Hc K a0 a1 (GWorker.mk w6.1 w6.2.1 w6.2.2.1 (GTable.mk w6.2.2.2.1 w6.2.2.2.2.1 w6.2.2.2.2.2.1 w6.2.2.2.2.2.2.1) w6.2.2.2.2.2.2.2.1 w6.2.2.2.2.2.2.2.2.1 w6.2.2.2.2.2.2.2.2.2.1 w6.2.2.2.2.2.2.2.2.2.2) a4 _ h25) <| zi (nl r24.2.1) <| z
 apply jc F <;> intro h26 F
 have q40 {l} (z : HA hn3 l) := zC2 h26 <| zi (nl r24.2.2) <| CP h26 <| z
 apply jc F <;> intro h27 F
 apply jb F; intro r28 h29 F
 apply jb F; intro r30 h31 F
 apply jb F; intro r32 h33 F
 have q41 {l} (z : HA hn3 l) := zC2 h27 <| zc (F1 K (GWorker.mk w6.1 w6.2.1 w6.2.2.1 (GTable.mk w6.2.2.2.1 w6.2.2.2.2.1 w6.2.2.2.2.2.1 w6.2.2.2.2.2.2.1) w6.2.2.2.2.2.2.2.1 w6.2.2.2.2.2.2.2.2.1 w6.2.2.2.2.2.2.2.2.2.1 w6.2.2.2.2.2.2.2.2.2.2) _ h29) <| zC2 h27 <| zc (F1 K r24.1 _ h31) <| zC1 h27 <| zl (Kb K r28 r30 _ h33) <| zT h27 <| z
 apply jc F <;> intro h34 F
 apply jr F
 exact fpC hn3 <| q35 <| q39 <| q40 <| q41 <| zC1 h34 <| zX (.call 10 [] (Res.mk [(.one (mB true))] [])) knows10 <| zX (ff (leadsAny (Res.mk [(.one (mB true))] []))) lk <| zT h34 <| z0
 apply jr F
 exact fpC hn3 <| q35 <| q39 <| q40 <| q41 <| Gc h34 <| z0
 apply jr F
 exact fpC hn3 <| q35 <| q39 <| q40 <| Af h27 <| zk1 <| zf1 <| z0
 apply jr F
 exact fpC hn3 <| q35 <| q39 <| Cs h26 <| zk5 <| zf1 <| zk1 <| zf1 <| z0
theorem Pv {α σ β : Type} {l : List α} {B : Int} (b : Nat) (hB : B = (b : Int)) {L : Nat → σ → Int → Option β} (step : Nat → α → σ → (σ → Option β) → Option β) (fin : σ → Option β)
 (h : ∀ k s (i : Nat), i ≤ l.length → L (k + 1) s i = bif ilt i (nlen (len l)) then (bif ilt i B then (bif inr i (len l) then (elAt l i).bind fun x => step i x s (fun s' => L k s' (wadd .i64 i 1)) else none) else fin s) else fin s)
 (hl : l.length < 4611686018427387904) : ∀ (k : Nat) (s : σ) (i : Nat), b - i < k → i ≤ l.length → L k s i = goI (fun i x s c => bif ilt (i : Int) B then step i x s c else fin s) fin i (l.drop i) s := by
 intro k
 induction k with
 | zero => intro s i h; omega
 | succ k ih =>
  intro s i hk hi
  rw [h k s i hi]
  rcases G2 l i with ⟨x, e1, e2, e3, e4⟩ | ⟨e1, e2⟩
  · have hlt := Dx e1
    rw [e1, e2, e3, e4]
    simp only [cT, bS, goI]
    cases hb : ilt (i : Int) B
    · rfl
    · rw [hB, Ae] at hb
      simp only [cT]
      congr 1
      funext s'
      rw [FR om]
      exact ih s' (i + 1) om om
  · rw [e1, e2]; rfl
section
variable {g : GGraph} {j : GJob} {id : Int}
theorem Ki {β : Type} {step : Nat → GAct → GWorker → (GWorker → Option β) → Option β} {fin : GWorker → Option β} : ∀ (l : List GAct) (i n : Nat) (w : GWorker), (∀ x ∈ l, ∀ (i n : Nat) (w : GWorker), WI g j id n w → n ≤ 100000 → ∃ w', WI g j id (n + 42) w' ∧ ∀ c, step i x w c = c w') →
 WI g j id n w → n + 42 * (40 - i) ≤ 100000 → ∃ w', WI g j id 100000 w' ∧ goI (fun i x s c => bif ilt (i : Int) 40 then step i x s c else fin s) fin i l w = fin w'
 | [], i, n, w, _, h, hn => ⟨w, h.up om, rfl⟩
 | x :: l, i, n, w, hs, h, hn => by
  rw [goI]
  cases hi : ilt (i : Int) 40
  · exact ⟨w, h.up om, rfl⟩
  · rw [Ae] at hi
    obtain ⟨w1, h1, e1⟩ := hs x List.mem_cons_self i n w h om
    obtain ⟨w2, h2, e2⟩ := Ki l (i + 1) (n + 42) w1 (fun y hy => hs y (List.mem_cons_of_mem _ hy)) h1 om
    exact ⟨w2, h2, by rw [cT, e1, e2]⟩
theorem L3 (K : Nat) (g : GGraph) : F9 K g = some (ilt 200 (g.Edges.length : Int)) := by rw [F9]; rfl
theorem PO {K : Nat} (hK : 1000000 ≤ K) (g : GGraph) (j : GJob) (id : Int) (l : List GAct) (now : Int) (hl : l.length < 4611686018427387904) (hw : ∀ a ∈ l, WGAct a) : F3 K g j id l now = some true := by
 rw [F3, L3, bS]
 cases ilt 200 (g.Edges.length : Int)
 · rw [cF]
   let step : Nat → GAct → GWorker → (GWorker → Option WT) → Option WT := fun i x w c => (F12 K x.M).bind fun r => bif ile r 100 then (F13 K g j w x).bind fun r => c r.1 else c w
   have hs := Pv 40 rfl (l := l) (L := fun k (w : GWorker) i => Dq K g j l now k w.Id w.Goal w.Until w.T.Epoch w.T.Owners w.T.Ids w.T.Incs w.Held w.Buf w.Coming w.Out i) step (fun w => some (wt w)) (fun k s i _ => rfl) om K (GWorker.mk id (-1) 0 noT [] [] [] []) 0 om om
   obtain ⟨w, hW, hg⟩ := Ki (step := step) (fin := fun w => some (wt w)) l 0 0 (GWorker.mk id (-1) 0 noT [] [] [] []) (fun x hx i n w h hn => by
    have e0 : ∀ c, step i x w c = bif ile (E7 x.M) 100 then (F13 K g j w x).bind fun r => c r.1 else c w := fun c => by
     show (F12 K x.M).bind _ = _
     rw [MH om]; rfl
    simp only [e0]
    cases hq : ile (E7 x.M) 100
    · exact ⟨w, h.up om, fun c => rfl⟩
    · have hm := QZ (hw x hx).2.2.1 (QO (by rw [Ac]; exact CJ.1 hq))
      exact ⟨_, Qk h om hm, fun c => by rw [cT, Lk hK h om hm]; rfl⟩) (K5 g j id) om
   rw [List.drop_zero] at hs
   have e : Dq K g j l now K id (-1) 0 0 [] [] [] [] [] [] [] 0 = some (wt w) := hs.trans hg
   show ((Dq K g j l now K id (-1) 0 0 [] [] [] [] [] [] [] 0).bind _) = _
   rw [e, bS]
   have key : ∀ t, w.Until ≤ t → F14 K g j w t = some (w, [], []) := fun t ht => by
    rw [JM hK hW om, Dt, Ac.2 ht, Bool.and_false]; rfl
   have hsame := Nr hK hW om
   have has := N2 hK w (hW.sml om)
   dsimp only [wt]
   cases hn : ilt now w.Until
   · rw [cF]
     show (F14 K g j w now).bind _ = _
     rw [key now (by rw [Ac] at hn; exact hn), bS]
     show (F16 K w).bind _ = _
     rw [has, bS]
     rw [bS, hsame]; rfl
   · rw [cT]
     show (F14 K g j w w.Until).bind _ = _
     rw [key w.Until (Int.le_refl _), bS]
     show (F16 K w).bind _ = _
     rw [has, bS]
     rw [bS, hsame]; rfl
 · rfl
theorem Mb {α : Type} {l : List α} {n : Nat} (hn : 0 < n) (h : l.length * n ≤ reachBytes) : l.length < 4611686018427387904 := by
 have : l.length ≤ l.length * n := Nat.le_mul_of_pos_right _ hn
 have : reachBytes ≤ 140737488355328 := by unfold reachBytes; omega
 omega
theorem law3 (g : GGraph) (j : GJob) (id : Int) (l : List GAct) (now : Int) (_ : WGGraph g) (_ : WGJob j) (_ : (Lit.int .i64 id).wf = true) (hl : l.length * 264 ≤ reachBytes ∧ ∀ y ∈ l, WGAct y) (_ : (Lit.int .i64 now).wf = true) : F3 1000000 g j id l now = some true :=
 PO (Nat.le_refl _) g j id l now (Mb om hl.1) hl.2
end
end
end Go.Proofs.Ytbaihlhoedbpkaa.Tm

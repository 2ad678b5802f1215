/- What the row of WorkerStale leans on: printed functions and plain laws. Conditions: none. -/
import Derived.Test.YtbaihlhoedbpkaaTy
import Derived.Test.YtbaihlhoedbpkaaTab
import Derived.Test.YtbaihlhoedbpkaaKn
import Derived.Test.YtbaihlhoedbpkaaWf
import Derived.IntWalk
import Derived.KernelRfl
import Derived.OpenShut
import Derived.Test.YtbaihlhoedbpkaaBWorkerStale2
set_option linter.unusedVariables false
set_option linter.unusedSimpArgs false
namespace Go.Proofs.Ytbaihlhoedbpkaa.Tm
open Go
noncomputable section
section
variable {g : GGraph} {j : GJob} {id : Int} {n : Nat} {w : GWorker}
theorem KQ {K : Nat} (l : List GPost) (hl : l.length ≤ 900000) (hK : 1000000 ≤ K) : F38 K l = some (asP l) := by
 let step : GPost → List GPost153 → (List GPost153 → Option (List GPost153)) → Option (List GPost153) := fun x a c => (F27 K x.M).bind fun r => bif apok (len a) 1 264 then c (appL a [GPost153.mk x.To x.Inc r]) else none
 have hs := Ao (l := l) (L := fun k a i => Em K l k a i) step (fun a => some a) (fun k s i _ => rfl) om (K := K) om []
 have e := Cy (step := step) (fun _ => true) (fun p : GPost => GPost153.mk p.To p.Inc p.M) 264 om 1000000 om l [] (by simp; omega) (fun x _ a c => rfl)
 have e' : Em K l K [] 0 = some (asP l) := (hs.trans e).trans (by rw [List.filter_eq_self.2 (fun _ _ => rfl)]; simp [asP])
 rw [F38, e']; rfl
def asW (w : GWorker) : GWorker60 := GWorker60.mk w.Id w.Goal w.Until w.T w.Held w.Buf w.Coming (asP w.Out)
theorem Nl {K : Nat} (hK : 1000000 ≤ K) (w : GWorker) (h : Sml w) : F16 K w = some (asW w) := by
 obtain ⟨h1, h2, h3, h4⟩ := h
 rw [F16, KQ w.Out om hK, bS]
 let s1 : GHeld → List GHeld → (List GHeld → Option (List GHeld)) → Option (List GHeld) := fun x a c => bif apok (len a) 1 96 then c (appL a [x]) else none
 have a1 := Ao (l := w.Held) (L := fun k a i => Ef K w (asP w.Out) k a i) s1 (fun a => some a) (fun k s i _ => rfl) om (K := K) om []
 have b1 := Cy (step := s1) (fun _ => true) (fun p => p) 96 om 1000000 om w.Held [] (by simp; omega) (fun x _ a c => rfl)
 have c1 : Ef K w (asP w.Out) K [] 0 = some w.Held := (a1.trans b1).trans (by simp)
 let s2 : GData → List GData → (List GData → Option (List GData)) → Option (List GData) := fun x a c => bif apok (len a) 1 56 then c (appL a [x]) else none
 have a2 := Ao (l := w.Buf) (L := fun k a i => EX K w (asP w.Out) w.Held k a i) s2 (fun a => some a) (fun k s i _ => rfl) om (K := K) om []
 have b2 := Cy (step := s2) (fun _ => true) (fun p => p) 56 om 1000000 om w.Buf [] (by simp; omega) (fun x _ a c => rfl)
 have c2 : EX K w (asP w.Out) w.Held K [] 0 = some w.Buf := (a2.trans b2).trans (by simp)
 let s3 : GComing → List GComing → (List GComing → Option (List GComing)) → Option (List GComing) := fun x a c => bif apok (len a) 1 96 then c (appL a [x]) else none
 have a3 := Ao (l := w.Coming) (L := fun k a i => EW K w (asP w.Out) w.Held w.Buf k a i) s3 (fun a => some a) (fun k s i _ => rfl) om (K := K) om []
 have b3 := Cy (step := s3) (fun _ => true) (fun p => p) 96 om 1000000 om w.Coming [] (by simp; omega) (fun x _ a c => rfl)
 have c3 : EW K w (asP w.Out) w.Held w.Buf K [] 0 = some w.Coming := (a3.trans b3).trans (by simp)
 rw [c1, bS, c2, bS, c3]; rfl
theorem EM {K : Nat} (l : List Int) (hl : l.length < 1000000) (hK : l.length < K) : F64 K l l = some true := by
 have h := Bt (l := l) (L := fun k (_ : Unit) i => EE K l l k i) (fun i x (_ : Unit) c => bif inr (i : Int) (len l) then (elAt l (i : Int)).bind fun y => bif ieq x y then c () else some (.inl ()) else none) (fun _ => some (.inr ())) (fun k st i hi => rfl) om K () 0 om om
 have g := Dp (l := l) (fun x y c => bif ieq x y then c else some (.inl ())) (fun x _ c => by rw [Aj]; rfl) l 0 rfl
 have h' : EE K l l K 0 = some (.inr ()) := h.trans g
 rw [F64, Aj, h']; rfl
theorem KG {K : Nat} (hK : 1000000 ≤ K) (t : GTable) (h : BJ t = true) : F35 K t t = some true := by
 obtain ⟨_, _, h3, h4, h5, _⟩ := Gq h
 rw [F35, Aj, EM t.Owners om om, EM t.Ids om om, EM t.Incs om om]; rfl
theorem G8 {K : Nat} (hK : 1000000 ≤ K) {x : GPart} (h : x.Vals.length ≤ 2000 ∧ x.Rest.length ≤ 2000 ∧ x.In.length ≤ 2000) : FK K x := ⟨⟨by omega, by omega⟩, ⟨by omega, by omega⟩, by omega, by omega⟩
theorem PX {K : Nat} (hK : 1000000 ≤ K) (m : GMail) (h : FitM 100 m) : F65 K m m = some true := by
 obtain ⟨h1, h2, h3, h4, h5, h6, h7⟩ := h
 rw [F65, EM m.Owners om om, EM m.Ids om om, EM m.Incs om om, Gv m.X (G8 hK ⟨by omega, by omega, by omega⟩), G1 m.Msgs om om]
 simp only [Aj, cT, bS]
theorem Lj {K : Nat} (hK : 1000000 ≤ K) (l : List GPost153) (hl : l.length < 1000000) (hm : ∀ p ∈ l, FitM 100 p.M) : F36 K l l = some true := by
 have h := Bt (l := l) (L := fun k (_ : Unit) i => Eo K l l k i) (fun i x (_ : Unit) c => bif inr (i : Int) (len l) then (elAt l (i : Int)).bind fun y => bif ieq x.To y.To then (bif ieq x.Inc y.Inc then (F65 K x.M y.M).bind fun r => bif r then c () else some (.inl ()) else some (.inl ())) else some (.inl ()) else none) (fun _ => some (.inr ())) (fun k st i hi => rfl) om K () 0 om om
 have g := Dp (l := l) (fun x y c => bif ieq x.To y.To then (bif ieq x.Inc y.Inc then (F65 K x.M y.M).bind fun r => bif r then c else some (.inl ()) else some (.inl ())) else some (.inl ())) (fun x hx c => by rw [Aj, Aj, PX hK x.M (hm x hx)]; rfl) l 0 rfl
 have h' : Eo K l l K 0 = some (.inr ()) := h.trans g
 rw [F36, Aj, h']; rfl
theorem Qs {K : Nat} (hK : 1000000 ≤ K) (h : WI g j id n w) (hn : n ≤ 400000) : F15 K (asW w) (asW w) = some true := by
 have hs := h.sml hn
 have h1 := hs.h
 have h2 := hs.b
 have h3 := hs.c
 have h4 := hs.o
 have p1 : F36 K (asP w.Out) (asP w.Out) = some true := Lj hK _ (by rw [asP, List.length_map]; omega) fun p hp => by
  obtain ⟨q, hq, rfl⟩ := List.mem_map.1 hp
  exact h.od q hq
 have e1 := Bt (l := w.Held) (L := fun k (_ : Unit) i => EH K (asW w) (asW w) k i) (fun i x (_ : Unit) c => bif inr (i : Int) (len w.Held) then (elAt w.Held (i : Int)).bind fun y => bif beqb x.Wait y.Wait then (bif beqb x.Given y.Given then (F28 K x.X y.X).bind fun r => bif r then c () else some (.inl ()) else some (.inl ())) else some (.inl ()) else none) (fun _ => some (.inr ())) (fun k st i hi => rfl) om K () 0 om om
 have f1 := Dp (l := w.Held) (fun x y c => bif beqb x.Wait y.Wait then (bif beqb x.Given y.Given then (F28 K x.X y.X).bind fun r => bif r then c else some (.inl ()) else some (.inl ())) else some (.inl ())) (fun x hx c => by
  have := h.hx x hx
  rw [GM, GM, Gv x.X (G8 hK ⟨by have := this.v; omega, by have := this.r; omega, by have := this.i; omega⟩)]; rfl) w.Held 0 rfl
 have g1 : EH K (asW w) (asW w) K 0 = some (.inr ()) := e1.trans f1
 have e2 := Bt (l := w.Buf) (L := fun k (_ : Unit) i => EL K (asW w) (asW w) k i) (fun i x (_ : Unit) c => bif inr (i : Int) (len w.Buf) then (elAt w.Buf (i : Int)).bind fun y => bif ieq x.Epoch y.Epoch then (bif ieq x.Step y.Step then (bif ieq x.Q y.Q then (bif ieq x.P y.P then (F37 K x.Msgs y.Msgs).bind fun r => bif r then c () else some (.inl ()) else some (.inl ())) else some (.inl ())) else some (.inl ())) else some (.inl ()) else none) (fun _ => some (.inr ())) (fun k st i hi => rfl) om K () 0 om om
 have f2 := Dp (l := w.Buf) (fun x y c => bif ieq x.Epoch y.Epoch then (bif ieq x.Step y.Step then (bif ieq x.Q y.Q then (bif ieq x.P y.P then (F37 K x.Msgs y.Msgs).bind fun r => bif r then c else some (.inl ()) else some (.inl ())) else some (.inl ())) else some (.inl ())) else some (.inl ())) (fun x hx c => by
  have := (h.bd x hx).l
  rw [Aj, Aj, Aj, Aj, G1 x.Msgs om om]; rfl) w.Buf 0 rfl
 have g2 : EL K (asW w) (asW w) K 0 = some (.inr ()) := e2.trans f2
 have e3 := Bt (l := w.Coming) (L := fun k (_ : Unit) i => ER K (asW w) (asW w) k i) (fun i x (_ : Unit) c => bif inr (i : Int) (len w.Coming) then (elAt w.Coming (i : Int)).bind fun y => bif ieq x.Epoch y.Epoch then (F28 K x.X y.X).bind fun r => bif r then c () else some (.inl ()) else some (.inl ()) else none) (fun _ => some (.inr ())) (fun k st i hi => rfl) om K () 0 om om
 have f3 := Dp (l := w.Coming) (fun x y c => bif ieq x.Epoch y.Epoch then (F28 K x.X y.X).bind fun r => bif r then c else some (.inl ()) else some (.inl ())) (fun x hx c => by
  have := h.cd x hx
  rw [Aj, Gv x.X (G8 hK ⟨by have := this.v; omega, by have := this.r; omega, by have := this.i; omega⟩)]; rfl) w.Coming 0 rfl
 have g3 : ER K (asW w) (asW w) K 0 = some (.inr ()) := e3.trans f3
 rw [F15, Aj, Aj, Aj, Aj, Aj, Aj]
 show (F35 K w.T w.T).bind _ = _
 rw [KG hK w.T h.tab, bS]
 show (F36 K (asP w.Out) (asP w.Out)).bind _ = _
 rw [p1, g1, g2, g3]; rfl
end
def hn6 : Hint := { H 6 with nt := 95, prot := 0, kp := 0 }
def H2 : Code := loopOf E 6 0
def F6_res (r1 : Bool) : Res := ⟨[(.one (mB r1))], []⟩
def Dg (K : Nat) (v1 : List GAct) (v2 : Int) (v3 : List GEdge) (v4 : Int) (v5 : Int) (v6 : Int) (v7 : Int) (v8 : Int) (v9 : Int) (v10 : Int) (v11 : Int) (v12 : Int) (v13 : Int) (v14 : Int) (v15 : Int) (v16 : List Int) (v17 : List Int) (v18 : List Int) (v19 : Int) (v20 : Int) (v21 : List Int) (v22 : List Bool) (v23 : List GMsg) (v24 : List GMsg) : Nat → Int → Int → Int → Int → List Int → List Int → List Int → List GHeld → List GData → List GComing → List GPost → Int → Option ((Unit) ⊕ (Int × Int × Int × Int × List Int × List Int × List Int × List GHeld × List GData × List GComing × List GPost))
 | 0, _, _, _, _, _, _, _, _, _, _, _, _ => none
 | k + 1, v25, v26, v27, v28, v29, v30, v31, v32, v33, v34, v35, v36 =>
  bif (ilt v36 (nlen (len v1))) then
   (bif (ilt v36 40) then
    (bif (inr v36 (len v1)) then
    (elAt v1 v36).bind fun x37 =>
    (F12 K x37.M).bind fun r38 =>
    bif (ilt 100 r38) then
     (Dg K v1 v2 v3 v4 v5 v6 v7 v8 v9 v10 v11 v12 v13 v14 v15 v16 v17 v18 v19 v20 v21 v22 v23 v24 k v25 v26 v27 v28 v29 v30 v31 v32 v33 v34 v35 (wadd .i64 v36 1))
    else
    (F13 K (GGraph.mk v2 v3) (GJob.mk v4 v5 v6 v7) (GWorker.mk v25 v26 v27 (GTable.mk v28 v29 v30 v31) v32 v33 v34 v35) x37).bind fun r39 =>
    bif (ilt r39.1.T.Epoch v28) then
     (some (.inl ()))
    else
    Dg K v1 v2 v3 v4 v5 v6 v7 v8 v9 v10 v11 v12 v13 v14 v15 v16 v17 v18 v19 v20 v21 v22 v23 v24 k r39.1.Id r39.1.Goal r39.1.Until r39.1.T.Epoch r39.1.T.Owners r39.1.T.Ids r39.1.T.Incs r39.1.Held r39.1.Buf r39.1.Coming r39.1.Out (wadd .i64 v36 1)
    else none)
   else
   some (.inr (v25, (v26, (v27, (v28, (v29, (v30, (v31, (v32, (v33, (v34, v35))))))))))))
  else
  some (.inr (v25, (v26, (v27, (v28, (v29, (v30, (v31, (v32, (v33, (v34, v35)))))))))))
def IU (v1 : List GAct) (v2 : Int) (v3 : List GEdge) (v4 : Int) (v5 : Int) (v6 : Int) (v7 : Int) (v8 : Int) (v9 : Int) (v10 : Int) (v11 : Int) (v12 : Int) (v13 : Int) (v14 : Int) (v15 : Int) (v16 : List Int) (v17 : List Int) (v18 : List Int) (v19 : Int) (v20 : Int) (v21 : List Int) (v22 : List Bool) (v23 : List GMsg) (v24 : List GMsg) (v25 : Int) (v26 : Int) (v27 : Int) (v28 : Int) (v29 : List Int) (v30 : List Int) (v31 : List Int) (v32 : List GHeld) (v33 : List GData) (v34 : List GComing) (v35 : List GPost) (v36 : Int) : TS := .on (kq 192 2 <| kq 320 3 <| kq 384 5 <| kq 576 18 <| kq 704 12 <| kq 768 2 <| []) <| sq 192 [u0, (uS eGAct v1)] <| sq 320 [(uX 24 2), (uI v2), (uS eGEdge v3)] <| sq 384 [(uX 26 4), (uI v4), (uI v5), (uI v6), (uI v7)] <| sq 576 [(uX 47 17), (uI v8), (uI v9), (uI v10), (uI v11), (uI v12), (uI v13), (uI v14), (uI v15), (uS e6 v16), (uS e6 v17), (uS e6 v18), (uI v19), (uI v20), (uS e6 v21), (uS eBool v22), (uS eGMsg v23), (uS eGMsg v24)] <| sq 704 [(uX 38 11), (uI v25), (uI v26), (uI v27), (uI v28), (uS e6 v29), (uS e6 v30), (uS e6 v31), (uS eGHeld v32), (uS eGData v33), (uS eGComing v34), (uS eGPost v35)] <| sq 768 [u0, (uI v36)] []
def Ms (v1 : List GAct) (v2 : Int) (v3 : List GEdge) (v4 : Int) (v5 : Int) (v6 : Int) (v7 : Int) (v8 : Int) (v9 : Int) (v10 : Int) (v11 : Int) (v12 : Int) (v13 : Int) (v14 : Int) (v15 : Int) (v16 : List Int) (v17 : List Int) (v18 : List Int) (v19 : Int) (v20 : Int) (v21 : List Int) (v22 : List Bool) (v23 : List GMsg) (v24 : List GMsg) (w25 : Unit) : TS := .on (kq 640 2 <| []) <| sq 640 [u0, (uB false)] []
def QU (v1 : List GAct) (v2 : Int) (v3 : List GEdge) (v4 : Int) (v5 : Int) (v6 : Int) (v7 : Int) (v8 : Int) (v9 : Int) (v10 : Int) (v11 : Int) (v12 : Int) (v13 : Int) (v14 : Int) (v15 : Int) (v16 : List Int) (v17 : List Int) (v18 : List Int) (v19 : Int) (v20 : Int) (v21 : List Int) (v22 : List Bool) (v23 : List GMsg) (v24 : List GMsg) (w25 : Int × Int × Int × Int × List Int × List Int × List Int × List GHeld × List GData × List GComing × List GPost) : TS := .on (kq 320 3 <| kq 384 5 <| kq 576 18 <| kq 704 12 <| []) <| sq 320 [(uX 24 2), (uI v2), (uS eGEdge v3)] <| sq 384 [(uX 26 4), (uI v4), (uI v5), (uI v6), (uI v7)] <| sq 576 [(uX 47 17), (uI v8), (uI v9), (uI v10), (uI v11), (uI v12), (uI v13), (uI v14), (uI v15), (uS e6 v16), (uS e6 v17), (uS e6 v18), (uI v19), (uI v20), (uS e6 v21), (uS eBool v22), (uS eGMsg v23), (uS eGMsg v24)] <| sq 704 [(uX 38 11), (uI w25.1), (uI w25.2.1), (uI w25.2.2.1), (uI w25.2.2.2.1), (uS e6 w25.2.2.2.2.1), (uS e6 w25.2.2.2.2.2.1), (uS e6 w25.2.2.2.2.2.2.1), (uS eGHeld w25.2.2.2.2.2.2.2.1), (uS eGData w25.2.2.2.2.2.2.2.2.1), (uS eGComing w25.2.2.2.2.2.2.2.2.2.1), (uS eGPost w25.2.2.2.2.2.2.2.2.2.2)] []
theorem J4 (K : Nat) (v1 : List GAct) (v2 : Int) (v3 : List GEdge) (v4 : Int) (v5 : Int) (v6 : Int) (v7 : Int) (v8 : Int) (v9 : Int) (v10 : Int) (v11 : Int) (v12 : Int) (v13 : Int) (v14 : Int) (v15 : Int) (v16 : List Int) (v17 : List Int) (v18 : List Int) (v19 : Int) (v20 : Int) (v21 : List Int) (v22 : List Bool) (v23 : List GMsg) (v24 : List GMsg) : ∀ (k : Nat) (v25 : Int) (v26 : Int) (v27 : Int) (v28 : Int) (v29 : List Int) (v30 : List Int) (v31 : List Int) (v32 : List GHeld) (v33 : List GData) (v34 : List GComing) (v35 : List GPost) (v36 : Int) (r : (Unit) ⊕ (Int × Int × Int × Int × List Int × List Int × List Int × List GHeld × List GData × List GComing × List GPost)), Dg K v1 v2 v3 v4 v5 v6 v7 v8 v9 v10 v11 v12 v13 v14 v15 v16 v17 v18 v19 v20 v21 v22 v23 v24 k v25 v26 v27 v28 v29 v30 v31 v32 v33 v34 v35 v36 = some r → (Sum.elim (fun w => LoopEv E H hn6 0 H2 (IU v1 v2 v3 v4 v5 v6 v7 v8 v9 v10 v11 v12 v13 v14 v15 v16 v17 v18 v19 v20 v21 v22 v23 v24 v25 v26 v27 v28 v29 v30 v31 v32 v33 v34 v35 v36) .ret (Ms v1 v2 v3 v4 v5 v6 v7 v8 v9 v10 v11 v12 v13 v14 v15 v16 v17 v18 v19 v20 v21 v22 v23 v24 w)) (fun w => LoopEv E H hn6 0 H2 (IU v1 v2 v3 v4 v5 v6 v7 v8 v9 v10 v11 v12 v13 v14 v15 v16 v17 v18 v19 v20 v21 v22 v23 v24 v25 v26 v27 v28 v29 v30 v31 v32 v33 v34 v35 v36) (.exit 0) (QU v1 v2 v3 v4 v5 v6 v7 v8 v9 v10 v11 v12 v13 v14 v15 v16 v17 v18 v19 v20 v21 v22 v23 v24 w))) r := by
 intro k
 induction k with
 | zero => intro v25 v26 v27 v28 v29 v30 v31 v32 v33 v34 v35 v36 r F; cases F
 | succ k ih =>
  intro v25 v26 v27 v28 v29 v30 v31 v32 v33 v34 v35 v36 r F
  rw [Dg] at F
  apply jc F <;> intro h37 F
  have q48 {l} (z : HA hn6 l) := zi (nl v1) <| ID h37 <| z
  apply jc F <;> intro h38 F
  apply jn F; intro h39 F
  apply jb F; intro x40 h41 F
  apply jb F; intro r42 h43 F
  have q49 {l} (z : HA hn6 l) := zT h38 <| zT h39 <| zU eGAct_len h41 2 17 <| zl (J7 K x40.M _ h43) <| z
  apply jc F <;> intro h44 F
  exact lN2 (q48 <| q49 <| zT (igt_eq h44) <| zi (wadd .i64 v36 1) <| z0) (ih _ _ _ _ _ _ _ _ _ _ _ _ _ F)
  apply jb F; intro r45 h46 F
  have q50 {l} (z : HA hn6 l) := zF (igt_eq h44) <| zT h39 <| zS eGAct_len h41 19 <| zc (O0 K (GGraph.mk v2 v3) (GJob.mk v4 v5 v6 v7) (GWorker.mk v25 v26 v27 (GTable.mk v28 v29 v30 v31) v32 v33 v34 v35) x40 _ h46) <| z
  apply jc F <;> intro h47 F
  apply jr F
  exact lE <| q48 <| q49 <| q50 <| zT h47 <| z0
  exact lN2 (q48 <| q49 <| q50 <| zF h47 <| zi (wadd .i64 v36 1) <| z0) (ih _ _ _ _ _ _ _ _ _ _ _ _ _ F)
  apply jr F
  exact lE <| q48 <| zF h38 <| z0
  apply jr F
  exact lE <| zi (nl v1) <| Kc h37 <| zf1 <| z0
def F6 (K : Nat) (a1 : GGraph) (a2 : GJob) (a3 : Int) (a4 : List GAct) (a5 : GMail) : Option (Bool) :=
 (F9 K a1).bind fun r6 =>
 bif r6 then
  (some true)
 else
 (F12 K a5).bind fun r7 =>
 bif (ilt 100 r7) then
  (some true)
 else
 (F11 K a3).bind fun r8 =>
 (Dg K a4 a1.N a1.Edges a2.Prog a2.Source a2.Limit a2.Parts a5.Kind a5.Epoch a5.Fresh a5.Step a5.P a5.Q a5.To a5.E a5.Owners a5.Ids a5.Incs a5.X.P a5.X.Step a5.X.Vals a5.X.Rest a5.X.In a5.Msgs K r8.Id r8.Goal r8.Until r8.T.Epoch r8.T.Owners r8.T.Ids r8.T.Incs r8.Held r8.Buf r8.Coming r8.Out 0).bind fun y9 =>
 Sum.elim (fun w10 =>
  some false)
  (fun w11 =>
  bif (ile w11.2.2.2.1 a5.Epoch) then
   (some true)
  else
  bif (ieq a5.Kind 9) then
   (bif (ilt w11.2.2.2.1 a5.Fresh) then
    (some true)
   else
   (F16 K (GWorker.mk w11.1 w11.2.1 w11.2.2.1 (GTable.mk w11.2.2.2.1 w11.2.2.2.2.1 w11.2.2.2.2.2.1 w11.2.2.2.2.2.2.1) w11.2.2.2.2.2.2.2.1 w11.2.2.2.2.2.2.2.2.1 w11.2.2.2.2.2.2.2.2.2.1 w11.2.2.2.2.2.2.2.2.2.2)).bind fun r12 =>
   (F18 K a1 a2 (GWorker.mk w11.1 w11.2.1 w11.2.2.1 (GTable.mk w11.2.2.2.1 w11.2.2.2.2.1 w11.2.2.2.2.2.1 w11.2.2.2.2.2.2.1) w11.2.2.2.2.2.2.2.1 w11.2.2.2.2.2.2.2.2.1 w11.2.2.2.2.2.2.2.2.2.1 w11.2.2.2.2.2.2.2.2.2.2) a5).bind fun r13 =>
   (F16 K r13).bind fun r14 =>
   (F15 K r12 r14).bind fun r15 =>
   bif r15 then
    (some true)
   else
   some false)
  else
  (F16 K (GWorker.mk w11.1 w11.2.1 w11.2.2.1 (GTable.mk w11.2.2.2.1 w11.2.2.2.2.1 w11.2.2.2.2.2.1 w11.2.2.2.2.2.2.1) w11.2.2.2.2.2.2.2.1 w11.2.2.2.2.2.2.2.2.1 w11.2.2.2.2.2.2.2.2.2.1 w11.2.2.2.2.2.2.2.2.2.2)).bind fun r16 =>
  (F18 K a1 a2 (GWorker.mk w11.1 w11.2.1 w11.2.2.1 (GTable.mk w11.2.2.2.1 w11.2.2.2.2.1 w11.2.2.2.2.2.1 w11.2.2.2.2.2.2.1) w11.2.2.2.2.2.2.2.1 w11.2.2.2.2.2.2.2.2.1 w11.2.2.2.2.2.2.2.2.2.1 w11.2.2.2.2.2.2.2.2.2.2) a5).bind fun r17 =>
  (F16 K r17).bind fun r18 =>
  (F15 K r16 r18).bind fun r19 =>
  bif r19 then
   (some true)
  else
  some false) y9
theorem F6_ok (K : Nat) (a1 : GGraph) (a2 : GJob) (a3 : Int) (a4 : List GAct) (a5 : GMail) (r : Bool) (F : F6 K a1 a2 a3 a4 a5 = some r) : Evt E H 6 [.agg (eGGraph a1), .agg (eGJob a2), .one (i6 a3), .one (sE eGAct a4), .agg (eGMail a5)] (F6_res r) := by
 rw [F6] at F
 apply jb F; intro r6 h7 F
 apply jc F <;> intro h8 F
 apply jr F
 exact fpC hn6 <| zl (Ia K a1 _ h7) <| Af h8 <| zr1 <| zX (.call 10 [] (Res.mk [(.one (mB true))] [])) knows10 <| zX (ff (leadsAny (Res.mk [(.one (mB true))] []))) lk <| z0
 apply jb F; intro r9 h10 F
 have q39 {l} (z : HA hn6 l) := zl (Ia K a1 _ h7) <| zB2 h8 <| zl (J7 K a5 _ h10) <| AA h8 <| z
 apply jc F <;> intro h11 F
 apply jr F
 exact fpC hn6 <| q39 <| zT (igt_eq h11) <| zX (.call 10 [] (Res.mk [(.one (mB true))] [])) knows10 <| zX (ff (leadsAny (Res.mk [(.one (mB true))] []))) lk <| z0
 apply jb F; intro r12 h13 F
 apply jb F; intro y15 h14 F
 refine js F (fun w16 hx F => ?_) fun w17 hx F => ?_
 subst hx
 apply jr F
 exact fpC hn6 <| q39 <| zF (igt_eq h11) <| zc (IY K a3 _ h13) <| zo (J4 K a4 a1.N a1.Edges a2.Prog a2.Source a2.Limit a2.Parts a5.Kind a5.Epoch a5.Fresh a5.Step a5.P a5.Q a5.To a5.E a5.Owners a5.Ids a5.Incs a5.X.P a5.X.Step a5.X.Vals a5.X.Rest a5.X.In a5.Msgs K r12.Id r12.Goal r12.Until r12.T.Epoch r12.T.Owners r12.T.Ids r12.T.Incs r12.Held r12.Buf r12.Coming r12.Out 0 _ h14) <| z0
 subst hx
 have q40 {l} (z : HA hn6 l) := zF (igt_eq h11) <| zc (IY K a3 _ h13) <| zo (J4 K a4 a1.N a1.Edges a2.Prog a2.Source a2.Limit a2.Parts a5.Kind a5.Epoch a5.Fresh a5.Step a5.P a5.Q a5.To a5.E a5.Owners a5.Ids a5.Incs a5.X.P a5.X.Step a5.X.Vals a5.X.Rest a5.X.In a5.Msgs K r12.Id r12.Goal r12.Until r12.T.Epoch r12.T.Owners r12.T.Ids r12.T.Incs r12.Held r12.Buf r12.Coming r12.Out 0 _ h14) <| z
 apply jc F <;> intro h18 F
 apply jr F
 exact fpC hn6 <| q39 <| q40 <| AQ (ige_eq h18) <| zr1 <| zX (.call 10 [] (Res.mk [(.one (mB true))] [])) knows10 <| zX (ff (leadsAny (Res.mk [(.one (mB true))] []))) lk <| z0
 have q41 {l} (z : HA hn6 l) := zB4 (ige_eq h18) <| z
 apply jc F <;> intro h19 F
 have q42 {l} (z : HA hn6 l) := zC6 h19 <| zB1 (ige_eq h18) <| zT h19 <| zF (ige_eq h18) <| z
 apply jc F <;> intro h20 F
 apply jr F
 exact fpC hn6 <| q39 <| q40 <| q41 <| q42 <| zT (igt_eq h20) <| zX (.call 10 [] (Res.mk [(.one (mB true))] [])) knows10 <| zX (ff (leadsAny (Res.mk [(.one (mB true))] []))) lk <| z0
 apply jb F; intro r21 h22 F
 apply jb F; intro r23 h24 F
 apply jb F; intro r25 h26 F
 apply jb F; intro r27 h28 F
 have q43 {l} (z : HA hn6 l) := zF (igt_eq h20) <| zc (Gs K (GWorker.mk w17.1 w17.2.1 w17.2.2.1 (GTable.mk w17.2.2.2.1 w17.2.2.2.2.1 w17.2.2.2.2.2.1 w17.2.2.2.2.2.2.1) w17.2.2.2.2.2.2.2.1 w17.2.2.2.2.2.2.2.2.1 w17.2.2.2.2.2.2.2.2.2.1 w17.2.2.2.2.2.2.2.2.2.2) _ h22) <| zc (Hm K a1 a2 (GWorker.mk w17.1 w17.2.1 w17.2.2.1 (GTable.mk w17.2.2.2.1 w17.2.2.2.2.1 w17.2.2.2.2.2.1 w17.2.2.2.2.2.2.1) w17.2.2.2.2.2.2.2.1 w17.2.2.2.2.2.2.2.2.1 w17.2.2.2.2.2.2.2.2.2.1 w17.2.2.2.2.2.2.2.2.2.2) a5 _ h24) <| zc (Gs K r23 _ h26) <| zl (IR K r21 r25 _ h28) <| z
 apply jc F <;> intro h29 F
 apply jr F
 exact fpC hn6 <| q39 <| q40 <| q41 <| q42 <| q43 <| zC1 h29 <| zX (.call 10 [] (Res.mk [(.one (mB true))] [])) knows10 <| zX (ff (leadsAny (Res.mk [(.one (mB true))] []))) lk <| zT h29 <| z0
 apply jr F
 exact fpC hn6 <| q39 <| q40 <| q41 <| q42 <| q43 <| Gl h29 <| z0
 apply jb F; intro r30 h31 F
 apply jb F; intro r32 h33 F
 apply jb F; intro r34 h35 F
 apply jb F; intro r36 h37 F
 have q44 {l} (z : HA hn6 l) := zD6 h19 <| zB1 (ige_eq h18) <| zF h19 <| zF (ige_eq h18) <| zf1 <| zc (Gs K (GWorker.mk w17.1 w17.2.1 w17.2.2.1 (GTable.mk w17.2.2.2.1 w17.2.2.2.2.1 w17.2.2.2.2.2.1 w17.2.2.2.2.2.2.1) w17.2.2.2.2.2.2.2.1 w17.2.2.2.2.2.2.2.2.1 w17.2.2.2.2.2.2.2.2.2.1 w17.2.2.2.2.2.2.2.2.2.2) _ h31) <| zc (Hm K a1 a2 (GWorker.mk w17.1 w17.2.1 w17.2.2.1 (GTable.mk w17.2.2.2.1 w17.2.2.2.2.1 w17.2.2.2.2.2.1 w17.2.2.2.2.2.2.1) w17.2.2.2.2.2.2.2.1 w17.2.2.2.2.2.2.2.2.1 w17.2.2.2.2.2.2.2.2.2.1 w17.2.2.2.2.2.2.2.2.2.2) a5 _ h33) <| zc (Gs K r32 _ h35) <| zl (IR K r30 r34 _ h37) <| z
 apply jc F <;> intro h38 F
 apply jr F
 exact fpC hn6 <| q39 <| q40 <| q41 <| q44 <| zC1 h38 <| zX (.call 10 [] (Res.mk [(.one (mB true))] [])) knows10 <| zX (ff (leadsAny (Res.mk [(.one (mB true))] []))) lk <| zT h38 <| z0
 apply jr F
 exact fpC hn6 <| q39 <| q40 <| q41 <| q44 <| Gl h38 <| z0
theorem Pa {α σ β : Type} {l : List α} {B : Int} (b : Nat) (hB : B = (b : Int)) {L : Nat → σ → Int → Option β} (step : Nat → α → σ → (σ → Option β) → Option β) (fin : σ → Option β)
 (h : ∀ k s (i : Nat), i ≤ l.length → L (k + 1) s i = bif ilt i (nlen (len l)) then (bif ilt i B then (bif inr i (len l) then (elAt l i).bind fun x => step i x s (fun s' => L k s' (wadd .i64 i 1)) else none) else fin s) else fin s)
 (hl : l.length < 4611686018427387904) : ∀ (k : Nat) (s : σ) (i : Nat), b - i < k → i ≤ l.length → L k s i = goI (fun i x s c => bif ilt (i : Int) B then step i x s c else fin s) fin i (l.drop i) s := by
 intro k
 induction k with
 | zero => intro s i h; omega
 | succ k ih =>
  intro s i hk hi
  rw [h k s i hi]
  rcases Hp l i with ⟨x, e1, e2, e3, e4⟩ | ⟨e1, e2⟩
  · have hlt := D8 e1
    rw [e1, e2, e3, e4]
    simp only [cT, bS, goI]
    cases hb : ilt (i : Int) B
    · rfl
    · rw [hB, Ae] at hb
      simp only [cT]
      congr 1
      funext s'
      rw [Gd om]
      exact ih s' (i + 1) om om
  · rw [e1, e2]; rfl
section
variable {g : GGraph} {j : GJob} {id : Int}
theorem Ja {β : Type} {step : Nat → GAct → GWorker → (GWorker → Option β) → Option β} {fin : GWorker → Option β} : ∀ (l : List GAct) (i n : Nat) (w : GWorker), (∀ x ∈ l, ∀ (i n : Nat) (w : GWorker), WI g j id n w → n ≤ 100000 → ∃ w', WI g j id (n + 42) w' ∧ ∀ c, step i x w c = c w') →
 WI g j id n w → n + 42 * (40 - i) ≤ 100000 → ∃ w', WI g j id 100000 w' ∧ goI (fun i x s c => bif ilt (i : Int) 40 then step i x s c else fin s) fin i l w = fin w'
 | [], i, n, w, _, h, hn => ⟨w, h.up om, rfl⟩
 | x :: l, i, n, w, hs, h, hn => by
  rw [goI]
  cases hi : ilt (i : Int) 40
  · exact ⟨w, h.up om, rfl⟩
  · rw [Ae] at hi
    obtain ⟨w1, h1, e1⟩ := hs x List.mem_cons_self i n w h om
    obtain ⟨w2, h2, e2⟩ := Ja l (i + 1) (n + 42) w1 (fun y hy => hs y (List.mem_cons_of_mem _ hy)) h1 om
    exact ⟨w2, h2, by rw [cT, e1, e2]⟩
theorem KH (K : Nat) (g : GGraph) : F9 K g = some (ilt 200 (g.Edges.length : Int)) := by rw [F9]; rfl
theorem Jx (g : GGraph) (j : GJob) : ∀ (l : List GPart) (w : GWorker), (l.foldl (AR g j) w).T = w.T
 | [], _ => rfl
 | x :: l, w => by
  rw [List.foldl_cons, Jx g j l, AR]
  cases Bj g j w x <;> rfl
theorem KS (g : GGraph) (j : GJob) (w : GWorker) (m : GMail) : w.T.Epoch ≤ (CJ g j w m).T.Epoch := by
 have hp : ∀ (v : GWorker), (Dw g j v m).T = v.T := fun v => by rw [Dw]; cases Bj g j v m.X <;> rfl
 rw [CJ]
 cases ieq (Ai g j) 0 && B8 m
 · exact Int.le_refl _
 · rw [cT, Fu]
   cases ieq m.Kind 1
   · cases ieq m.Kind 3
     · cases ieq m.Kind 4
       · cases ieq m.Kind 6
         · cases ieq m.Kind 7
           · cases ieq m.Kind 9
             · exact Int.le_refl _
             · simp only [cF, cT]
               rw [DL]
               cases (AH j m.Fresh m).2
               · exact Int.le_refl _
               · cases h : ile m.Fresh w.T.Epoch
                 · rw [CW] at h
                   show w.T.Epoch ≤ (D0 _ m.Fresh).T.Epoch
                   show w.T.Epoch ≤ ((BU w m ++ Da w m).foldl (AR g j) { w with T := (AH j m.Fresh m).1, Goal := -1, Held := [] }).T.Epoch
                   rw [Jx]
                   show w.T.Epoch ≤ m.Fresh
                   omega
                 · exact Int.le_refl _
           · simp only [cF, cT]
             rw [Dz]
             cases ilt m.Epoch w.T.Epoch || w.Coming.any (isC m.Epoch m.X.P) <;> exact Int.le_refl _
         · simp only [cF, cT]
           rw [DT]
           cases ieq m.Epoch w.T.Epoch && !(ilt (B7 w.Held m.P) 0)
           · exact Int.le_refl _
           · rw [cT]
             cases w.Held[(B7 w.Held m.P).toNat]? with
             | none => exact Int.le_refl _
             | some y =>
              dsimp only
              rw [Gp]
              cases y.Wait || (y.Given || ilt (BQ m.Ids m.To) 0) <;> exact Int.le_refl _
       · simp only [cF, cT]
         rw [B0]
         cases ile w.T.Epoch m.Epoch && ilt (AS w.Buf m.Epoch m.Step m.Q m.P) 0 <;> exact Int.le_refl _
     · simp only [cF, cT]
       rw [DA]
       cases ieq m.Epoch w.T.Epoch <;> exact Int.le_refl _
   · rw [cT, DJ]
     cases (AH j m.Epoch m).2
     · exact Int.le_refl _
     · cases ilt m.Epoch w.T.Epoch
       · cases h : ilt w.T.Epoch m.Epoch
         · simp only [cT, cF]; rw [hp]; exact Int.le_refl _
         · rw [Ae] at h
           simp only [cT, cF]
           rw [hp]
           show w.T.Epoch ≤ m.Epoch
           omega
       · exact Int.le_refl _
theorem Ol {n : Nat} {w : GWorker} (h : WI g j id n w) (hn : n ≤ 200000) (a : GAct) : w.T.Epoch ≤ (Er g j w a).1.T.Epoch := by
 rw [Er]
 cases ieq a.Kind 0
 · cases ieq a.Kind 1
   · show w.T.Epoch ≤ (DH w a.N).T.Epoch
     rw [DH]
     cases ilt w.Until a.N <;> exact Int.le_refl _
   · show w.T.Epoch ≤ (Dr g j w a.N).1.T.Epoch
     rw [(HY h hn a.N).2.1]; exact Int.le_refl _
 · exact KS g j w a.M
theorem Js {w : GWorker} {m : GMail} (h1 : ile w.T.Epoch m.Epoch = false) (h2 : ieq m.Kind 9 = true → ilt w.T.Epoch m.Fresh = false) : CJ g j w m = w := by
 rw [CW] at h1
 have e1 : ilt m.Epoch w.T.Epoch = true := Ae.2 h1
 have e2 : ieq m.Epoch w.T.Epoch = false := Aq.2 om
 have e3 : ile w.T.Epoch m.Epoch = false := CW.2 h1
 rw [CJ]
 cases ieq (Ai g j) 0 && B8 m
 · rfl
 · rw [cT, Fu]
   cases ieq m.Kind 1
   · cases ieq m.Kind 3
     · cases ieq m.Kind 4
       · cases ieq m.Kind 6
         · cases ieq m.Kind 7
           · cases h9 : ieq m.Kind 9
             · rfl
             · have h3 := h2 h9
               rw [Ac] at h3
               simp only [cF, cT]
               rw [DL, CP.2 h3]
               cases (AH j m.Fresh m).2 <;> rfl
           · simp only [cF, cT]; rw [Dz, e1]; rfl
         · simp only [cF, cT]; rw [DT, e2]; rfl
       · simp only [cF, cT]; rw [B0, e3]; rfl
     · simp only [cF, cT]; rw [DA, e2]; rfl
   · rw [cT, DJ, e1]
     cases (AH j m.Epoch m).2 <;> rfl
theorem L7 {K : Nat} (hK : 1000000 ≤ K) (g : GGraph) (j : GJob) (id : Int) (l : List GAct) (m : GMail) (hl : l.length < 4611686018427387904) (hw : ∀ a ∈ l, WGAct a) (hm : WGMail m) : F6 K g j id l m = some true := by
 rw [F6, KH, bS]
 cases ilt 200 (g.Edges.length : Int)
 · rw [cF, JL om, bS]
   cases hwide : ilt 100 (Eh m)
   · have hmi := HV hm (I1 hwide)
     rw [cF]
     let step : Nat → GAct → GWorker → (GWorker → Option (Unit ⊕ WT)) → Option (Unit ⊕ WT) := fun i x w c => (F12 K x.M).bind fun r => bif ilt 100 r then c w else (F13 K g j w x).bind fun r => bif ilt r.1.T.Epoch w.T.Epoch then some (.inl ()) else c r.1
     have hs := Pa 40 rfl (l := l) (L := fun k (w : GWorker) i => Dg K l g.N g.Edges j.Prog j.Source j.Limit j.Parts m.Kind m.Epoch m.Fresh m.Step m.P m.Q m.To m.E m.Owners m.Ids m.Incs m.X.P m.X.Step m.X.Vals m.X.Rest m.X.In m.Msgs k w.Id w.Goal w.Until w.T.Epoch w.T.Owners w.T.Ids w.T.Incs w.Held w.Buf w.Coming w.Out i) step (fun w => some (.inr (wt w))) (fun k s i _ => rfl) om K (GWorker.mk id (-1) 0 noT [] [] [] []) 0 om om
     obtain ⟨w, hW, hg⟩ := Ja (step := step) (fin := fun w => some (.inr (wt w))) l 0 0 (GWorker.mk id (-1) 0 noT [] [] [] []) (fun x hx i n w h hn => by
      have e0 : ∀ c, step i x w c = bif ilt 100 (Eh x.M) then c w else (F13 K g j w x).bind fun r => bif ilt r.1.T.Epoch w.T.Epoch then some (.inl ()) else c r.1 := fun c => by
       show (F12 K x.M).bind _ = _
       rw [JL om]; rfl
      simp only [e0]
      cases hq : ilt 100 (Eh x.M)
      · have hm := HV (hw x hx).2.2.1 (I1 hq)
        refine ⟨_, Pn h om hm, fun c => ?_⟩
        rw [cF, Pg hK h om hm, bS, Ac.2 (Ol h om x)]; rfl
      · exact ⟨w, h.up om, fun c => rfl⟩) (NT g j id) om
     rw [List.drop_zero] at hs
     have e : Dg K l g.N g.Edges j.Prog j.Source j.Limit j.Parts m.Kind m.Epoch m.Fresh m.Step m.P m.Q m.To m.E m.Owners m.Ids m.Incs m.X.P m.X.Step m.X.Vals m.X.Rest m.X.In m.Msgs K id (-1) 0 0 [] [] [] [] [] [] [] 0 = some (.inr (wt w)) := hs.trans hg
     show ((Dg K l g.N g.Edges j.Prog j.Source j.Limit j.Parts m.Kind m.Epoch m.Fresh m.Step m.P m.Q m.To m.E m.Owners m.Ids m.Incs m.X.P m.X.Step m.X.Vals m.X.Rest m.X.In m.Msgs K id (-1) 0 0 [] [] [] [] [] [] [] 0).bind _) = _
     rw [e, bS]
     have hsame := Qs hK hW om
     have has := Nl hK w (hW.sml om)
     have htake := JS hK g j w m (hW.sml om) hW.hx hW.cd (hmi.f.up om) hmi.p
     have fin : ∀ (hst : CJ g j w m = w), ((F16 K w).bind fun r => (F18 K g j w m).bind fun r' => (F16 K r').bind fun r'' => (F15 K r r'').bind fun b => bif b then some true else some false) = some true := fun hst => by
      rw [has, bS, htake, hst, bS, has, bS, hsame]; rfl
     dsimp only [wt, Sum.elim_inr]
     cases h1 : ile w.T.Epoch m.Epoch
     · cases h9 : ieq m.Kind 9
       · exact fin (Js h1 fun h => by rw [h9] at h; cases h)
       · cases hf : ilt w.T.Epoch m.Fresh
         · exact fin (Js h1 fun _ => hf)
         · rfl
     · rfl
   · rfl
 · rfl
theorem MP {α : Type} {l : List α} {n : Nat} (hn : 0 < n) (h : l.length * n ≤ reachBytes) : l.length < 4611686018427387904 := by
 have : l.length ≤ l.length * n := Nat.le_mul_of_pos_right _ hn
 have : reachBytes ≤ 140737488355328 := by unfold reachBytes; omega
 omega
theorem law6 (g : GGraph) (j : GJob) (id : Int) (l : List GAct) (m : GMail) (_ : WGGraph g) (_ : WGJob j) (_ : (Lit.int .i64 id).wf = true) (hl : l.length * 264 ≤ reachBytes ∧ ∀ y ∈ l, WGAct y) (hm : WGMail m) : F6 1000000 g j id l m = some true :=
 L7 (Nat.le_refl _) g j id l m (MP om hl.1) hl.2 hm
end
end
end Go.Proofs.Ytbaihlhoedbpkaa.Tm

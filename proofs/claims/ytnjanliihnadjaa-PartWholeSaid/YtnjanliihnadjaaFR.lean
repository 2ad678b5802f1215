/- Printed by program: what each function computes, and that the machine answers so. Conditions: none. -/
import Derived.Test.YtnjanliihnadjaaTy
import Derived.Test.YtnjanliihnadjaaTab
import Derived.Test.YtnjanliihnadjaaKn
import Derived.KernelRfl
set_option linter.unusedVariables false
set_option linter.unusedSimpArgs false
namespace Go.Proofs.Ytnjanliihnadjaa.Tm
open Go
/-! ### haywain/haywainref05.At -/
noncomputable def hn151 : Hint := { H 151 with nt := 25, prot := 0 }
noncomputable def c151_0 : Code := loopOf E 151 0
def F151_res (r1255 : Int × Bool) : Res := ⟨[(.one (.im (.lit (.int .i64 r1255.1)))), (.one (.im (.lit (.bool r1255.2))))], []⟩
def F151_l0_0 (K : Nat) (a1233 : List GMsg) (a1234 : Int) : Nat → Int → Option ((Int) ⊕ (Unit))
  | 0, _ => none
  | k + 1, v1240 =>
    bif (ilt v1240 (nlen (len a1233))) then
      (bif (inr v1240 (len a1233)) then
      (elAt a1233 v1240).bind fun x1243 =>
      bif (ieq x1243.To a1234) then
        (some (.inl x1243.V))
      else
      F151_l0_0 K a1233 a1234 k (wadd .i64 v1240 1)
      else none)
    else
    some (.inr ())
def F151_l0_0_S (a1233 : List GMsg) (a1234 : Int) (v1240 : Int) : TS := .on [0, 1, 64, 65, 384, 385] [(0, ⟨.one, 0, nob⟩), (1, ⟨.im, 0, (.sl (len a1233) (flat eGMsg a1233))⟩), (64, ⟨.one, 0, nob⟩), (65, ⟨.im, 0, (.lit (.int .i64 a1234))⟩), (384, ⟨.one, 0, nob⟩), (385, ⟨.im, 0, (.lit (.int .i64 v1240))⟩)]
def F151_l0_0_X0 (a1233 : List GMsg) (a1234 : Int) (w1246 : Int) : TS := .on [256, 257, 320, 321] [(256, ⟨.one, 0, nob⟩), (257, ⟨.im, 0, (.lit (.int .i64 w1246))⟩), (320, ⟨.one, 0, nob⟩), (321, ⟨.im, 0, (.lit (.bool true))⟩)]
def F151_l0_0_X1 (a1233 : List GMsg) (a1234 : Int) (w1248 : Unit) : TS := .on [] []
theorem F151_l0_0_ok (K : Nat) (a1233 : List GMsg) (a1234 : Int) : ∀ (k : Nat) (v1240 : Int) (r : (Int) ⊕ (Unit)), F151_l0_0 K a1233 a1234 k v1240 = some r → (Sum.elim (fun w => LoopEv E H hn151 0 c151_0 (F151_l0_0_S a1233 a1234 v1240) .ret (F151_l0_0_X0 a1233 a1234 w)) (fun w => LoopEv E H hn151 0 c151_0 (F151_l0_0_S a1233 a1234 v1240) (.exit 0) (F151_l0_0_X1 a1233 a1234 w))) r := by
  intro k
  induction k with
  | zero => intro v1240 r hF; cases hF
  | succ k ih =>
    intro v1240 r hF
    rw [F151_l0_0] at hF
    refine cond_some hF (fun h1241 hF => ?_) (fun h1241 hF => ?_)
    ·
      refine cond_some hF (fun h1242 hF => ?_) (fun _ hF => nomatch hF)
      refine bind_some hF (fun x1243 h1244 hF => ?_)
      have pq1249 : ∀ {l : List Cond}, HoldAll E H hn151 l → HoldAll E H hn151 (.int (nlen (len a1233)) (nlen (len a1233)) :: .test (ilt v1240 (nlen (len a1233))) true :: .test (inr v1240 (len a1233)) true :: .sub (flat eGMsg a1233) (nadd (nidx v1240 2) 0) 1 [(.lit (.int .i64 x1243.To))] :: l) := fun z => ⟨rfl, h1241, h1242, ⟨rfl, sub_flat eGMsg_len h1244 0 1 (by decide)⟩, z⟩
      refine cond_some hF (fun h1245 hF => ?_) (fun h1245 hF => ?_)
      ·
        have hr := Option.some.inj hF
        subst hr
        have pz : HoldAll E H hn151 [.test (ieq x1243.To a1234) true, .test (inr v1240 (len a1233)) true, .sub (flat eGMsg a1233) (nadd (nidx v1240 2) 1) 1 [(.lit (.int .i64 x1243.V))]] := ⟨h1245, h1242, ⟨rfl, sub_flat eGMsg_len h1244 1 1 (by decide)⟩, trivial⟩
        exact loop_endC (h := hn151) (l := 0) (c := c151_0) (ts := F151_l0_0_S a1233 a1234 v1240) (ts' := F151_l0_0_X0 a1233 a1234 x1243.V) (ex := .ret) (pq1249 pz) (by kernel_rfl) trivial
      have pz : HoldAll E H hn151 [.test (ieq x1243.To a1234) false, .int (wadd .i64 v1240 1) (wadd .i64 v1240 1)] := ⟨h1245, rfl, trivial⟩
      have h0 := ih _ _ hF
      have hn := fun ex ts' => loop_nextC (h := hn151) (l := 0) (c := c151_0) (ts := F151_l0_0_S a1233 a1234 v1240) (ts1 := (F151_l0_0_S a1233 a1234 (wadd .i64 v1240 1))) (ex := ex) (ts' := ts') (pq1249 pz) (by kernel_rfl)
      cases r with
      | inl w => exact hn _ _ h0
      | inr w => exact hn _ _ h0
    have hr := Option.some.inj hF
    subst hr
    have pz : HoldAll E H hn151 [.int (nlen (len a1233)) (nlen (len a1233)), .test (ilt v1240 (nlen (len a1233))) false] := ⟨rfl, h1241, trivial⟩
    exact loop_endC (h := hn151) (l := 0) (c := c151_0) (ts := F151_l0_0_S a1233 a1234 v1240) (ts' := F151_l0_0_X1 a1233 a1234 ()) (ex := (.exit 0)) pz (by kernel_rfl) trivial

def F151 (K : Nat) (a1233 : List GMsg) (a1234 : Int) : Option (Int × Bool) :=
  (F151_l0_0 K a1233 a1234 K 0).bind fun y1251 =>
  Sum.elim (fun w1252 =>
    some (w1252, true))
    (fun w1254 =>
    some (0, false)) y1251
theorem F151_ok (K : Nat) (a1233 : List GMsg) (a1234 : Int) (r : Int × Bool) (hF : F151 K a1233 a1234 = some r) : Evt E H 151 [.one (.sl (len a1233) (flat eGMsg a1233)), .one (.lit (.int .i64 a1234))] (F151_res r) := by
  rw [F151] at hF
  refine bind_some hF (fun y1251 h1250 hF => ?_)
  refine sum_some hF (fun w1252 hx hF => ?_) (fun w1254 hx hF => ?_)
  ·
    subst hx
    have hr := Option.some.inj hF
    subst hr
    have pz : HoldAll E H hn151 [.loop 0 c151_0 (F151_l0_0_S a1233 a1234 0) .ret (F151_l0_0_X0 a1233 a1234 w1252)] := ⟨(F151_l0_0_ok K a1233 a1234 K 0 _ h1250), trivial⟩
    exact fn_playC hn151 (f := 151) (ads := [.one (.sl (len a1233) (flat eGMsg a1233)), .one (.lit (.int .i64 a1234))]) (r := F151_res (w1252, true)) pz (by kernel_rfl) (by kernel_rfl)
  subst hx
  have hr := Option.some.inj hF
  subst hr
  have pz : HoldAll E H hn151 [.loop 0 c151_0 (F151_l0_0_S a1233 a1234 0) (.exit 0) (F151_l0_0_X1 a1233 a1234 w1254)] := ⟨(F151_l0_0_ok K a1233 a1234 K 0 _ h1250), trivial⟩
  exact fn_playC hn151 (f := 151) (ads := [.one (.sl (len a1233) (flat eGMsg a1233)), .one (.lit (.int .i64 a1234))]) (r := F151_res (0, false)) pz (by kernel_rfl) (by kernel_rfl)

/-! ### haywain/haywainref05.Sort -/
noncomputable def hn91 : Hint := { H 91 with nt := 66, prot := 0 }
noncomputable def c91_0 : Code := loopOf E 91 0
noncomputable def c91_1 : Code := loopOf E 91 1
def F91_res (r2025 : List GMsg) : Res := ⟨[(.one (.own 130 (.sl (len r2025) (flat eGMsg r2025))))], []⟩
def F91_l1_1 (K : Nat) (a1920 : List GMsg) (v1970 : Int) : Nat → List GMsg → Int → Option (List GMsg)
  | 0, _, _ => none
  | k + 1, v1992, v1993 =>
    bif (ilt 0 v1993) then
      (bif (inr (wsub .i64 v1993 1) (len v1992)) then
      (elAt v1992 (wsub .i64 v1993 1)).bind fun x1996 =>
      bif (inr v1993 (len v1992)) then
      (elAt v1992 v1993).bind fun x1999 =>
      bif (ilt x1996.To x1999.To) then
        (some v1992)
      else
      bif (ieq x1996.To x1999.To) then
        (bif (ile x1996.V x1999.V) then
          (some v1992)
        else
        bif (inr v1993 (len (α := GMsg) (putAt v1992 (wsub .i64 v1993 1) x1999))) then
        (elAt (putAt v1992 (wsub .i64 v1993 1) x1999) v1993).bind fun x2005 =>
        F91_l1_1 K a1920 v1970 k (putAt (putAt v1992 (wsub .i64 v1993 1) x1999) v1993 x1996) (wsub .i64 v1993 1)
        else none)
      else
      bif (inr v1993 (len (α := GMsg) (putAt v1992 (wsub .i64 v1993 1) x1999))) then
      (elAt (putAt v1992 (wsub .i64 v1993 1) x1999) v1993).bind fun x2008 =>
      F91_l1_1 K a1920 v1970 k (putAt (putAt v1992 (wsub .i64 v1993 1) x1999) v1993 x1996) (wsub .i64 v1993 1)
      else none
      else none
      else none)
    else
    some v1992
def F91_l1_1_S (a1920 : List GMsg) (v1970 : Int) (v1992 : List GMsg) (v1993 : Int) : TS := .on [0, 1, 192, 193, 256, 257, 320, 321] [(0, ⟨.one, 0, nob⟩), (1, ⟨.im, 0, (.sl (len a1920) (flat eGMsg a1920))⟩), (192, ⟨.one, 0, nob⟩), (193, ⟨(.own 130), 0, (.sl (len v1992) (flat eGMsg v1992))⟩), (256, ⟨.one, 0, nob⟩), (257, ⟨.im, 0, (.lit (.int .i64 v1970))⟩), (320, ⟨.one, 0, nob⟩), (321, ⟨.im, 0, (.lit (.int .i64 v1993))⟩)]
def F91_l1_1_X0 (a1920 : List GMsg) (v1970 : Int) (w2010 : List GMsg) : TS := .on [0, 1, 192, 193, 256, 257] [(0, ⟨.one, 0, nob⟩), (1, ⟨.im, 0, (.sl (len a1920) (flat eGMsg a1920))⟩), (192, ⟨.one, 0, nob⟩), (193, ⟨(.own 130), 0, (.sl (len w2010) (flat eGMsg w2010))⟩), (256, ⟨.one, 0, nob⟩), (257, ⟨.im, 0, (.lit (.int .i64 v1970))⟩)]
theorem F91_l1_1_ok (K : Nat) (a1920 : List GMsg) (v1970 : Int) : ∀ (k : Nat) (v1992 : List GMsg) (v1993 : Int) (r : List GMsg), F91_l1_1 K a1920 v1970 k v1992 v1993 = some r → LoopEv E H hn91 2 c91_1 (F91_l1_1_S a1920 v1970 v1992 v1993) (.exit 2) (F91_l1_1_X0 a1920 v1970 r) := by
  intro k
  induction k with
  | zero => intro v1992 v1993 r hF; cases hF
  | succ k ih =>
    intro v1992 v1993 r hF
    rw [F91_l1_1] at hF
    refine cond_some hF (fun h1994 hF => ?_) (fun h1994 hF => ?_)
    ·
      refine cond_some hF (fun h1995 hF => ?_) (fun _ hF => nomatch hF)
      refine bind_some hF (fun x1996 h1997 hF => ?_)
      refine cond_some hF (fun h1998 hF => ?_) (fun _ hF => nomatch hF)
      refine bind_some hF (fun x1999 h2000 hF => ?_)
      have pq2012 : ∀ {l : List Cond}, HoldAll E H hn91 l → HoldAll E H hn91 (.test (igt v1993 0) true :: .int (wsub .i64 v1993 1) (wsub .i64 v1993 1) :: .test (inr (wsub .i64 v1993 1) (len v1992)) true :: .sub (flat eGMsg v1992) (nidx (wsub .i64 v1993 1) 2) 2 [(.lit (.int .i64 x1996.To)), (.lit (.int .i64 x1996.V))] :: .test (inr v1993 (len v1992)) true :: .sub (flat eGMsg v1992) (nidx v1993 2) 2 [(.lit (.int .i64 x1999.To)), (.lit (.int .i64 x1999.V))] :: l) := fun z => ⟨(igt_eq h1994), rfl, h1995, ⟨rfl, sub_flat0 eGMsg_len h1997 2 (by decide)⟩, h1998, ⟨rfl, sub_flat0 eGMsg_len h2000 2 (by decide)⟩, z⟩
      refine cond_some hF (fun h2001 hF => ?_) (fun h2001 hF => ?_)
      ·
        have hr := Option.some.inj hF
        subst hr
        have pz : HoldAll E H hn91 [.test (beqb (ilt x1996.To x1999.To) false) false, .test (beqb (ilt x1996.To x1999.To) false) false, .test (beqb (ilt x1996.To x1999.To) false) false, .test (beqb (ilt x1996.To x1999.To) false) false, .test (beqb (ilt x1996.To x1999.To) false) false, .test (beqb (ilt x1996.To x1999.To) false) false, .test (beqb (ilt x1996.To x1999.To) false) false, .test (ilt x1996.To x1999.To) true, .test true true] := ⟨(beqb_ft h2001), (beqb_ft h2001), (beqb_ft h2001), (beqb_ft h2001), (beqb_ft h2001), (beqb_ft h2001), (beqb_ft h2001), h2001, rfl, trivial⟩
        exact loop_endC (h := hn91) (l := 2) (c := c91_1) (ts := F91_l1_1_S a1920 v1970 v1992 v1993) (ts' := F91_l1_1_X0 a1920 v1970 v1992) (ex := (.exit 2)) (pq2012 pz) (by kernel_rfl) trivial
      have pq2013 : ∀ {l : List Cond}, HoldAll E H hn91 l → HoldAll E H hn91 (.test (beqb (ilt x1996.To x1999.To) false) true :: .test (beqb (ilt x1996.To x1999.To) false) true :: .test (beqb (ilt x1996.To x1999.To) false) true :: .test (beqb (ilt x1996.To x1999.To) false) true :: .test (beqb (ilt x1996.To x1999.To) false) true :: .test (beqb (ilt x1996.To x1999.To) false) true :: l) := fun z => ⟨(beqb_ff h2001), (beqb_ff h2001), (beqb_ff h2001), (beqb_ff h2001), (beqb_ff h2001), (beqb_ff h2001), z⟩
      refine cond_some hF (fun h2002 hF => ?_) (fun h2002 hF => ?_)
      ·
        have pq2014 : ∀ {l : List Cond}, HoldAll E H hn91 l → HoldAll E H hn91 (.test (beqb (ieq x1996.To x1999.To) true) true :: .test (beqb (ieq x1996.To x1999.To) true) true :: .test (beqb (ieq x1996.To x1999.To) true) true :: .test (beqb (ieq x1996.To x1999.To) true) true :: .test (beqb (ieq x1996.To x1999.To) true) true :: .test (beqb (ilt x1996.To x1999.To) false) true :: .test (ieq x1996.To x1999.To) true :: .test (ilt x1996.To x1999.To) false :: l) := fun z => ⟨(beqb_t h2002), (beqb_t h2002), (beqb_t h2002), (beqb_t h2002), (beqb_t h2002), (beqb_ff h2001), h2002, h2001, z⟩
        refine cond_some hF (fun h2003 hF => ?_) (fun h2003 hF => ?_)
        ·
          have hr := Option.some.inj hF
          subst hr
          have pz : HoldAll E H hn91 [.test (ile x1996.V x1999.V) true] := ⟨h2003, trivial⟩
          exact loop_endC (h := hn91) (l := 2) (c := c91_1) (ts := F91_l1_1_S a1920 v1970 v1992 v1993) (ts' := F91_l1_1_X0 a1920 v1970 v1992) (ex := (.exit 2)) (pq2012 (pq2013 (pq2014 pz))) (by kernel_rfl) trivial
        refine cond_some hF (fun h2004 hF => ?_) (fun _ hF => nomatch hF)
        refine bind_some hF (fun x2005 h2006 hF => ?_)
        have pz : HoldAll E H hn91 [.test (ile x1996.V x1999.V) false, .int (wsub .i64 v1993 1) (wsub .i64 v1993 1), .test (inr (wsub .i64 v1993 1) (len v1992)) true, .test (lfits (nidx (wsub .i64 v1993 1) 2) 2 (flat eGMsg v1992)) true, .sl (len v1992) (lset (flat eGMsg v1992) (nidx (wsub .i64 v1993 1) 2) [(.lit (.int .i64 x1999.To)), (.lit (.int .i64 x1999.V))]) (len (α := GMsg) (putAt v1992 (wsub .i64 v1993 1) x1999)) (flat eGMsg (putAt v1992 (wsub .i64 v1993 1) x1999)), .test (inr v1993 (len (α := GMsg) (putAt v1992 (wsub .i64 v1993 1) x1999))) true, .test (lfits (nidx v1993 2) 2 (flat eGMsg (putAt v1992 (wsub .i64 v1993 1) x1999))) true, .sl (len (α := GMsg) (putAt v1992 (wsub .i64 v1993 1) x1999)) (lset (flat eGMsg (putAt v1992 (wsub .i64 v1993 1) x1999)) (nidx v1993 2) [(.lit (.int .i64 x1996.To)), (.lit (.int .i64 x1996.V))]) (len (α := GMsg) (putAt (putAt v1992 (wsub .i64 v1993 1) x1999) v1993 x1996)) (flat eGMsg (putAt (putAt v1992 (wsub .i64 v1993 1) x1999) v1993 x1996)), .int (wsub .i64 v1993 1) (wsub .i64 v1993 1)] := ⟨h2003, rfl, h1995, (lfits_flat0 eGMsg_len h1997 _ (by decide)), (set_ok0 eGMsg_len h1997 _ (by simp) rfl), h2004, (lfits_flat0 eGMsg_len h2006 _ (by decide)), (set_ok0 eGMsg_len h2006 _ (by simp) rfl), rfl, trivial⟩
        have h0 := ih _ _ _ hF
        have hn := fun ex ts' => loop_nextC (h := hn91) (l := 2) (c := c91_1) (ts := F91_l1_1_S a1920 v1970 v1992 v1993) (ts1 := (F91_l1_1_S a1920 v1970 (putAt (putAt v1992 (wsub .i64 v1993 1) x1999) v1993 x1996) (wsub .i64 v1993 1))) (ex := ex) (ts' := ts') (pq2012 (pq2013 (pq2014 pz))) (by kernel_rfl)
        exact hn _ _ h0
      refine cond_some hF (fun h2007 hF => ?_) (fun _ hF => nomatch hF)
      refine bind_some hF (fun x2008 h2009 hF => ?_)
      have pz : HoldAll E H hn91 [.test (beqb (ieq x1996.To x1999.To) true) false, .test (beqb (ieq x1996.To x1999.To) true) false, .test (beqb (ieq x1996.To x1999.To) true) false, .test (beqb (ieq x1996.To x1999.To) true) false, .test (beqb (ieq x1996.To x1999.To) true) false, .test (beqb (ilt x1996.To x1999.To) false) true, .test (ieq x1996.To x1999.To) false, .test (ilt x1996.To x1999.To) false, .test false false, .int (wsub .i64 v1993 1) (wsub .i64 v1993 1), .test (inr (wsub .i64 v1993 1) (len v1992)) true, .test (lfits (nidx (wsub .i64 v1993 1) 2) 2 (flat eGMsg v1992)) true, .sl (len v1992) (lset (flat eGMsg v1992) (nidx (wsub .i64 v1993 1) 2) [(.lit (.int .i64 x1999.To)), (.lit (.int .i64 x1999.V))]) (len (α := GMsg) (putAt v1992 (wsub .i64 v1993 1) x1999)) (flat eGMsg (putAt v1992 (wsub .i64 v1993 1) x1999)), .test (inr v1993 (len (α := GMsg) (putAt v1992 (wsub .i64 v1993 1) x1999))) true, .test (lfits (nidx v1993 2) 2 (flat eGMsg (putAt v1992 (wsub .i64 v1993 1) x1999))) true, .sl (len (α := GMsg) (putAt v1992 (wsub .i64 v1993 1) x1999)) (lset (flat eGMsg (putAt v1992 (wsub .i64 v1993 1) x1999)) (nidx v1993 2) [(.lit (.int .i64 x1996.To)), (.lit (.int .i64 x1996.V))]) (len (α := GMsg) (putAt (putAt v1992 (wsub .i64 v1993 1) x1999) v1993 x1996)) (flat eGMsg (putAt (putAt v1992 (wsub .i64 v1993 1) x1999) v1993 x1996)), .int (wsub .i64 v1993 1) (wsub .i64 v1993 1)] := ⟨(beqb_t h2002), (beqb_t h2002), (beqb_t h2002), (beqb_t h2002), (beqb_t h2002), (beqb_ff h2001), h2002, h2001, rfl, rfl, h1995, (lfits_flat0 eGMsg_len h1997 _ (by decide)), (set_ok0 eGMsg_len h1997 _ (by simp) rfl), h2007, (lfits_flat0 eGMsg_len h2009 _ (by decide)), (set_ok0 eGMsg_len h2009 _ (by simp) rfl), rfl, trivial⟩
      have h0 := ih _ _ _ hF
      have hn := fun ex ts' => loop_nextC (h := hn91) (l := 2) (c := c91_1) (ts := F91_l1_1_S a1920 v1970 v1992 v1993) (ts1 := (F91_l1_1_S a1920 v1970 (putAt (putAt v1992 (wsub .i64 v1993 1) x1999) v1993 x1996) (wsub .i64 v1993 1))) (ex := ex) (ts' := ts') (pq2012 (pq2013 pz)) (by kernel_rfl)
      exact hn _ _ h0
    have hr := Option.some.inj hF
    subst hr
    have pz : HoldAll E H hn91 [.test (igt v1993 0) false] := ⟨(igt_eq h1994), trivial⟩
    exact loop_endC (h := hn91) (l := 2) (c := c91_1) (ts := F91_l1_1_S a1920 v1970 v1992 v1993) (ts' := F91_l1_1_X0 a1920 v1970 v1992) (ex := (.exit 2)) pz (by kernel_rfl) trivial

def F91_l0_0 (K : Nat) (a1920 : List GMsg) : Nat → List GMsg → Int → Option (List GMsg)
  | 0, _, _ => none
  | k + 1, v1969, v1970 =>
    bif (ilt v1970 (nlen (len a1920))) then
      (bif (inr v1970 (len a1920)) then
      (elAt a1920 v1970).bind fun x1973 =>
      bif (apok (len v1969) 1 16) then
      (F91_l1_1 K a1920 v1970 K (appL v1969 [x1973]) (wsub .i64 (nlen (len (α := GMsg) (appL v1969 [x1973]))) 1)).bind fun w2017 =>
      F91_l0_0 K a1920 k w2017 (wadd .i64 v1970 1)
      else none
      else none)
    else
    some v1969
def F91_l0_0_S (a1920 : List GMsg) (v1969 : List GMsg) (v1970 : Int) : TS := .on [0, 1, 192, 193, 256, 257] [(0, ⟨.one, 0, nob⟩), (1, ⟨.im, 0, (.sl (len a1920) (flat eGMsg a1920))⟩), (192, ⟨.one, 0, nob⟩), (193, ⟨(.own 130), 0, (.sl (len v1969) (flat eGMsg v1969))⟩), (256, ⟨.one, 0, nob⟩), (257, ⟨.im, 0, (.lit (.int .i64 v1970))⟩)]
def F91_l0_0_X0 (a1920 : List GMsg) (w2019 : List GMsg) : TS := .on [192, 193] [(192, ⟨.one, 0, nob⟩), (193, ⟨(.own 130), 0, (.sl (len w2019) (flat eGMsg w2019))⟩)]
theorem F91_l0_0_ok (K : Nat) (a1920 : List GMsg) : ∀ (k : Nat) (v1969 : List GMsg) (v1970 : Int) (r : List GMsg), F91_l0_0 K a1920 k v1969 v1970 = some r → LoopEv E H hn91 0 c91_0 (F91_l0_0_S a1920 v1969 v1970) (.exit 0) (F91_l0_0_X0 a1920 r) := by
  intro k
  induction k with
  | zero => intro v1969 v1970 r hF; cases hF
  | succ k ih =>
    intro v1969 v1970 r hF
    rw [F91_l0_0] at hF
    refine cond_some hF (fun h1971 hF => ?_) (fun h1971 hF => ?_)
    ·
      refine cond_some hF (fun h1972 hF => ?_) (fun _ hF => nomatch hF)
      refine bind_some hF (fun x1973 h1974 hF => ?_)
      refine cond_some hF (fun h1975 hF => ?_) (fun _ hF => nomatch hF)
      refine bind_some hF (fun w2017 h2015 hF => ?_)
      have pz : HoldAll E H hn91 [.int (nlen (len a1920)) (nlen (len a1920)), .test (ilt v1970 (nlen (len a1920))) true, .test (inr v1970 (len a1920)) true, .sub (flat eGMsg a1920) (nidx v1970 2) 2 [(.lit (.int .i64 x1973.To)), (.lit (.int .i64 x1973.V))], .test (leqm [(.lit (.int .i64 x1973.To)), (.lit (.int .i64 x1973.V))] 1 2) true, .test (apok (len v1969) 1 16) true, .sl (nadd (len v1969) 1) (lapp (flat eGMsg v1969) [(.lit (.int .i64 x1973.To)), (.lit (.int .i64 x1973.V))]) (len (α := GMsg) (appL v1969 [x1973])) (flat eGMsg (appL v1969 [x1973])), .int (nlen (len (α := GMsg) (appL v1969 [x1973]))) (nlen (len (α := GMsg) (appL v1969 [x1973]))), .int (wsub .i64 (nlen (len (α := GMsg) (appL v1969 [x1973]))) 1) (wsub .i64 (nlen (len (α := GMsg) (appL v1969 [x1973]))) 1), .loop 2 c91_1 (F91_l1_1_S a1920 v1970 (appL v1969 [x1973]) (wsub .i64 (nlen (len (α := GMsg) (appL v1969 [x1973]))) 1)) (.exit 2) (F91_l1_1_X0 a1920 v1970 w2017), .int (wadd .i64 v1970 1) (wadd .i64 v1970 1)] := ⟨rfl, h1971, h1972, ⟨rfl, sub_flat0 eGMsg_len h1974 2 (by decide)⟩, rfl, h1975, (app_ok (enc := eGMsg) (v1969 : List GMsg) [x1973]), rfl, rfl, (F91_l1_1_ok K a1920 v1970 K (appL v1969 [x1973]) (wsub .i64 (nlen (len (α := GMsg) (appL v1969 [x1973]))) 1) _ h2015), rfl, trivial⟩
      have h0 := ih _ _ _ hF
      have hn := fun ex ts' => loop_nextC (h := hn91) (l := 0) (c := c91_0) (ts := F91_l0_0_S a1920 v1969 v1970) (ts1 := (F91_l0_0_S a1920 w2017 (wadd .i64 v1970 1))) (ex := ex) (ts' := ts') pz (by kernel_rfl)
      exact hn _ _ h0
    have hr := Option.some.inj hF
    subst hr
    have pz : HoldAll E H hn91 [.int (nlen (len a1920)) (nlen (len a1920)), .test (ilt v1970 (nlen (len a1920))) false] := ⟨rfl, h1971, trivial⟩
    exact loop_endC (h := hn91) (l := 0) (c := c91_0) (ts := F91_l0_0_S a1920 v1969 v1970) (ts' := F91_l0_0_X0 a1920 v1969) (ex := (.exit 0)) pz (by kernel_rfl) trivial

def F91 (K : Nat) (a1920 : List GMsg) : Option (List GMsg) :=
  (F91_l0_0 K a1920 K [] 0).bind fun w2023 =>
  some w2023
theorem F91_ok (K : Nat) (a1920 : List GMsg) (r : List GMsg) (hF : F91 K a1920 = some r) : Evt E H 91 [.one (.sl (len a1920) (flat eGMsg a1920))] (F91_res r) := by
  rw [F91] at hF
  refine bind_some hF (fun w2023 h2021 hF => ?_)
  have hr := Option.some.inj hF
  subst hr
  have pz : HoldAll E H hn91 [.loop 0 c91_0 (F91_l0_0_S a1920 [] 0) (.exit 0) (F91_l0_0_X0 a1920 w2023)] := ⟨(F91_l0_0_ok K a1920 K [] 0 _ h2021), trivial⟩
  exact fn_playC hn91 (f := 91) (ads := [.one (.sl (len a1920) (flat eGMsg a1920))]) (r := F91_res w2023) pz (by kernel_rfl) (by kernel_rfl)

/-! ### haywain/haywainref05.Join -/
noncomputable def hn90 : Hint := { H 90 with nt := 19, prot := 0 }
noncomputable def c90_0 : Code := loopOf E 90 0
def F90_res (r4044 : List GMsg) : Res := ⟨[(.one (.own 130 (.sl (len r4044) (flat eGMsg r4044))))], []⟩
def F90_l0_0 (K : Nat) (a4023 : List (List GMsg)) : Nat → List GMsg → Int → Option (List GMsg)
  | 0, _, _ => none
  | k + 1, v4029, v4030 =>
    bif (ilt v4030 (nlen (len a4023))) then
      (bif (inr v4030 (len a4023)) then
      (elAt a4023 v4030).bind fun x4033 =>
      bif (apok (len v4029) (len x4033) 16) then
      F90_l0_0 K a4023 k (appL v4029 x4033) (wadd .i64 v4030 1)
      else none
      else none)
    else
    some v4029
def F90_l0_0_S (a4023 : List (List GMsg)) (v4029 : List GMsg) (v4030 : Int) : TS := .on [0, 1, 192, 193, 256, 257] [(0, ⟨.one, 0, nob⟩), (1, ⟨.im, 0, (.sl (len a4023) (flat (eSl eGMsg) a4023))⟩), (192, ⟨.one, 0, nob⟩), (193, ⟨(.own 130), 0, (.sl (len v4029) (flat eGMsg v4029))⟩), (256, ⟨.one, 0, nob⟩), (257, ⟨.im, 0, (.lit (.int .i64 v4030))⟩)]
def F90_l0_0_X0 (a4023 : List (List GMsg)) (w4036 : List GMsg) : TS := .on [192, 193] [(192, ⟨.one, 0, nob⟩), (193, ⟨(.own 130), 0, (.sl (len w4036) (flat eGMsg w4036))⟩)]
theorem F90_l0_0_ok (K : Nat) (a4023 : List (List GMsg)) : ∀ (k : Nat) (v4029 : List GMsg) (v4030 : Int) (r : List GMsg), F90_l0_0 K a4023 k v4029 v4030 = some r → LoopEv E H hn90 0 c90_0 (F90_l0_0_S a4023 v4029 v4030) (.exit 0) (F90_l0_0_X0 a4023 r) := by
  intro k
  induction k with
  | zero => intro v4029 v4030 r hF; cases hF
  | succ k ih =>
    intro v4029 v4030 r hF
    rw [F90_l0_0] at hF
    refine cond_some hF (fun h4031 hF => ?_) (fun h4031 hF => ?_)
    ·
      refine cond_some hF (fun h4032 hF => ?_) (fun _ hF => nomatch hF)
      refine bind_some hF (fun x4033 h4034 hF => ?_)
      refine cond_some hF (fun h4035 hF => ?_) (fun _ hF => nomatch hF)
      have pz : HoldAll E H hn90 [.int (nlen (len a4023)) (nlen (len a4023)), .test (ilt v4030 (nlen (len a4023))) true, .test (inr v4030 (len a4023)) true, .sub (flat (eSl eGMsg) a4023) (nidx v4030 1) 1 [(.sl (len x4033) (flat eGMsg x4033))], .test (leqm (flat eGMsg x4033) (len x4033) 2) true, .test (apok (len v4029) (len x4033) 16) true, .sl (nadd (len v4029) (len x4033)) (lapp (flat eGMsg v4029) (flat eGMsg x4033)) (len (α := GMsg) (appL v4029 x4033)) (flat eGMsg (appL v4029 x4033)), .int (wadd .i64 v4030 1) (wadd .i64 v4030 1)] := ⟨rfl, h4031, h4032, ⟨rfl, sub_flat0 (eSl_len _) h4034 1 (by decide)⟩, (leqm_flat eGMsg_len _), h4035, (app_ok (enc := eGMsg) (v4029 : List GMsg) x4033), rfl, trivial⟩
      have h0 := ih _ _ _ hF
      have hn := fun ex ts' => loop_nextC (h := hn90) (l := 0) (c := c90_0) (ts := F90_l0_0_S a4023 v4029 v4030) (ts1 := (F90_l0_0_S a4023 (appL v4029 x4033) (wadd .i64 v4030 1))) (ex := ex) (ts' := ts') pz (by kernel_rfl)
      exact hn _ _ h0
    have hr := Option.some.inj hF
    subst hr
    have pz : HoldAll E H hn90 [.int (nlen (len a4023)) (nlen (len a4023)), .test (ilt v4030 (nlen (len a4023))) false] := ⟨rfl, h4031, trivial⟩
    exact loop_endC (h := hn90) (l := 0) (c := c90_0) (ts := F90_l0_0_S a4023 v4029 v4030) (ts' := F90_l0_0_X0 a4023 v4029) (ex := (.exit 0)) pz (by kernel_rfl) trivial

def F90 (K : Nat) (a4023 : List (List GMsg)) : Option (List GMsg) :=
  (F90_l0_0 K a4023 K [] 0).bind fun w4040 =>
  (F91 K w4040).bind fun r4042 =>
  some r4042
theorem F90_ok (K : Nat) (a4023 : List (List GMsg)) (r : List GMsg) (hF : F90 K a4023 = some r) : Evt E H 90 [.one (.sl (len a4023) (flat (eSl eGMsg) a4023))] (F90_res r) := by
  rw [F90] at hF
  refine bind_some hF (fun w4040 h4038 hF => ?_)
  refine bind_some hF (fun r4042 h4043 hF => ?_)
  have hr := Option.some.inj hF
  subst hr
  have pz : HoldAll E H hn90 [.loop 0 c90_0 (F90_l0_0_S a4023 [] 0) (.exit 0) (F90_l0_0_X0 a4023 w4040), .call 91 [.one (.sl (len w4040) (flat eGMsg w4040))] (F91_res r4042), .test (leadsAny (Res.mk [(.one (.own 130 (.sl (len r4042) (flat eGMsg r4042))))] [])) false] := ⟨(F90_l0_0_ok K a4023 K [] 0 _ h4038), (F91_ok K w4040 _ h4043), (leads_ok (by simp only [leadsAny, List.any_cons, List.any_nil, RV.leads, RC.leads, leadsT, hasSl_lit, Bool.or_false, flat_ns (eInt_ns _), flat_ns eBool_ns, flat_ns eStr_ns, flat_ns eGJob_ns, flat_ns eGEdge_ns, flat_ns eGAsked_ns, flat_ns eGMsg_ns, flat_ns eGrule_ns, flat_ns eGA199_ns, flat_ns eGA202_ns])), trivial⟩
  exact fn_playC hn90 (f := 90) (ads := [.one (.sl (len a4023) (flat (eSl eGMsg) a4023))]) (r := F90_res r4042) pz (by kernel_rfl) (by kernel_rfl)

end Go.Proofs.Ytnjanliihnadjaa.Tm

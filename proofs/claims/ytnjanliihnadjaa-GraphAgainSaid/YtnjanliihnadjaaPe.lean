/- The plain laws of GraphBack and GraphAgain. Conditions: none. -/
import Derived.Test.YtnjanliihnadjaaPd
import Derived.Test.YtnjanliihnadjaaFL12
import Derived.Test.YtnjanliihnadjaaFL14
import Derived.Test.YtnjanliihnadjaaWf
set_option linter.unusedVariables false
namespace Go.Proofs.Ytnjanliihnadjaa.Tm
open Go

theorem law12K (K : Nat) (hK : 5000 ≤ K) (g : GGraph) : F12 K g = some true := by
  rw [F12, F62, F66_spec (by omega), F65_spec (by omega), Option.bind_some]
  cases igt (nlen (len g.Edges)) 200
  · rw [cond_false, Option.bind_some]
    cases hc : ieq (gcheck g) 0
    · simp only [cond_false, hc, Option.bind_some]
    · have z0 : ieq 0 0 = true := rfl
      simp only [cond_true, z0, F71_spec hK, Option.bind_some, slen_tx]
      cases h4 : ilt 4000 ((textG g).length : Int)
      · have hs := ilt_f.1 h4
        have hp := parseS_perm (K := K) hc (List.Perm.refl g.Edges) (by show (textG g).length ≤ 4000; omega) hK
        have hp' : parseS K (textG g) = (g, 0, 0) := hp
        obtain ⟨h1, h2, h3, h4⟩ := gcheck_ok hc
        have f70 : F70 K g g = some true := F70_self g.N g.Edges (by omega) (by omega)
        simp only [hp', cond_false, f70, Option.bind_some, cond_true, z0]
      · have hp' : parseS K (textG g) = (noG, 0, 3) := by rw [parseS, h4]; rfl
        simp only [hp', cond_true, z0, ieq_refl]
  · rfl

theorem law12 (g : GGraph) (_ : WGGraph g) : F12 5000 g = some true := law12K 5000 (Nat.le_refl _) g

theorem law14K (K : Nat) (hK : 5000 ≤ K) (s : List UInt8) (hs : s.length ≤ 140737488355328) : F14 K (tx s) = some true := by
  have z0 : ieq 0 0 = true := rfl
  rw [F14, F71_spec hK, Option.bind_some]
  generalize hq : parseS K s = q
  have hc := parseS_case K s
  rw [hq] at hc
  cases hc with
  | bad at_ e h0 h1 he =>
    have e1 : ieq e 0 = false := ieq_f.2 he
    have f70 : F70 K noG (GGraph.mk 0 []) = some true := F70_self 0 [] (by simp; omega) (by simp)
    have e2 : ile 0 at_ = true := ile_iff.2 h0
    have e3 : ile at_ (wadd .i64 (slen (tx s)) 1) = true := by
      rw [slen_tx, wadd_nat (by omega)]
      exact ile_iff.2 (by omega)
    simp only [e1, cond_false, f70, Option.bind_some, cond_true, e2, e3]
  | good n es h1 h2 h =>
    have hg := fine_gcheck h1 h2 h
    have hg0 : ieq (gcheck (GGraph.mk n es)) 0 = true := by rw [hg]; rfl
    have f70 : F70 K (GGraph.mk n es) (GGraph.mk n es) = some true := F70_self n es (by have := h.2.2; omega) (by have := h.2.2; omega)
    simp only [z0, cond_true, F65_spec (show 100 ≤ K by omega), F64_spec (show 100 ≤ K by omega), F66_spec (show 100 ≤ K by omega), Option.bind_some, hg, slen_tx]
    cases h4 : ilt 4000 ((textG (GGraph.mk n es)).length : Int)
    · have hs := ilt_f.1 h4
      have hp := parseS_perm (K := K) hg0 (List.Perm.refl es) (by show (textG (GGraph.mk n es)).length ≤ 4000; omega) hK
      have hp' : parseS K (textG (GGraph.mk n es)) = (GGraph.mk n es, 0, 0) := hp
      simp only [cond_false, F71_spec hK, Option.bind_some, hp', z0, cond_true, f70]
    · rfl

theorem law14 (s : ByteArray) (hs : s.size ≤ reachBytes) : F14 5000 s = some true := by
  have h := law14K 5000 (Nat.le_refl _) s.data.toList (by
    have rb : reachBytes ≤ 140737488355328 := by decide
    have : s.data.toList.length = s.size := by simp
    omega)
  rwa [tx_data] at h

end Go.Proofs.Ytnjanliihnadjaa.Tm

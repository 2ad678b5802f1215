/- What the row of SeqAts leans on: printed functions and plain laws. Conditions: none. -/
import Derived.Test.YtnjanliihnadjaaTy
import Derived.Test.YtnjanliihnadjaaTab
import Derived.Test.YtnjanliihnadjaaKn
import Derived.Test.YtnjanliihnadjaaWf
import Derived.IntWalk
import Derived.KernelRfl
import Derived.OpenShut
import Derived.Test.YtnjanliihnadjaaBSeqAts3
set_option linter.unusedVariables false
set_option linter.unusedSimpArgs false
namespace Go.Proofs.Ytnjanliihnadjaa.Tm
open Go
theorem law31 (g : GGraph) (j : GJob) (n : Int) (_ : WGGraph g) (_ : WGJob j) (_ : (Lit.int .i64 n).wf = true) : F31 1000 g j n = some true := by
 generalize hq : 1000 = K
 have hK : 1000 ≤ K := by omega
 have hz : F87 K zeroS zeroS = some true := same87 zeroS (by refine ⟨⟨?_, ?_⟩, ⟨?_, ?_⟩, ?_, ?_⟩ <;> simp [zeroS] <;> omega)
 have z4 : ieq 4 4 = true := rfl
 have ez : GState.mk 0 [] [] [] = zeroS := rfl
 rw [F31, F101, F111_spec hK, F59_spec (by omega), F60_spec hK, Option.bind_some, ez]
 cases igt (nlen (len g.Edges)) 200
 · rw [cond_false, Option.bind_some, Option.bind_some, atR]
   cases hc : ieq (jcheck g j) 0
   · simp only [cond_false, ieq_refl, cond_true, hz, Option.bind_some]
   · obtain ⟨hg, _⟩ := jcheck_ok hc
     rw [cond_true, cond_true, Option.bind_some]
     cases hn : ilt n 0
     · have hn' := ilt_f.1 hn
       rw [cond_false, cond_false]
       cases hx : (runS g j).1[n.toNat]? with
       | none =>
         have hlen : (runS g j).1.length ≤ n.toNat := List.getElem?_eq_none_iff.1 hx
         have : ile (nlen (len (runS g j).1)) n = true := ile_iff.2 (by show ((runS g j).1.length : Int) ≤ n; omega)
         rw [this, cond_true]
         simp only [z4, cond_true, hz, Option.bind_some]
       | some t =>
         have hlen : n.toNat < (runS g j).1.length := by
           rcases Nat.lt_or_ge n.toNat (runS g j).1.length with q | q
           · exact q
           · rw [List.getElem?_eq_none q] at hx; cases hx
         have h1 : ile (nlen (len (runS g j).1)) n = false := ile_f.2 (by show n < ((runS g j).1.length : Int); omega)
         have h2 : inr n (len (runS g j).1) = true := decide_eq_true ⟨hn', by show n < ((runS g j).1.length : Int); omega⟩
         have h3 : elAt (runS g j).1 n = some t := hx
         have ht : goodS t := by
           have hm := List.mem_of_getElem? hx
           rw [runS, hc] at hm
           exact run_good g j 50 _ (begin_good hg).1 t hm
         have z0 : ieq 0 0 = true := rfl
         have l1 := ht.lin
         have l2 := ht.lre
         have l3 := ht.lva
         rw [h1, h2, h3]
         simp only [cond_false, z0, cond_true, Option.bind_some, same87 (K := K) t ⟨⟨by omega, by omega⟩, ⟨by omega, by omega⟩, by omega, by omega⟩]
     · simp only [cond_true, z4, hz, Option.bind_some]
 · rfl
end Go.Proofs.Ytnjanliihnadjaa.Tm

/- The laws' knows(): each answers true, reckoned by the kernel. Conditions: none. -/
import Derived.Test.YtnjanliihnadjaaTab
import Derived.Test.YtnjanliihnadjaaKb
import Derived.KernelRfl
namespace Go.Proofs.Ytnjanliihnadjaa.Tm
open Go
theorem knows45 : Evt E H 45 [] (Res.mk [(.one (.im (.lit (.bool true))))] []) := evt_of (lf := 100) (n := 10) (by kernel_rfl)
theorem knows63 : Evt E H 63 [] (Res.mk [(.one (.im (.lit (.bool true))))] []) := evt_of (lf := 100) (n := 10) (by kernel_rfl)
theorem knows74 : Evt E H 74 [] (Res.mk [(.one (.im (.lit (.bool true))))] []) := evt_of (lf := 100) (n := 10) (by kernel_rfl)
theorem knows93 : Evt E H 93 [] (Res.mk [(.one (.im (.lit (.bool true))))] []) := evt_of (lf := 100) (n := 10) (by kernel_rfl)
theorem knows103 : Evt E H 103 [] (Res.mk [(.one (.im (.lit (.bool true))))] []) := evt_of (lf := 100) (n := 10) (by kernel_rfl)
theorem knows115 : Evt E H 115 [] (Res.mk [(.one (.im (.lit (.bool true))))] []) := evt_of (lf := 100) (n := 10) (by kernel_rfl)
end Go.Proofs.Ytnjanliihnadjaa.Tm

/- The laws' knows(): each answers true, reckoned by the kernel. Conditions: none. -/
import Derived.Test.YtbaihlhoedbpkaaTab
import Derived.Test.YtbaihlhoedbpkaaKb
import Derived.KernelRfl
namespace Go.Proofs.Ytbaihlhoedbpkaa.Tm
open Go
theorem knows10 : Evt E H 10 [] (Res.mk [(.one (.im (.lit (.bool true))))] []) := evt_of (lf := 100) (n := 14) (by kernel_rfl)
end Go.Proofs.Ytbaihlhoedbpkaa.Tm

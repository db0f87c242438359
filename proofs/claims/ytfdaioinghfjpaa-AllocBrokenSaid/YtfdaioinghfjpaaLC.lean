/- How tables of tables read. -/
import Derived.Test.YtfdaioinghfjpaaLB
import Derived.Test.YtfdaioinghfjpaaG1
namespace Go.Proofs.Ytfdaioinghfjpaa
open Go.Rd Go.RowKit
theorem readsC : Reads Try.prog 22 1 encC fun o => ∀ u ∈ o.getD [], U.wf u := reads_slice (by kernel_rfl) (by kernel_rfl) readsU (by decide)
end Go.Proofs.Ytfdaioinghfjpaa

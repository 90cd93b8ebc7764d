/- The law LaurentDivides, and its hooks. -/
import Derived.Test.YtlnjddjobbhcaaaDoorQ7
import Derived.Test.YtlnjddjobbhcaaaDoorT5
namespace Go.Proofs.YtlnjddjobbhcaaaDoor
end Go.Proofs.YtlnjddjobbhcaaaDoor

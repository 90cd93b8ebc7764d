/- The reference's Valid, at the hooks in use. -/
import Derived.Test.YtehnalbdfnmphaaDoorT1
namespace Go.Proofs.YtehnalbdfnmphaaDoor
open Go.Ab
end Go.Proofs.YtehnalbdfnmphaaDoor

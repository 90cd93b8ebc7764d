/- The law PlanarEncodes and the hooks' soundness. -/
import Derived.Test.YtehnalbdfnmphaaDoorE4
import Derived.Test.YtehnalbdfnmphaaDoorT5

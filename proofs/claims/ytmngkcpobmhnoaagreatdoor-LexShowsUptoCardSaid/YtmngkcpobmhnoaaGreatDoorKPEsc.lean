/- Plain laws: an escape alone. -/
import Derived.Test.YtmngkcpobmhnoaaGreatDoorKPl3
import Derived.Test.YtmngkcpobmhnoaaGreatDoorKPl1
set_option linter.all false
namespace Go.Proofs.YtmngkcpobmhnoaaGreatDoor.Sim.Pl
open Go.Proofs

end Go.Proofs.YtmngkcpobmhnoaaGreatDoor.Sim.Pl

/- Plain laws: a text's bytes. -/
import Derived.Test.YtmngkcpobmhnoaaGreatDoorKPTok4
import Derived.Test.YtmngkcpobmhnoaaGreatDoorKPEsc
set_option linter.all false
namespace Go.Proofs.YtmngkcpobmhnoaaGreatDoor.Sim.Pl
open Go.Proofs

theorem cat_big {s u : Bytes} (h : s.length + u.length ≤ 9223372036854775807) : cat s u = some (s ++ u) := by simp [cat, h]
end Go.Proofs.YtmngkcpobmhnoaaGreatDoor.Sim.Pl

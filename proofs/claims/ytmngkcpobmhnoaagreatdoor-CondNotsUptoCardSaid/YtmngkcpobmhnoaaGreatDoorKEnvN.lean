/- Glue: the evaluator's surroundings hold: nothing stands for itself with the heap. -/
import Derived.Test.YtmngkcpobmhnoaaGreatDoorKLawKit
set_option linter.all false
namespace Go.Proofs.YtmngkcpobmhnoaaGreatDoor.Sim
open Go.Proofs
theorem envOK : EnvOK Tryz.prog C E := ⟨comp_all, ⟨(fun _ _ _ _ _ h => nomatch h), (fun _ _ _ _ _ h => nomatch h)⟩⟩
end Go.Proofs.YtmngkcpobmhnoaaGreatDoor.Sim

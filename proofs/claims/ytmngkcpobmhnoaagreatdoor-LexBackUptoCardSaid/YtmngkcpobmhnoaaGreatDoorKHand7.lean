/- What is shown of words first: by the evaluator alone. -/
import Derived.Test.YtmngkcpobmhnoaaGreatDoorKGenB
import Derived.KernelRfl
set_option linter.all false
namespace Go.Proofs.YtmngkcpobmhnoaaGreatDoor.Sim
open Go.Proofs
theorem shown7_c : PureC E F_burinlaw07_shown [] (.bool true) := ⟨4000, by kernel_rfl⟩
def G_burinlaw07_shown : Option Bool := some true
theorem G_burinlaw07_shown_ok {r1 : Bool} (hx : G_burinlaw07_shown = some r1) : PureE E F_burinlaw07_shown [] (fun v => v = .bool r1) := by
 cases hx
 exact ⟨_, shown7_c, rfl⟩
end Go.Proofs.YtmngkcpobmhnoaaGreatDoor.Sim

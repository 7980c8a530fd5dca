/- What is shown of conditions first: by the evaluator alone. -/
import Derived.Test.YtmngkcpobmhnoaaGreatDoorKGen1
import Derived.KernelRfl
set_option linter.all false
namespace Go.Proofs.YtmngkcpobmhnoaaGreatDoor.Sim
open Go.Proofs
theorem shown5_c : PureC E F_burinlaw05_shown [] (.bool true) := ⟨4000, by kernel_rfl⟩
def G_burinlaw05_shown : Option Bool := some true
theorem G_burinlaw05_shown_ok {r1 : Bool} (hx : G_burinlaw05_shown = some r1) : PureE E F_burinlaw05_shown [] (fun v => v = .bool r1) := by
  cases hx
  exact ⟨_, shown5_c, rfl⟩
end Go.Proofs.YtmngkcpobmhnoaaGreatDoor.Sim

/- Glue: arguments as the evaluator's values: lists of tokens; how great they are. -/
import Derived.Test.YtmngkcpobmhnoaaGreatDoorKGlue
import Derived.Test.YtmngkcpobmhnoaaGreatDoorKG6
set_option linter.all false
namespace Go.Proofs.YtmngkcpobmhnoaaGreatDoor.Sim
open Go.Proofs Go.RowKit Go.Shelf Go.Lib

theorem bulk_bound {H : Type} {l : List (DataW H)} (hk : Rows.uptoSmall H l = true) : Rows.uptoBulkAll l ≤ 1048576 := of_decide_eq_true hk

section
variable {P : Program} {H : Type} {enc : TypeId × Value → H} {W : World} {base : Nat} {sp : Nat → Bool} {held : Bool} {fuel : Nat} {t : TypeId} {cs : List Value} {x : DataW H × List MemPlace}
end
end Go.Proofs.YtmngkcpobmhnoaaGreatDoor.Sim

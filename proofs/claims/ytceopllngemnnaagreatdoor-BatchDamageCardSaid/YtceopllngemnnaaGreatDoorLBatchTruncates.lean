/-
  The law BatchTruncates: in a world that holds what the library reads, the call returns true and leaves what was there. For every list of items and every number.
-/
import Derived.Test.YtceopllngemnnaaGreatDoorME
set_option linter.unusedVariables false
set_option linter.unusedSimpArgs false
namespace Go.Proofs.YtceopllngemnnaaGreatDoor
open Go.RowKit Go.Proofs.YtceopllngemnnaaGreatDoorW.PrintWords Go.Proofs.YtceopllngemnnaaGreatDoorW.PrintLast Go.Proofs.YtceopllngemnnaaGreatDoorW.PrintMore Go.Proofs.YtceopllngemnnaaGreatDoor.PRef
attribute [local go_sem] max2_int min2_int max_two min_two

end Go.Proofs.YtceopllngemnnaaGreatDoor


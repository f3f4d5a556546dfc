/-
  Words that the tool print.sh has printed, those that are used here.
-/
import Derived.Test.YtceopllngemnnaaGreatDoorVInv
import Derived.Test.YtceopllngemnnaaGreatDoorVFootNe
set_option linter.unusedVariables false
set_option linter.unusedSimpArgs false
-- PRINTED BY print.sh 35421559b90ae4d0a3588c463048766b98c2df88dd9212a6774a882060cdf62d: not written by this session
namespace Go.Proofs.YtceopllngemnnaaGreatDoorW.PrintWords
open Go.RowKit
end Go.Proofs.YtceopllngemnnaaGreatDoorW.PrintWords
namespace Go.Proofs.YtceopllngemnnaaGreatDoorW.PrintLast
section
variable {ops : Array Oper} {a : Act} {o og : Oper} {g : Nat} {t : Tmp} {u : Bool}
end
end Go.Proofs.YtceopllngemnnaaGreatDoorW.PrintLast


/- The laws StampZones, StampDays, StampParts as functions of the program. -/
import Derived.Test.YtnfjggagenmkjaaDoorStN
import Derived.Test.YtnfjggagenmkjaaDoorStW
namespace Go.Proofs.YtnfjggagenmkjaaDoor
open Go AM St

theorem t4 : FnIs Tryd.prog G ng 4 (adp4 A4) := as4 stays t8 t9 t10 t12 t13 fun y m d h n s z t K r hA => eq4 cut0_eq y m d h n s z t K r hA
theorem t5 : FnIs Tryd.prog G ng 5 (adp5 A5) := as5 stays t8 t9 t10 t11 fun y m t K r hA => eq5 cut0_eq y m t K r hA
theorem t7 : FnIs Tryd.prog G ng 7 (adp7 A7) := as7 stays t8 t9 t10 t13 t16 fun f w o K r hA => eq7 cut0_eq f w o K r hA
end Go.Proofs.YtnfjggagenmkjaaDoor

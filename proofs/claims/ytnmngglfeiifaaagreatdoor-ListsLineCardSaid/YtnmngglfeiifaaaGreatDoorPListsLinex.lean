-- x
import Derived.Test.YtnmngglfeiifaaaGreatDoorPListsLinex0
import Derived.Test.YtnmngglfeiifaaaGreatDoorPListsLinex1
import Derived.Test.YtnmngglfeiifaaaGreatDoorPListsLinex2
import Derived.Test.YtnmngglfeiifaaaGreatDoorPListsLinex3
import Derived.Test.YtnmngglfeiifaaaGreatDoorPListsLinex4
import Derived.Test.YtnmngglfeiifaaaGreatDoorPListsLinex5
import Derived.Test.YtnmngglfeiifaaaGreatDoorPListsLinex6
namespace Go.Proofs.YtnmngglfeiifaaaGreatDoor.PListsLine
open Go.RowKit Go.Proofs.YtnmngglfeiifaaaGreatDoor.X Go.Proofs.YtnmngglfeiifaaaGreatDoorW.PrintWords Go.Proofs.YtnmngglfeiifaaaGreatDoorW.PrintLast Go.Proofs.YtnmngglfeiifaaaGreatDoorW.PrintMore
attribute [local go_sem] max2_int min2_int max_two min_two max_three min_three max_four min_four   -- for this text's walks alone
set_option linter.unusedVariables false
set_option linter.unusedSimpArgs false

end Go.Proofs.YtnmngglfeiifaaaGreatDoor.PListsLine

/- Contracts of the reference's Has, Of. -/
import Derived.Test.YtabjbpkojbdgaaaGreatDoorProg
import Derived.Test.YtabjbpkojbdgaaaGreatDoorBase
import Derived.Test.YtabjbpkojbdgaaaGreatDoorPlain
namespace Go.Proofs.YtabjbpkojbdgaaaGreatDoor
open Go.RowKit

end Go.Proofs.YtabjbpkojbdgaaaGreatDoor

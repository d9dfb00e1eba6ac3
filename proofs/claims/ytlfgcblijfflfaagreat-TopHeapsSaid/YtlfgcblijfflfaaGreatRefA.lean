/- Contracts of the reference's Has, Of. -/
import Derived.Test.YtlfgcblijfflfaaGreatProg
import Derived.Test.YtlfgcblijfflfaaGreatBase
import Derived.Test.YtlfgcblijfflfaaGreatPlain
namespace Go.Proofs.YtlfgcblijfflfaaGreat
open Go.RowKit

end Go.Proofs.YtlfgcblijfflfaaGreat

/- Contracts of the reference's Has, Of. -/
import Derived.Test.YtlfgcblijfflfaaProg
import Derived.Test.YtlfgcblijfflfaaBase
import Derived.Test.YtlfgcblijfflfaaPlain
namespace Go.Proofs.Ytlfgcblijfflfaa
open Go.RowKit

end Go.Proofs.Ytlfgcblijfflfaa

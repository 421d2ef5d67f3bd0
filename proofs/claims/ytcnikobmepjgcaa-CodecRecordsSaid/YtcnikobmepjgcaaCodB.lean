/-
  The laws of the codec: lists copied, lists out of memory.
-/
import Derived.Test.YtcnikobmepjgcaaCodA
import Derived.Test.YtcnikobmepjgcaaCodOne
namespace Go.Proofs.Ytcnikobmepjgcaa.Codec
open Go.RowKit Go.Proofs.YtcnikobmepjgcaaBase Go.Proofs.YtcnikobmepjgcaaLex2 Go.Proofs.YtcnikobmepjgcaaNum
set_option linter.unusedVariables false
set_option linter.unusedSimpArgs false

end Go.Proofs.Ytcnikobmepjgcaa.Codec

-- The kit's printed words, trimmed by a program of this session (wip/trimwords.py) to what this claim names; not trusted: Lean checks it.
import Derived.Test.YtlibklfianghlaaWInv
import Derived.Test.YtlibklfianghlaaWFootNe
namespace Go.Proofs.YtlibklfianghlaaW.PrintWords
open Go.RowKit
end Go.Proofs.YtlibklfianghlaaW.PrintWords
namespace Go.Proofs.YtlibklfianghlaaW.PrintLast
end Go.Proofs.YtlibklfianghlaaW.PrintLast

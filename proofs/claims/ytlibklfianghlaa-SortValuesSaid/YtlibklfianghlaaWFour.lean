-- The kit's printed words, trimmed by a program of this session (wip/trimwords.py) to what this claim names; not trusted: Lean checks it.
import Derived.Test.YtlibklfianghlaaWTab
namespace Go.Proofs.YtlibklfianghlaaW.PrintLast
end Go.Proofs.YtlibklfianghlaaW.PrintLast

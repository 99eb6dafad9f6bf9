-- The kit's printed words, trimmed by a program of this session (wip/trimwords.py) to what this claim names; not trusted: Lean checks it.
import Derived.Test.YtlibklfianghlaaWWords
namespace Go.Proofs.YtlibklfianghlaaW.PrintWords
open Go.RowKit
namespace Kd
end Kd
end Go.Proofs.YtlibklfianghlaaW.PrintWords

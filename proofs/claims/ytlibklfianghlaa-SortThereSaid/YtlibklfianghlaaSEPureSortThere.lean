-- WRITTEN BY a program of this session (wip/extprint.py, over the kit's print.py); not trusted: Lean checks it.
import Derived.Test.YtlibklfianghlaaSx0
import Derived.Test.YtlibklfianghlaaSEPure3
import Derived.Test.YtlibklfianghlaaSEPure4
import Derived.Test.YtlibklfianghlaaSEThere
namespace Go.Proofs.Ytlibklfianghlaa.S
open Go.RowKit Go.Proofs.YtlibklfianghlaaW.PrintWords Go.Proofs.YtlibklfianghlaaW.PrintLast Go.Proofs.YtlibklfianghlaaW.PrintMore
attribute [local go_sem] max2_int min2_int max_two min_two max_three min_three max_four min_four   -- for this text's walks alone
set_option linter.unusedVariables false
set_option linter.unusedSimpArgs false

/-! SortThere answers true. -/
theorem espalierlaw5_SortThere_runs (s0 : S24) (t : ByteArray) (ht : t.size ≤ 140737488351232) (A0 : Option Addr) (c0 : Nat) (w : World) (hC0 : Kd.C k24 w A0 s0.f1.length s0.f1) (hc0 : s0.f1.length ≤ c0) :
    Calls Try.prog 3 #[.agg #[.string s0.f0, .slice A0 s0.f1.length c0], .string t] w fun e w' => e = .returned (.bool true) ∧ Below w.heap.size w w' := by
  obtain ⟨u, e, nm2, l2, at2, f2, h1, h2, h3, h4, h5⟩ := there_pure 300 (by omega) s0.f0 s0.f1 t ht
  exact there_walk 300 s0.f0 A0 c0 s0.f1 t w hC0 hc0 (begun_eq 300 (by omega)) u e h3 nm2 l2 at2 f2 h4 h5 h1 h2

end Go.Proofs.Ytlibklfianghlaa.S

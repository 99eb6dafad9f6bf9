-- WRITTEN BY a program of this session (wip/extprint.py, over the kit's print.py); not trusted: Lean checks it.
import Derived.Test.YtlibklfianghlaaSx0
import Derived.Test.YtlibklfianghlaaSEPure4
import Derived.Test.YtlibklfianghlaaSEPure6
import Derived.Test.YtlibklfianghlaaSEUnifies
namespace Go.Proofs.Ytlibklfianghlaa.S
open Go.RowKit Go.Proofs.YtlibklfianghlaaW.PrintWords Go.Proofs.YtlibklfianghlaaW.PrintLast Go.Proofs.YtlibklfianghlaaW.PrintMore
attribute [local go_sem] max2_int min2_int max_two min_two max_three min_three max_four min_four   -- for this text's walks alone
set_option linter.unusedVariables false
set_option linter.unusedSimpArgs false

/-! SortUnifies answers true. -/
theorem espalierlaw5_SortUnifies_runs (s0 s1 : S24) (s2 : List S50) (A0 : Option Addr) (c0 : Nat) (A1 : Option Addr) (c1 : Nat) (A2 : Option Addr) (c2 : Nat) (w : World) (hC0 : Kd.C k24 w A0 s0.f1.length s0.f1) (hc0 : s0.f1.length ≤ c0) (hC1 : Kd.C k24 w A1 s1.f1.length s1.f1) (hc1 : s1.f1.length ≤ c1) (hC2 : Kd.C k50 w A2 s2.length s2) (hc2 : s2.length ≤ c2) :
    Calls Try.prog 5 #[.agg #[.string s0.f0, .slice A0 s0.f1.length c0], .agg #[.string s1.f0, .slice A1 s1.f1.length c1], .slice A2 s2.length c2] w fun e w' => e = .returned (.bool true) ∧ Below w.heap.size w w' := by
  obtain ⟨l, m, e, f, ma, mb, h1, h2, h3, h4, h5, h6⟩ := unifies_ok s0 s1 s2 500 (by omega)
  exact unifies_walk 500 s0 s1 s2 l m e f ma mb A0 A1 A2 c0 c1 c2 w hC0 hc0 hC1 hc1 hC2 hc2 (begun_eq 500 (by omega)) h1 h2 h3 h4 h5 h6

end Go.Proofs.Ytlibklfianghlaa.S

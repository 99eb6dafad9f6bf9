-- WRITTEN BY a program of this session (wip/extprint.py, over the kit's print.py); not trusted: Lean checks it.
import Derived.Test.YtlibklfianghlaaSx0
import Derived.Test.YtlibklfianghlaaSEPure4
import Derived.Test.YtlibklfianghlaaSEPure8
import Derived.Test.YtlibklfianghlaaSEValues
namespace Go.Proofs.Ytlibklfianghlaa.S
open Go.RowKit Go.Proofs.YtlibklfianghlaaW.PrintWords Go.Proofs.YtlibklfianghlaaW.PrintLast Go.Proofs.YtlibklfianghlaaW.PrintMore
attribute [local go_sem] max2_int min2_int max_two min_two max_three min_three max_four min_four   -- for this text's walks alone
set_option linter.unusedVariables false
set_option linter.unusedSimpArgs false

/-! SortValues answers true. -/
theorem espalierlaw5_SortValues_runs (s0 s1 : S40) (s2 : S24) (A0 : Option Addr) (c0 : Nat) (A1 : Option Addr) (c1 : Nat) (A2 : Option Addr) (c2 : Nat) (w : World) (hC0 : Kd.C k40 w A0 s0.f3.length s0.f3) (hc0 : s0.f3.length ≤ c0) (hC1 : Kd.C k40 w A1 s1.f3.length s1.f3) (hc1 : s1.f3.length ≤ c1) (hC2 : Kd.C k24 w A2 s2.f1.length s2.f1) (hc2 : s2.f1.length ≤ c2) :
    Calls Try.prog 6 #[.agg #[.int .i64 s0.f0, .int .i64 s0.f1, .string s0.f2, .slice A0 s0.f3.length c0], .agg #[.int .i64 s1.f0, .int .i64 s1.f1, .string s1.f2, .slice A1 s1.f3.length c1], .agg #[.string s2.f0, .slice A2 s2.f1.length c2]] w fun e w' => e = .returned (.bool true) ∧ Below w.heap.size w w' := by
  obtain ⟨k0, hk⟩ := values_ok s0 s1 s2
  obtain ⟨a, e, h1, h2⟩ := hk (k0 + 300) (Nat.lt_add_of_pos_right (by decide))
  exact values_walk (k0 + 300) s0 s1 s2 a e A0 A1 A2 c0 c1 c2 w hC0 hc0 hC1 hc1 hC2 hc2 (begun_eq (k0 + 300) (Nat.lt_of_lt_of_le (by decide : 200 < 300) (Nat.le_add_left _ _))) h1 h2

end Go.Proofs.Ytlibklfianghlaa.S

-- WRITTEN BY a program of this session (wip/extprint.py, over the kit's print.py); not trusted: Lean checks it.
import Derived.Test.YtlibklfianghlaaShelf
import Derived.Test.YtlibklfianghlaaSx0
namespace Go.Proofs.Ytlibklfianghlaa.S
open Go.RowKit Go.Proofs.YtlibklfianghlaaW.PrintWords Go.Proofs.YtlibklfianghlaaW.PrintLast Go.Proofs.YtlibklfianghlaaW.PrintMore
attribute [local go_sem] max2_int min2_int max_two min_two max_three min_three max_four min_four   -- for this text's walks alone
set_option linter.unusedVariables false
set_option linter.unusedSimpArgs false

/-! slices.SortFunc of one element at the most. -/
set_option maxRecDepth 100000 in
theorem ins_small (A : Option Addr) (n c : Nat) (f : Value) (w : World) (hn : n ≤ 1) :
    Calls Try.prog 70 #[.slice A n c, .int .i64 0, .int .i64 n, f] w fun e w' => e = .returned (.tuple #[]) ∧ Drawn0 w w' := by
  have c1 : decide ((1 : Int) < (n : Int)) = false := decide_eq_false (by omega)
  go_enter Try.func70, Try.ntmps70
  go_wp2_with fail
  refine wp_loop_once ?_
  go_wp2_with fail
  go_end0
  exact ⟨rfl, Drawn0.refl _⟩
set_option maxRecDepth 100000 in
theorem pdq_small (A : Option Addr) (n c : Nat) (lim : Int) (f : Value) (w : World) (hn : n ≤ 1) :
    Calls Try.prog 57 #[.slice A n c, .int .i64 0, .int .i64 n, .int .i64 lim, f] w fun e w' => e = .returned (.tuple #[]) ∧ Drawn0 w w' := by
  have c1 : decide ((n : Int) ≤ 12) = true := decide_eq_true (by omega)
  have hi := Aside0.mk (fun w => ins_small A n c f w hn)
  go_enter Try.func57, Try.ntmps57
  go_wp2_with fail
  refine wp_loop_once ?_
  go_wp2_with (go_at_call 70; refine (hi.out _).mono ?_; rintro e w' ⟨rfl, ⟨nd, rfl⟩⟩)
  (try simp only [Exit.inBlock, Exit.then])
  refine bodyPost_ret (results_none rfl _ _ _) rfl ?_
  exact ⟨rfl, ⟨⟨_, rfl⟩⟩⟩
theorem sort_small (A : Option Addr) (n c : Nat) (f : Value) (w : World) (hn : n ≤ 1) :
    Calls Try.prog 39 #[.slice A n c, f] w fun e w' => e = .returned (.tuple #[]) ∧ Drawn0 w w' := by
  have hp := Aside0.mk (fun lim w => pdq_small A n c lim f w hn)
  go_enter Try.func39, Try.ntmps39
  go_wp2_with (first | (go_at_call 58; refine (Try.bits_Len _ _ (by omega) (by omega)).mono ?_; rintro e w' ⟨rfl, rfl⟩) | (go_at_call 57; refine (hp.out _ _).mono ?_; rintro e w' ⟨rfl, ⟨nd, rfl⟩⟩))
  go_end0
  exact ⟨rfl, ⟨⟨_, rfl⟩⟩⟩

end Go.Proofs.Ytlibklfianghlaa.S

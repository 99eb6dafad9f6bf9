/- Proved: called with any arguments that can be read as data, in whatever memory, espalier/espalierlaw5.SortUnifies returns true, without a panic or a race, and its arguments read behind the call as they read before. Conditions: none beside the statement's own. -/
-- WRITTEN BY a program of this session (wip/rows.py), in the form of the kit's printed rows; not trusted: Lean checks it.
import Derived.Test.YtlibklfianghlaaRows
import Derived.Test.YtlibklfianghlaaSEPureSortUnifies
import Derived.Test.YtlibklfianghlaaSEOpen
import Derived.Test.YtlibklfianghlaaSEOpen2
import Derived.WalkKit
import Derived.ProofKit
import Derived.OpenShut
import Derived.ShutString
import Derived.ChangeOld
import Derived.Below
import Derived.SizedLaws
import Derived.Carry
import Derived.JoinedTies
namespace Go.Proofs.Ytlibklfianghlaa.sortUnifies
open Go.ChangeShapes Go.WideShapes Go.ChangeAt Go.RowKit Go.Proofs.Ytlibklfianghlaa.S Go.Proofs.YtlibklfianghlaaW.PrintWords
open Go.ChangeMaps (open_string shut_string)
set_option linter.unusedVariables false
theorem own : ownKnob Try.prog.godebug = none := by kernel_rfl
theorem laidOut : laidOutB Try.prog = true := by kernel_rfl
set_option maxRecDepth 100000 in
theorem lifted (os : Os) (started : os.Started) (H : Type) (enc : TypeId × Value → H) :
    ReturnsInHanded {} Try.checked os 5 .any (Rows.sortUnifiesSpec.pre6 enc Try.prog Try.f5 Rows.sortUnifiesRow.domain false) (Rows.sortUnifiesSpec.post enc Try.prog Try.f5 false true false false) := by
  refine returnsInHanded_of_change_sized (C := Try.checked) own started (by kernel_rfl) Try.func5
    (ChangeSpec.witness6 (enc := enc) (C := Try.checked) false ⟨#[], #[.agg #[.string ByteArray.empty, .slice none 0 0], .agg #[.string ByteArray.empty, .slice none 0 0], .slice none 0 0], []⟩ 8 (by kernel_rfl) (by kernel_rfl) (by kernel_rfl) (by kernel_rfl)) ?_
  intro W base args ds gs before hval0 hW hcnd hsz0 _
  have hsz : (DataW.weightsEach Try.prog (Try.f5.params.toList ++ Rows.sortUnifiesSpec.plain.varTypes Try.prog) (ds ++ gs)).all (· ≤ reachBytes) = true := hsz0
  have hval : ∀ (j : Nat) t v, Try.f5.params[j]? = some t → args[j]? = some v → Value.okWide Try.prog W .any base t v := hval0
  have hW' := hW
  obtain ⟨p, q, hA0, hV, rfl, hfz, hnd⟩ := hW
  have hA : DataW.TrodAll enc Try.prog W 0 (fun _ => true) true Try.f5.params.toList args.toList ds p := hA0
  rw [Try.params5] at hA hval hsz
  obtain ⟨v0, vs0, d0, ds0, p0, q0, hargs, rfl, rfl, h0, r0⟩ := trodAll_cons hA
  obtain ⟨v1, vs1, d1, ds1, p1, q1, rfl, rfl, rfl, h1, r1⟩ := trodAll_cons r0
  obtain ⟨v2, vs2, d2, ds2, p2, q2, rfl, rfl, rfl, h2, r2⟩ := trodAll_cons r1
  obtain ⟨rfl, rfl, rfl⟩ := trodAll_nil r2
  obtain rfl : args = #[v0, v1, v2] := by cases args; simp_all
  obtain ⟨rfl, rfl⟩ := trodVars_none hV
  obtain ⟨cs0, rfl, _⟩ := okWide_struct Try.underlying24 (hval 0 24 v0 rfl rfl)
  have k0 := h0
  have lt0 : ∀ x ∈ p0, x.block < W.heap.size := by obtain ⟨m, hm⟩ := k0; exact DataW.trod_lt m _ _ _ hm
  obtain ⟨fuel0, hf0⟩ := h0
  obtain ⟨s0, hs0⟩ := open24 fuel0 _ _ hf0
  obtain ⟨A0, c0, e0, hc0, hC0⟩ := k24_open hs0
  have ec0 : cs0 = #[.string s0.f0, .slice A0 s0.f1.length c0] := by cases cs0; exact congrArg List.toArray e0
  subst ec0
  obtain ⟨cs1, rfl, _⟩ := okWide_struct Try.underlying24 (hval 1 24 v1 rfl rfl)
  have k1 := h1
  have lt1 : ∀ x ∈ p1, x.block < W.heap.size := by obtain ⟨m, hm⟩ := k1; exact DataW.trod_lt m _ _ _ hm
  obtain ⟨fuel1, hf1⟩ := h1
  obtain ⟨s1, hs1⟩ := open24 fuel1 _ _ hf1
  obtain ⟨A1, c1, e1, hc1, hC1⟩ := k24_open hs1
  have ec1 : cs1 = #[.string s1.f0, .slice A1 s1.f1.length c1] := by cases cs1; exact congrArg List.toArray e1
  subst ec1
  obtain ⟨a2, len2, cap2, rfl⟩ := okWide_slice Try.underlying37 (hval 2 37 v2 rfl rfl)
  have k2 := h2
  have lt2 : ∀ x ∈ p2, x.block < W.heap.size := by obtain ⟨m, hm⟩ := k2; exact DataW.trod_lt m _ _ _ hm
  obtain ⟨fuel2, hf2⟩ := h2
  obtain ⟨A2, c2, s2, e2, hc2, hC2⟩ := open37 fuel2 _ _ hf2
  have ec2 : Value.slice a2 len2 cap2 = .slice A2 s2.length c2 := by simpa [Value.cells] using e2
  rw [ec2] at k2 hW' ⊢
  clear hA0 hval0 hsz0 hsz
  refine (espalierlaw5_SortUnifies_runs s0 s1 s2 A0 c0 A1 c1 A2 c2 W hC0 hc0 hC1 hc1 hC2 hc2).mono fun e W' ⟨he, bel⟩ => ?_
  subst he
  exact ⟨_, rfl, _, _, _, [], _, [], hW', trodAll_mk1 (shut_bool Try.underlying4 _), (trodAll_cons_mk (Below.trod laidOut (by kernel_rfl) (of_decide_eq_true (by kernel_rfl)) k0 bel lt0) (trodAll_cons_mk (Below.trod laidOut (by kernel_rfl) (of_decide_eq_true (by kernel_rfl)) k1 bel lt1) (trodAll_cons_mk (Below.trod laidOut (by kernel_rfl) (of_decide_eq_true (by kernel_rfl)) k2 bel lt2) trodAll_mk0))), rfl, bel.frame _, fun h => by cases h⟩
theorem over : Rows.sortUnifiesRow.holds Try.pinned (OpenSpec.ofChange Rows.sortUnifiesSpec) :=
  OpenClaim.holds_of_wide 5 Try.f5 rfl rfl rfl rfl rfl rfl rfl ⟨rfl, rfl, rfl, rfl, rfl⟩ rfl rfl rfl rfl rfl (by kernel_rfl) Try.func5 (by kernel_rfl)
    (of_decide_eq_true (by kernel_rfl)) (by unfold Func.isWrapper; first | (rw [if_pos (by decide +kernel)]; kernel_rfl) | (rw [if_neg (by decide +kernel)]; exact ⟨rfl, rfl⟩))
    (fun os started H enc _ => lifted os started H enc)
theorem proved : Rows.SortUnifiesSaid := over
end Go.Proofs.Ytlibklfianghlaa.sortUnifies
namespace Go.Proofs.Ytlibklfianghlaa
/-- The row, under a short name, for the claim. -/
theorem sortUnifies_holds : Rows.SortUnifiesSaid := sortUnifies.proved
end Go.Proofs.Ytlibklfianghlaa

/- Proved: called with any arguments that can be read as data, in whatever memory, espalier/espalierlaw5.SortValues returns true, without a panic or a race, and its arguments read behind the call as they read before. Conditions: none beside the statement's own. -/
-- WRITTEN BY a program of this session (wip/rows.py), in the form of the kit's printed rows; not trusted: Lean checks it.
import Derived.Test.YtlibklfianghlaaRows
import Derived.Test.YtlibklfianghlaaSEPureSortValues
import Derived.Test.YtlibklfianghlaaSEOpen
import Derived.Test.YtlibklfianghlaaSEOpen3
import Derived.WalkKit
import Derived.ProofKit
import Derived.OpenShut
import Derived.ShutString
import Derived.ChangeOld
import Derived.Below
import Derived.SizedLaws
import Derived.Carry
import Derived.JoinedTies
namespace Go.Proofs.Ytlibklfianghlaa.sortValues
open Go.ChangeShapes Go.WideShapes Go.ChangeAt Go.RowKit Go.Proofs.Ytlibklfianghlaa.S Go.Proofs.YtlibklfianghlaaW.PrintWords
open Go.ChangeMaps (open_string shut_string)
set_option linter.unusedVariables false
theorem own : ownKnob Try.prog.godebug = none := by kernel_rfl
theorem laidOut : laidOutB Try.prog = true := by kernel_rfl
set_option maxRecDepth 100000 in
theorem lifted (os : Os) (started : os.Started) (H : Type) (enc : TypeId × Value → H) :
    ReturnsInHanded {} Try.checked os 6 .any (Rows.sortValuesSpec.pre6 enc Try.prog Try.f6 Rows.sortValuesRow.domain false) (Rows.sortValuesSpec.post enc Try.prog Try.f6 false true false false) := by
  refine returnsInHanded_of_change_sized (C := Try.checked) own started (by kernel_rfl) Try.func6
    (ChangeSpec.witness6 (enc := enc) (C := Try.checked) false ⟨#[], #[.agg #[.int .i64 0, .int .i64 0, .string ByteArray.empty, .slice none 0 0], .agg #[.int .i64 0, .int .i64 0, .string ByteArray.empty, .slice none 0 0], .agg #[.string ByteArray.empty, .slice none 0 0]], []⟩ 8 (by kernel_rfl) (by kernel_rfl) (by kernel_rfl) (by kernel_rfl)) ?_
  intro W base args ds gs before hval0 hW hcnd hsz0 _
  have hsz : (DataW.weightsEach Try.prog (Try.f6.params.toList ++ Rows.sortValuesSpec.plain.varTypes Try.prog) (ds ++ gs)).all (· ≤ reachBytes) = true := hsz0
  have hval : ∀ (j : Nat) t v, Try.f6.params[j]? = some t → args[j]? = some v → Value.okWide Try.prog W .any base t v := hval0
  have hW' := hW
  obtain ⟨p, q, hA0, hV, rfl, hfz, hnd⟩ := hW
  have hA : DataW.TrodAll enc Try.prog W 0 (fun _ => true) true Try.f6.params.toList args.toList ds p := hA0
  rw [Try.params6] at hA hval hsz
  obtain ⟨v0, vs0, d0, ds0, p0, q0, hargs, rfl, rfl, h0, r0⟩ := trodAll_cons hA
  obtain ⟨v1, vs1, d1, ds1, p1, q1, rfl, rfl, rfl, h1, r1⟩ := trodAll_cons r0
  obtain ⟨v2, vs2, d2, ds2, p2, q2, rfl, rfl, rfl, h2, r2⟩ := trodAll_cons r1
  obtain ⟨rfl, rfl, rfl⟩ := trodAll_nil r2
  obtain rfl : args = #[v0, v1, v2] := by cases args; simp_all
  obtain ⟨rfl, rfl⟩ := trodVars_none hV
  obtain ⟨cs0, rfl, _⟩ := okWide_struct Try.underlying40 (hval 0 40 v0 rfl rfl)
  have k0 := h0
  have lt0 : ∀ x ∈ p0, x.block < W.heap.size := by obtain ⟨m, hm⟩ := k0; exact DataW.trod_lt m _ _ _ hm
  obtain ⟨fuel0, hf0⟩ := h0
  obtain ⟨s0, hs0⟩ := open40 fuel0 _ _ hf0
  obtain ⟨A0, c0, e0, hc0, hC0⟩ := k40_open hs0
  have ec0 : cs0 = #[.int .i64 s0.f0, .int .i64 s0.f1, .string s0.f2, .slice A0 s0.f3.length c0] := by cases cs0; exact congrArg List.toArray e0
  subst ec0
  obtain ⟨cs1, rfl, _⟩ := okWide_struct Try.underlying40 (hval 1 40 v1 rfl rfl)
  have k1 := h1
  have lt1 : ∀ x ∈ p1, x.block < W.heap.size := by obtain ⟨m, hm⟩ := k1; exact DataW.trod_lt m _ _ _ hm
  obtain ⟨fuel1, hf1⟩ := h1
  obtain ⟨s1, hs1⟩ := open40 fuel1 _ _ hf1
  obtain ⟨A1, c1, e1, hc1, hC1⟩ := k40_open hs1
  have ec1 : cs1 = #[.int .i64 s1.f0, .int .i64 s1.f1, .string s1.f2, .slice A1 s1.f3.length c1] := by cases cs1; exact congrArg List.toArray e1
  subst ec1
  obtain ⟨cs2, rfl, _⟩ := okWide_struct Try.underlying24 (hval 2 24 v2 rfl rfl)
  have k2 := h2
  have lt2 : ∀ x ∈ p2, x.block < W.heap.size := by obtain ⟨m, hm⟩ := k2; exact DataW.trod_lt m _ _ _ hm
  obtain ⟨fuel2, hf2⟩ := h2
  obtain ⟨s2, hs2⟩ := open24 fuel2 _ _ hf2
  obtain ⟨A2, c2, e2, hc2, hC2⟩ := k24_open hs2
  have ec2 : cs2 = #[.string s2.f0, .slice A2 s2.f1.length c2] := by cases cs2; exact congrArg List.toArray e2
  subst ec2
  clear hA0 hval0 hsz0 hsz
  refine (espalierlaw5_SortValues_runs s0 s1 s2 A0 c0 A1 c1 A2 c2 W hC0 hc0 hC1 hc1 hC2 hc2).mono fun e W' ⟨he, bel⟩ => ?_
  subst he
  exact ⟨_, rfl, _, _, _, [], _, [], hW', trodAll_mk1 (shut_bool Try.underlying4 _), (trodAll_cons_mk (Below.trod laidOut (by kernel_rfl) (of_decide_eq_true (by kernel_rfl)) k0 bel lt0) (trodAll_cons_mk (Below.trod laidOut (by kernel_rfl) (of_decide_eq_true (by kernel_rfl)) k1 bel lt1) (trodAll_cons_mk (Below.trod laidOut (by kernel_rfl) (of_decide_eq_true (by kernel_rfl)) k2 bel lt2) trodAll_mk0))), rfl, bel.frame _, fun h => by cases h⟩
theorem over : Rows.sortValuesRow.holds Try.pinned (OpenSpec.ofChange Rows.sortValuesSpec) :=
  OpenClaim.holds_of_wide 6 Try.f6 rfl rfl rfl rfl rfl rfl rfl ⟨rfl, rfl, rfl, rfl, rfl⟩ rfl rfl rfl rfl rfl (by kernel_rfl) Try.func6 (by kernel_rfl)
    (of_decide_eq_true (by kernel_rfl)) (by unfold Func.isWrapper; first | (rw [if_pos (by decide +kernel)]; kernel_rfl) | (rw [if_neg (by decide +kernel)]; exact ⟨rfl, rfl⟩))
    (fun os started H enc _ => lifted os started H enc)
theorem proved : Rows.SortValuesSaid := over
end Go.Proofs.Ytlibklfianghlaa.sortValues
namespace Go.Proofs.Ytlibklfianghlaa
/-- The row, under a short name, for the claim. -/
theorem sortValues_holds : Rows.SortValuesSaid := sortValues.proved
end Go.Proofs.Ytlibklfianghlaa

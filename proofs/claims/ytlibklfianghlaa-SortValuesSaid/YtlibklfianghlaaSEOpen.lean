-- WRITTEN BY a program of this session (wip/extprint.py, over the kit's print.py); not trusted: Lean checks it.
import Derived.WalkKit
import Derived.ProofKit
import Derived.OpenShut
import Derived.ShutString
import Derived.ChangeOld
import Derived.SizedLaws
import Derived.Test.YtlibklfianghlaaSx0
namespace Go.Proofs.Ytlibklfianghlaa.S
open Go.RowKit Go.Proofs.YtlibklfianghlaaW.PrintWords Go.Proofs.YtlibklfianghlaaW.PrintLast Go.Proofs.YtlibklfianghlaaW.PrintMore
attribute [local go_sem] max2_int min2_int max_two min_two max_three min_three max_four min_four   -- for this text's walks alone
set_option linter.unusedVariables false
set_option linter.unusedSimpArgs false

/-! What the law's parameters read as: sorts. -/
theorem two_cells : ∀ (cs : List Value), cs.length = 2 → ∃ a b, cs = [a, b]
  | [], h => by simp at h
  | [_], h => by simp at h
  | [a, b], _ => ⟨a, b, rfl⟩
  | _ :: _ :: _ :: _, h => by simp at h
theorem open24 {H : Type} {enc : TypeId × Value → H} {w : World} {spare : Nat → Bool} {held : Bool} : ∀ (fuel : Nat) (cs : List Value) (x : DataW H × List MemPlace),
    DataW.trod enc Try.prog w 0 spare held fuel 24 cs = some x → ∃ s : S24, k24.K w s cs := by
  intro fuel
  induction fuel using Nat.strongRecOn with
  | _ fuel ih =>
  intro cs x h
  obtain ⟨xs, n, rfl, _, hl, hxl, hf⟩ := DataW.trod_struct Try.underlying24 h
  have h0 : DataW.trod enc Try.prog w 0 spare held n 9 ((cs.drop 0).take (Try.prog.cellsOf 9)) = xs[0]? := hf 0 _ rfl
  have h1 : DataW.trod enc Try.prog w 0 spare held n 22 ((cs.drop 1).take (Try.prog.cellsOf 22)) = xs[1]? := hf 1 _ rfl
  have hc24 : Try.prog.cellsOf 24 = 2 := by kernel_rfl
  have hc9 : Try.prog.cellsOf 9 = 1 := by kernel_rfl
  have hc22 : Try.prog.cellsOf 22 = 1 := by kernel_rfl
  rw [hc24] at hl
  obtain ⟨c0, c1, rfl⟩ := two_cells cs hl
  have hx0 : xs[0]? = some (xs[0]'(by rw [hxl]; simp)) := List.getElem?_eq_getElem _
  have hx1 : xs[1]? = some (xs[1]'(by rw [hxl]; simp)) := List.getElem?_eq_getElem _
  rw [hx0] at h0
  rw [hx1] at h1
  simp only [hc9, hc22, List.drop_zero, List.take_succ_cons, List.take_zero, List.drop_succ_cons] at h0 h1
  obtain ⟨s, hs, _⟩ := DataW.trod_string Try.underlying9 h0
  simp only [List.cons.injEq, and_true] at hs
  subst hs
  rcases DataW.trod_slice Try.underlying22 h1 with ⟨hs, _⟩ | ⟨a, len, cap, elems, rest, n', rfl, hs, _, _, hlc, hcm, hel, hget, _⟩
  · simp only [List.cons.injEq, and_true] at hs
    subst hs
    exact ⟨⟨s, []⟩, k24_mk w ⟨s, []⟩ (A1 := none) (c1 := 0) (Nat.le_refl _) ⟨rfl, by simp, fun h => absurd h (by simp)⟩⟩
  · simp only [List.cons.injEq, and_true] at hs
    subst hs
    rw [hc24] at hget
    have hex : ∀ i, i < len → ∃ (y : S24) (cs' : List Value), cs'.length = 2 ∧ k24.K w y cs' ∧ ∀ j u, cs'[j]? = some u → w.cell? (a.add (i * 2 + j)) = some u := by
      intro i hi
      have hg := hget i hi
      rw [List.getElem?_eq_getElem (by omega)] at hg
      obtain ⟨cs', h1, h2⟩ := Option.bind_eq_some_iff.1 hg
      obtain ⟨y, hy⟩ := ih n' (by omega) cs' _ h2
      obtain ⟨_, hlen, hcell⟩ := World.cells?_some h1
      refine ⟨y, cs', hlen, hy, fun j u hu => ?_⟩
      have hj : j < 2 := by have := (List.getElem?_eq_some_iff.1 hu).1; omega
      have := hcell j hj
      rw [hu] at this
      rw [← this]
      exact congrArg w.cell? (Addr.add_add a _ _).symm
    obtain ⟨Y, hY⟩ : ∃ Y : Nat → S24, ∀ i, i < len → ∃ cs' : List Value, cs'.length = 2 ∧ k24.K w (Y i) cs' ∧ ∀ j u, cs'[j]? = some u → w.cell? (a.add (i * 2 + j)) = some u := by
      refine ⟨fun i => if h : i < len then Classical.choose (hex i h) else z24, fun i hi => ?_⟩
      simp only [hi, dif_pos]
      exact Classical.choose_spec (hex i hi)
    have hll : ((List.range len).map Y).length = len := by simp
    refine ⟨⟨s, (List.range len).map Y⟩, ?_⟩
    have := k24_mk w ⟨s, (List.range len).map Y⟩ (A1 := some a) (c1 := cap) (by show ((List.range len).map Y).length ≤ cap; rw [hll]; exact hlc) ⟨rfl, by show ((List.range len).map Y).length ≤ _; rw [hll]; exact Nat.le_trans hlc (Nat.le_trans hcm (by decide)), fun _ => ⟨a, rfl, fun j p hj => ?_⟩⟩
    · simpa only [hll] using this
    · have hjl : j < len := by have := (List.getElem?_eq_some_iff.1 hj).1; rwa [hll] at this
      obtain ⟨cs', e1, e2, e3⟩ := hY j hjl
      have hp : p = Y j := by simpa [List.getElem?_map, hjl] using hj.symm
      exact ⟨cs', e1, by rw [hp]; exact e2, e3⟩

end Go.Proofs.Ytlibklfianghlaa.S

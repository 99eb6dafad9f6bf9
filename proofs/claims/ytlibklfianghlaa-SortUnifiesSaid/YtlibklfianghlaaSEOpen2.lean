-- WRITTEN BY a program of this session (wip/extprint.py, over the kit's print.py); not trusted: Lean checks it.
import Derived.WalkKit
import Derived.ProofKit
import Derived.OpenShut
import Derived.ShutString
import Derived.ChangeOld
import Derived.SizedLaws
import Derived.Test.YtlibklfianghlaaSx0
import Derived.Test.YtlibklfianghlaaSEOpen
namespace Go.Proofs.Ytlibklfianghlaa.S
open Go.RowKit Go.Proofs.YtlibklfianghlaaW.PrintWords Go.Proofs.YtlibklfianghlaaW.PrintLast Go.Proofs.YtlibklfianghlaaW.PrintMore
attribute [local go_sem] max2_int min2_int max_two min_two max_three min_three max_four min_four   -- for this text's walks alone
set_option linter.unusedVariables false
set_option linter.unusedSimpArgs false

/-! What the law's parameters read as: givens. -/
theorem three_cells : ∀ (cs : List Value), cs.length = 3 → ∃ a b c, cs = [a, b, c]
  | [], h => by simp at h
  | [_], h => by simp at h
  | [_, _], h => by simp at h
  | [a, b, c], _ => ⟨a, b, c, rfl⟩
  | _ :: _ :: _ :: _ :: _, h => by simp at h
theorem open50 {H : Type} {enc : TypeId × Value → H} {w : World} {spare : Nat → Bool} {held : Bool} (fuel : Nat) (cs : List Value) (x : DataW H × List MemPlace)
    (h : DataW.trod enc Try.prog w 0 spare held fuel 50 cs = some x) : ∃ s : S50, k50.K w s cs := by
  obtain ⟨xs, n, rfl, _, hl, hxl, hf⟩ := DataW.trod_struct Try.underlying50 h
  have h0 : DataW.trod enc Try.prog w 0 spare held n 9 ((cs.drop 0).take (Try.prog.cellsOf 9)) = xs[0]? := hf 0 _ rfl
  have h1 : DataW.trod enc Try.prog w 0 spare held n 24 ((cs.drop 1).take (Try.prog.cellsOf 24)) = xs[1]? := hf 1 _ rfl
  have hc50 : Try.prog.cellsOf 50 = 3 := by kernel_rfl
  have hc24 : Try.prog.cellsOf 24 = 2 := by kernel_rfl
  have hc9 : Try.prog.cellsOf 9 = 1 := by kernel_rfl
  rw [hc50] at hl
  obtain ⟨c0, c1, c2, rfl⟩ := three_cells cs hl
  have hx0 : xs[0]? = some (xs[0]'(by rw [hxl]; simp)) := List.getElem?_eq_getElem _
  have hx1 : xs[1]? = some (xs[1]'(by rw [hxl]; simp)) := List.getElem?_eq_getElem _
  rw [hx0] at h0
  rw [hx1] at h1
  simp only [hc9, hc24, List.drop_zero, List.take_succ_cons, List.take_zero, List.drop_succ_cons] at h0 h1
  obtain ⟨s, hs, _⟩ := DataW.trod_string Try.underlying9 h0
  simp only [List.cons.injEq, and_true] at hs
  subst hs
  obtain ⟨s1, hs1⟩ := open24 n _ _ h1
  exact ⟨⟨s, s1⟩, [.string s], [c1, c2], rfl, rfl, hs1⟩
theorem open37 {H : Type} {enc : TypeId × Value → H} {w : World} {spare : Nat → Bool} {held : Bool} (fuel : Nat) (cs : List Value) (x : DataW H × List MemPlace)
    (h : DataW.trod enc Try.prog w 0 spare held fuel 37 cs = some x) : ∃ (A : Option Addr) (c : Nat) (s : List S50), cs = [.slice A s.length c] ∧ s.length ≤ c ∧ Kd.C k50 w A s.length s := by
  have hc50 : Try.prog.cellsOf 50 = 3 := by kernel_rfl
  rcases DataW.trod_slice Try.underlying37 h with ⟨hs, _⟩ | ⟨a, len, cap, elems, rest, n', rfl, hs, _, _, hlc, hcm, hel, hget, _⟩
  · exact ⟨none, 0, [], hs, Nat.le_refl _, ⟨rfl, by simp, fun h => absurd h (by simp)⟩⟩
  · rw [hc50] at hget
    have hex : ∀ i, i < len → ∃ (y : S50) (cs' : List Value), cs'.length = 3 ∧ k50.K w y cs' ∧ ∀ j u, cs'[j]? = some u → w.cell? (a.add (i * 3 + j)) = some u := by
      intro i hi
      have hg := hget i hi
      rw [List.getElem?_eq_getElem (by omega)] at hg
      obtain ⟨cs', h1, h2⟩ := Option.bind_eq_some_iff.1 hg
      obtain ⟨y, hy⟩ := open50 n' cs' _ h2
      obtain ⟨_, hlen, hcell⟩ := World.cells?_some h1
      refine ⟨y, cs', hlen, hy, fun j u hu => ?_⟩
      have hj : j < 3 := by have := (List.getElem?_eq_some_iff.1 hu).1; omega
      have := hcell j hj
      rw [hu] at this
      rw [← this]
      exact congrArg w.cell? (Addr.add_add a _ _).symm
    obtain ⟨Y, hY⟩ : ∃ Y : Nat → S50, ∀ i, i < len → ∃ cs' : List Value, cs'.length = 3 ∧ k50.K w (Y i) cs' ∧ ∀ j u, cs'[j]? = some u → w.cell? (a.add (i * 3 + j)) = some u := by
      refine ⟨fun i => if h : i < len then Classical.choose (hex i h) else z50, fun i hi => ?_⟩
      simp only [hi, dif_pos]
      exact Classical.choose_spec (hex i hi)
    have hll : ((List.range len).map Y).length = len := by simp
    refine ⟨some a, cap, (List.range len).map Y, ?_, ?_, ?_⟩
    · rw [hs, hll]
    · rw [hll]; exact hlc
    · refine ⟨rfl, ?_, fun _ => ⟨a, rfl, fun j p hj => ?_⟩⟩
      · rw [hll]; exact Nat.le_trans hlc (Nat.le_trans hcm (by decide))
      · have hjl : j < len := by have := (List.getElem?_eq_some_iff.1 hj).1; rwa [hll] at this
        obtain ⟨cs', e1, e2, e3⟩ := hY j hjl
        have hp : p = Y j := by simpa [List.getElem?_map, hjl] using hj.symm
        exact ⟨cs', e1, by rw [hp]; exact e2, e3⟩

end Go.Proofs.Ytlibklfianghlaa.S

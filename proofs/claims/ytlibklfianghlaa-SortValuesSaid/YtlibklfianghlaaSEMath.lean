-- WRITTEN BY a program of this session (wip/extprint.py, over the kit's print.py); not trusted: Lean checks it.
import Derived.WideShapes
import Derived.Test.YtlibklfianghlaaSx0
import Derived.Test.YtlibklfianghlaaSx3
namespace Go.Proofs.Ytlibklfianghlaa.S
open Go.RowKit Go.Proofs.YtlibklfianghlaaW.PrintWords Go.Proofs.YtlibklfianghlaaW.PrintLast Go.Proofs.YtlibklfianghlaaW.PrintMore
attribute [local go_sem] max2_int min2_int max_two min_two max_three min_three max_four min_four   -- for this text's walks alone
set_option linter.unusedVariables false
set_option linter.unusedSimpArgs false

/-! Chains: a sort as a number of lists around a name. -/
theorem bytes_ext {a b : ByteArray} (h : a.toList = b.toList) : a = b := Go.WideShapes.bytes_inj (by rw [← ByteArray.toList_eq, ← ByteArray.toList_eq]; exact h)
theorem eta24 (x : S24) : (⟨x.f0, x.f1⟩ : S24) = x := by cases x; rfl
def isVar (s : ByteArray) : Bool := decide (s.size = 1) && (decide (97 ≤ bt s 0) && decide (bt s 0 ≤ 122))
def isBase (s : ByteArray) : Bool := s.toList == [117, 110, 105, 116] || s.toList == [116, 114, 117, 116, 104] || s.toList == [105, 110, 116] || s.toList == [116, 101, 120, 116]
def isList (s : ByteArray) : Bool := s.toList == [108, 105, 115, 116]
def listB : ByteArray := ⟨#[108, 105, 115, 116]⟩
def chainT : Nat → ByteArray → List S24 → Option (Nat × ByteArray)
  | 0, _, _ => none
  | n + 1, nm, l => match isList nm, l with
    | true, [x] => (chainT n x.f0 x.f1).map (fun r => (r.1 + 1, r.2))
    | _, _ :: _ => none
    | _, [] => if isBase nm || isVar nm then some (0, nm) else none
def wholeT : Nat → ByteArray → S24
  | 0, nm => ⟨nm, []⟩
  | n + 1, nm => ⟨listB, [wholeT n nm]⟩
theorem sort_variable_eq (s : ByteArray) : sort_variable.f s = some (isVar s) := by
  unfold sort_variable.f isVar
  by_cases h : (s.size : Int) = 1
  · have h' : s.size = 1 := by omega
    rw [if_pos h, if_pos (by omega)]
    by_cases h2 : bt s 0 ≥ 97
    · rw [if_pos h2]
      have : decide (97 ≤ bt s 0) = true := decide_eq_true h2
      simp [h', this]
    · rw [if_neg h2]
      have : decide (97 ≤ bt s 0) = false := decide_eq_false h2
      simp [h', this]
  · rw [if_neg h]
    have h' : ¬ s.size = 1 := by omega
    simp [h']
theorem wrapN {n : Nat} (h : (n : Int) < 9223372036854775807) : wrap64 ((n : Int) + 1) = ((n + 1 : Nat) : Int) := by unfold wrap64; omega
def cutT (o : Option (Nat × ByteArray)) (n : Nat) : Int × ByteArray × Bool := match o with
  | some (m, x) => (((n + m : Nat) : Int), x, true)
  | none => (0, ⟨#[]⟩, false)
theorem sort_cut_l0 : ∀ (d n : Nat) (nm : ByteArray) (l : List S24) (k : Nat), n + d = 65 → 2 * d < k → sort_cut.l0 k n nm l = some (cutT (chainT d nm l) n) := by
  intro d
  induction d with
  | zero =>
    intro n nm l k hn hk
    obtain ⟨k, rfl⟩ : ∃ m, k = m + 1 := ⟨k - 1, by omega⟩
    rw [sort_cut.l0, if_neg (by omega)]
    rfl
  | succ d ih =>
    intro n nm l k hn hk
    obtain ⟨k, rfl⟩ : ∃ m, k = m + 2 := ⟨k - 2, by omega⟩
    rw [sort_cut.l0, if_pos (by omega)]
    have hnot : ∀ (hl : isList nm = false ∨ l.length ≠ 1), sort_cut.j1 (k + 1) n false nm l = some (cutT (chainT (d + 1) nm l) n) := by
      intro hl
      rw [sort_cut.j1, if_neg (by simp)]
      cases l with
      | cons y r =>
        rw [if_pos (by simp)]
        have : chainT (d + 1) nm (y :: r) = none := by
          unfold chainT
          split
          · rename_i h1 h2
            rcases hl with hl | hl
            · rw [hl] at h1; exact absurd h1 (by simp)
            · exact absurd (by rw [h2]; rfl) hl
          · rfl
          · rename_i h; cases h
        rw [this]; rfl
      | nil =>
        rw [if_neg (by simp)]
        have hc : chainT (d + 1) nm [] = if isBase nm || isVar nm then some (0, nm) else none := by
          unfold chainT
          cases isList nm <;> rfl
        rw [hc]
        by_cases h1 : nm.toList = [117, 110, 105, 116]
        · rw [if_pos h1, if_pos (by simp [isBase, h1])]; simp [cutT]
        rw [if_neg h1]
        by_cases h2 : nm.toList = [116, 114, 117, 116, 104]
        · rw [if_pos h2, if_pos (by simp [isBase, h2])]; simp [cutT]
        rw [if_neg h2]
        by_cases h3 : nm.toList = [105, 110, 116]
        · rw [if_pos h3, if_pos (by simp [isBase, h3])]; simp [cutT]
        rw [if_neg h3]
        by_cases h4 : nm.toList = [116, 101, 120, 116]
        · rw [if_pos h4, if_pos (by simp [isBase, h4])]; simp [cutT]
        rw [if_neg h4, sort_variable_eq]
        have hb : isBase nm = false := by simp [isBase, h1, h2, h3, h4]
        simp only [Option.bind_some, hb, Bool.false_or]
        cases isVar nm <;> simp [cutT]
    by_cases hl : nm.toList = [108, 105, 115, 116]
    · rw [if_pos hl]
      have hli : isList nm = true := by simp [isList, hl]
      match l, hnot with
      | [], hnot => simpa using hnot (by simp)
      | x :: y :: r, hnot =>
        have : ((((x :: y :: r).length : Int)) == 1) = false := by simp; omega
        rw [this]
        exact hnot (by simp)
      | [x], _ =>
        have e : ((([x] : List S24).length : Int) == 1) = true := by simp
        rw [e, sort_cut.j1, if_pos rfl, if_pos (by simp), wrapN (by omega)]
        have e2 : rd_T24 [x] 0 = x := rfl
        rw [e2, ih (n + 1) x.f0 x.f1 k (by omega) (by omega)]
        have e3 : chainT (d + 1) nm [x] = (chainT d x.f0 x.f1).map (fun r => (r.1 + 1, r.2)) := by
          conv => lhs; unfold chainT
          rw [hli]
        rw [e3]
        cases chainT d x.f0 x.f1 with
        | none => rfl
        | some r => simp [cutT]; omega
    · rw [if_neg hl]
      exact hnot (.inl (by simp [isList, hl]))
theorem sort_cut_eq (nm : ByteArray) (l : List S24) (k : Nat) (hk : 130 < k) : sort_cut.f k nm l = some (cutT (chainT 65 nm l) 0) := sort_cut_l0 65 0 nm l k rfl (by omega)
theorem wholeT_snoc (n : Nat) (nm : ByteArray) : wholeT (n + 1) nm = ⟨listB, [wholeT n nm]⟩ := rfl
theorem sort_whole_l0 (nm : ByteArray) (n : Nat) (hn : n < 1000000) : ∀ (d i : Nat) (k : Nat), i + d = n → d < k → sort_chain_whole.l0 k n i (wholeT i nm).f0 (wholeT i nm).f1 = some ((wholeT n nm).f0, (wholeT n nm).f1) := by
  intro d
  induction d with
  | zero =>
    intro i k hi hk
    obtain ⟨k, rfl⟩ : ∃ m, k = m + 1 := ⟨k - 1, by omega⟩
    obtain rfl : i = n := by omega
    rw [sort_chain_whole.l0, if_neg (by omega)]
  | succ d ih =>
    intro i k hi hk
    obtain ⟨k, rfl⟩ : ∃ m, k = m + 1 := ⟨k - 1, by omega⟩
    rw [sort_chain_whole.l0, if_pos (by omega), wrapN (by omega)]
    have := ih (i + 1) k (by omega) (by omega)
    rw [wholeT_snoc] at this
    rw [eta24]
    exact this
theorem sort_whole_eq (nm : ByteArray) (n k : Nat) (hn : n < 1000000) (hk : n < k) : sort_chain_whole.f k n nm = some ((wholeT n nm).f0, (wholeT n nm).f1) := sort_whole_l0 nm n hn n 0 k (by omega) hk
/-- What is cut out of a chain's sort. -/
theorem chainT_le : ∀ (d : Nat) (nm : ByteArray) (l : List S24) (m : Nat) (x : ByteArray), chainT d nm l = some (m, x) → m < d ∧ (isBase x || isVar x) = true ∧ (⟨nm, l⟩ : S24) = ⟨(wholeT m x).f0, (wholeT m x).f1⟩
  | 0, _, _, _, _, h => by simp [chainT] at h
  | d + 1, nm, l, m, x, h => by
    unfold chainT at h
    split at h
    · rename_i y hy
      obtain ⟨⟨m', x'⟩, hc, he⟩ := Option.map_eq_some_iff.1 h
      simp only [Prod.mk.injEq] at he
      obtain ⟨rfl, rfl⟩ := he
      obtain ⟨h1, h2, h3⟩ := chainT_le d y.f0 y.f1 m' x' hc
      refine ⟨by omega, h2, ?_⟩
      have hnm : nm = listB := by
        have hl : nm.toList = [108, 105, 115, 116] := by simpa [isList] using ‹isList nm = true›
        exact bytes_ext (by rw [hl, ByteArray.toList_eq]; rfl)
      have hy : y = wholeT m' x' := by rw [eta24, eta24] at h3; exact h3
      rw [hnm, hy]; rfl
    · exact absurd h (by simp)
    · split at h
      · rename_i hb
        simp only [Option.some.injEq, Prod.mk.injEq] at h
        obtain ⟨rfl, rfl⟩ := h
        exact ⟨by omega, hb, rfl⟩
      · exact absurd h (by simp)

end Go.Proofs.Ytlibklfianghlaa.S

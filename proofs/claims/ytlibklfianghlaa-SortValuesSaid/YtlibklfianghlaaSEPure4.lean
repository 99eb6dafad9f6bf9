-- WRITTEN BY a program of this session (wip/extprint.py, over the kit's print.py); not trusted: Lean checks it.
import Derived.Test.YtlibklfianghlaaSx0
import Derived.Test.YtlibklfianghlaaSx3
import Derived.Test.YtlibklfianghlaaSx4
import Derived.Test.YtlibklfianghlaaSx5
import Derived.Test.YtlibklfianghlaaSx6
import Derived.Test.YtlibklfianghlaaSEGiven
import Derived.Test.YtlibklfianghlaaSEMath
import Derived.Test.YtlibklfianghlaaSEPure1
import Derived.Test.YtlibklfianghlaaSEPure2
import Derived.Test.YtlibklfianghlaaSEPure3
import Derived.Test.YtlibklfianghlaaSERead
import Derived.Test.YtlibklfianghlaaSEUnify
import Derived.Test.YtlibklfianghlaaSEWorth
namespace Go.Proofs.Ytlibklfianghlaa.S
open Go.RowKit Go.Proofs.YtlibklfianghlaaW.PrintWords Go.Proofs.YtlibklfianghlaaW.PrintLast Go.Proofs.YtlibklfianghlaaW.PrintMore
attribute [local go_sem] max2_int min2_int max_two min_two max_three min_three max_four min_four   -- for this text's walks alone
set_option linter.unusedVariables false
set_option linter.unusedSimpArgs false

/-! begun answers true. -/
theorem toList_inj {a b : ByteArray} (h : a.toList = b.toList) : a = b := bytes_ext h
theorem eq_whole (p : ByteArray) : ∀ (m k : Nat) (nm : ByteArray) (l : List S24), 3 * m + 3 < k →
    ∃ b, espalierlaw5_Eq.f k (wholeT m p).f0 (wholeT m p).f1 nm l = some b ∧ (b = true ↔ (⟨nm, l⟩ : S24) = wholeT m p)
  | 0, k, nm, l, hk => by
    obtain ⟨k, rfl⟩ : ∃ q, k = q + 3 := ⟨k - 3, by omega⟩
    show ∃ b, espalierlaw5_Eq.f (k + 3) p [] nm l = some b ∧ (b = true ↔ (⟨nm, l⟩ : S24) = ⟨p, []⟩)
    rw [espalierlaw5_Eq.f]
    by_cases h : p.toList = nm.toList
    · rw [if_pos h, espalierlaw5_Eq.j0]
      cases l with
      | nil =>
        rw [if_neg (by simp), espalierlaw5_Eq.l0, if_neg (by simp)]
        exact ⟨true, rfl, by simp [toList_inj h]⟩
      | cons a r =>
        rw [if_pos (by simp; omega)]
        exact ⟨false, rfl, by simp⟩
    · rw [if_neg h, espalierlaw5_Eq.j0, if_pos rfl]
      refine ⟨false, rfl, ?_⟩
      constructor
      · intro e; cases e
      · intro e; cases e; exact absurd rfl h
  | m + 1, k, nm, l, hk => by
    obtain ⟨k, rfl⟩ : ∃ q, k = q + 4 := ⟨k - 4, by omega⟩
    show ∃ b, espalierlaw5_Eq.f (k + 4) listB [wholeT m p] nm l = some b ∧ (b = true ↔ (⟨nm, l⟩ : S24) = ⟨listB, [wholeT m p]⟩)
    rw [espalierlaw5_Eq.f]
    by_cases h : listB.toList = nm.toList
    · rw [if_pos h, espalierlaw5_Eq.j0]
      match l with
      | [] =>
        rw [if_pos (by simp)]
        exact ⟨false, rfl, by simp⟩
      | a :: b :: r =>
        rw [if_pos (by simp; omega)]
        exact ⟨false, rfl, by simp⟩
      | [y] =>
        rw [if_neg (by simp), espalierlaw5_Eq.l0, if_pos (by simp), if_pos (by decide), if_pos (by simp)]
        obtain ⟨b, hb, hb2⟩ := eq_whole p m (k + 1) y.f0 y.f1 (by omega)
        have e1 : rd_T24 [wholeT m p] 0 = wholeT m p := rfl
        have e2 : rd_T24 [y] 0 = y := rfl
        rw [e1, e2, hb]
        simp only [Option.bind_some]
        rw [eta24] at hb2
        cases b with
        | true =>
          rw [if_pos rfl, espalierlaw5_Eq.l0, if_neg (by have : wrap64 (0 + 1) = 1 := by unfold wrap64; decide
                                                         rw [this]; simp)]
          refine ⟨true, rfl, ?_⟩
          have := hb2.1 rfl
          simp [this, toList_inj h]
        | false =>
          rw [if_neg (by simp)]
          refine ⟨false, rfl, ?_⟩
          constructor
          · intro e; cases e
          · intro e
            simp only [S24.mk.injEq, List.cons.injEq, and_true] at e
            exact hb2.2 e.2
    · rw [if_neg h, espalierlaw5_Eq.j0, if_pos rfl]
      refine ⟨false, rfl, ?_⟩
      constructor
      · intro e; cases e
      · intro e; cases e; exact absurd rfl h
theorem eq_whole_self (p : ByteArray) (m k : Nat) (h : 3 * m + 3 < k) : espalierlaw5_Eq.f k (wholeT m p).f0 (wholeT m p).f1 (wholeT m p).f0 (wholeT m p).f1 = some true := by
  obtain ⟨b, hb, hb2⟩ := eq_whole p m k (wholeT m p).f0 (wholeT m p).f1 h
  rw [hb, hb2.2 (eta24 _)]
def nmA : ByteArray := ⟨#[97]⟩
def nmInt : ByteArray := ⟨#[105, 110, 116]⟩
theorem okA : nameOK nmA = true := by
  have : isVar nmA = true := by decide
  unfold nameOK; rw [this]; simp
theorem okInt : nameOK nmInt = true := by
  have : isBase nmInt = true := by unfold isBase; rw [ByteArray.toList_eq]; rfl
  unfold nameOK; rw [this]; rfl
theorem list_whole (m : Nat) (p : ByteArray) : espalierlaw5_list.f (wholeT m p).f0 (wholeT m p).f1 = some ((wholeT (m + 1) p).f0, (wholeT (m + 1) p).f1) := by
  unfold espalierlaw5_list.f
  rw [eta24]
  rfl
theorem named_whole (p : ByteArray) : espalierlaw5_named.f p = some ((wholeT 0 p).f0, (wholeT 0 p).f1) := rfl
theorem begun_read : sort_Read.f (⟨#[108, 105, 115, 116, 32, 108, 105, 115, 116, 32, 97]⟩ : ByteArray) = some ((wholeT 2 nmA).f0, (wholeT 2 nmA).f1, 0, 0) := by
  have : (⟨#[108, 105, 115, 116, 32, 108, 105, 115, 116, 32, 97]⟩ : ByteArray) = textB 2 nmA := ext_list (by rw [textB_list]; rfl)
  rw [this, read_text 2 nmA okA (by omega)]
theorem begun_unify : sort_Unify.f (wholeT 1 nmA).f0 (wholeT 1 nmA).f1 (wholeT 1 nmInt).f0 (wholeT 1 nmInt).f1 = some ([S50of (nmA, 0, nmInt)], 0) := by
  unfold sort_Unify.f
  rw [chain_whole nmA okA 1 65 (by omega), chain_whole nmInt okInt 1 65 (by omega)]
  have e1 : normA (1 : Nat) (1 : Nat) nmA nmInt = (0, nmInt, nmA) := by
    unfold normA
    rw [if_neg (by decide), if_neg (by decide), if_pos (by rw [ByteArray.toList_eq, ByteArray.toList_eq]; decide)]
  have e2 : pairsB 0 nmInt nmA = some [(nmA, 0, nmInt)] := by
    unfold pairsB
    rw [ByteArray.toList_eq, ByteArray.toList_eq, if_neg (by decide), if_neg (by decide), if_pos (by decide)]
  unfold unifyT
  simp only [e1, e2]
  rfl
theorem begun_wrong : sort_Read.f (⟨#[105, 110, 116, 32, 97]⟩ : ByteArray) = some (⟨#[]⟩, [], 4, 5) := by
  rw [read_eq _ (by decide)]
  have e0 : endB (⟨#[105, 110, 116, 32, 97]⟩ : ByteArray) 0 = 3 := by
    unfold endB
    rw [restB_list]
    decide
  have ew : wordB (⟨#[105, 110, 116, 32, 97]⟩ : ByteArray) 0 = nmInt := by
    unfold wordB
    rw [e0, if_neg (by decide)]
    exact ext_list (by rw [extract_list]; rfl)
  unfold readT
  rw [ew, e0, name_notlist okInt, if_neg (by decide)]
  have hb : (isBase nmInt || isVar nmInt) = true := okInt
  rw [if_pos hb, if_neg (by decide)]
  rfl
theorem begun_of (k : Nat) (hk : 10 < k) : sort_Of.f k 5 0 (⟨#[]⟩ : ByteArray) ([] : List S40) = some ((wholeT 1 nmA).f0, (wholeT 1 nmA).f1, 0) := by
  obtain ⟨k, rfl⟩ : ∃ q, k = q + 4 := ⟨k - 4, by omega⟩
  have h1 : worth_May.f 5 0 (⟨#[]⟩ : ByteArray) ([] : List S40) = some true := by
    unfold worth_May.f measP
    simp [measL]
  have h2 : sort_of.f (k + 4) 5 0 (⟨#[]⟩ : ByteArray) ([] : List S40) = some (1, ⟨#[]⟩, true) := by
    rw [sort_of.f, if_neg (by decide), if_neg (by decide), if_neg (by decide), if_neg (by decide), sort_of.l0, if_neg (by decide), show wrap64 (0 + 1) = 1 by unfold wrap64; decide]
  unfold sort_Of.f
  rw [h1]
  simp only [Option.bind_some]
  rw [if_pos trivial, h2]
  simp only [Option.bind_some]
  rw [if_pos trivial, ByteArray.toList_eq, if_pos rfl]
  have := sort_whole_eq nmA 1 (k + 4) (by omega) (by omega)
  have e : (((1 : Nat) : Int)) = 1 := rfl
  rw [e] at this
  show (sort_chain_whole.f (k + 4) 1 nmA).bind _ = _
  rw [this]
  rfl
theorem begun_is (k : Nat) (hk : 150 < k) : sort_Is.f k 3 0 (⟨#[]⟩ : ByteArray) ([] : List S40) (wholeT 0 nmA).f0 (wholeT 0 nmA).f1 = some true := by
  obtain ⟨k, rfl⟩ : ∃ q, k = q + 4 := ⟨k - 4, by omega⟩
  have h1 : worth_May.f 3 0 (⟨#[]⟩ : ByteArray) ([] : List S40) = some true := by
    unfold worth_May.f measP
    simp [measL]
  unfold sort_Is.f
  rw [sort_cut_eq _ _ _ (by omega), chain_whole nmA okA 0 65 (by omega)]
  simp only [Option.bind_some, cutT]
  rw [if_pos trivial, h1]
  simp only [Option.bind_some, Bool.not_true]
  rw [sort_Is.j0, if_neg (by decide), sort_of.f, if_neg (by decide), if_neg (by decide), if_pos rfl]
  simp only [Option.bind_some]
  rw [if_pos trivial, sort_variable_eq]
  simp only [Option.bind_some]
  have : isVar nmA = true := by decide
  rw [this, if_pos rfl, if_pos (by decide)]
theorem begun_may (k : Nat) (hk : 130 < k) : sort_May.f k (wholeT 0 (⟨#[108, 111, 115, 116]⟩ : ByteArray)).f0 (wholeT 0 (⟨#[108, 111, 115, 116]⟩ : ByteArray)).f1 = some 14 := by
  rw [may_eq _ _ k hk]
  have : chainT 65 (wholeT 0 (⟨#[108, 111, 115, 116]⟩ : ByteArray)).f0 (wholeT 0 (⟨#[108, 111, 115, 116]⟩ : ByteArray)).f1 = none := by
    show chainT 65 (⟨#[108, 111, 115, 116]⟩ : ByteArray) [] = none
    unfold chainT
    have h1 : isBase (⟨#[108, 111, 115, 116]⟩ : ByteArray) = false := by unfold isBase; rw [ByteArray.toList_eq]; rfl
    have h2 : isVar (⟨#[108, 111, 115, 116]⟩ : ByteArray) = false := by decide
    rw [h1, h2]
    cases isList (⟨#[108, 111, 115, 116]⟩ : ByteArray) <;> rfl
  rw [this]; rfl
theorem begun_eq (k : Nat) (hk : 200 < k) : espalierlaw5_begun.f k = some true := by
  have hA : (⟨#[97]⟩ : ByteArray) = nmA := rfl
  have hI : (⟨#[105, 110, 116]⟩ : ByteArray) = nmInt := rfl
  unfold espalierlaw5_begun.f
  simp only [hA, hI, named_whole, Option.bind_some, list_whole]
  rw [begun_read]
  simp only [Option.bind_some]
  rw [text_whole 1 nmInt okInt (by omega) k (by omega)]
  simp only [Option.bind_some]
  rw [begun_unify]
  simp only [Option.bind_some]
  rw [begun_wrong]
  simp only [Option.bind_some]
  rw [begun_of k (by omega)]
  simp only [Option.bind_some]
  rw [if_pos trivial, if_pos trivial, eq_whole_self nmA 2 k (by omega)]
  simp only [Option.bind_some]
  rw [if_pos trivial, if_pos trivial, if_pos (by rw [ByteArray.toList_eq, textB_list]; rfl), if_pos trivial, if_pos (by decide), if_pos (by decide)]
  have e : rd_T50 [S50of (nmA, 0, nmInt)] 0 = S50of (nmA, 0, nmInt) := rfl
  rw [e, if_pos (by rw [ByteArray.toList_eq]; rfl)]
  show (espalierlaw5_Eq.f k (wholeT 0 nmInt).f0 (wholeT 0 nmInt).f1 (wholeT 0 nmInt).f0 (wholeT 0 nmInt).f1).bind _ = _
  rw [eq_whole_self nmInt 0 k (by omega)]
  simp only [Option.bind_some]
  rw [if_pos trivial, if_pos trivial, if_pos trivial, if_pos trivial, eq_whole_self nmA 1 k (by omega)]
  simp only [Option.bind_some]
  rw [if_pos trivial, begun_may k (by omega)]
  simp only [Option.bind_some]
  rw [if_pos trivial, same_eq _ _ _ _ k (by omega) 2 nmA (chain_whole nmA okA 2 65 (by omega)) (chain_whole nmA okA 2 65 (by omega))]
  simp only [Option.bind_some]
  rw [if_pos trivial]
  show (sort_Is.f k 3 0 (⟨#[]⟩ : ByteArray) ([] : List S40) (wholeT 0 nmA).f0 (wholeT 0 nmA).f1).bind _ = _
  rw [begun_is k (by omega)]
  rfl

end Go.Proofs.Ytlibklfianghlaa.S

-- WRITTEN BY a program of this session (wip/extprint.py, over the kit's print.py); not trusted: Lean checks it.
import Derived.WideShapes
import Derived.Lib.IndexLaws
import Derived.Test.YtlibklfianghlaaSx0
import Derived.Test.YtlibklfianghlaaSEMath
import Derived.Test.YtlibklfianghlaaSERead
namespace Go.Proofs.Ytlibklfianghlaa.S
open Go.RowKit Go.Proofs.YtlibklfianghlaaW.PrintWords Go.Proofs.YtlibklfianghlaaW.PrintLast Go.Proofs.YtlibklfianghlaaW.PrintMore
attribute [local go_sem] max2_int min2_int max_two min_two max_three min_three max_four min_four   -- for this text's walks alone
set_option linter.unusedVariables false
set_option linter.unusedSimpArgs false

/-! Plain laws: Text and Read. -/
theorem extract_list (s : ByteArray) (i j : Nat) : (s.extract i j).data.toList = (s.data.toList.drop i).take (j - i) := by
  rw [ByteArray.data_extract, Array.toList_extract, List.extract_eq_take_drop]
theorem restB_list (s : ByteArray) (i : Nat) : (restB s i).data.toList = s.data.toList.drop i := by
  unfold restB
  rw [extract_list, List.take_of_length_le]
  rw [List.length_drop]
  exact Nat.le_refl _
theorem size_list (s : ByteArray) : s.size = s.data.toList.length := rfl
theorem ext_list {a b : ByteArray} (h : a.data.toList = b.data.toList) : a = b := bytes_ext (by rw [ByteArray.toList_eq, ByteArray.toList_eq]; exact h)
def nameOK (x : ByteArray) : Bool := isBase x || isVar x
theorem isList_list (s : ByteArray) : isList s = (s.data.toList == [108, 105, 115, 116]) := by unfold isList; rw [ByteArray.toList_eq]
theorem isVar_one {s : ByteArray} (h : isVar s = true) : ∃ c : UInt8, s.data.toList = [c] ∧ 97 ≤ c.toNat ∧ c.toNat ≤ 122 := by
  unfold isVar at h
  simp only [Bool.and_eq_true, decide_eq_true_eq] at h
  obtain ⟨h1, h2, h3⟩ := h
  have hl : s.data.toList.length = 1 := h1
  match hm : s.data.toList, hl with
  | [c], _ =>
    have hb : bt s 0 = (c.toNat : Int) := by
      have h0 : (0 : Int).toNat < s.size := by rw [h1]; decide
      rw [← bt_at s 0 h0]
      have : s[(0 : Int).toNat]'h0 = c := by
        have e : s.data.toList[0]? = some c := by rw [hm]; rfl
        rw [Array.getElem?_toList] at e
        exact (Array.getElem?_eq_some_iff.1 e).2
      rw [this]
    rw [hb] at h2 h3
    exact ⟨c, rfl, by omega, by omega⟩
theorem nameOK_cases {x : ByteArray} (h : nameOK x = true) : x.data.toList = [117, 110, 105, 116] ∨ x.data.toList = [116, 114, 117, 116, 104] ∨ x.data.toList = [105, 110, 116] ∨ x.data.toList = [116, 101, 120, 116] ∨ ∃ c : UInt8, x.data.toList = [c] ∧ 97 ≤ c.toNat ∧ c.toNat ≤ 122 := by
  unfold nameOK at h
  rcases Bool.or_eq_true_iff.1 h with h | h
  · unfold isBase at h
    rw [ByteArray.toList_eq] at h
    simp only [Bool.or_eq_true, beq_iff_eq] at h
    rcases h with ((h | h) | h) | h
    · exact .inl h
    · exact .inr (.inl h)
    · exact .inr (.inr (.inl h))
    · exact .inr (.inr (.inr (.inl h)))
  · exact .inr (.inr (.inr (.inr (isVar_one h))))
theorem name_nospace {x : ByteArray} (h : nameOK x = true) : Lib.indexByte x.data.toList 32 = -1 := by
  rcases nameOK_cases h with h | h | h | h | ⟨c, h, h1, _⟩
  · rw [h]; rfl
  · rw [h]; rfl
  · rw [h]; rfl
  · rw [h]; rfl
  · rw [h]
    have : (c == 32) = false := by
      rw [beq_eq_false_iff_ne]
      rintro rfl
      simp at h1
    simp [Lib.indexByte, this]
theorem name_notlist {x : ByteArray} (h : nameOK x = true) : isList x = false := by
  rw [isList_list]
  rcases nameOK_cases h with h | h | h | h | ⟨c, h, h1, _⟩ <;> rw [h] <;> first | rfl | simp
theorem name_size {x : ByteArray} (h : nameOK x = true) : x.size ≤ 5 ∧ 0 < x.size := by
  rw [size_list]
  rcases nameOK_cases h with h | h | h | h | ⟨c, h, _, _⟩ <;> rw [h] <;> simp
def listSp : List UInt8 := [108, 105, 115, 116, 32]
theorem index_listSp (r : List UInt8) : Lib.indexByte (listSp ++ r) 32 = 4 := by
  have e : ∀ (a : UInt8) (l : List UInt8) (n : Nat), (a == 32) = false → Lib.indexByte l 32 = (n : Int) → Lib.indexByte (a :: l) 32 = ((n + 1 : Nat) : Int) := by
    intro a l n ha hl
    rw [Lib.indexByte, ha, hl]
    have : (((n : Int)) == -1) = false := beq_eq_false_iff_ne.mpr (by omega)
    simp [this]
  exact e _ _ 3 rfl (e _ _ 2 rfl (e _ _ 1 rfl (e _ _ 0 rfl rfl)))
theorem drop5 (l r : List UInt8) (i : Nat) (h : l.drop i = listSp ++ r) : l.drop (i + 4 + 1) = r := by
  have : l.drop (i + 5) = (l.drop i).drop 5 := by rw [List.drop_drop]
  rw [show i + 4 + 1 = i + 5 from rfl, this, h]
  rfl
theorem readT_text (s x : ByteArray) (hx : nameOK x = true) : ∀ (m d i n : Nat), m < d → s.data.toList.drop i = Lib.repeatL listSp m ++ x.data.toList →
    readT d s i n = ((wholeT (n + m) x).f0, (wholeT (n + m) x).f1, 0, 0)
  | 0, d + 1, i, n, _, h => by
    have hr : restB s i = x := ext_list (by rw [restB_list, h]; rfl)
    have he : endB s i = -1 := by unfold endB; rw [hr]; exact name_nospace hx
    have hw : wordB s i = x := by unfold wordB; rw [he, if_pos (by decide), hr]
    unfold readT
    rw [hw, he, name_notlist hx]
    have hb : (isBase x || isVar x) = true := hx
    rw [if_neg (by decide), hb, if_pos rfl, if_pos (by decide)]
    rfl
  | m + 1, d + 1, i, n, hm, h => by
    have h2 : s.data.toList.drop i = listSp ++ (Lib.repeatL listSp m ++ x.data.toList) := by rw [h, Lib.repeatL, List.append_assoc]
    have he : endB s i = 4 := by unfold endB; rw [restB_list, h2]; exact index_listSp _
    have hw : (wordB s i).data.toList = [108, 105, 115, 116] := by
      unfold wordB
      rw [he, if_neg (by decide), extract_list, h2, show i + (4 : Int).toNat - i = 4 by simp]
      rfl
    unfold readT
    rw [isList_list, hw, he, if_pos (by decide), if_neg (by decide)]
    have := readT_text s x hx m d (i + 4 + 1) (n + 1) (by omega) (drop5 _ _ _ h2)
    rw [show n + (m + 1) = n + 1 + m by omega]
    exact this
theorem readT_inv (s : ByteArray) : ∀ (d i n : Nat) (nm : ByteArray) (l : List S24) (a f : Int), i ≤ s.size → readT d s i n = (nm, l, a, f) →
    (f ≠ 0 ∧ nm = ⟨#[]⟩ ∧ l = [] ∧ 0 ≤ a ∧ a ≤ (s.size : Int)) ∨
    (f = 0 ∧ a = 0 ∧ ∃ m x, m < d ∧ nameOK x = true ∧ s.data.toList.drop i = Lib.repeatL listSp m ++ x.data.toList ∧ nm = (wholeT (n + m) x).f0 ∧ l = (wholeT (n + m) x).f1)
  | 0, i, n, nm, l, a, f, _, h => by
    simp only [readT, Prod.mk.injEq] at h
    obtain ⟨rfl, rfl, rfl, rfl⟩ := h
    exact .inl ⟨by decide, rfl, rfl, by decide, by omega⟩
  | d + 1, i, n, nm, l, a, f, hi, h => by
    unfold readT at h
    cases hL : isList (wordB s i) with
    | true =>
      rw [hL, if_pos rfl] at h
      rcases endB_range s i hi with he | ⟨k, he, hk⟩
      · rw [he, if_pos (by decide)] at h
        simp only [Prod.mk.injEq] at h
        obtain ⟨rfl, rfl, rfl, rfl⟩ := h
        exact .inl ⟨by decide, rfl, rfl, by omega, by omega⟩
      · rw [he, if_neg (by omega), Int.toNat_natCast] at h
        have hw : ((s.data.toList.drop i).take k) = [108, 105, 115, 116] := by
          rw [isList_list] at hL
          have := beq_iff_eq.1 hL
          unfold wordB at this
          rw [he, if_neg (by omega), extract_list, Int.toNat_natCast, show i + k - i = k by omega] at this
          exact this
        have hdl : (s.data.toList.drop i).length = s.size - i := by rw [List.length_drop, size_list]
        have hk4 : k = 4 := by
          have := congrArg List.length hw
          rw [List.length_take, hdl] at this
          simp at this
          omega
        subst hk4
        have hsp : (s.data.toList.drop i)[4]? = some 32 := by
          have : Lib.indexByte (s.data.toList.drop i) 32 = ((4 : Nat) : Int) := by rw [← restB_list]; exact he
          exact (Lib.indexByte_some this).1
        have hsplit : s.data.toList.drop i = listSp ++ s.data.toList.drop (i + 4 + 1) := by
          have h5 : s.data.toList.drop (i + 4 + 1) = (s.data.toList.drop i).drop 5 := by rw [List.drop_drop]
          rw [h5]
          have e1 : s.data.toList.drop i = (s.data.toList.drop i).take 4 ++ (s.data.toList.drop i).drop 4 := (List.take_append_drop 4 _).symm
          have e2 : (s.data.toList.drop i).drop 4 = 32 :: (s.data.toList.drop i).drop 5 := by
            obtain ⟨hlt, hg⟩ := List.getElem?_eq_some_iff.1 hsp
            rw [List.drop_eq_getElem_cons hlt, hg]
          rw [hw, e2] at e1
          exact e1
        rcases readT_inv s d (i + 4 + 1) (n + 1) nm l a f (by omega) h with h | ⟨rfl, rfl, m, x, hm, hx, hd, rfl, rfl⟩
        · exact .inl h
        · refine .inr ⟨rfl, rfl, m + 1, x, by omega, hx, ?_, by rw [show n + (m + 1) = n + 1 + m by omega], by rw [show n + (m + 1) = n + 1 + m by omega]⟩
          rw [hsplit, hd, Lib.repeatL, List.append_assoc]
    | false =>
      rw [hL, if_neg (by decide)] at h
      cases hB : (isBase (wordB s i) || isVar (wordB s i)) with
      | true =>
        rw [hB, if_pos rfl] at h
        rcases endB_range s i hi with he | ⟨k, he, hk⟩
        · rw [he, if_pos (by decide)] at h
          simp only [Prod.mk.injEq] at h
          obtain ⟨rfl, rfl, rfl, rfl⟩ := h
          have hw : wordB s i = restB s i := by unfold wordB; rw [he, if_pos (by decide)]
          exact .inr ⟨rfl, rfl, 0, wordB s i, by omega, hB, by rw [hw, restB_list]; rfl, rfl, rfl⟩
        · rw [he, if_neg (by omega)] at h
          simp only [Prod.mk.injEq, Int.toNat_natCast] at h
          obtain ⟨rfl, rfl, rfl, rfl⟩ := h
          exact .inl ⟨by decide, rfl, rfl, by omega, by omega⟩
      | false =>
        rw [hB, if_neg (by decide)] at h
        simp only [Prod.mk.injEq] at h
        obtain ⟨rfl, rfl, rfl, rfl⟩ := h
        exact .inl ⟨by decide, rfl, rfl, by omega, by omega⟩

end Go.Proofs.Ytlibklfianghlaa.S

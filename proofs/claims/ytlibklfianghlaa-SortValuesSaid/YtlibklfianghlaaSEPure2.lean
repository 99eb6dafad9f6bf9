-- WRITTEN BY a program of this session (wip/extprint.py, over the kit's print.py); not trusted: Lean checks it.
import Derived.Test.YtlibklfianghlaaSx0
import Derived.Test.YtlibklfianghlaaSx3
import Derived.Test.YtlibklfianghlaaSELib
import Derived.Test.YtlibklfianghlaaSEMath
import Derived.Test.YtlibklfianghlaaSEPure1
import Derived.Test.YtlibklfianghlaaSERead
namespace Go.Proofs.Ytlibklfianghlaa.S
open Go.RowKit Go.Proofs.YtlibklfianghlaaW.PrintWords Go.Proofs.YtlibklfianghlaaW.PrintLast Go.Proofs.YtlibklfianghlaaW.PrintMore
attribute [local go_sem] max2_int min2_int max_two min_two max_three min_three max_four min_four   -- for this text's walks alone
set_option linter.unusedVariables false
set_option linter.unusedSimpArgs false

/-! Plain laws: Text, May, Same as chains. -/
theorem chain_whole (x : ByteArray) (hx : nameOK x = true) : ∀ (m d : Nat), m < d → chainT d (wholeT m x).f0 (wholeT m x).f1 = some (m, x)
  | 0, d + 1, _ => by
    have hb : (isBase x || isVar x) = true := hx
    show chainT (d + 1) x [] = _
    unfold chainT
    rw [name_notlist hx]
    simp [hb]
  | m + 1, d + 1, h => by
    have ih := chain_whole x hx m d (by omega)
    have hl : isList listB = true := by rw [isList_list]; rfl
    show chainT (d + 1) listB [wholeT m x] = _
    unfold chainT
    rw [hl]
    simp [ih]
def textB (m : Nat) (x : ByteArray) : ByteArray := (⟨(Lib.repeatL listSp m).toArray⟩ : ByteArray) ++ x
theorem textB_list (m : Nat) (x : ByteArray) : (textB m x).data.toList = Lib.repeatL listSp m ++ x.data.toList := by
  unfold textB
  rw [ByteArray.data_append, Array.toList_append]
theorem textB_size (m : Nat) (x : ByteArray) : (textB m x).size = m * 5 + x.size := by
  rw [size_list, textB_list, List.length_append, Lib.repeatL_length, size_list]
  rfl
theorem text_eq (nm : ByteArray) (l : List S24) (k : Nat) (hk : 130 < k) : sort_Text.f k nm l = match chainT 65 nm l with
    | none => some (⟨#[]⟩, 14)
    | some (m, x) => some (textB m x, 0) := by
  unfold sort_Text.f
  rw [sort_cut_eq nm l k hk]
  cases hc : chainT 65 nm l with
  | none => rfl
  | some r =>
    obtain ⟨m, x⟩ := r
    obtain ⟨h1, h2, _⟩ := chainT_le 65 nm l m x hc
    have h3 := name_size h2
    simp only [cutT, Option.bind_some, if_true, Nat.zero_add]
    have hz : (⟨#[108, 105, 115, 116, 32]⟩ : ByteArray).size = 5 := rfl
    have hrep : strings_Repeat.f (⟨#[108, 105, 115, 116, 32]⟩ : ByteArray) (m : Int) = some ⟨(Lib.repeatL listSp m).toArray⟩ := by
      unfold strings_Repeat.f
      rw [if_pos ⟨by omega, by omega, by rw [hz, Int.toNat_natCast]; omega⟩, Int.toNat_natCast]
      rfl
    rw [hrep]
    have hsz : (⟨(Lib.repeatL listSp m).toArray⟩ : ByteArray).size = m * 5 := by
      show (Lib.repeatL listSp m).toArray.size = _
      rw [List.size_toArray, Lib.repeatL_length]; rfl
    simp only [Option.bind_some]
    rw [if_pos (by rw [hsz]; omega)]
    rfl
theorem may_eq (nm : ByteArray) (l : List S24) (k : Nat) (hk : 130 < k) : sort_May.f k nm l = some (if (chainT 65 nm l).isSome then 0 else 14) := by
  unfold sort_May.f
  rw [sort_cut_eq nm l k hk]
  cases chainT 65 nm l <;> rfl
theorem same_eq (nm : ByteArray) (l : List S24) (nm' : ByteArray) (l' : List S24) (k : Nat) (hk : 130 < k) (m : Nat) (x : ByteArray) (h : chainT 65 nm l = some (m, x)) (h' : chainT 65 nm' l' = some (m, x)) : sort_Same.f k nm l nm' l' = some true := by
  unfold sort_Same.f
  rw [sort_cut_eq nm l k hk, sort_cut_eq nm' l' k hk, h, h']
  simp [cutT]
theorem read_eq (s : ByteArray) (hs : s.size ≤ 4611686018427387904) : sort_Read.f s = some (readT 65 s 0 0) := if_pos hs
theorem read_text (m : Nat) (x : ByteArray) (hx : nameOK x = true) (hm : m < 65) : sort_Read.f (textB m x) = some ((wholeT m x).f0, (wholeT m x).f1, 0, 0) := by
  rw [read_eq _ (by rw [textB_size]; have := name_size hx; omega)]
  have := readT_text (textB m x) x hx m 65 0 0 hm (by rw [List.drop_zero, textB_list])
  rw [this, Nat.zero_add]

end Go.Proofs.Ytlibklfianghlaa.S

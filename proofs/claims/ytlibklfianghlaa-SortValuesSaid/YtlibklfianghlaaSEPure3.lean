-- WRITTEN BY a program of this session (wip/extprint.py, over the kit's print.py); not trusted: Lean checks it.
import Derived.Test.YtlibklfianghlaaSx0
import Derived.Test.YtlibklfianghlaaSx3
import Derived.Test.YtlibklfianghlaaSEMath
import Derived.Test.YtlibklfianghlaaSEPure1
import Derived.Test.YtlibklfianghlaaSEPure2
import Derived.Test.YtlibklfianghlaaSERead
namespace Go.Proofs.Ytlibklfianghlaa.S
open Go.RowKit Go.Proofs.YtlibklfianghlaaW.PrintWords Go.Proofs.YtlibklfianghlaaW.PrintLast Go.Proofs.YtlibklfianghlaaW.PrintMore
attribute [local go_sem] max2_int min2_int max_two min_two max_three min_three max_four min_four   -- for this text's walks alone
set_option linter.unusedVariables false
set_option linter.unusedSimpArgs false

/-! The plain law of SortThere but for begun. -/
theorem text_whole (m : Nat) (x : ByteArray) (hx : nameOK x = true) (hm : m < 65) (k : Nat) (hk : 130 < k) : sort_Text.f k (wholeT m x).f0 (wholeT m x).f1 = some (textB m x, 0) := by
  rw [text_eq _ _ k hk, chain_whole x hx m 65 hm]
theorem there_pure (fu : Nat) (hfu : 130 < fu) (nm : ByteArray) (l : List S24) (t : ByteArray) (ht : t.size ≤ 140737488351232) :
    ∃ u e nm2 l2 at2 f2, sort_Text.f fu nm l = some (u, e) ∧ sort_May.f fu nm l = some e ∧
      (e ≠ 0 ∨ e = 0 ∧ ∃ nm1 l1, sort_Read.f u = some (nm1, l1, 0, 0) ∧ sort_Same.f fu nm1 l1 nm l = some true) ∧
      sort_Read.f t = some (nm2, l2, at2, f2) ∧
      (f2 ≠ 0 ∧ nm2.toList = [] ∧ l2 = [] ∧ 0 ≤ at2 ∧ at2 ≤ (t.size : Int) ∨ f2 = 0 ∧ at2 = 0 ∧ sort_Text.f fu nm2 l2 = some (t, 0)) := by
  obtain ⟨u, e, h1, h2, h3⟩ : ∃ u e, sort_Text.f fu nm l = some (u, e) ∧ sort_May.f fu nm l = some e ∧
      (e ≠ 0 ∨ e = 0 ∧ ∃ nm1 l1, sort_Read.f u = some (nm1, l1, 0, 0) ∧ sort_Same.f fu nm1 l1 nm l = some true) := by
    cases hc : chainT 65 nm l with
    | none => exact ⟨⟨#[]⟩, 14, by rw [text_eq _ _ fu hfu, hc], by rw [may_eq _ _ fu hfu, hc]; rfl, .inl (by decide)⟩
    | some r =>
      obtain ⟨m, x⟩ := r
      obtain ⟨hm, hx, _⟩ := chainT_le 65 nm l m x hc
      exact ⟨textB m x, 0, by rw [text_eq _ _ fu hfu, hc], by rw [may_eq _ _ fu hfu, hc]; rfl, .inr ⟨rfl, _, _, read_text m x hx hm, same_eq _ _ _ _ fu hfu m x (chain_whole x hx m 65 hm) hc⟩⟩
  obtain ⟨nm2, l2, at2, f2, h4⟩ : ∃ a b c d, readT 65 t 0 0 = (a, b, c, d) := ⟨_, _, _, _, rfl⟩
  refine ⟨u, e, nm2, l2, at2, f2, h1, h2, h3, by rw [read_eq t (by omega), h4], ?_⟩
  rcases readT_inv t 65 0 0 nm2 l2 at2 f2 (Nat.zero_le _) h4 with ⟨a, rfl, rfl, b, c⟩ | ⟨rfl, rfl, m, x, hm, hx, hd, rfl, rfl⟩
  · exact .inl ⟨a, by rw [ByteArray.toList_eq], rfl, b, c⟩
  · refine .inr ⟨rfl, rfl, ?_⟩
    have e1 : t = textB m x := ext_list (by rw [textB_list, ← hd, List.drop_zero])
    rw [Nat.zero_add, text_whole m x hx hm fu hfu, ← e1]

end Go.Proofs.Ytlibklfianghlaa.S

-- WRITTEN BY a program of this session (wip/extprint.py, over the kit's print.py); not trusted: Lean checks it.
import Derived.Test.YtlibklfianghlaaSx0
import Derived.Test.YtlibklfianghlaaSx3
import Derived.Test.YtlibklfianghlaaSEApply
import Derived.Test.YtlibklfianghlaaSEGiven
import Derived.Test.YtlibklfianghlaaSEMath
import Derived.Test.YtlibklfianghlaaSEPure1
import Derived.Test.YtlibklfianghlaaSEPure2
import Derived.Test.YtlibklfianghlaaSEPure4
import Derived.Test.YtlibklfianghlaaSEUnify
namespace Go.Proofs.Ytlibklfianghlaa.S
open Go.RowKit Go.Proofs.YtlibklfianghlaaW.PrintWords Go.Proofs.YtlibklfianghlaaW.PrintLast Go.Proofs.YtlibklfianghlaaW.PrintMore
attribute [local go_sem] max2_int min2_int max_two min_two max_three min_three max_four min_four   -- for this text's walks alone
set_option linter.unusedVariables false
set_option linter.unusedSimpArgs false

/-! The plain law of SortUnifies. -/
theorem less_irrefl : ∀ (a : List UInt8), Op.bytesLess a a = false
  | [] => rfl
  | x :: r => by
    unfold Op.bytesLess
    simp [less_irrefl r]
theorem less_asymm : ∀ (a b : List UInt8), Op.bytesLess a b = true → Op.bytesLess b a = false
  | [], [], _ => rfl
  | [], _ :: _, _ => rfl
  | _ :: _, [], h => by simp [Op.bytesLess] at h
  | x :: r, y :: q, h => by
    unfold Op.bytesLess at h ⊢
    simp only [Bool.or_eq_true, decide_eq_true_eq, Bool.and_eq_true, beq_iff_eq] at h
    rcases h with h | ⟨rfl, h⟩
    · have h1 : ¬ y < x := by rw [UInt8.lt_iff_toNat_lt] at h ⊢; omega
      have h2 : (y == x) = false := by rw [beq_eq_false_iff_ne]; rintro rfl; exact absurd h (by rw [UInt8.lt_iff_toNat_lt]; omega)
      simp [h1, h2]
    · have h1 : ¬ x < x := by rw [UInt8.lt_iff_toNat_lt]; omega
      simp [h1, less_asymm r q h]
theorem less_total : ∀ (a b : List UInt8), Op.bytesLess a b = false → Op.bytesLess b a = false → a = b
  | [], [], _, _ => rfl
  | [], _ :: _, h, _ => by simp [Op.bytesLess] at h
  | _ :: _, [], _, h => by simp [Op.bytesLess] at h
  | x :: r, y :: q, h, h' => by
    unfold Op.bytesLess at h h'
    simp only [Bool.or_eq_false_iff, decide_eq_false_iff_not, Bool.and_eq_false_iff, beq_eq_false_iff_ne] at h h'
    have e : x = y := by
      have a1 := h.1; have a2 := h'.1
      rw [UInt8.lt_iff_toNat_lt] at a1 a2
      exact UInt8.toNat_inj.1 (by omega)
    subst e
    have b1 : Op.bytesLess r q = false := by rcases h.2 with h | h; exact absurd rfl h; exact h
    have b2 : Op.bytesLess q r = false := by rcases h'.2 with h | h; exact absurd rfl h; exact h
    rw [less_total r q b1 b2]
/-- What the two chains are brought to, told from both sides. -/
theorem normA_swap (n m : Nat) (p q : ByteArray) : normA (n : Int) (m : Int) p q = normA (m : Int) (n : Int) q p := by
  unfold normA
  by_cases h1 : (n : Int) < m
  · rw [if_pos h1, if_neg (by omega), if_pos h1]
  · rw [if_neg h1]
    by_cases h2 : (m : Int) < n
    · rw [if_pos h2, if_pos h2]
    · rw [if_neg h2, if_neg h2, if_neg h1]
      cases h3 : Op.bytesLess p.toList q.toList with
      | true => rw [less_asymm _ _ h3]; rfl
      | false =>
        cases h4 : Op.bytesLess q.toList p.toList with
        | true => rfl
        | false =>
          have := toList_inj (less_total _ _ h3 h4)
          subst this
          rfl
/-- One of the two has no lists: the other's lists, the name without, the name within. -/
theorem normA_cases (n m : Nat) (p q : ByteArray) : ∃ d : Nat, (normA (n : Int) (m : Int) p q = ((d : Int), p, q) ∧ m = n + d) ∨ (normA (n : Int) (m : Int) p q = ((d : Int), q, p) ∧ n = m + d) := by
  unfold normA
  by_cases h1 : (n : Int) < m
  · rw [if_pos h1]
    exact ⟨m - n, .inl ⟨by rw [show ((m - n : Nat) : Int) = (m : Int) - n by omega], by omega⟩⟩
  · rw [if_neg h1]
    by_cases h2 : (m : Int) < n
    · rw [if_pos h2]
      exact ⟨n - m, .inr ⟨by rw [show ((n - m : Nat) : Int) = (n : Int) - m by omega], by omega⟩⟩
    · rw [if_neg h2]
      have e : n = m := by omega
      subst e
      cases Op.bytesLess p.toList q.toList with
      | true => exact ⟨0, .inr ⟨rfl, rfl⟩⟩
      | false => exact ⟨0, .inl ⟨rfl, rfl⟩⟩
theorem unifyT_some (n m : Nat) (p q : ByteArray) : unifyT (some (n, p)) (some (m, q)) = match pairsB (normA n m p q).1 (normA n m p q).2.1 (normA n m p q).2.2 with | some l => (l.map S50of, 0) | none => ([], 14) := rfl
theorem unifyT_swap (n m : Nat) (p q : ByteArray) : unifyT (some (n, p)) (some (m, q)) = unifyT (some (m, q)) (some (n, p)) := by
  rw [unifyT_some, unifyT_some, normA_swap]
/-! What stands for variables. -/
theorem getC_setC (k : ByteArray) (v : Nat × ByteArray) (j : ByteArray) : ∀ M, getC (setC M k v) j = if k = j then some v else getC M j
  | [] => by
    show getC [(k, v)] j = _
    unfold getC
    rfl
  | (a, x) :: r => by
    unfold setC
    by_cases h : a = k
    · subst h
      rw [if_pos rfl]
      unfold getC
      split
      · rfl
      · rfl
    · rw [if_neg h]
      unfold getC
      rw [getC_setC k v j r]
      by_cases h2 : a = j
      · subst h2
        rw [if_pos rfl, if_pos rfl, if_neg (fun e => h e.symm)]
      · rw [if_neg h2, if_neg h2]
def emptyB : ByteArray := ⟨#[]⟩
theorem var_ne {u : ByteArray} (h : isVar u = true) : u ≠ emptyB := by
  rintro rfl
  exact absurd h (by decide)
/-- Keys are variables, what they stand for may be; the empty key tells that something is amiss. -/
def InvC (M : List (ByteArray × Nat × ByteArray)) : Prop := ∀ k r, getC M k = some r → k ≠ emptyB → isVar k = true ∧ nameOK r.2 = true ∧ r.1 < 65
theorem InvC.step {M M' : List (ByteArray × Nat × ByteArray)} (h : InvC M) (x : S50) (hs : stepC M x = some M') : InvC M' := by
  unfold stepC at hs
  cases hc : chainT 65 x.f1.f0 x.f1.f1 with
  | none => rw [hc] at hs; cases hs
  | some r =>
    rw [hc] at hs
    obtain ⟨m, nm⟩ := r
    obtain ⟨h1, h2, _⟩ := chainT_le 65 _ _ m nm hc
    simp only [Option.some.injEq] at hs
    subst hs
    intro k r hg hk
    split at hg
    · rw [getC_setC, if_neg (fun e => hk e.symm)] at hg
      exact h k r hg hk
    · split at hg
      · rename_i hv
        rw [getC_setC] at hg
        split at hg
        · rename_i e
          subst e
          cases hg
          exact ⟨hv, h2, h1⟩
        · exact h k r hg hk
      · rw [getC_setC, if_neg (fun e => hk e.symm)] at hg
        exact h k r hg hk
theorem InvC.fold : ∀ (l : List S50) {M M' : List (ByteArray × Nat × ByteArray)}, InvC M → foldC M l = some M' → InvC M'
  | [], _, _, h, hs => by cases hs; exact h
  | x :: r, M, M', h, hs => by
    unfold foldC at hs
    cases hc : stepC M x with
    | none => rw [hc] at hs; cases hs
    | some M1 =>
      rw [hc] at hs
      exact InvC.fold r (h.step x hc) hs
theorem InvC.nil : InvC [] := fun k r h => by cases h
/-- A chain with what stands for its variable. -/
def puts (M : List (ByteArray × Nat × ByteArray)) (c : Nat × ByteArray) : Nat × ByteArray := match getC M c.2 with
  | some r => (c.1 + r.1, r.2)
  | none => c
theorem puts_add (M : List (ByteArray × Nat × ByteArray)) (n d : Nat) (p : ByteArray) : puts M (n + d, p) = (n + (puts M (d, p)).1, (puts M (d, p)).2) := by
  unfold puts
  cases h : getC M p with
  | none => simp only [h]
  | some r => simp only [h]; rw [Nat.add_assoc]
theorem name_ne {p : ByteArray} (h : nameOK p = true) : p ≠ emptyB := by
  rintro rfl
  have := (name_size h).2
  exact absurd this (by decide)
theorem InvC.puts {M : List (ByteArray × Nat × ByteArray)} (h : InvC M) (n : Nat) (p : ByteArray) (hp : nameOK p = true) : nameOK (puts M (n, p)).2 = true := by
  unfold S.puts
  cases hg : getC M p with
  | none => simp only [hg]; exact hp
  | some r => simp only [hg]; exact (h p r hg (name_ne hp)).2.1
theorem InvC.novar {M : List (ByteArray × Nat × ByteArray)} (h : InvC M) (n : Nat) (p : ByteArray) (hp : nameOK p = true) (hv : isVar p = false) : S.puts M (n, p) = (n, p) := by
  unfold S.puts
  cases hg : getC M p with
  | none => simp only [hg]
  | some r =>
    have := (h p r hg (name_ne hp)).1
    rw [hv] at this
    cases this
theorem doneC_eq (n : Nat) (p : ByteArray) (M : List (ByteArray × Nat × ByteArray)) : doneC n p M = if (getC M emptyB).isSome then (⟨#[]⟩, [], 1) else wholeC (puts M (n, p)).1 (puts M (n, p)).2 := by
  unfold doneC
  show (if (getC M emptyB).isSome then _ else _) = _
  split
  · rfl
  · unfold puts
    cases h : getC M p with
    | none => simp only [h]
    | some r => simp only [h]
theorem wholeC_no {n : Nat} {p : ByteArray} (h : (wholeC n p).2.2 ≠ 0) : (wholeC n p).2.2 = 2 ∧ 65 ≤ n := by
  unfold wholeC at h ⊢
  by_cases h1 : n ≥ 65
  · rw [if_pos h1]; exact ⟨rfl, h1⟩
  · rw [if_neg h1] at h; exact absurd rfl h
theorem wholeC_ok {n : Nat} {p : ByteArray} (h : (wholeC n p).2.2 = 0) : n < 65 ∧ wholeC n p = ((wholeT n p).f0, (wholeT n p).f1, 0) := by
  unfold wholeC at h ⊢
  by_cases h1 : n ≥ 65
  · rw [if_pos h1] at h; cases h
  · rw [if_neg h1]; exact ⟨by omega, rfl⟩
theorem same_chains (nm : ByteArray) (l : List S24) (nm' : ByteArray) (l' : List S24) (k : Nat) (hk : 130 < k) (n m : Nat) (p q : ByteArray) (h : chainT 65 nm l = some (n, p)) (h' : chainT 65 nm' l' = some (m, q)) :
    sort_Same.f k nm l nm' l' = some (decide (n = m ∧ p = q)) := by
  unfold sort_Same.f
  rw [sort_cut_eq nm l k hk, sort_cut_eq nm' l' k hk, h, h']
  simp only [cutT, Option.bind_some, if_true, Nat.zero_add, Option.some.injEq]
  by_cases e1 : n = m
  · subst e1
    by_cases e2 : p = q
    · subst e2; simp
    · have : (p.toList == q.toList) = false := beq_eq_false_iff_ne.mpr (fun e => e2 (toList_inj e))
      simp [e2, this]
  · have : (((n : Nat) : Int) == ((m : Nat) : Int)) = false := beq_eq_false_iff_ne.mpr (by omega)
    simp [e1, this]
theorem same_wholeC (n m : Nat) (p q : ByteArray) (hp : nameOK p = true) (hq : nameOK q = true) (k : Nat) (hk : 130 < k) (h : (wholeC n p).2.2 = 0) (h' : (wholeC m q).2.2 = 0) :
    sort_Same.f k (wholeC n p).1 (wholeC n p).2.1 (wholeC m q).1 (wholeC m q).2.1 = some (decide (n = m ∧ p = q)) := by
  obtain ⟨h1, h2⟩ := wholeC_ok h
  obtain ⟨h3, h4⟩ := wholeC_ok h'
  rw [h2, h4]
  exact same_chains _ _ _ _ k hk n m p q (chain_whole p hp n 65 h1) (chain_whole q hq m 65 h3)

end Go.Proofs.Ytlibklfianghlaa.S

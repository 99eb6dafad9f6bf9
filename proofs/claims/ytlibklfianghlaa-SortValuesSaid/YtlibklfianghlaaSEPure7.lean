-- WRITTEN BY a program of this session (wip/extprint.py, over the kit's print.py); not trusted: Lean checks it.
import Derived.Test.YtlibklfianghlaaSx0
import Derived.Test.YtlibklfianghlaaSx4
import Derived.Test.YtlibklfianghlaaSEMath
import Derived.Test.YtlibklfianghlaaSEPure4
import Derived.Test.YtlibklfianghlaaSEPure5
import Derived.Test.YtlibklfianghlaaSEWorth
namespace Go.Proofs.Ytlibklfianghlaa.S
open Go.RowKit Go.Proofs.YtlibklfianghlaaW.PrintWords Go.Proofs.YtlibklfianghlaaW.PrintLast Go.Proofs.YtlibklfianghlaaW.PrintMore
attribute [local go_sem] max2_int min2_int max_two min_two max_three min_three max_four min_four   -- for this text's walks alone
set_option linter.unusedVariables false
set_option linter.unusedSimpArgs false

/-! Values' sorts, without rounds. -/
def meetT (a b : Nat × ByteArray) : Option (Nat × ByteArray) :=
  if a = b then some a
  else if a.2 = emptyB then (if a.1 ≤ b.1 then some b else if b.2 = emptyB then some a else none)
  else if b.2 = emptyB ∧ b.1 ≤ a.1 then some a else none
mutual
def ofT : S40 → Option (Nat × ByteArray)
  | ⟨kd, _, _, list⟩ =>
    if kd = 1 then some (0, ⟨#[117, 110, 105, 116]⟩) else
    if kd = 2 then some (0, ⟨#[116, 114, 117, 116, 104]⟩) else
    if kd = 3 then some (0, nmInt) else
    if kd = 4 then some (0, ⟨#[116, 101, 120, 116]⟩) else
    (ofL list (0, emptyB)).map fun r => (r.1 + 1, r.2)
def ofL : List S40 → Nat × ByteArray → Option (Nat × ByteArray)
  | [], c => some c
  | x :: r, c => (ofT x).bind fun d => (meetT c d).bind fun e => ofL r e
end
mutual
def szP : S40 → Nat
  | ⟨_, _, _, list⟩ => szL list + 4
def szL : List S40 → Nat
  | [] => 4
  | x :: r => szP x + szL r + 4
end
theorem szP_eq (kd num : Int) (text : ByteArray) (list : List S40) : szP ⟨kd, num, text, list⟩ = szL list + 4 := by unfold szP; rfl
theorem szL_nil : szL [] = 4 := by unfold szL; rfl
theorem szL_cons (x : S40) (r : List S40) : szL (x :: r) = szP x + szL r + 4 := by conv => lhs; unfold szL
attribute [irreducible] szP szL
attribute [local irreducible] measP measL
def tripO (o : Option (Nat × ByteArray)) : Int × ByteArray × Bool := match o with | some r => ((r.1 : Int), r.2, true) | none => (0, ⟨#[]⟩, false)
theorem empty_iff (x : ByteArray) : x.toList = ([] : List UInt8) ↔ x = emptyB := ⟨fun h => toList_inj (by rw [h]; unfold emptyB; rw [ByteArray.toList_eq]), fun h => by rw [h]; unfold emptyB; rw [ByteArray.toList_eq]⟩
theorem pair_beq (a b : Nat × ByteArray) : (((a.1 : Int) == (b.1 : Int)) && (a.2.toList == b.2.toList)) = decide (a = b) := by
  by_cases h : a = b
  · subst h; simp
  · rw [decide_eq_false h, Bool.and_eq_false_iff]
    by_cases h1 : a.1 = b.1
    · right
      exact beq_eq_false_iff_ne.mpr (fun e => h (Prod.ext h1 (toList_inj e)))
    · left
      exact beq_eq_false_iff_ne.mpr (by omega)
theorem meet_j0 (a b : Nat × ByteArray) (k : Nat) (hk : 1 < k) (h : b.2 = emptyB → a.2 = emptyB) : sort_meet.j0 k a.1 a.2 b.1 b.2 = some (tripO (if a = b then some a else if a.2 = emptyB then (if a.1 ≤ b.1 then some b else if b.2 = emptyB then some a else none) else none)) := by
  obtain ⟨k, rfl⟩ : ∃ q, k = q + 2 := ⟨k - 2, by omega⟩
  rw [sort_meet.j0, pair_beq]
  by_cases h1 : a = b
  · rw [if_pos (by simp [h1]), if_pos h1]; rfl
  rw [if_neg (by simp [h1]), if_neg h1]
  by_cases h2 : a.2 = emptyB
  · rw [if_pos ((empty_iff _).2 h2), if_pos h2, sort_meet.j1]
    by_cases h3 : a.1 ≤ b.1
    · rw [if_pos (decide_eq_true (by omega)), if_pos h3]; rfl
    · rw [if_neg (by simp; omega), if_neg h3, if_pos ((empty_iff _).2 h2)]
      by_cases h4 : b.2 = emptyB
      · rw [if_pos ((empty_iff _).2 h4), if_pos h4]; rfl
      · rw [if_neg (fun e => h4 ((empty_iff _).1 e)), if_neg h4]; rfl
  · rw [if_neg (fun e => h2 ((empty_iff _).1 e)), if_neg h2, sort_meet.j1, if_neg (by simp), if_neg (fun e => h2 ((empty_iff _).1 e))]
    rfl
theorem meet_eq (a b : Nat × ByteArray) (k : Nat) (hk : 1 < k) : sort_meet.f k a.1 a.2 b.1 b.2 = some (tripO (meetT a b)) := by
  unfold sort_meet.f meetT
  by_cases h : a.2 = emptyB
  · rw [if_pos ((empty_iff _).2 h), meet_j0 a b k hk (fun _ => h), if_pos h, if_pos h]
  · rw [if_neg (fun e => h ((empty_iff _).1 e)), if_neg h, meet_j0 b a k hk (fun e => absurd e h)]
    by_cases h1 : a = b
    · rw [if_pos h1, if_pos h1.symm, h1]
    · rw [if_neg h1, if_neg (fun e => h1 e.symm)]
      by_cases h2 : b.2 = emptyB
      · rw [if_pos h2]
        by_cases h3 : b.1 ≤ a.1
        · rw [if_pos h3, if_pos ⟨h2, h3⟩]
        · rw [if_neg h3, if_neg h, if_neg (fun e => h3 e.2)]
      · rw [if_neg h2, if_neg (fun e => h2 e.1)]
theorem meet_le {a b c : Nat × ByteArray} {n : Nat} (h : meetT a b = some c) (ha : a.1 ≤ n) (hb : b.1 ≤ n) : c.1 ≤ n := by
  unfold meetT at h
  split at h
  · cases h; exact ha
  split at h
  · split at h
    · cases h; exact hb
    split at h
    · cases h; exact ha
    · cases h
  · split at h
    · cases h; exact ha
    · cases h
theorem meet_name {P : ByteArray → Prop} {a b c : Nat × ByteArray} (h : meetT a b = some c) (ha : P a.2) (hb : P b.2) : P c.2 := by
  unfold meetT at h
  split at h
  · cases h; exact ha
  split at h
  · split at h
    · cases h; exact hb
    split at h
    · cases h; exact ha
    · cases h
  · split at h
    · cases h; exact ha
    · cases h
theorem rd40_cons (xs : List S40) (i : Nat) (x : S40) (r : List S40) (h : xs.drop i = x :: r) : rd_T40 xs (i : Int) = x ∧ i < xs.length ∧ xs.drop (i + 1) = r := by
  have hi : i < xs.length := by
    rcases Nat.lt_or_ge i xs.length with h1 | h1
    · exact h1
    · rw [List.drop_eq_nil_of_le h1] at h; cases h
  rw [List.drop_eq_getElem_cons hi] at h
  injection h with h1 h2
  refine ⟨?_, hi, h2⟩
  rw [← h1]
  simp [rd_T40, List.getD_eq_getElem?_getD, hi]
/-- What a value that may be is of. -/
def OfP (x : S40) : Prop := ∀ (left deep : Int) (k : Nat), 0 ≤ deep → deep ≤ 64 → left ≤ 65536 → (measP x left deep).2 = true → szP x < k →
    sort_of.f k x.f0 x.f1 x.f2 x.f3 = some (tripO (ofT x)) ∧ ∀ r, ofT x = some r → (r.1 : Int) + deep ≤ 64
theorem sz_split {a b k : Nat} (h : a + b + 4 ≤ k + 1) : a < k ∧ b ≤ k ∧ 1 < k + 0 + 1 ∧ 2 ≤ k := by omega
theorem sz_some {a k : Nat} (h : a + 4 ≤ k) : ∃ q, k = q + 1 := ⟨k - 1, by omega⟩
theorem of_L : ∀ (l xs : List S40) (hall : ∀ x ∈ l, OfP x) (i : Nat) (c : Nat × ByteArray) (n left deep : Int) (k : Nat), 0 ≤ deep → deep < 64 → left ≤ 65536 → (i : Int) ≤ n → (measL l n left deep).2 = true → xs.drop i = l → (c.1 : Int) + deep ≤ 63 → szL l ≤ k →
    sort_of.l0 k xs (xs.length : Int) (i : Int) c.1 c.2 = some (tripO ((ofL l c).map fun r => (r.1 + 1, r.2))) ∧ ∀ r, ofL l c = some r → (r.1 : Int) + deep ≤ 63
  | [], xs, hall, i, c, n, left, deep, k => by
    intro hd0 hd hleft hn h hx hc hk
    rw [szL_nil] at hk
    obtain ⟨k, rfl⟩ : ∃ q, k = q + 1 := ⟨k - 1, by omega⟩
    have hi : xs.length ≤ i := List.drop_eq_nil_iff.1 hx
    rw [sort_of.l0, if_neg (by omega)]
    have hw : wrap64 ((c.1 : Int) + 1) = ((c.1 + 1 : Nat) : Int) := wrapN (by omega)
    rw [hw]
    unfold ofL
    exact ⟨rfl, fun r hr => by cases hr; exact hc⟩
  | x :: l, xs, hall, i, c, n, left, deep, k => by
    intro hd0 hd hleft hn h hx hc hk
    rw [szL_cons] at hk
    obtain ⟨k, rfl⟩ := sz_some hk
    obtain ⟨hk1, hk2, _, hk3⟩ := sz_split hk
    clear hk
    have HK1 := Aside0.mk hk1
    have HK2 := Aside0.mk hk2
    clear hk1 hk2
    obtain ⟨e1, hi, e2⟩ := rd40_cons xs i x l hx
    unfold measL at h
    split at h
    · rename_i hm
      have hp := measP_le x (left - n) (deep + 1) (by omega) hm
      have hP := hall x (List.mem_cons_self ..) (left - n) (deep + 1) k (by omega) (by omega) (by omega) hm HK1.out
      generalize (measP x (left - n) (deep + 1)).1 = m1 at h hp
      have hin : (i : Int) < 65536 := by have := hp.1; have := hp.2; clear hP; omega
      clear hm
      have hw : wrap64 ((i : Int) + 1) = ((i + 1 : Nat) : Int) := wrapN (Int.lt_trans hin (by decide))
      have g1 : (i : Int) < (xs.length : Int) := Int.ofNat_lt.2 hi
      have g2 : (0 : Int) ≤ (i : Int) := Int.natCast_nonneg _
      rw [sort_of.l0, if_pos g1, if_pos g2, if_pos g1, e1, hP.1]
      simp only [Option.bind_some]
      unfold ofL
      cases ho : ofT x with
      | none => exact ⟨rfl, fun r hr => by cases hr⟩
      | some d =>
        have hd1 := hP.2 d ho
        have hm2 := meet_eq c d k (by omega)
        rw [if_pos (show (tripO (some d)).2.2 = true from rfl)]
        show ((sort_meet.f k (c.1 : Int) c.2 (d.1 : Int) d.2).bind _) = some (tripO (Option.map _ ((meetT c d).bind fun e => ofL l e))) ∧ ∀ r, ((meetT c d).bind fun e => ofL l e) = some r → _
        rw [hm2]
        cases hmm : meetT c d with
        | none => exact ⟨rfl, fun r hr => by cases hr⟩
        | some e =>
          have he : (e.1 : Int) + deep ≤ 63 := by
            have := meet_le (n := (63 - deep).toNat) hmm (by omega) (by omega)
            omega
          have := of_L l xs (fun y hy => hall y (List.mem_cons_of_mem _ hy)) (i + 1) e (n + m1) left deep k hd0 hd hleft (by have := hp.1; clear hP; omega) h e2 he HK2.out
          rw [← hw] at this
          exact this
    · exact absurd h (by simp)
theorem of_P_step (kd num : Int) (text : ByteArray) (list : List S40) (hall : ∀ x ∈ list, OfP x) : OfP ⟨kd, num, text, list⟩ := by
    intro left deep k
    intro hd0 hd hleft h hk
    obtain ⟨k, rfl⟩ : ∃ q, k = q + 1 := ⟨k - 1, by omega⟩
    rw [szP_eq] at hk
    unfold measP at h
    split at h
    · exact absurd h (by simp)
    split at h
    · exact absurd h (by simp)
    split at h
    · exact absurd h (by simp)
    show sort_of.f (k + 1) kd num text list = _ ∧ _
    rw [sort_of.f]
    unfold ofT
    by_cases h1 : kd = 1
    · rw [if_pos h1, if_pos h1]
      exact ⟨rfl, fun r hr => by cases hr; simp; omega⟩
    rw [if_neg h1, if_neg h1]
    by_cases h2 : kd = 2
    · rw [if_pos h2, if_pos h2]
      exact ⟨rfl, fun r hr => by cases hr; simp; omega⟩
    rw [if_neg h2, if_neg h2]
    by_cases h3 : kd = 3
    · rw [if_pos h3, if_pos h3]
      exact ⟨rfl, fun r hr => by cases hr; simp; omega⟩
    rw [if_neg h3, if_neg h3]
    by_cases h4 : kd = 4
    · rw [if_pos h4, if_pos h4]
      exact ⟨rfl, fun r hr => by cases hr; simp; omega⟩
    rw [if_neg h4, if_neg h4]
    rw [if_neg h1, if_neg h2, if_neg h3, if_neg h4] at h
    split at h
    · split at h
      · exact absurd h (by simp)
      split at h
      · exact absurd h (by simp)
      rename_i h5 h6 h7
      have hl := of_L list list hall 0 (0, emptyB) 1 left deep k hd0 (by omega) hleft (by omega) h rfl (by simp; omega) (by omega)
      refine ⟨hl.1, ?_⟩
      intro r hr
      obtain ⟨r', hr', rfl⟩ := Option.map_eq_some_iff.1 hr
      have := hl.2 r' hr'
      simp only
      omega
    · exact absurd h (by simp)
mutual
theorem of_P : ∀ (x : S40), OfP x
  | ⟨kd, num, text, list⟩ => of_P_step kd num text list (of_Ps list)
theorem of_Ps : ∀ (l : List S40), ∀ x ∈ l, OfP x
  | [] => fun x hx => absurd hx (List.not_mem_nil)
  | y :: r => fun x hx => by
    rcases List.mem_cons.1 hx with h | h
    · rw [h]; exact of_P y
    · exact of_Ps r x h
end

end Go.Proofs.Ytlibklfianghlaa.S

-- WRITTEN BY a program of this session (wip/extprint.py, over the kit's print.py); not trusted: Lean checks it.
import Derived.Test.YtlibklfianghlaaSx0
namespace Go.Proofs.Ytlibklfianghlaa.S
open Go.RowKit Go.Proofs.YtlibklfianghlaaW.PrintWords Go.Proofs.YtlibklfianghlaaW.PrintLast Go.Proofs.YtlibklfianghlaaW.PrintMore
attribute [local go_sem] max2_int min2_int max_two min_two max_three min_three max_four min_four   -- for this text's walks alone
set_option linter.unusedVariables false
set_option linter.unusedSimpArgs false

/-! worth.measure -/
mutual
def measP : S40 → Int → Int → Int × Bool
  | ⟨kd, num, text, list⟩, left, deep =>
    if left < 1 then (0, false) else
    if kd ≠ 4 ∧ text.toList ≠ [] then (0, false) else
    if kd ≠ 5 ∧ 0 < list.length then (0, false) else
    if kd = 1 then (1, num == 0) else
    if kd = 2 then (1, num == 0 || num == 1) else
    if kd = 3 then (1, true) else
    if kd = 4 then (wrap64 (1 + text.size), num == 0 && decide ((text.size : Int) < left)) else
    if kd = 5 then (if num ≠ 0 then (0, false) else if deep = 64 then (0, false) else measL list 1 left deep) else (0, false)
def measL : List S40 → Int → Int → Int → Int × Bool
  | [], n, _, _ => (n, true)
  | x :: r, n, left, deep => if (measP x (left - n) (deep + 1)).2 then measL r (n + (measP x (left - n) (deep + 1)).1) left deep else (0, false)
end

section
variable (b o : Nat) (kd num left deep : Int) (text : ByteArray) (list : List S40) (A : Option Addr) (c : Nat) (w : World)

set_option maxRecDepth 100000 in
set_option maxHeartbeats 1000000 in
theorem meas_left (ad : Addr) (h1 : left < 1) :
    Calls Try.prog 60 #[.pointer (some ad), .int .i64 left, .int .i64 deep] w fun e w' => e = .returned (.tuple #[.int .i64 0, .bool false]) ∧ Drawn0 w w' := by
  have c1 : decide (left < 1) = true := decide_eq_true h1
  clear h1
  go_enter Try.func60, Try.ntmps60
  go_wp2_with fail
  go_ret2
  exact ⟨rfl, Drawn0.refl _⟩

set_option maxRecDepth 100000 in
set_option maxHeartbeats 1000000 in
theorem meas_text (ad : Addr) (hl : 1 ≤ left) (h0 : w.cell? ad = some (.int .i64 kd)) (h1 : w.cell? ⟨ad.block, ad.off + 1, none⟩ = some (.int .i64 num)) (h2 : w.cell? ⟨ad.block, ad.off + 2, none⟩ = some (.string text)) (h3 : w.cell? ⟨ad.block, ad.off + 3, none⟩ = some (.slice A list.length c)) (hk : kd ≠ 4) (ht : text.toList ≠ []) :
    Calls Try.prog 60 #[.pointer (some ad), .int .i64 left, .int .i64 deep] w fun e w' => e = .returned (.tuple #[.int .i64 0, .bool false]) ∧ Drawn0 w w' := by
  have c1 : decide (left < 1) = false := decide_eq_false (by omega)
  have c2 : (kd != 4) = true := bne_iff_ne.mpr hk
  have c3 : (text.toList == []) = false := beq_eq_false_iff_ne.mpr ht
  have c4 : (text.toList != []) = true := bne_iff_ne.mpr ht
  have c5 : text.toList.isEmpty = false := by simpa using ht
  clear hl hk ht
  go_enter Try.func60, Try.ntmps60
  go_wp2_with fail
  go_ret2
  exact ⟨rfl, Drawn0.refl _⟩
set_option maxRecDepth 100000 in
set_option maxHeartbeats 1000000 in
theorem meas_list (ad : Addr) (hl : 1 ≤ left) (h0 : w.cell? ad = some (.int .i64 kd)) (h1 : w.cell? ⟨ad.block, ad.off + 1, none⟩ = some (.int .i64 num)) (h2 : w.cell? ⟨ad.block, ad.off + 2, none⟩ = some (.string text)) (h3 : w.cell? ⟨ad.block, ad.off + 3, none⟩ = some (.slice A list.length c)) (hk : kd = 4 ∨ text.toList = []) (h5 : kd ≠ 5) (hn : 0 < list.length) :
    Calls Try.prog 60 #[.pointer (some ad), .int .i64 left, .int .i64 deep] w fun e w' => e = .returned (.tuple #[.int .i64 0, .bool false]) ∧ Drawn0 w w' := by
  have c1 : decide (left < 1) = false := decide_eq_false (by omega)
  have c6 : (kd != 5) = true := bne_iff_ne.mpr h5
  have c7 : decide ((0 : Int) < (list.length : Int)) = true := decide_eq_true (by omega)
  have c8 : decide (0 < list.length) = true := decide_eq_true hn
  by_cases hk4 : kd = 4
  · have c2 : (kd != 4) = false := by simp [hk4]
    clear hl hk hk4 h5 hn
    go_enter Try.func60, Try.ntmps60
    go_wp2_with fail
    go_ret2
    exact ⟨rfl, Drawn0.refl _⟩
  · have c2 : (kd != 4) = true := bne_iff_ne.mpr hk4
    have ht := hk.resolve_left hk4
    have c3 : (text.toList == []) = true := beq_iff_eq.mpr ht
    have c4 : (text.toList != []) = false := by simp [ht]
    have c5 : text.toList.isEmpty = true := by simp [ht]
    clear hl hk hk4 h5 hn ht
    go_enter Try.func60, Try.ntmps60
    go_wp2_with fail
    go_ret2
    exact ⟨rfl, Drawn0.refl _⟩

set_option maxRecDepth 100000 in
set_option maxHeartbeats 1000000 in
theorem meas_unit (ad : Addr) (hl : 1 ≤ left) (h0 : w.cell? ad = some (.int .i64 1)) (h1 : w.cell? ⟨ad.block, ad.off + 1, none⟩ = some (.int .i64 num)) (h2 : w.cell? ⟨ad.block, ad.off + 2, none⟩ = some (.string text)) (h3 : w.cell? ⟨ad.block, ad.off + 3, none⟩ = some (.slice A list.length c)) (ht : text.toList = []) (hn : list.length = 0) :
    Calls Try.prog 60 #[.pointer (some ad), .int .i64 left, .int .i64 deep] w fun e w' => e = .returned (.tuple #[.int .i64 1, .bool (num == 0)]) ∧ Drawn0 w w' := by
  have c1 : decide (left < 1) = false := decide_eq_false (by omega)
  have c4 : (text.toList != []) = false := by simp [ht]
  have c5 : text.toList.isEmpty = true := by simp [ht]
  have c7 : decide ((0 : Int) < (list.length : Int)) = false := decide_eq_false (by omega)
  have c8 : decide (0 < list.length) = false := decide_eq_false (by omega)
  clear hl ht hn
  go_enter Try.func60, Try.ntmps60
  go_wp2_with fail
  go_quiet (fail)
  go_wp2_with fail
  go_ret2
  exact ⟨rfl, ⟨⟨_, rfl⟩⟩⟩
set_option maxRecDepth 100000 in
set_option maxHeartbeats 1000000 in
theorem meas_int (ad : Addr) (hl : 1 ≤ left) (h0 : w.cell? ad = some (.int .i64 3)) (h1 : w.cell? ⟨ad.block, ad.off + 1, none⟩ = some (.int .i64 num)) (h2 : w.cell? ⟨ad.block, ad.off + 2, none⟩ = some (.string text)) (h3 : w.cell? ⟨ad.block, ad.off + 3, none⟩ = some (.slice A list.length c)) (ht : text.toList = []) (hn : list.length = 0) :
    Calls Try.prog 60 #[.pointer (some ad), .int .i64 left, .int .i64 deep] w fun e w' => e = .returned (.tuple #[.int .i64 1, .bool true]) ∧ Drawn0 w w' := by
  have c1 : decide (left < 1) = false := decide_eq_false (by omega)
  have c4 : (text.toList != []) = false := by simp [ht]
  have c5 : text.toList.isEmpty = true := by simp [ht]
  have c7 : decide ((0 : Int) < (list.length : Int)) = false := decide_eq_false (by omega)
  have c8 : decide (0 < list.length) = false := decide_eq_false (by omega)
  clear hl ht hn
  go_enter Try.func60, Try.ntmps60
  go_wp2_with fail
  go_ret2
  exact ⟨rfl, Drawn0.refl _⟩
set_option maxRecDepth 100000 in
set_option maxHeartbeats 1000000 in
theorem meas_truth (ad : Addr) (hl : 1 ≤ left) (h0 : w.cell? ad = some (.int .i64 2)) (h1 : w.cell? ⟨ad.block, ad.off + 1, none⟩ = some (.int .i64 num)) (h2 : w.cell? ⟨ad.block, ad.off + 2, none⟩ = some (.string text)) (h3 : w.cell? ⟨ad.block, ad.off + 3, none⟩ = some (.slice A list.length c)) (ht : text.toList = []) (hn : list.length = 0) :
    Calls Try.prog 60 #[.pointer (some ad), .int .i64 left, .int .i64 deep] w fun e w' => e = .returned (.tuple #[.int .i64 1, .bool (num == 0 || num == 1)]) ∧ Drawn0 w w' := by
  have c1 : decide (left < 1) = false := decide_eq_false (by omega)
  have c4 : (text.toList != []) = false := by simp [ht]
  have c5 : text.toList.isEmpty = true := by simp [ht]
  have c7 : decide ((0 : Int) < (list.length : Int)) = false := decide_eq_false (by omega)
  have c8 : decide (0 < list.length) = false := decide_eq_false (by omega)
  clear hl ht hn
  by_cases h5 : num = 0
  · have c9 : (num == 0) = true := beq_iff_eq.mpr h5
    clear h5
    go_enter Try.func60, Try.ntmps60
    go_wp2_with fail
    go_quiet (fail)
    go_wp2_with fail
    go_ret2
    exact ⟨by simp [c9], ⟨⟨_, rfl⟩⟩⟩
  · have c9 : (num == 0) = false := beq_eq_false_iff_ne.mpr h5
    clear h5
    go_enter Try.func60, Try.ntmps60
    go_wp2_with fail
    go_quiet (fail)
    go_wp2_with fail
    go_ret2
    exact ⟨by simp [c9], ⟨⟨_, rfl⟩⟩⟩
set_option maxRecDepth 100000 in
set_option maxHeartbeats 1000000 in
theorem meas_str (ad : Addr) (hl : 1 ≤ left) (h0 : w.cell? ad = some (.int .i64 4)) (h1 : w.cell? ⟨ad.block, ad.off + 1, none⟩ = some (.int .i64 num)) (h2 : w.cell? ⟨ad.block, ad.off + 2, none⟩ = some (.string text)) (h3 : w.cell? ⟨ad.block, ad.off + 3, none⟩ = some (.slice A list.length c)) (hn : list.length = 0) :
    Calls Try.prog 60 #[.pointer (some ad), .int .i64 left, .int .i64 deep] w fun e w' => e = .returned (.tuple #[.int .i64 (wrap64 (1 + text.size)), .bool (num == 0 && decide ((text.size : Int) < left))]) ∧ Drawn0 w w' := by
  have c1 : decide (left < 1) = false := decide_eq_false (by omega)
  have c7 : decide ((0 : Int) < (list.length : Int)) = false := decide_eq_false (by omega)
  have c8 : decide (0 < list.length) = false := decide_eq_false (by omega)
  clear hl hn
  by_cases h5 : num = 0
  · have c9 : (num == 0) = true := beq_iff_eq.mpr h5
    clear h5
    go_enter Try.func60, Try.ntmps60
    go_wp2_with fail
    go_quiet (fail)
    go_wp2_with fail
    go_ret2
    exact ⟨by simp [c9], ⟨⟨_, rfl⟩⟩⟩
  · have c9 : (num == 0) = false := beq_eq_false_iff_ne.mpr h5
    clear h5
    go_enter Try.func60, Try.ntmps60
    go_wp2_with fail
    go_quiet (fail)
    go_wp2_with fail
    go_ret2
    exact ⟨by simp [c9], ⟨⟨_, rfl⟩⟩⟩
set_option maxRecDepth 100000 in
set_option maxHeartbeats 1000000 in
theorem meas_else (ad : Addr) (hl : 1 ≤ left) (h0 : w.cell? ad = some (.int .i64 kd)) (h1 : w.cell? ⟨ad.block, ad.off + 1, none⟩ = some (.int .i64 num)) (h2 : w.cell? ⟨ad.block, ad.off + 2, none⟩ = some (.string text)) (h3 : w.cell? ⟨ad.block, ad.off + 3, none⟩ = some (.slice A list.length c)) (ht : text.toList = []) (hn : list.length = 0) (k1 : kd ≠ 1) (k2 : kd ≠ 2) (k3 : kd ≠ 3) (k4 : kd ≠ 4) (k5 : kd ≠ 5) :
    Calls Try.prog 60 #[.pointer (some ad), .int .i64 left, .int .i64 deep] w fun e w' => e = .returned (.tuple #[.int .i64 0, .bool false]) ∧ Drawn0 w w' := by
  have c1 : decide (left < 1) = false := decide_eq_false (by omega)
  have c4 : (text.toList != []) = false := by simp [ht]
  have c5 : text.toList.isEmpty = true := by simp [ht]
  have c7 : decide ((0 : Int) < (list.length : Int)) = false := decide_eq_false (by omega)
  have c8 : decide (0 < list.length) = false := decide_eq_false (by omega)
  have e1 : (kd == 1) = false := beq_eq_false_iff_ne.mpr k1
  have e2 : (kd == 2) = false := beq_eq_false_iff_ne.mpr k2
  have e3 : (kd == 3) = false := beq_eq_false_iff_ne.mpr k3
  have e4 : (kd == 4) = false := beq_eq_false_iff_ne.mpr k4
  have e5 : (kd == 5) = false := beq_eq_false_iff_ne.mpr k5
  have f4 : (kd != 4) = true := bne_iff_ne.mpr k4
  have f5 : (kd != 5) = true := bne_iff_ne.mpr k5
  clear hl ht hn k1 k2 k3 k4 k5
  go_enter Try.func60, Try.ntmps60
  go_wp2_with fail
  go_ret2
  exact ⟨rfl, Drawn0.refl _⟩

set_option maxRecDepth 100000 in
set_option maxHeartbeats 1000000 in
theorem meas_num (ad : Addr) (hl : 1 ≤ left) (h0 : w.cell? ad = some (.int .i64 5)) (h1 : w.cell? ⟨ad.block, ad.off + 1, none⟩ = some (.int .i64 num)) (h2 : w.cell? ⟨ad.block, ad.off + 2, none⟩ = some (.string text)) (h3 : w.cell? ⟨ad.block, ad.off + 3, none⟩ = some (.slice A list.length c)) (ht : text.toList = []) (hn : num ≠ 0 ∨ deep = 64) :
    Calls Try.prog 60 #[.pointer (some ad), .int .i64 left, .int .i64 deep] w fun e w' => e = .returned (.tuple #[.int .i64 0, .bool false]) ∧ Drawn0 w w' := by
  have c1 : decide (left < 1) = false := decide_eq_false (by omega)
  have c4 : (text.toList != []) = false := by simp [ht]
  have c5 : text.toList.isEmpty = true := by simp [ht]
  by_cases hq : num = 0
  · have hd := hn.resolve_left (fun h => h hq)
    have c6 : (num != 0) = false := by simp [hq]
    clear hl ht hn hq
    subst hd
    go_enter Try.func60, Try.ntmps60
    go_wp2_with fail
    go_ret2
    exact ⟨rfl, Drawn0.refl _⟩
  · have c6 : (num != 0) = true := bne_iff_ne.mpr hq
    clear hl ht hn hq
    go_enter Try.func60, Try.ntmps60
    go_wp2_with fail
    go_ret2
    exact ⟨rfl, Drawn0.refl _⟩
mutual
theorem measP_le : ∀ (x : S40) (left deep : Int), left ≤ 9223372036854775807 → (measP x left deep).2 = true → 1 ≤ (measP x left deep).1 ∧ (measP x left deep).1 ≤ left
  | ⟨kd, num, text, list⟩, left, deep => by
    intro hmax h
    unfold measP at h ⊢
    split at h
    · exact absurd h (by simp)
    rename_i h1
    rw [if_neg h1]
    split at h
    · exact absurd h (by simp)
    rename_i h2
    rw [if_neg h2]
    split at h
    · exact absurd h (by simp)
    rename_i h3
    rw [if_neg h3]
    split at h
    · rename_i h4; rw [if_pos h4]; simp; omega
    rename_i h4
    rw [if_neg h4]
    split at h
    · rename_i h4; rw [if_pos h4]; simp; omega
    rename_i h4
    rw [if_neg h4]
    split at h
    · rename_i h4; rw [if_pos h4]; simp; omega
    rename_i h4
    rw [if_neg h4]
    split at h
    · rename_i h4
      rw [if_pos h4]
      simp only [Bool.and_eq_true, decide_eq_true_eq] at h
      have hw : wrap64 (1 + (text.size : Int)) = 1 + text.size := by unfold wrap64; omega
      simp only [hw]
      omega
    rename_i h4
    rw [if_neg h4]
    split at h
    · rename_i h5
      rw [if_pos h5]
      split at h
      · exact absurd h (by simp)
      rename_i h6
      rw [if_neg h6]
      split at h
      · exact absurd h (by simp)
      rename_i h7
      rw [if_neg h7]
      exact measL_le list 1 left deep hmax (by omega) (by omega) h
    · exact absurd h (by simp)
theorem measL_le : ∀ (l : List S40) (n left deep : Int), left ≤ 9223372036854775807 → 0 ≤ n → n ≤ left → (measL l n left deep).2 = true → n ≤ (measL l n left deep).1 ∧ (measL l n left deep).1 ≤ left
  | [], n, left, deep => by intro _ _ hn _; simp [measL]; omega
  | x :: r, n, left, deep => by
    intro hmax h0 hn h
    unfold measL at h ⊢
    split at h
    · rename_i h1
      rw [if_pos h1]
      have h2 := measP_le x (left - n) (deep + 1) (by omega) h1
      have h3 := measL_le r (n + (measP x (left - n) (deep + 1)).1) left deep hmax (by omega) (by omega) h
      omega
    · exact absurd h (by simp)
end

theorem measL_drop (list : List S40) (j : Nat) (hj : j < list.length) (m left deep : Int) (hok : (measP (rd_T40 list j) (left - m) (deep + 1)).2 = true) :
    measL (list.drop j) m left deep = measL (list.drop (j + 1)) (m + (measP (rd_T40 list j) (left - m) (deep + 1)).1) left deep := by
  have e : rd_T40 list j = list[j] := by simp [rd_T40, List.getD_eq_getElem?_getD, hj]
  rw [List.drop_eq_getElem_cons hj, measL, ← e, if_pos hok]
theorem measL_drop_no (list : List S40) (j : Nat) (hj : j < list.length) (m left deep : Int) (hok : (measP (rd_T40 list j) (left - m) (deep + 1)).2 = false) :
    measL (list.drop j) m left deep = (0, false) := by
  have e : rd_T40 list j = list[j] := by simp [rd_T40, List.getD_eq_getElem?_getD, hj]
  rw [List.drop_eq_getElem_cons hj, measL, ← e, if_neg (by simp [hok])]
def Meas60 (x : S40) : Prop := ∀ (ad : Addr) (A : Option Addr) (c : Nat) (w : World) (left deep : Int), 0 ≤ left → left ≤ 65536 → 0 ≤ deep → deep ≤ 64 →
    w.cell? ad = some (.int .i64 x.f0) → w.cell? ⟨ad.block, ad.off + 1, none⟩ = some (.int .i64 x.f1) → w.cell? ⟨ad.block, ad.off + 2, none⟩ = some (.string x.f2) → w.cell? ⟨ad.block, ad.off + 3, none⟩ = some (.slice A x.f3.length c) →
    Kd.C k40 w A x.f3.length x.f3 → ∀ r1 r2, measP x left deep = (r1, r2) → Calls Try.prog 60 #[.pointer (some ad), .int .i64 left, .int .i64 deep] w fun e w' => e = .returned (.tuple #[.int .i64 r1, .bool r2]) ∧ Drawn0 w w'
theorem drawn_C {w w' : World} {α : Type} {k : Kd α} {A : Option Addr} {n : Nat} {xs : List α} (h : Drawn0 w w') (hC : Kd.C k w A n xs) : Kd.C k w' A n xs := Kd.C_below hC h.below
theorem drawn_cell {w w' : World} {a : Addr} {v : Value} (h : Drawn0 w w') (hc : w.cell? a = some v) : w'.cell? a = some v := pw_cell_below h.below hc
set_option maxRecDepth 100000 in
set_option maxHeartbeats 4000000 in
theorem meas_rows (ad : Addr) (hl : 1 ≤ left) (hl2 : left ≤ 65536) (hd : 0 ≤ deep) (hd2 : deep ≤ 64) (hd3 : deep ≠ 64)
    (h0 : w.cell? ad = some (.int .i64 5)) (h1 : w.cell? ⟨ad.block, ad.off + 1, none⟩ = some (.int .i64 0)) (h2 : w.cell? ⟨ad.block, ad.off + 2, none⟩ = some (.string text)) (h3 : w.cell? ⟨ad.block, ad.off + 3, none⟩ = some (.slice A list.length c))
    (ht : text.toList = []) (hC : Kd.C k40 w A list.length list) (ih : ∀ x, x ∈ list → Meas60 x) (r1 : Int) (r2 : Bool) (hr : measL list 1 left deep = (r1, r2)) :
    Calls Try.prog 60 #[.pointer (some ad), .int .i64 left, .int .i64 deep] w fun e w' => e = .returned (.tuple #[.int .i64 r1, .bool r2]) ∧ Drawn0 w w' := by
  have c1 : decide (left < 1) = false := decide_eq_false (by omega)
  have c4 : (text.toList != []) = false := by simp [ht]
  have c5 : text.toList.isEmpty = true := by simp [ht]
  have e64 : (deep == 64) = false := beq_eq_false_iff_ne.mpr hd3
  have hd4 : deep < 64 := by omega
  have hm : list.length ≤ 9223372036854775807 := hC.2.1
  have HC := Aside0.mk hC
  have IH := Aside0.mk ih
  have HR := Aside0.mk hr
  clear ht hd3 hC ih hr
  go_enter Try.func60, Try.ntmps60
  go_wp2_with fail
  go_loopw [8, 108] (fun n i wr => ∃ (j : Nat) (m : Int), j ≤ list.length ∧ n = .int .i64 m ∧ i = .int .i64 j ∧ 1 ≤ m ∧ m ≤ left ∧ Aside0 (measL (list.drop j) m left deep = (r1, r2)) ∧ Aside0 (Drawn0 w wr)) (fun _ i _ => list.length - (intOf i).toNat)
  case atStart => exact ⟨0, 1, Nat.zero_le _, rfl, rfl, by omega, by omega, ⟨by simpa using HR.out⟩, ⟨Drawn0.refl _⟩⟩
  case round =>
    obtain ⟨j, m, hj, rfl, rfl, hm1, hm2, HL, HD⟩ := hrel
    have h0' := drawn_cell HD.out h0
    have h1' := drawn_cell HD.out h1
    have h2' := drawn_cell HD.out h2
    have h3' := drawn_cell HD.out h3
    clear h0 h1 h2 h3
    by_cases hlt : j < list.length
    · have hC' := drawn_C HD.out HC.out
      obtain ⟨ad0, A3, c3, e0, g0, g1, g2, g3, gl, gC⟩ := at_T40 hC' (j : Int) (by omega) (by omega)
      simp only [Int.toNat_natCast] at g0 g1 g2 g3
      subst e0
      have hx : rd_T40 list j ∈ list := by simp [rd_T40, List.getD_eq_getElem?_getD, hlt]
      have hin : (0 : Int) ≤ (j : Int) ∧ (j : Int) < (list.length : Int) := by omega
      have hcall := IH.out _ hx (ad0.add (j * 4)) A3 c3 wr (left - m) (deep + 1) (by omega) (by omega) (by omega) (by omega) g0 g1 g2 g3 gC
      rcases hok : (measP (rd_T40 list j) (left - m) (deep + 1)).2 with _ | _
      · have hno := measL_drop_no list j hlt m left deep hok
        have hres : (r1, r2) = (0, false) := HL.out.symm.trans hno
        have HC1 := Aside0.mk (hcall (measP (rd_T40 list j) (left - m) (deep + 1)).1 false (by rw [← hok]))
        have HS := Aside0.mk hres
        clear hcall hno hres hok g0 g1 g2 g3 gC gl hx hC'
        go_wp2_with (go_at_call 60; refine (HC1.out).mono ?_; rintro e w' ⟨rfl, ⟨nd, rfl⟩⟩)
        go_ret2
        obtain ⟨rfl, rfl⟩ := Prod.mk.inj HS.out
        exact ⟨rfl, HD.out.step _⟩
      · have hyes := measL_drop list j hlt m left deep hok
        have hb := measP_le (rd_T40 list j) (left - m) (deep + 1) (by omega) hok
        obtain ⟨kk, hk⟩ : ∃ kk, kk = (measP (rd_T40 list j) (left - m) (deep + 1)).1 := ⟨_, rfl⟩
        rw [← hk] at hyes hb
        have HC1 := Aside0.mk (hcall kk true (by rw [hk, ← hok]))
        have HS := Aside0.mk (hyes.symm.trans HL.out)
        obtain ⟨hb1, hb2⟩ := hb
        have hb3 : m + kk ≤ left := by omega
        clear hcall hyes hok hk g0 g1 g2 g3 gC gl hx hC' HL hb2
        go_wp2_with (go_at_call 60; refine (HC1.out).mono ?_; rintro e w' ⟨rfl, ⟨nd, rfl⟩⟩)
        go_roundw
        case rel => exact ⟨j + 1, m + kk, by omega, by go_num, by go_num, by omega, by omega, HS, ⟨HD.out.step _⟩⟩
        case measure => simp [intOf]; omega
    · have hj' : j = list.length := by omega
      have HS := Aside0.mk (show (m, true) = (r1, r2) by rw [← HL.out, hj', List.drop_length]; rfl)
      clear hj' HL
      go_wp2_with fail
      go_ret2
      obtain ⟨rfl, rfl⟩ := Prod.mk.inj HS.out
      exact ⟨rfl, HD.out⟩
theorem meas_all : ∀ (x : S40), Meas60 x
  | ⟨kd, num, text, list⟩ => by
    have ih : ∀ x, x ∈ list → Meas60 x := fun x hx => meas_all x
    intro ad A c w left deep hl0 hl2 hd hd2 h0 h1 h2 h3 hC r1 r2 hr
    simp only at h0 h1 h2 h3 hC
    unfold measP at hr
    by_cases g1 : left < 1
    · rw [if_pos g1] at hr
      obtain ⟨rfl, rfl⟩ := Prod.mk.inj hr
      exact meas_left left deep w ad g1
    rw [if_neg g1] at hr
    by_cases g2 : kd ≠ 4 ∧ text.toList ≠ []
    · rw [if_pos g2] at hr
      obtain ⟨rfl, rfl⟩ := Prod.mk.inj hr
      exact meas_text kd num left deep text list A c w ad (by omega) h0 h1 h2 h3 g2.1 g2.2
    rw [if_neg g2] at hr
    have g2' : kd = 4 ∨ text.toList = [] := by
      by_cases hk : kd = 4
      · exact .inl hk
      · exact .inr (Classical.byContradiction fun ht => g2 ⟨hk, ht⟩)
    by_cases g3 : kd ≠ 5 ∧ 0 < list.length
    · rw [if_pos g3] at hr
      obtain ⟨rfl, rfl⟩ := Prod.mk.inj hr
      exact meas_list kd num left deep text list A c w ad (by omega) h0 h1 h2 h3 g2' g3.1 g3.2
    rw [if_neg g3] at hr
    have g3' : kd = 5 ∨ list.length = 0 := by omega
    by_cases k1 : kd = 1
    · rw [if_pos k1] at hr
      obtain ⟨rfl, rfl⟩ := Prod.mk.inj hr
      subst k1
      exact meas_unit num left deep text list A c w ad (by omega) h0 h1 h2 h3 (g2'.resolve_left (by decide)) (g3'.resolve_left (by decide))
    rw [if_neg k1] at hr
    by_cases k2 : kd = 2
    · rw [if_pos k2] at hr
      obtain ⟨rfl, rfl⟩ := Prod.mk.inj hr
      subst k2
      exact meas_truth num left deep text list A c w ad (by omega) h0 h1 h2 h3 (g2'.resolve_left (by decide)) (g3'.resolve_left (by decide))
    rw [if_neg k2] at hr
    by_cases k3 : kd = 3
    · rw [if_pos k3] at hr
      obtain ⟨rfl, rfl⟩ := Prod.mk.inj hr
      subst k3
      exact meas_int num left deep text list A c w ad (by omega) h0 h1 h2 h3 (g2'.resolve_left (by decide)) (g3'.resolve_left (by decide))
    rw [if_neg k3] at hr
    by_cases k4 : kd = 4
    · rw [if_pos k4] at hr
      obtain ⟨rfl, rfl⟩ := Prod.mk.inj hr
      subst k4
      exact meas_str num left deep text list A c w ad (by omega) h0 h1 h2 h3 (g3'.resolve_left (by decide))
    rw [if_neg k4] at hr
    by_cases k5 : kd = 5
    · rw [if_pos k5] at hr
      subst k5
      by_cases q1 : num ≠ 0
      · rw [if_pos q1] at hr
        obtain ⟨rfl, rfl⟩ := Prod.mk.inj hr
        exact meas_num num left deep text list A c w ad (by omega) h0 h1 h2 h3 (g2'.resolve_left (by decide)) (.inl q1)
      rw [if_neg q1] at hr
      by_cases q2 : deep = 64
      · rw [if_pos q2] at hr
        obtain ⟨rfl, rfl⟩ := Prod.mk.inj hr
        exact meas_num num left deep text list A c w ad (by omega) h0 h1 h2 h3 (g2'.resolve_left (by decide)) (.inr q2)
      rw [if_neg q2] at hr
      have q1' : num = 0 := Classical.not_not.mp q1
      subst q1'
      exact meas_rows left deep text list A c w ad (by omega) hl2 hd hd2 q2 h0 h1 h2 h3 (g2'.resolve_left (by decide)) hC ih r1 r2 hr
    rw [if_neg k5] at hr
    obtain ⟨rfl, rfl⟩ := Prod.mk.inj hr
    exact meas_else kd num left deep text list A c w ad (by omega) h0 h1 h2 h3 (g2'.resolve_left k4) (g3'.resolve_left k5) k1 k2 k3 k4 k5
end

def worth_May.f (a0_0 : Int) (a0_1 : Int) (a0_2 : ByteArray) (l0_3 : List (S40)) : Option (Bool) := some (measP ⟨a0_0, a0_1, a0_2, l0_3⟩ 65536 0).2
set_option maxHeartbeats 1000000 in
theorem worth_May.calls (a0_0 : Int) (a0_1 : Int) (a0_2 : ByteArray) (A0_3 : Option Addr) (c0_3 : Nat) (l0_3 : List (S40)) (r : Bool) (w : World) (hr0_3 : Kd.C k40 w A0_3 l0_3.length l0_3) (hc0_3 : l0_3.length ≤ c0_3) (h : worth_May.f a0_0 a0_1 a0_2 l0_3 = some r) :
    Calls Try.prog 42 #[.agg #[.int .i64 a0_0, .int .i64 a0_1, .string a0_2, .slice A0_3 l0_3.length c0_3]] w fun e w' => e = .returned (.bool r) ∧ Below w.heap.size w w' := by
  have hu40 := Try.underlying40
  obtain ⟨r1, hr⟩ : ∃ r1, measP ⟨a0_0, a0_1, a0_2, l0_3⟩ 65536 0 = (r1, r) := ⟨_, by have := Option.some.inj h; rw [← this]⟩
  have hb : (w.alloc (.cells #[.int .i64 a0_0, .int .i64 a0_1, .string a0_2, .slice A0_3 l0_3.length c0_3] 40)).heap[w.heap.size]? = some (.cells #[.int .i64 a0_0, .int .i64 a0_1, .string a0_2, .slice A0_3 l0_3.length c0_3] 40 (0, 0)) := blk_new w _
  have hbel := (Below.refl w.heap.size w).alloc (Nat.le_refl _) (.cells #[.int .i64 a0_0, .int .i64 a0_1, .string a0_2, .slice A0_3 l0_3.length c0_3] 40)
  have HC := Aside0.mk (meas_all ⟨a0_0, a0_1, a0_2, l0_3⟩ ⟨w.heap.size, 0, none⟩ A0_3 c0_3 _ 65536 0 (by decide) (by decide) (by decide) (by decide) ((blk_cell hb 0).trans rfl) ((blk_cell hb 1).trans rfl) ((blk_cell hb 2).trans rfl) ((blk_cell hb 3).trans rfl) (Kd.C_below hr0_3 hbel) r1 r hr)
  have HB := Aside0.mk hbel
  clear hb hbel hr h hr0_3
  go_enter Try.func42, Try.ntmps42
  go_wp2_with (go_at_call 60; refine (HC.out).mono ?_; rintro e w' ⟨rfl, ⟨nd, rfl⟩⟩)
  go_ret
  exact ⟨rfl, pw_below_drewN HB.out _⟩

end Go.Proofs.Ytlibklfianghlaa.S

-- WRITTEN BY a program of this session (wip/extprint.py, over the kit's print.py); not trusted: Lean checks it.
import Derived.Test.YtlibklfianghlaaSx0
import Derived.Test.YtlibklfianghlaaSx3
import Derived.Test.YtlibklfianghlaaSx4
import Derived.Test.YtlibklfianghlaaSx5
import Derived.Test.YtlibklfianghlaaSEApply
import Derived.Test.YtlibklfianghlaaSEGiven
import Derived.Test.YtlibklfianghlaaSEMath
import Derived.Test.YtlibklfianghlaaSEPure1
import Derived.Test.YtlibklfianghlaaSEPure2
import Derived.Test.YtlibklfianghlaaSEPure4
import Derived.Test.YtlibklfianghlaaSEPure5
import Derived.Test.YtlibklfianghlaaSEPure6
import Derived.Test.YtlibklfianghlaaSEPure7
import Derived.Test.YtlibklfianghlaaSEUnify
import Derived.Test.YtlibklfianghlaaSEWorth
namespace Go.Proofs.Ytlibklfianghlaa.S
open Go.RowKit Go.Proofs.YtlibklfianghlaaW.PrintWords Go.Proofs.YtlibklfianghlaaW.PrintLast Go.Proofs.YtlibklfianghlaaW.PrintMore
attribute [local go_sem] max2_int min2_int max_two min_two max_three min_three max_four min_four   -- for this text's walks alone
set_option linter.unusedVariables false
set_option linter.unusedSimpArgs false

/-! The plain law of SortValues. -/
mutual
/-- The names in values' sorts. -/
theorem of_name : ∀ (x : S40) (r : Nat × ByteArray), ofT x = some r → r.2 = emptyB ∨ isBase r.2 = true
  | ⟨kd, num, text, list⟩, r => by
    intro h
    unfold ofT at h
    split at h
    · cases h; right; unfold isBase; rw [ByteArray.toList_eq]; rfl
    split at h
    · cases h; right; unfold isBase; rw [ByteArray.toList_eq]; rfl
    split at h
    · cases h; right; unfold isBase; rw [ByteArray.toList_eq]; rfl
    split at h
    · cases h; right; unfold isBase; rw [ByteArray.toList_eq]; rfl
    obtain ⟨r', hr', rfl⟩ := Option.map_eq_some_iff.1 h
    exact ofL_name list (0, emptyB) r' (.inl rfl) hr'
theorem ofL_name : ∀ (l : List S40) (c r : Nat × ByteArray), (c.2 = emptyB ∨ isBase c.2 = true) → ofL l c = some r → r.2 = emptyB ∨ isBase r.2 = true
  | [], c, r => by
    intro hc h
    unfold ofL at h
    cases h; exact hc
  | x :: l, c, r => by
    intro hc h
    unfold ofL at h
    obtain ⟨d, hd, h⟩ := Option.bind_eq_some_iff.1 h
    obtain ⟨e, he, h⟩ := Option.bind_eq_some_iff.1 h
    exact ofL_name l e r (meet_name (P := fun x => x = emptyB ∨ isBase x = true) he hc (of_name x d hd)) h
end
theorem base_notvar {x : ByteArray} (h : isBase x = true) : isVar x = false := by
  cases hv : isVar x with
  | false => rfl
  | true =>
    exfalso
    obtain ⟨c, hc, _⟩ := isVar_one hv
    unfold isBase at h
    rw [ByteArray.toList_eq, hc] at h
    simp at h
theorem base_ok {x : ByteArray} (h : isBase x = true) : nameOK x = true := by unfold nameOK; rw [h]; rfl
theorem var_ok {x : ByteArray} (h : isVar x = true) : nameOK x = true := by unfold nameOK; rw [h]; simp
theorem varA : isVar nmA = true := by decide
/-- A value's sort with its variable as one with a name. -/
def asC (v : ByteArray) (r : Nat × ByteArray) : Nat × ByteArray := if r.2 = emptyB then (r.1, v) else r
theorem asC_ok {v : ByteArray} {r : Nat × ByteArray} (hv : isVar v = true) (hr : r.2 = emptyB ∨ isBase r.2 = true) : nameOK (asC v r).2 = true ∧ (asC v r).1 = r.1 := by
  unfold asC
  split
  · exact ⟨var_ok hv, rfl⟩
  · rename_i h
    rcases hr with h1 | h1
    · exact absurd h1 h
    · exact ⟨base_ok h1, rfl⟩
theorem eta40 (x : S40) : (⟨x.f0, x.f1, x.f2, x.f3⟩ : S40) = x := by cases x; rfl
def MayP (p : S40) : Prop := (measP p 65536 0).2 = true
def whole24 (c : Nat × ByteArray) : S24 := wholeT c.1 c.2
theorem of_eq (p : S40) (hp : MayP p) (k : Nat) (hk : szP p < k) (hk2 : 100 < k) : sort_Of.f k p.f0 p.f1 p.f2 p.f3 = some (match ofT p with
    | none => (⟨#[]⟩, [], 14)
    | some r => ((whole24 (asC nmA r)).f0, (whole24 (asC nmA r)).f1, 0)) := by
  have h1 : worth_May.f p.f0 p.f1 p.f2 p.f3 = some true := by unfold worth_May.f; rw [eta40]; exact congrArg some hp
  obtain ⟨h2, h3⟩ := of_P p 65536 0 k (by decide) (by decide) (by decide) hp hk
  unfold sort_Of.f
  rw [h1]
  simp only [Option.bind_some]
  rw [if_pos trivial, h2]
  simp only [Option.bind_some]
  cases ho : ofT p with
  | none => rfl
  | some r =>
    have h4 := h3 r ho
    rw [if_pos (show (tripO (some r)).2.2 = true from rfl)]
    show (if r.2.toList = [] then (sort_chain_whole.f k (r.1 : Int) nmA).bind _ else (sort_chain_whole.f k (r.1 : Int) r.2).bind _) = _
    rw [sort_whole_eq nmA r.1 k (by omega) (by omega), sort_whole_eq r.2 r.1 k (by omega) (by omega)]
    unfold asC whole24
    by_cases h5 : r.2 = emptyB
    · rw [if_pos ((empty_iff _).2 h5)]; simp only [if_pos h5]; rfl
    · rw [if_neg (fun e => h5 ((empty_iff _).1 e))]; simp only [if_neg h5]; rfl
theorem of_no (p : S40) (hp : ¬ MayP p) (k : Nat) : sort_Of.f k p.f0 p.f1 p.f2 p.f3 = some (⟨#[]⟩, [], 1) := by
  have h1 : worth_May.f p.f0 p.f1 p.f2 p.f3 = some false := by unfold worth_May.f; rw [eta40]; exact congrArg some (Bool.eq_false_iff.2 hp)
  unfold sort_Of.f
  rw [h1]
  rfl
/-- Is a value's sort (d) one of a sort (c)? -/
def isT (c d : Nat × ByteArray) : Bool := if isVar c.2 then (decide (c.1 ≤ d.1) || decide (d.2 = emptyB)) else if d.2 = emptyB then decide (d.1 ≤ c.1) else decide (c = d)
theorem is_eq (p : S40) (hp : MayP p) (s : S24) (c : Nat × ByteArray) (hc : chainT 65 s.f0 s.f1 = some c) (k : Nat) (hk : szP p < k) (hk2 : 130 < k) : sort_Is.f (k + 1) p.f0 p.f1 p.f2 p.f3 s.f0 s.f1 = some (match ofT p with
    | none => false
    | some d => isT c d) := by
  have h1 : worth_May.f p.f0 p.f1 p.f2 p.f3 = some true := by unfold worth_May.f; rw [eta40]; exact congrArg some hp
  obtain ⟨h2, h3⟩ := of_P p 65536 0 k (by decide) (by decide) (by decide) hp hk
  unfold sort_Is.f
  rw [sort_cut_eq _ _ _ (by omega), hc, h1]
  simp only [Option.bind_some]
  rw [if_pos (show (cutT (some c) 0).2.2 = true from rfl)]
  rw [sort_Is.j0, if_neg (by simp), h2]
  simp only [Option.bind_some]
  cases ho : ofT p with
  | none => rfl
  | some d =>
    rw [if_pos (show (tripO (some d)).2.2 = true from rfl), sort_variable_eq]
    simp only [Option.bind_some]
    have hcut : cutT (some c) 0 = ((c.1 : Int), c.2, true) := by cases c; simp [cutT]
    rw [hcut]
    show (if isVar c.2 = true then (if (d.1 : Int) ≥ (c.1 : Int) then some true else some (d.2.toList == [])) else if d.2.toList = [] then some (decide ((d.1 : Int) ≤ (c.1 : Int))) else some (((c.1 : Int) == (d.1 : Int)) && (c.2.toList == d.2.toList))) = _
    unfold isT
    rw [pair_beq]
    by_cases h4 : isVar c.2 = true
    · rw [if_pos h4, if_pos h4]
      by_cases h5 : c.1 ≤ d.1
      · rw [if_pos (by omega), decide_eq_true h5]; rfl
      · rw [if_neg (by omega), decide_eq_false h5]
        by_cases h6 : d.2 = emptyB
        · rw [decide_eq_true h6, (empty_iff _).2 h6]; rfl
        · rw [decide_eq_false h6]
          have : (d.2.toList == ([] : List UInt8)) = false := beq_eq_false_iff_ne.2 (fun e => h6 ((empty_iff _).1 e))
          rw [this]; rfl
    · rw [if_neg h4, if_neg h4]
      by_cases h6 : d.2 = emptyB
      · rw [if_pos ((empty_iff _).2 h6), if_pos h6]
        by_cases h7 : d.1 ≤ c.1
        · rw [decide_eq_true h7, decide_eq_true (show (d.1 : Int) ≤ (c.1 : Int) by omega)]
        · rw [decide_eq_false h7, decide_eq_false (show ¬ (d.1 : Int) ≤ (c.1 : Int) by omega)]
      · rw [if_neg (fun e => h6 ((empty_iff _).1 e)), if_neg h6]
theorem is_no (p : S40) (s : S24) (h : ¬ MayP p ∨ chainT 65 s.f0 s.f1 = none) (k : Nat) (hk2 : 130 < k) : sort_Is.f (k + 1) p.f0 p.f1 p.f2 p.f3 s.f0 s.f1 = some false := by
  unfold sort_Is.f
  rw [sort_cut_eq _ _ _ (by omega)]
  simp only [Option.bind_some]
  cases hc : chainT 65 s.f0 s.f1 with
  | none =>
    rw [if_neg (show ¬ (cutT none 0).2.2 = true by unfold cutT; simp), sort_Is.j0, if_pos rfl]
  | some c =>
    have hp : ¬ MayP p := by rcases h with h | h; exact h; rw [hc] at h; cases h
    have h1 : worth_May.f p.f0 p.f1 p.f2 p.f3 = some false := by unfold worth_May.f; rw [eta40]; exact congrArg some (Bool.eq_false_iff.2 hp)
    rw [if_pos (show (cutT (some c) 0).2.2 = true from rfl), h1]
    simp only [Option.bind_some, Bool.not_false]
    rw [sort_Is.j0, if_pos rfl]
/-! The plain law of SortValues: a value's sort against another's. -/
def nmY : ByteArray := ⟨#[121]⟩
def nmX : ByteArray := ⟨#[120]⟩
def nmZ : ByteArray := ⟨#[122]⟩
theorem varY : isVar nmY = true := by decide
theorem varX : isVar nmX = true := by decide
theorem varZ : isVar nmZ = true := by decide
theorem ne_of_bytes {a b : ByteArray} (h : a.data.toList ≠ b.data.toList) : a ≠ b := fun e => h (by rw [e])
theorem a_ne_y : nmA ≠ nmY := ne_of_bytes (by decide)
theorem y_ne_x : nmY ≠ nmX := ne_of_bytes (by decide)
theorem base_ne_var {x v : ByteArray} (hx : isBase x = true) (hv : isVar v = true) : x ≠ v := by
  rintro rfl
  rw [base_notvar hx] at hv
  cases hv
theorem base_ne_empty {x : ByteArray} (hx : isBase x = true) : x ≠ emptyB := name_ne (base_ok hx)
theorem pairs_none {d : Nat} {u v : ByteArray} (h1 : ¬ (d = 0 ∧ u = v)) (h2 : ¬ (isVar u = true ∧ u ≠ v)) (h3 : ¬ (d = 0 ∧ isVar v = true)) : pairsB (d : Int) u v = none := by
  unfold pairsB
  rw [if_neg (fun e => h1 ⟨by omega, toList_inj e.2⟩), if_neg (fun e => h2 ⟨e.1, fun e2 => e.2 (by rw [e2])⟩), if_neg (fun e => h3 ⟨by omega, e.2⟩)]
theorem pairs_same {d : Nat} {u v : ByteArray} (h1 : d = 0 ∧ u = v) : pairsB (d : Int) u v = some [] := by
  unfold pairsB
  rw [if_pos ⟨by omega, by rw [h1.2]⟩]
theorem pairs_left {d : Nat} {u v : ByteArray} (h2 : isVar u = true ∧ u ≠ v) : pairsB (d : Int) u v = some [(u, d, v)] := by
  unfold pairsB
  rw [if_neg (fun e => h2.2 (toList_inj e.2)), if_pos ⟨h2.1, fun e => h2.2 (toList_inj e)⟩, Int.toNat_natCast]
theorem pairs_right {u v : ByteArray} (h1 : u ≠ v) (h2 : isVar u = false) (h3 : isVar v = true) : pairsB ((0 : Nat) : Int) u v = some [(v, 0, u)] := by
  unfold pairsB
  rw [if_neg (fun e => h1 (toList_inj e.2)), if_neg (fun e => by rw [h2] at e; cases e.1), if_pos ⟨rfl, h3⟩]
theorem unify_of {n m : Nat} {p q : ByteArray} {d : Int} {u v : ByteArray} (h : normA (n : Int) (m : Int) p q = (d, u, v)) : unifyT (some (n, p)) (some (m, q)) = match pairsB d u v with | some l => (l.map S50of, 0) | none => ([], 14) := by
  rw [unifyT_some]
  simp only [h]
  cases pairsB d u v <;> rfl
theorem unify_left {n m d : Nat} {p q u v : ByteArray} (h : normA (n : Int) (m : Int) p q = ((d : Int), u, v)) (h2 : isVar u = true ∧ u ≠ v) : unifyT (some (n, p)) (some (m, q)) = ([S50of (u, d, v)], 0) := by
  rw [unify_of h, pairs_left h2]; rfl
theorem unify_right {n m : Nat} {p q u v : ByteArray} (h : normA (n : Int) (m : Int) p q = (((0 : Nat) : Int), u, v)) (h1 : u ≠ v) (h2 : isVar u = false) (h3 : isVar v = true) : unifyT (some (n, p)) (some (m, q)) = ([S50of (v, 0, u)], 0) := by
  rw [unify_of h, pairs_right h1 h2 h3]; rfl
theorem unify_none {n m d : Nat} {p q u v : ByteArray} (h : normA (n : Int) (m : Int) p q = ((d : Int), u, v)) (h1 : ¬ (d = 0 ∧ u = v)) (h2 : ¬ (isVar u = true ∧ u ≠ v)) (h3 : ¬ (d = 0 ∧ isVar v = true)) : unifyT (some (n, p)) (some (m, q)) = ([], 14) := by
  rw [unify_of h, pairs_none h1 h2 h3]
theorem unify_same {n m d : Nat} {p q u v : ByteArray} (h : normA (n : Int) (m : Int) p q = ((d : Int), u, v)) (h1 : d = 0 ∧ u = v) : unifyT (some (n, p)) (some (m, q)) = ([], 0) := by
  rw [unify_of h, pairs_same h1]; rfl
/-- A value of sort r is of the sort (m, x) just if the two unify, r's variable being another one. -/
theorem isT_unify (m : Nat) (x : ByteArray) (hx : nameOK x = true) (r : Nat × ByteArray) (hr : r.2 = emptyB ∨ isBase r.2 = true) (v : ByteArray) (hv : isVar v = true) (hvx : v ≠ x) :
    ∃ l f, unifyT (some (asC v r)) (some (m, x)) = (l, f) ∧ (isT (m, x) r = true ∧ f = 0 ∨ isT (m, x) r = false ∧ f ≠ 0) := by
  obtain ⟨n, nm⟩ := r
  have hx2 : isVar x = true ∨ isBase x = true := by
    unfold nameOK at hx
    rcases Bool.or_eq_true_iff.1 hx with h | h
    · exact .inr h
    · exact .inl h
  unfold isT
  simp only at hr ⊢
  by_cases he : nm = emptyB
  · subst he
    have ea : asC v (n, emptyB) = (n, v) := by unfold asC; rw [if_pos rfl]
    rw [ea]
    obtain ⟨d, ⟨hd, hm⟩ | ⟨hd, hm⟩⟩ := normA_cases n m v x
    · refine ⟨_, _, unify_left hd ⟨hv, hvx⟩, .inl ⟨?_, rfl⟩⟩
      rcases hx2 with h | h
      · rw [if_pos h]; simp
      · rw [base_notvar h, if_neg (by simp), if_pos rfl]; simp; omega
    · rcases hx2 with h | h
      · refine ⟨_, _, unify_left hd ⟨h, fun e => hvx e.symm⟩, .inl ⟨?_, rfl⟩⟩
        rw [if_pos h]; simp
      · rw [base_notvar h, if_neg (by simp), if_pos rfl]
        by_cases h0 : d = 0
        · subst h0
          refine ⟨_, _, unify_right hd (fun e => hvx e.symm) (base_notvar h) hv, .inl ⟨?_, rfl⟩⟩
          simp; omega
        · refine ⟨_, _, unify_none hd (fun e => h0 e.1) (fun e => by rw [base_notvar h] at e; cases e.1) (fun e => h0 e.1), .inr ⟨?_, by decide⟩⟩
          simp; omega
  · have hb : isBase nm = true := by rcases hr with h | h; exact absurd h he; exact h
    have ea : asC v (n, nm) = (n, nm) := by unfold asC; rw [if_neg he]
    rw [ea, decide_eq_false he, if_neg he]
    obtain ⟨d, ⟨hd, hm⟩ | ⟨hd, hm⟩⟩ := normA_cases n m nm x
    · rcases hx2 with h | h
      · rw [if_pos h]
        by_cases h0 : d = 0
        · subst h0
          refine ⟨_, _, unify_right hd (base_ne_var hb h) (base_notvar hb) h, .inl ⟨?_, rfl⟩⟩
          simp; omega
        · refine ⟨_, _, unify_none hd (fun e => h0 e.1) (fun e => by rw [base_notvar hb] at e; cases e.1) (fun e => h0 e.1), .inr ⟨?_, by decide⟩⟩
          simp; omega
      · rw [base_notvar h, if_neg (by simp)]
        by_cases h0 : d = 0 ∧ nm = x
        · refine ⟨_, _, unify_same hd h0, .inl ⟨?_, rfl⟩⟩
          obtain ⟨rfl, rfl⟩ := h0
          simp; omega
        · refine ⟨_, _, unify_none hd h0 (fun e => by rw [base_notvar hb] at e; cases e.1) (fun e => by rw [base_notvar h] at e; cases e.2), .inr ⟨?_, by decide⟩⟩
          rw [decide_eq_false]
          rintro e
          have e1 := congrArg Prod.fst e
          have e2 := congrArg Prod.snd e
          simp only at e1 e2
          exact h0 ⟨by omega, e2.symm⟩
    · rcases hx2 with h | h
      · rw [if_pos h]
        refine ⟨_, _, unify_left hd ⟨h, fun e => base_ne_var hb h e.symm⟩, .inl ⟨?_, rfl⟩⟩
        simp; omega
      · rw [base_notvar h, if_neg (by simp)]
        by_cases h0 : d = 0 ∧ x = nm
        · refine ⟨_, _, unify_same hd h0, .inl ⟨?_, rfl⟩⟩
          obtain ⟨rfl, rfl⟩ := h0
          simp; omega
        · refine ⟨_, _, unify_none hd h0 (fun e => by rw [base_notvar h] at e; cases e.1) (fun e => by rw [base_notvar hb] at e; cases e.2), .inr ⟨?_, by decide⟩⟩
          rw [decide_eq_false]
          rintro e
          have e1 := congrArg Prod.fst e
          have e2 := congrArg Prod.snd e
          simp only at e1 e2
          exact h0 ⟨by omega, e2⟩
/-- Two values' sorts brought together, and unified. -/
theorem meet_unify (r t : Nat × ByteArray) (hr : r.2 = emptyB ∨ isBase r.2 = true) (ht : t.2 = emptyB ∨ isBase t.2 = true) (hr1 : r.1 < 65) (ht1 : t.1 < 65) :
    match meetT r t with
    | none => unifyT (some (asC nmA r)) (some (asC nmY t)) = ([], 14)
    | some c => ∃ u M, unifyT (some (asC nmA r)) (some (asC nmY t)) = (u, 0) ∧ foldC [] u = some M ∧ InvC M ∧
        (if nmY = (puts M ((asC nmA r).1 + 1, (asC nmA r).2)).2 then ((puts M ((asC nmA r).1 + 1, (asC nmA r).2)).1, nmA) else puts M ((asC nmA r).1 + 1, (asC nmA r).2)) = asC nmA (c.1 + 1, c.2) := by
  obtain ⟨n, nm⟩ := r
  obtain ⟨m, km⟩ := t
  simp only at hr ht hr1 ht1
  have one : ∀ (u v : ByteArray) (d : Nat), d < 65 → isVar u = true → nameOK v = true → foldC [] [S50of (u, d, v)] = some [(u, d, v)] ∧ InvC [(u, d, v)] := fun u v d h1 h2 h3 => ⟨fold_one u v d h1 h2 h3, InvC.fold _ InvC.nil (fold_one u v d h1 h2 h3)⟩
  by_cases h1 : nm = emptyB
  · subst h1
    have ea : asC nmA (n, emptyB) = (n, nmA) := by unfold asC; rw [if_pos rfl]
    rw [ea]
    by_cases h2 : km = emptyB
    · subst h2
      have eb : asC nmY (m, emptyB) = (m, nmY) := by unfold asC; rw [if_pos rfl]
      rw [eb]
      obtain ⟨d, ⟨hd, hm⟩ | ⟨hd, hm⟩⟩ := normA_cases n m nmA nmY
      · have em : meetT (n, emptyB) (m, emptyB) = some (m, emptyB) := by
          unfold meetT
          split
          · rename_i e; rw [e]
          · rw [if_pos rfl, if_pos (by simp only; omega)]
        rw [em]
        refine ⟨_, _, unify_left hd ⟨varA, a_ne_y⟩, (one nmA nmY d (by omega) varA (var_ok varY)).1, (one nmA nmY d (by omega) varA (var_ok varY)).2, ?_⟩
        rw [puts_one, if_pos rfl, if_pos rfl]
        unfold asC
        rw [if_pos rfl]
        simp only [Prod.mk.injEq, and_true]
        omega
      · have em : meetT (n, emptyB) (m, emptyB) = some (n, emptyB) := by
          unfold meetT
          split
          · rfl
          · rename_i e
            rw [if_pos rfl, if_neg, if_pos rfl]
            simp only
            intro h
            exact e (by rw [show n = m by omega])
        rw [em]
        refine ⟨_, _, unify_left hd ⟨varY, fun e => a_ne_y e.symm⟩, (one nmY nmA d (by omega) varY okA).1, (one nmY nmA d (by omega) varY okA).2, ?_⟩
        rw [puts_one, if_neg (fun e => a_ne_y e.symm), if_neg (fun e => a_ne_y e.symm)]
        unfold asC
        rw [if_pos rfl]
    · have hb : isBase km = true := by rcases ht with h | h; exact absurd h h2; exact h
      have eb : asC nmY (m, km) = (m, km) := by unfold asC; rw [if_neg h2]
      rw [eb]
      have hak : nmA ≠ km := fun e => base_ne_var hb varA e.symm
      have hyk : nmY ≠ km := fun e => base_ne_var hb varY e.symm
      obtain ⟨d, ⟨hd, hm⟩ | ⟨hd, hm⟩⟩ := normA_cases n m nmA km
      · have em : meetT (n, emptyB) (m, km) = some (m, km) := by
          unfold meetT
          rw [if_neg (fun e => h2 (congrArg Prod.snd e).symm), if_pos rfl, if_pos (by simp only; omega)]
        rw [em]
        refine ⟨_, _, unify_left hd ⟨varA, hak⟩, (one nmA km d (by omega) varA (base_ok hb)).1, (one nmA km d (by omega) varA (base_ok hb)).2, ?_⟩
        rw [puts_one, if_pos rfl, if_neg hyk]
        unfold asC
        rw [if_neg h2]
        simp only [Prod.mk.injEq, and_true]
        omega
      · by_cases h0 : d = 0
        · subst h0
          have em : meetT (n, emptyB) (m, km) = some (m, km) := by
            unfold meetT
            rw [if_neg (fun e => h2 (congrArg Prod.snd e).symm), if_pos rfl, if_pos (by simp only; omega)]
          rw [em]
          refine ⟨_, _, unify_right hd (fun e => hak e.symm) (base_notvar hb) varA, (one nmA km 0 (by omega) varA (base_ok hb)).1, (one nmA km 0 (by omega) varA (base_ok hb)).2, ?_⟩
          rw [puts_one, if_pos rfl, if_neg hyk]
          unfold asC
          rw [if_neg h2]
          simp only [Prod.mk.injEq, and_true]
          omega
        · have em : meetT (n, emptyB) (m, km) = none := by
            unfold meetT
            rw [if_neg (fun e => h2 (congrArg Prod.snd e).symm), if_pos rfl, if_neg (by simp only; omega), if_neg h2]
          rw [em]
          exact unify_none hd (fun e => h0 e.1) (fun e => by rw [base_notvar hb] at e; cases e.1) (fun e => h0 e.1)
  · have ha : isBase nm = true := by rcases hr with h | h; exact absurd h h1; exact h
    have ea : asC nmA (n, nm) = (n, nm) := by unfold asC; rw [if_neg h1]
    rw [ea]
    have hyn : nmY ≠ nm := fun e => base_ne_var ha varY e.symm
    by_cases h2 : km = emptyB
    · subst h2
      have eb : asC nmY (m, emptyB) = (m, nmY) := by unfold asC; rw [if_pos rfl]
      rw [eb]
      obtain ⟨d, ⟨hd, hm⟩ | ⟨hd, hm⟩⟩ := normA_cases n m nm nmY
      · by_cases h0 : d = 0
        · subst h0
          have em : meetT (n, nm) (m, emptyB) = some (n, nm) := by
            unfold meetT
            rw [if_neg (fun e => h1 (congrArg Prod.snd e)), if_neg h1, if_pos ⟨rfl, by simp only; omega⟩]
          rw [em]
          refine ⟨_, _, unify_right hd (fun e => hyn e.symm) (base_notvar ha) varY, (one nmY nm 0 (by omega) varY (base_ok ha)).1, (one nmY nm 0 (by omega) varY (base_ok ha)).2, ?_⟩
          rw [puts_one, if_neg hyn, if_neg hyn]
          unfold asC
          rw [if_neg h1]
        · have em : meetT (n, nm) (m, emptyB) = none := by
            unfold meetT
            rw [if_neg (fun e => h1 (congrArg Prod.snd e)), if_neg h1, if_neg (fun e => by have := e.2; simp only at this; omega)]
          rw [em]
          exact unify_none hd (fun e => h0 e.1) (fun e => by rw [base_notvar ha] at e; cases e.1) (fun e => h0 e.1)
      · have em : meetT (n, nm) (m, emptyB) = some (n, nm) := by
          unfold meetT
          rw [if_neg (fun e => h1 (congrArg Prod.snd e)), if_neg h1, if_pos ⟨rfl, by simp only; omega⟩]
        rw [em]
        refine ⟨_, _, unify_left hd ⟨varY, hyn⟩, (one nmY nm d (by omega) varY (base_ok ha)).1, (one nmY nm d (by omega) varY (base_ok ha)).2, ?_⟩
        rw [puts_one, if_neg hyn, if_neg hyn]
        unfold asC
        rw [if_neg h1]
    · have hb : isBase km = true := by rcases ht with h | h; exact absurd h h2; exact h
      have eb : asC nmY (m, km) = (m, km) := by unfold asC; rw [if_neg h2]
      rw [eb]
      by_cases h3 : n = m ∧ nm = km
      · obtain ⟨rfl, rfl⟩ := h3
        have em : meetT (n, nm) (n, nm) = some (n, nm) := by unfold meetT; rw [if_pos rfl]
        rw [em]
        have hu : unifyT (some (n, nm)) (some (n, nm)) = ([], 0) := by
          obtain ⟨d, ⟨hd, hm⟩ | ⟨hd, hm⟩⟩ := normA_cases n n nm nm
          · exact unify_same hd ⟨by omega, rfl⟩
          · exact unify_same hd ⟨by omega, rfl⟩
        refine ⟨_, _, hu, rfl, InvC.nil, ?_⟩
        have e : puts [] (n + 1, nm) = (n + 1, nm) := rfl
        rw [e, if_neg hyn]
        unfold asC
        rw [if_neg h1]
      · have em : meetT (n, nm) (m, km) = none := by
          unfold meetT
          rw [if_neg (fun e => h3 ⟨congrArg Prod.fst e, congrArg Prod.snd e⟩), if_neg h1, if_neg (fun e => h2 e.1)]
        rw [em]
        obtain ⟨d, ⟨hd, hm⟩ | ⟨hd, hm⟩⟩ := normA_cases n m nm km
        · exact unify_none hd (fun e => h3 ⟨by omega, e.2⟩) (fun e => by rw [base_notvar ha] at e; cases e.1) (fun e => by rw [base_notvar hb] at e; cases e.2)
        · exact unify_none hd (fun e => h3 ⟨by omega, e.2.symm⟩) (fun e => by rw [base_notvar hb] at e; cases e.1) (fun e => by rw [base_notvar ha] at e; cases e.2)
/-! The plain law of SortValues: all of it. -/
mutual
/-- More room and less depth tell the same of a value that may be. -/
theorem measP_mono : ∀ (x : S40) (left deep left' deep' : Int), left ≤ left' → 0 ≤ deep' → deep' ≤ deep → deep ≤ 64 → (measP x left deep).2 = true → measP x left' deep' = measP x left deep
  | ⟨kd, num, text, list⟩, left, deep, left', deep' => by
    intro h1 h0 h2 h64 h
    unfold measP at h ⊢
    by_cases c1 : left < 1
    · rw [if_pos c1] at h; cases h
    rw [if_neg c1] at h ⊢
    rw [if_neg (show ¬ left' < 1 by omega)]
    by_cases c2 : kd ≠ 4 ∧ text.toList ≠ []
    · rw [if_pos c2] at h; cases h
    rw [if_neg c2] at h ⊢
    rw [if_neg c2]
    by_cases c3 : kd ≠ 5 ∧ 0 < list.length
    · rw [if_pos c3] at h; cases h
    rw [if_neg c3] at h ⊢
    rw [if_neg c3]
    by_cases c4 : kd = 1
    · rw [if_pos c4, if_pos c4]
    rw [if_neg c4] at h ⊢
    rw [if_neg c4]
    by_cases c5 : kd = 2
    · rw [if_pos c5, if_pos c5]
    rw [if_neg c5] at h ⊢
    rw [if_neg c5]
    by_cases c6 : kd = 3
    · rw [if_pos c6, if_pos c6]
    rw [if_neg c6] at h ⊢
    rw [if_neg c6]
    by_cases c7 : kd = 4
    · rw [if_pos c7] at h ⊢
      rw [if_pos c7]
      simp only [Bool.and_eq_true, decide_eq_true_eq] at h
      rw [decide_eq_true h.2, decide_eq_true (show (text.size : Int) < left' by have := h.2; omega)]
    rw [if_neg c7] at h ⊢
    rw [if_neg c7]
    by_cases c8 : kd = 5
    · rw [if_pos c8] at h ⊢
      rw [if_pos c8]
      by_cases c9 : num ≠ 0
      · rw [if_pos c9] at h; cases h
      rw [if_neg c9] at h ⊢
      rw [if_neg c9]
      by_cases c10 : deep = 64
      · rw [if_pos c10] at h; cases h
      rw [if_neg c10] at h ⊢
      rw [if_neg (show ¬ deep' = 64 by omega)]
      exact measL_mono list 1 left deep left' deep' h1 h0 h2 (by omega) h
    · rw [if_neg c8] at h; cases h
theorem measL_mono : ∀ (l : List S40) (n left deep left' deep' : Int), left ≤ left' → 0 ≤ deep' → deep' ≤ deep → deep < 64 → (measL l n left deep).2 = true → measL l n left' deep' = measL l n left deep
  | [], n, left, deep, left', deep' => by
    intro _ _ _ _ _
    unfold measL
    rfl
  | x :: r, n, left, deep, left', deep' => by
    intro h1 h0 h2 h64 h
    unfold measL at h ⊢
    by_cases c : (measP x (left - n) (deep + 1)).2 = true
    · have e := measP_mono x (left - n) (deep + 1) (left' - n) (deep' + 1) (Int.sub_le_sub_right h1 n) (Int.le_trans h0 (Int.le_of_lt (Int.lt_add_one_of_le (Int.le_refl _)))) (Int.add_le_add_right h2 1) (Int.add_one_le_of_lt h64) c
      rw [if_pos c] at h ⊢
      rw [e, if_pos c]
      exact measL_mono r _ left deep left' deep' h1 h0 h2 h64 h
    · rw [if_neg c] at h; cases h
end
/-- The list of two values. -/
def twoL (p q : S40) : S40 := ⟨5, 0, ⟨#[]⟩, [p, q]⟩
theorem may_two {p q : S40} (h : MayP (twoL p q)) : MayP q := by
  unfold MayP twoL at h
  unfold measP at h
  rw [if_neg (by decide), if_neg (fun e => e.2 (by rw [ByteArray.toList_eq])), if_neg (by simp), if_neg (by decide), if_neg (by decide), if_neg (by decide), if_neg (by decide), if_pos rfl, if_neg (by decide), if_neg (by decide)] at h
  unfold measL at h
  split at h
  · rename_i h1
    unfold measL at h
    split at h
    · rename_i h2
      have hp := measP_le p (65536 - 1) (0 + 1) (by decide) h1
      generalize (measP p (65536 - 1) (0 + 1)).1 = a at hp h2
      have := measP_mono q (65536 - (1 + a)) (0 + 1) 65536 0 (by omega) (by decide) (by decide) (by decide) h2
      unfold MayP
      rw [this]
      exact h2
    · cases h
  · cases h
theorem ofT_five (num : Int) (t : ByteArray) (l : List S40) : ofT ⟨5, num, t, l⟩ = (ofL l (0, emptyB)).map fun r => (r.1 + 1, r.2) := by
  conv => lhs; unfold ofT
  rw [if_neg (by decide), if_neg (by decide), if_neg (by decide), if_neg (by decide)]
theorem ofL_cons (x : S40) (r : List S40) (c : Nat × ByteArray) : ofL (x :: r) c = (ofT x).bind fun d => (meetT c d).bind fun e => ofL r e := by
  conv => lhs; unfold ofL
theorem ofL_nil (c : Nat × ByteArray) : ofL [] c = some c := by unfold ofL; rfl
theorem of_two (p q : S40) : ofT (twoL p q) = (ofT p).bind fun r => (ofT q).bind fun t => (meetT r t).map fun c => (c.1 + 1, c.2) := by
  have hm : ∀ r : Nat × ByteArray, meetT (0, emptyB) r = some r := by
    intro r
    unfold meetT
    split
    · rename_i e; rw [e]
    · rw [if_pos rfl, if_pos (Nat.zero_le _)]
  unfold twoL
  rw [ofT_five, ofL_cons]
  cases ofT p with
  | none => rfl
  | some r =>
    simp only [Option.bind_some, hm, ofL_cons]
    cases ofT q with
    | none => rfl
    | some t =>
      simp only [Option.bind_some, ofL_nil]
      cases meetT r t <;> rfl
theorem chain24 (c : Nat × ByteArray) (h : nameOK c.2 = true) (h1 : c.1 < 65) : chainT 65 (whole24 c).f0 (whole24 c).f1 = some c := chain_whole c.2 h c.1 65 h1
/-- A sort with a name in its variable's place. -/
theorem subst_one (s : S24) (c : Nat × ByteArray) (hs : chainT 65 s.f0 s.f1 = some c) (v nm : ByteArray) (hv : isVar v = true) (hn : nameOK nm = true) :
    sort_Apply.f s.f0 s.f1 [⟨v, ⟨nm, []⟩⟩] = some ((whole24 (if v = c.2 then (c.1, nm) else c)).f0, (whole24 (if v = c.2 then (c.1, nm) else c)).f1, 0) := by
  obtain ⟨h1, _, _⟩ := chainT_le 65 _ _ c.1 c.2 hs
  have hf : foldC [] [(⟨v, ⟨nm, []⟩⟩ : S50)] = some [(v, 0, nm)] := fold_one v nm 0 (by omega) hv hn
  unfold sort_Apply.f
  rw [hs]
  obtain ⟨n, p⟩ := c
  simp only [applyT, hf, applyC, doneC_eq]
  have hE : (getC [(v, 0, nm)] emptyB).isSome = false := by
    unfold getC
    rw [if_neg (var_ne hv)]
    rfl
  rw [hE, puts_one]
  simp only [Bool.false_eq_true, if_false]
  by_cases h : v = p
  · simp only [if_pos h]
    unfold wholeC whole24
    rw [if_neg (by simp only at h1; omega)]
    rfl
  · simp only [if_neg h]
    unfold wholeC whole24
    rw [if_neg (by simp only at h1; omega)]
def ValMid (fu : Nat) (p : S40) (s a : S24) : Prop := ∃ (m : Nat) (x : ByteArray) (t1 : ByteArray) (t2 : List S24) (l : List S50) (f : Int) (b : Bool), chainT 65 s.f0 s.f1 = some (m, x) ∧
  sort_Apply.f a.f0 a.f1 [⟨nmA, ⟨if x = nmY then nmX else nmY, []⟩⟩] = some (t1, t2, 0) ∧ sort_Unify.f t1 t2 s.f0 s.f1 = some (l, f) ∧ sort_Is.f fu p.f0 p.f1 p.f2 p.f3 s.f0 s.f1 = some b ∧ (b = true ∧ f = 0 ∨ b = false ∧ f ≠ 0)
def ValEnd (fu : Nat) (a b l : S24) (g : Int) : Prop := ∃ (o1 : ByteArray) (o2 : List S24) (u : List S50) (h : Int), sort_Apply.f b.f0 b.f1 [⟨nmA, ⟨nmY, []⟩⟩] = some (o1, o2, 0) ∧ sort_Unify.f a.f0 a.f1 o1 o2 = some (u, h) ∧
  (g = 14 ∧ h ≠ 0 ∨ g = 0 ∧ h = 0 ∧ ∃ (w1 : ByteArray) (w2 : List S24) (i : Int), sort_Apply.f listB [a] u = some (w1, w2, i) ∧ (i ≠ 0 ∨ i = 0 ∧ ∃ x1 x2, sort_Apply.f w1 w2 [⟨nmY, ⟨nmA, []⟩⟩] = some (x1, x2, 0) ∧ sort_Same.f fu l.f0 l.f1 x1 x2 = some true))
def ValuesOK (fu : Nat) (p q : S40) (s a : S24) (e : Int) : Prop :=
  e ≠ 0 ∧ (e = 1 ∨ e = 14) ∧ sort_Is.f fu p.f0 p.f1 p.f2 p.f3 s.f0 s.f1 = some false ∨
  e = 0 ∧ sort_Is.f fu p.f0 p.f1 p.f2 p.f3 a.f0 a.f1 = some true ∧ sort_Is.f fu p.f0 p.f1 p.f2 p.f3 nmZ [] = some true ∧ sort_May.f fu a.f0 a.f1 = some 0 ∧
    (∃ ms, sort_May.f fu s.f0 s.f1 = some ms ∧ (ms ≠ 0 ∨ ms = 0 ∧ ValMid fu p s a)) ∧
    ∃ (b l : S24) (f g : Int), sort_Of.f fu q.f0 q.f1 q.f2 q.f3 = some (b.f0, b.f1, f) ∧ sort_Of.f fu 5 0 ⟨#[]⟩ [p, q] = some (l.f0, l.f1, g) ∧
      (f ≠ 0 ∧ g ≠ 0 ∨ f = 0 ∧ g = 1 ∨ f = 0 ∧ g ≠ 1 ∧ ValEnd fu a b l g)
theorem isT_self (r : Nat × ByteArray) (hr : r.2 = emptyB ∨ isBase r.2 = true) : isT (asC nmA r) r = true := by
  unfold isT asC
  by_cases h : r.2 = emptyB
  · rw [if_pos h]; simp [varA]
  · have hb : isBase r.2 = true := by rcases hr with h1 | h1; exact absurd h1 h; exact h1
    rw [if_neg h, base_notvar hb]
    simp [h]
theorem sz_pred {a b c k : Nat} (h : a + b + c + 300 < k) : ∃ j, k = j + 1 := ⟨k - 1, by omega⟩
theorem sz3' {a b c k : Nat} (h : a + b + c + 300 < k + 1) : a < k ∧ b < k ∧ c < k ∧ 299 < k := by omega
theorem wholeT_inj : ∀ {n m : Nat} {p q : ByteArray}, wholeT n p = wholeT m q → nameOK p = true → nameOK q = true → n = m
  | 0, 0, _, _, _, _, _ => rfl
  | 0, m + 1, p, q, h, hp, _ => by
    exfalso
    have : p = listB := congrArg S24.f0 h
    rw [this] at hp
    have := name_notlist hp
    rw [isList_list] at this
    exact absurd this (by decide)
  | n + 1, 0, p, q, h, _, hq => by
    exfalso
    have : listB = q := congrArg S24.f0 h
    rw [← this] at hq
    have := name_notlist hq
    rw [isList_list] at this
    exact absurd this (by decide)
  | n + 1, m + 1, p, q, h, hp, hq => by
    have h1 : [wholeT n p] = [wholeT m q] := congrArg S24.f1 h
    rw [wholeT_inj (List.cons.inj h1).1 hp hq]
theorem asC_subst (v : ByteArray) (r : Nat × ByteArray) (hr : r.2 = emptyB ∨ isBase r.2 = true) : (if nmA = (asC nmA r).2 then ((asC nmA r).1, v) else asC nmA r) = asC v r := by
  unfold asC
  by_cases h : r.2 = emptyB
  · rw [if_pos h, if_pos h, if_pos rfl]
  · have hb : isBase r.2 = true := by rcases hr with h1 | h1; exact absurd h1 h; exact h1
    rw [if_neg h, if_neg h, if_neg (fun e => base_ne_var hb varA e.symm)]
theorem unify_chains (a b : S24) (x y : Nat × ByteArray) (ha : chainT 65 a.f0 a.f1 = some x) (hb : chainT 65 b.f0 b.f1 = some y) : sort_Unify.f a.f0 a.f1 b.f0 b.f1 = some (unifyT (some x) (some y)) := by
  unfold sort_Unify.f; rw [ha, hb]
theorem val_mid (p : S40) (hp : MayP p) (s : S24) (r : Nat × ByteArray) (hor : ofT p = some r) (hr : r.2 = emptyB ∨ isBase r.2 = true) (hr1 : r.1 < 65) (m : Nat) (x : ByteArray) (hs : chainT 65 s.f0 s.f1 = some (m, x)) (k : Nat) (hk : szP p < k) (hk2 : 200 < k) : ValMid (k + 1) p s (whole24 (asC nmA r)) := by
  obtain ⟨_, hx, _⟩ := chainT_le 65 _ _ m x hs
  obtain ⟨v, hve⟩ : ∃ v, v = (if x = nmY then nmX else nmY) := ⟨_, rfl⟩
  have hv : isVar v = true := by rw [hve]; split; exact varX; exact varY
  have hvx : v ≠ x := by
    rw [hve]; split
    · rename_i e; rw [e]; exact fun h => y_ne_x h.symm
    · rename_i e; exact fun h => e h.symm
  have hA := asC_ok varA hr
  have h1 := subst_one (whole24 (asC nmA r)) (asC nmA r) (chain24 _ hA.1 (by rw [hA.2]; exact hr1)) nmA v varA (var_ok hv)
  rw [asC_subst v r hr] at h1
  obtain ⟨l, f, h2, h3⟩ := isT_unify m x hx r hr v hv hvx
  have hB := asC_ok hv hr
  have h4 := unify_chains (whole24 (asC v r)) s (asC v r) (m, x) (chain24 _ hB.1 (by rw [hB.2]; exact hr1)) hs
  rw [h2] at h4
  refine ⟨m, x, _, _, l, f, isT (m, x) r, hs, by rw [← hve]; exact h1, h4, ?_, h3⟩
  rw [is_eq p hp s (m, x) hs k hk (by omega), hor]
theorem val_end (r t c : Nat × ByteArray) (hr : r.2 = emptyB ∨ isBase r.2 = true) (ht : t.2 = emptyB ∨ isBase t.2 = true) (hr1 : r.1 < 65) (ht1 : t.1 < 65) (hc : meetT r t = some c) (k : Nat) (hk : 200 < k) :
    ValEnd k (whole24 (asC nmA r)) (whole24 (asC nmA t)) (whole24 (asC nmA (c.1 + 1, c.2))) 0 := by
  have hA := asC_ok varA hr
  have hB := asC_ok varA ht
  have hO := asC_ok varY ht
  have h1 := subst_one (whole24 (asC nmA t)) (asC nmA t) (chain24 _ hB.1 (by rw [hB.2]; exact ht1)) nmA nmY varA (var_ok varY)
  rw [asC_subst nmY t ht] at h1
  have hm := meet_unify r t hr ht hr1 ht1
  rw [hc] at hm
  obtain ⟨u, M, h2, h3, hI, h4⟩ := hm
  have h5 := unify_chains (whole24 (asC nmA r)) (whole24 (asC nmY t)) (asC nmA r) (asC nmY t) (chain24 _ hA.1 (by rw [hA.2]; exact hr1)) (chain24 _ hO.1 (by rw [hO.2]; exact ht1))
  rw [h2] at h5
  refine ⟨_, _, u, 0, h1, h5, .inr ⟨rfl, rfl, ?_⟩⟩
  obtain ⟨A, hAe⟩ : ∃ A, A = asC nmA r := ⟨_, rfl⟩
  rw [← hAe] at h4 hA ⊢
  have hl : listB = (wholeT (A.1 + 1) A.2).f0 ∧ [whole24 A] = (wholeT (A.1 + 1) A.2).f1 := ⟨rfl, rfl⟩
  have hcn : nameOK (asC nmA (c.1 + 1, c.2)).2 = true := (asC_ok varA (r := (c.1 + 1, c.2)) (show c.2 = emptyB ∨ isBase c.2 = true from meet_name (P := fun x => x = emptyB ∨ isBase x = true) hc hr ht)).1
  by_cases h65 : A.1 + 1 < 65
  · have hch : chainT 65 listB [whole24 A] = some (A.1 + 1, A.2) := by
      rw [hl.1, hl.2]; exact chain_whole A.2 hA.1 (A.1 + 1) 65 h65
    have hap : sort_Apply.f listB [whole24 A] u = some (doneC (A.1 + 1) A.2 M) := by
      unfold sort_Apply.f
      rw [hch]
      simp only [applyT, h3, applyC]
    rw [doneC_eq] at hap
    obtain ⟨W, hW⟩ : ∃ W, W = puts M (A.1 + 1, A.2) := ⟨_, rfl⟩
    rw [← hW] at h4 hap
    have hWn : nameOK W.2 = true := by rw [hW]; exact hI.puts _ _ hA.1
    by_cases hE : (getC M emptyB).isSome = true
    · rw [if_pos hE] at hap
      exact ⟨_, _, 1, hap, .inl (by decide)⟩
    · rw [if_neg hE] at hap
      by_cases h66 : W.1 < 65
      · have hwc : wholeC W.1 W.2 = ((whole24 W).f0, (whole24 W).f1, 0) := by unfold wholeC whole24; rw [if_neg (by omega)]
        rw [hwc] at hap
        have hX := subst_one (whole24 W) W (chain24 W hWn h66) nmY nmA varY okA
        rw [h4] at hX
        have hc1 : (asC nmA (c.1 + 1, c.2)).1 < 65 := by
          rw [← h4]
          split
          · exact h66
          · exact h66
        refine ⟨_, _, 0, hap, .inr ⟨rfl, _, _, hX, ?_⟩⟩
        rw [same_chains _ _ _ _ k (by omega) (asC nmA (c.1 + 1, c.2)).1 (asC nmA (c.1 + 1, c.2)).1 (asC nmA (c.1 + 1, c.2)).2 (asC nmA (c.1 + 1, c.2)).2 (chain24 _ hcn hc1) (chain24 _ hcn hc1)]
        simp
      · have hwc : wholeC W.1 W.2 = (⟨#[]⟩, [], 2) := by unfold wholeC; rw [if_pos (by omega)]
        rw [hwc] at hap
        exact ⟨_, _, 2, hap, .inl (by decide)⟩
  · have hch : chainT 65 listB [whole24 A] = none := by
      cases hc0 : chainT 65 listB [whole24 A] with
      | none => rfl
      | some z =>
        exfalso
        obtain ⟨z1, z2⟩ := z
        obtain ⟨g1, g2, g3⟩ := chainT_le 65 _ _ z1 z2 hc0
        have : wholeT (A.1 + 1) A.2 = wholeT z1 z2 := by rw [eta24] at g3; exact g3
        have hz := wholeT_inj this hA.1 g2
        omega
    have hap : sort_Apply.f listB [whole24 A] u = some (⟨#[]⟩, [], 14) := by
      unfold sort_Apply.f
      rw [hch]
      rfl
    exact ⟨_, _, 14, hap, .inl (by decide)⟩
theorem values_ok (p q : S40) (s : S24) : ∃ k0, ∀ k, k0 < k → ∃ a e, sort_Of.f k p.f0 p.f1 p.f2 p.f3 = some (a.f0, a.f1, e) ∧ ValuesOK k p q s a e := by
  refine ⟨szP p + szP q + szP (twoL p q) + 300, ?_⟩
  intro k hk
  obtain ⟨k, rfl⟩ : ∃ j, k = j + 1 := sz_pred hk
  obtain ⟨hk1, hk2, hk3, hk4⟩ := sz3' hk
  clear hk
  have HK1 := Aside0.mk hk1
  have HK2 := Aside0.mk hk2
  have HK3 := Aside0.mk hk3
  clear hk1 hk2 hk3
  by_cases hp : MayP p
  · have hofp := of_eq p hp (k + 1) (Nat.lt_succ_of_lt HK1.out) (by omega)
    cases ho : ofT p with
    | none =>
      rw [ho] at hofp
      refine ⟨⟨⟨#[]⟩, []⟩, 14, hofp, .inl ⟨by decide, .inr rfl, ?_⟩⟩
      cases hs : chainT 65 s.f0 s.f1 with
      | none => exact is_no p s (.inr hs) k (by omega)
      | some c => rw [is_eq p hp s c hs k HK1.out (by omega), ho]
    | some r =>
      rw [ho] at hofp
      have hr := of_name p r ho
      have hr1 : r.1 < 65 := by
        have := (of_P p 65536 0 (k + 1) (by decide) (by decide) (by decide) hp (Nat.lt_succ_of_lt HK1.out)).2 r ho
        omega
      have hA := asC_ok varA hr
      have hcA := chain24 _ hA.1 (show (asC nmA r).1 < 65 by rw [hA.2]; exact hr1)
      refine ⟨whole24 (asC nmA r), 0, hofp, .inr ⟨rfl, ?_, ?_, ?_, ?_, ?_⟩⟩
      · rw [is_eq p hp _ _ hcA k HK1.out (by omega), ho]
        exact congrArg some (isT_self r hr)
      · have := is_eq p hp ⟨nmZ, []⟩ (0, nmZ) (chain_name nmZ (var_ok varZ)) k HK1.out (by omega)
        rw [ho] at this
        rw [this]
        show some (isT (0, nmZ) r) = some true
        unfold isT
        simp only [varZ, if_true]
        simp
      · rw [may_eq _ _ _ (by omega), hcA]; rfl
      · refine ⟨_, may_eq _ _ _ (by omega), ?_⟩
        cases hs : chainT 65 s.f0 s.f1 with
        | none => exact .inl (by simp)
        | some c => exact .inr ⟨rfl, val_mid p hp s r ho hr hr1 c.1 c.2 hs k HK1.out (by omega)⟩
      · by_cases hq : MayP q
        · have hofq := of_eq q hq (k + 1) (Nat.lt_succ_of_lt HK2.out) (by omega)
          by_cases hl : MayP (twoL p q)
          · have hofl := of_eq (twoL p q) hl (k + 1) (Nat.lt_succ_of_lt HK3.out) (by omega)
            rw [of_two, ho] at hofl
            simp only [Option.bind_some] at hofl
            cases hoq : ofT q with
            | none =>
              rw [hoq] at hofq hofl
              exact ⟨⟨⟨#[]⟩, []⟩, ⟨⟨#[]⟩, []⟩, 14, 14, hofq, hofl, .inl ⟨by decide, by decide⟩⟩
            | some t =>
              rw [hoq] at hofq hofl
              simp only [Option.bind_some] at hofl
              have ht := of_name q t hoq
              have ht1 : t.1 < 65 := by
                have := (of_P q 65536 0 (k + 1) (by decide) (by decide) (by decide) hq (Nat.lt_succ_of_lt HK2.out)).2 t hoq
                omega
              cases hm : meetT r t with
              | none =>
                rw [hm] at hofl
                refine ⟨whole24 (asC nmA t), ⟨⟨#[]⟩, []⟩, 0, 14, hofq, hofl, .inr (.inr ⟨rfl, by decide, ?_⟩)⟩
                have hB := asC_ok varA ht
                have hO := asC_ok varY ht
                have h1 := subst_one (whole24 (asC nmA t)) (asC nmA t) (chain24 _ hB.1 (by rw [hB.2]; exact ht1)) nmA nmY varA (var_ok varY)
                rw [asC_subst nmY t ht] at h1
                have hmu := meet_unify r t hr ht hr1 ht1
                rw [hm] at hmu
                have h5 := unify_chains (whole24 (asC nmA r)) (whole24 (asC nmY t)) (asC nmA r) (asC nmY t) hcA (chain24 _ hO.1 (by rw [hO.2]; exact ht1))
                rw [hmu] at h5
                exact ⟨_, _, [], 14, h1, h5, .inl ⟨rfl, by decide⟩⟩
              | some c =>
                rw [hm] at hofl
                exact ⟨whole24 (asC nmA t), whole24 (asC nmA (c.1 + 1, c.2)), 0, 0, hofq, hofl, .inr (.inr ⟨rfl, by decide, val_end r t c hr ht hr1 ht1 hm (k + 1) (by omega)⟩)⟩
          · have hofl := of_no (twoL p q) hl (k + 1)
            cases hoq : ofT q with
            | none =>
              rw [hoq] at hofq
              exact ⟨⟨⟨#[]⟩, []⟩, ⟨⟨#[]⟩, []⟩, 14, 1, hofq, hofl, .inl ⟨by decide, by decide⟩⟩
            | some t =>
              rw [hoq] at hofq
              exact ⟨whole24 (asC nmA t), ⟨⟨#[]⟩, []⟩, 0, 1, hofq, hofl, .inr (.inl ⟨rfl, rfl⟩)⟩
        · exact ⟨⟨⟨#[]⟩, []⟩, ⟨⟨#[]⟩, []⟩, 1, 1, of_no q hq (k + 1), of_no (twoL p q) (fun h => hq (may_two h)) (k + 1), .inl ⟨by decide, by decide⟩⟩
  · exact ⟨⟨⟨#[]⟩, []⟩, 1, of_no p hp (k + 1), .inl ⟨by decide, .inl rfl, is_no p s (.inl hp) k (by omega)⟩⟩

end Go.Proofs.Ytlibklfianghlaa.S

-- WRITTEN BY a program of this session (wip/extprint.py, over the kit's print.py); not trusted: Lean checks it.
import Derived.Test.YtlibklfianghlaaSx0
import Derived.Test.YtlibklfianghlaaSx3
import Derived.Test.YtlibklfianghlaaSx5
import Derived.Test.YtlibklfianghlaaSx8
import Derived.Test.YtlibklfianghlaaSEApply
import Derived.Test.YtlibklfianghlaaSEMath
import Derived.Test.YtlibklfianghlaaSEPure1
import Derived.Test.YtlibklfianghlaaSEPure2
import Derived.Test.YtlibklfianghlaaSEPure4
import Derived.Test.YtlibklfianghlaaSEPure5
import Derived.Test.YtlibklfianghlaaSEUnifies
import Derived.Test.YtlibklfianghlaaSEUnify
namespace Go.Proofs.Ytlibklfianghlaa.S
open Go.RowKit Go.Proofs.YtlibklfianghlaaW.PrintWords Go.Proofs.YtlibklfianghlaaW.PrintLast Go.Proofs.YtlibklfianghlaaW.PrintMore
attribute [local go_sem] max2_int min2_int max_two min_two max_three min_three max_four min_four   -- for this text's walks alone
set_option linter.unusedVariables false
set_option linter.unusedSimpArgs false

/-! The plain law of SortUnifies: Unify against what makes both the same. -/
theorem pairs_of_same {M : List (ByteArray × Nat × ByteArray)} (h : InvC M) (d : Nat) (u v : ByteArray) (hu : nameOK u = true) (hv : nameOK v = true) (he : puts M (0, u) = puts M (d, v)) :
    ∃ l, pairsB (d : Int) u v = some l ∧ ∀ t ∈ l, puts M (0, t.1) = puts M (t.2.1, t.2.2) := by
  unfold pairsB
  by_cases h1 : (d : Int) = 0 ∧ u.toList = v.toList
  · rw [if_pos h1]; exact ⟨[], rfl, fun t ht => by cases ht⟩
  rw [if_neg h1]
  by_cases h2 : isVar u = true ∧ u.toList ≠ v.toList
  · rw [if_pos h2, Int.toNat_natCast]
    refine ⟨_, rfl, fun t ht => ?_⟩
    rw [List.mem_singleton] at ht
    subst ht
    exact he
  rw [if_neg h2]
  by_cases h3 : (d : Int) = 0 ∧ isVar v = true
  · rw [if_pos h3]
    refine ⟨_, rfl, fun t ht => ?_⟩
    rw [List.mem_singleton] at ht
    subst ht
    obtain rfl : d = 0 := by omega
    exact he.symm
  exfalso
  cases hc : isVar u with
  | true =>
    have e : u = v := toList_inj (Classical.byContradiction fun h => h2 ⟨hc, h⟩)
    subst e
    have e2 := puts_add M d 0 u
    rw [Nat.add_zero] at e2
    rw [e2] at he
    have := congrArg Prod.fst he
    simp only at this
    exact h1 ⟨by omega, rfl⟩
  | false =>
    have e2 := puts_add M d 0 v
    rw [Nat.add_zero] at e2
    rw [e2, h.novar 0 u hu hc] at he
    have h4 := congrArg Prod.fst he
    simp only at h4
    have hd : d = 0 := by omega
    cases hw : isVar v with
    | true => exact h3 ⟨by omega, hw⟩
    | false =>
      rw [h.novar 0 v hv hw] at he
      have h5 := congrArg Prod.snd he
      simp only at h5
      exact h1 ⟨by omega, by rw [h5]⟩
theorem fold_one (u v : ByteArray) (d : Nat) (hd : d < 65) (hu : isVar u = true) (hv : nameOK v = true) : foldC [] [S50of (u, d, v)] = some [(u, d, v)] := by
  have e : stepC [] (S50of (u, d, v)) = some [(u, d, v)] := by
    unfold stepC S50of
    simp only
    rw [chain_whole v hv d 65 hd]
    simp only [getC, hu]
    rfl
  unfold foldC
  rw [e]
  rfl
theorem puts_one (u v x : ByteArray) (d n : Nat) : puts [(u, d, v)] (n, x) = if u = x then (n + d, v) else (n, x) := by
  unfold puts
  show (match (if u = x then some (d, v) else getC [] x) with | some r => _ | none => _) = _
  by_cases h : u = x
  · rw [if_pos h, if_pos h]
  · rw [if_neg h, if_neg h]; rfl
theorem pairs_make (d : Nat) (hd : d < 65) (u v : ByteArray) (hu : nameOK u = true) (hv : nameOK v = true) (l : List (ByteArray × Nat × ByteArray)) (hl : pairsB (d : Int) u v = some l) :
    ∃ M, foldC [] (l.map S50of) = some M ∧ InvC M ∧ puts M (0, u) = puts M (d, v) := by
  suffices hs : ∃ M, foldC [] (l.map S50of) = some M ∧ puts M (0, u) = puts M (d, v) by
    obtain ⟨M, h1, h2⟩ := hs
    exact ⟨M, h1, InvC.fold _ InvC.nil h1, h2⟩
  unfold pairsB at hl
  split at hl
  · rename_i h
    cases hl
    obtain rfl : d = 0 := by omega
    obtain rfl := toList_inj h.2
    exact ⟨[], rfl, rfl⟩
  rename_i h1
  split at hl
  · rename_i h
    cases hl
    rw [Int.toNat_natCast]
    refine ⟨_, fold_one u v d hd h.1 hv, ?_⟩
    rw [puts_one, puts_one, if_pos rfl, if_neg (fun e => h.2 (by rw [e])), Nat.zero_add]
  split at hl
  · rename_i h
    cases hl
    obtain rfl : d = 0 := by omega
    refine ⟨_, fold_one v u 0 (by omega) h.2 hu, ?_⟩
    have hne : v ≠ u := fun e => h1 ⟨rfl, by rw [e]⟩
    rw [puts_one, puts_one, if_pos rfl, if_neg hne]
  · cases hl
theorem pairs_names (d : Nat) (hd : d < 65) (u v : ByteArray) (hu : nameOK u = true) (hv : nameOK v = true) (l : List (ByteArray × Nat × ByteArray)) (hl : pairsB (d : Int) u v = some l) :
    l = [] ∨ ∃ t, l = [t] ∧ nameOK t.1 = true ∧ t.2.1 < 65 ∧ nameOK t.2.2 = true := by
  unfold pairsB at hl
  split at hl
  · cases hl; exact .inl rfl
  split at hl
  · cases hl; exact .inr ⟨_, rfl, hu, by simpa using hd, hv⟩
  split at hl
  · cases hl; exact .inr ⟨_, rfl, hv, by simp, hu⟩
  · cases hl
/-- Two chains and what Unify tells of them: told alike from both sides; it makes them the same; and nothing else can. -/
theorem unify_all (n m : Nat) (p q : ByteArray) (hn : n < 65) (hm : m < 65) (hp : nameOK p = true) (hq : nameOK q = true) :
    ∃ o : Option (List (ByteArray × Nat × ByteArray)), unifyT (some (n, p)) (some (m, q)) = (match o with | some l => (l.map S50of, 0) | none => ([], 14)) ∧
      (∀ l, o = some l → (l = [] ∨ ∃ t, l = [t] ∧ nameOK t.1 = true ∧ t.2.1 < 65 ∧ nameOK t.2.2 = true) ∧ ∃ M, foldC [] (l.map S50of) = some M ∧ InvC M ∧ puts M (n, p) = puts M (m, q)) ∧
      (∀ M, InvC M → puts M (n, p) = puts M (m, q) → ∃ l, o = some l ∧ ∀ t ∈ l, puts M (0, t.1) = puts M (t.2.1, t.2.2)) := by
  have lift : ∀ (M : List (ByteArray × Nat × ByteArray)) (n d : Nat) (u v : ByteArray), puts M (0, u) = puts M (d, v) → puts M (n, u) = puts M (n + d, v) := by
    intro M n d u v h
    have e := puts_add M n 0 u
    rw [Nat.add_zero] at e
    rw [e, puts_add M n d v, h]
  have drop : ∀ (M : List (ByteArray × Nat × ByteArray)) (n d : Nat) (u v : ByteArray), puts M (n, u) = puts M (n + d, v) → puts M (0, u) = puts M (d, v) := by
    intro M n d u v h
    have e := puts_add M n 0 u
    rw [Nat.add_zero] at e
    rw [e, puts_add M n d v] at h
    have h1 := congrArg Prod.fst h
    have h2 := congrArg Prod.snd h
    simp only at h1 h2
    exact Prod.ext (by omega) h2
  obtain ⟨d, ⟨hd, he⟩ | ⟨hd, he⟩⟩ := normA_cases n m p q
  · subst he
    refine ⟨pairsB (d : Int) p q, ?_, ?_, ?_⟩
    · simp only [unifyT_some, hd]
      cases pairsB (d : Int) p q <;> rfl
    · intro l hl
      refine ⟨pairs_names d (by omega) p q hp hq l hl, ?_⟩
      obtain ⟨M, h1, h2, h3⟩ := pairs_make d (by omega) p q hp hq l hl
      exact ⟨M, h1, h2, lift M n d p q h3⟩
    · intro M hM h
      exact pairs_of_same hM d p q hp hq (drop M n d p q h)
  · subst he
    refine ⟨pairsB (d : Int) q p, ?_, ?_, ?_⟩
    · simp only [unifyT_some, hd]
      cases pairsB (d : Int) q p <;> rfl
    · intro l hl
      refine ⟨pairs_names d (by omega) q p hq hp l hl, ?_⟩
      obtain ⟨M, h1, h2, h3⟩ := pairs_make d (by omega) q p hq hp l hl
      exact ⟨M, h1, h2, (lift M m d q p h3).symm⟩
    · intro M hM h
      exact pairs_of_same hM d q p hq hp (drop M m d q p h.symm)
theorem chain_name (u : ByteArray) (hu : nameOK u = true) : chainT 65 u [] = some (0, u) := chain_whole u hu 0 65 (by omega)
theorem givens_self (l : List (ByteArray × Nat × ByteArray)) (hl : l = [] ∨ ∃ t, l = [t] ∧ nameOK t.1 = true ∧ t.2.1 < 65 ∧ nameOK t.2.2 = true) (k : Nat) (hk : 250 < k) : espalierlaw5_givens.f k (l.map S50of) (l.map S50of) = some true := by
  obtain ⟨k, rfl⟩ : ∃ q, k = q + 2 := ⟨k - 2, by omega⟩
  unfold espalierlaw5_givens.f
  rw [if_pos rfl, espalierlaw5_givens.l0]
  rcases hl with rfl | ⟨t, rfl, _, h2, _⟩
  · rfl
  · rw [if_pos (by simp), if_pos (by decide), if_pos (by simp), if_pos rfl]
    have e : rd_T50 ([t].map S50of) 0 = S50of t := rfl
    rw [e]
    show (espalierlaw5_Eq.f (k + 1) (wholeT t.2.1 t.2.2).f0 (wholeT t.2.1 t.2.2).f1 (wholeT t.2.1 t.2.2).f0 (wholeT t.2.1 t.2.2).f1).bind _ = _
    rw [eq_whole_self _ _ _ (by omega)]
    simp only [Option.bind_some]
    rw [if_pos trivial, espalierlaw5_givens.l0, if_neg]
    unfold wrap64
    simp
theorem LegOK.mk' {fu : Nat} {gs : List S50} {x : S50} (R R' : ByteArray × List S24 × Int) (h : sort_Apply.f x.f0 [] gs = some R) (h' : sort_Apply.f x.f1.f0 x.f1.f1 gs = some R') (hc : R.2.2 ≠ 0 ∨ R.2.2 = 0 ∧ R'.2.2 ≠ 0 ∨ R.2.2 = 0 ∧ R'.2.2 = 0 ∧ sort_Same.f fu R.1 R.2.1 R'.1 R'.2.1 = some true) : LegOK fu gs x :=
  ⟨R.1, R.2.1, R.2.2, R'.1, R'.2.1, R'.2.2, h, h', hc⟩
theorem BothOK.mk' {fu : Nat} {a b : S24} {l : List S50} (R : ByteArray × List S24 × Int) (h : sort_Apply.f a.f0 a.f1 l = some R) (h' : sort_Apply.f b.f0 b.f1 l = some R) (hc : R.2.2 ≠ 0 ∨ R.2.2 = 0 ∧ sort_Same.f fu R.1 R.2.1 R.1 R.2.1 = some true) : BothOK fu a b l 0 :=
  .inr ⟨rfl, R.1, R.2.1, R.2.2, R.1, R.2.1, h, h', hc⟩
/-- What is asked of further sorts. -/
theorem rest_ok (n m : Nat) (p q : ByteArray) (hp : nameOK p = true) (hq : nameOK q = true) (a b : S24) (ha : chainT 65 a.f0 a.f1 = some (n, p)) (hb : chainT 65 b.f0 b.f1 = some (m, q))
    (gs : List S50) (o : Option (List (ByteArray × Nat × ByteArray))) (x7 : List S50) (x8 : Int) (hx : (x7, x8) = (match o with | some l => (l.map S50of, 0) | none => ([], 14)))
    (hl : ∀ l, o = some l → l = [] ∨ ∃ t, l = [t] ∧ nameOK t.1 = true ∧ t.2.1 < 65 ∧ nameOK t.2.2 = true)
    (hM : ∀ M, InvC M → puts M (n, p) = puts M (m, q) → ∃ l, o = some l ∧ ∀ t ∈ l, puts M (0, t.1) = puts M (t.2.1, t.2.2)) (k : Nat) (hk : 300 < k) :
    RestOK k a b gs x7 x8 := by
  cases hf : foldC [] gs with
  | none =>
    refine ⟨⟨#[]⟩, [], 14, ⟨#[]⟩, [], 14, ?_, ?_, .inl (by decide)⟩
    · unfold sort_Apply.f; rw [ha]; simp only [applyT, hf, applyC]
    · unfold sort_Apply.f; rw [hb]; simp only [applyT, hf, applyC]
  | some M =>
    have hI := InvC.fold gs InvC.nil hf
    have h1 : ∀ (x : S24) (n : Nat) (p : ByteArray), chainT 65 x.f0 x.f1 = some (n, p) → sort_Apply.f x.f0 x.f1 gs = some (if (getC M emptyB).isSome then (⟨#[]⟩, [], 1) else wholeC (puts M (n, p)).1 (puts M (n, p)).2) := by
      intro x n p hx
      unfold sort_Apply.f
      rw [hx]
      simp only [applyT, hf, applyC, doneC_eq]
    cases hE : (getC M emptyB).isSome with
    | true =>
      rw [hE] at h1
      exact ⟨_, _, 1, _, _, 1, h1 a n p ha, h1 b m q hb, .inl (by decide)⟩
    | false =>
      rw [hE] at h1
      simp only [Bool.false_eq_true, if_false] at h1
      refine ⟨_, _, _, _, _, _, h1 a n p ha, h1 b m q hb, ?_⟩
      by_cases e1 : (wholeC (puts M (n, p)).1 (puts M (n, p)).2).2.2 = 0
      · right
        by_cases e2 : (wholeC (puts M (m, q)).1 (puts M (m, q)).2).2.2 = 0
        · right
          have hs := same_wholeC _ _ _ _ (hI.puts n p hp) (hI.puts m q hq) k (by omega) e1 e2
          by_cases e3 : (puts M (n, p)).1 = (puts M (m, q)).1 ∧ (puts M (n, p)).2 = (puts M (m, q)).2
          · right
            rw [decide_eq_true e3] at hs
            obtain ⟨l, rfl, hall⟩ := hM M hI (Prod.ext e3.1 e3.2)
            simp only [Prod.mk.injEq] at hx
            obtain ⟨rfl, rfl⟩ := hx
            refine ⟨e1, e2, hs, rfl, ?_⟩
            intro j hj
            rcases hl l rfl with rfl | ⟨t, rfl, g1, g2, g3⟩
            · exact absurd hj (by simp)
            · obtain rfl : j = 0 := by simp at hj; omega
              have e : rd_T50 ([t].map S50of) ((0 : Nat) : Int) = S50of t := rfl
              rw [e]
              have a1 := h1 ⟨t.1, []⟩ 0 t.1 (chain_name t.1 g1)
              have a2 := h1 (wholeT t.2.1 t.2.2) t.2.1 t.2.2 (chain_whole t.2.2 g3 t.2.1 65 g2)
              rw [hall t (List.mem_singleton.2 rfl)] at a1
              refine LegOK.mk' _ _ a1 a2 ?_
              by_cases e4 : (wholeC (puts M (t.2.1, t.2.2)).1 (puts M (t.2.1, t.2.2)).2).2.2 = 0
              · right; right
                refine ⟨e4, e4, ?_⟩
                rw [same_wholeC _ _ _ _ (hI.puts _ _ g3) (hI.puts _ _ g3) k (by omega) e4 e4]
                simp
              · exact .inl e4
          · left
            rw [decide_eq_false e3] at hs
            exact ⟨e1, e2, hs⟩
        · exact .inl ⟨e1, e2⟩
      · exact .inl e1
theorem unifyT_no (y : Option (Nat × ByteArray)) : unifyT none y = ([], 14) ∧ unifyT y none = ([], 14) := by cases y <;> exact ⟨rfl, rfl⟩
theorem unifies_ok (a b : S24) (gs : List S50) (k : Nat) (hk : 400 < k) : ∃ l m e f ma mb, sort_Unify.f a.f0 a.f1 b.f0 b.f1 = some (l, e) ∧ sort_Unify.f b.f0 b.f1 a.f0 a.f1 = some (m, f) ∧ sort_May.f k a.f0 a.f1 = some ma ∧ sort_May.f k b.f0 b.f1 = some mb ∧
    UnifiesOK k a b gs l m e f ma mb ∧ l.length ≤ 1000 := by
  obtain ⟨x, ha⟩ : ∃ x, chainT 65 a.f0 a.f1 = x := ⟨_, rfl⟩
  obtain ⟨y, hb⟩ : ∃ y, chainT 65 b.f0 b.f1 = y := ⟨_, rfl⟩
  have hm1 : sort_May.f k a.f0 a.f1 = some (if x.isSome then 0 else 14) := by rw [may_eq _ _ _ (by omega), ha]
  have hm2 : sort_May.f k b.f0 b.f1 = some (if y.isSome then 0 else 14) := by rw [may_eq _ _ _ (by omega), hb]
  have hu1 : sort_Unify.f a.f0 a.f1 b.f0 b.f1 = some (unifyT x y) := by unfold sort_Unify.f; rw [ha, hb]
  have hu2 : sort_Unify.f b.f0 b.f1 a.f0 a.f1 = some (unifyT y x) := by unfold sort_Unify.f; rw [ha, hb]
  refine ⟨(unifyT x y).1, (unifyT y x).1, (unifyT x y).2, (unifyT y x).2, _, _, hu1, hu2, hm1, hm2, ?_⟩
  cases x with
  | none =>
    rw [(unifyT_no _).1, (unifyT_no _).2]
    exact ⟨.inl ⟨.inl (by simp), rfl, rfl, rfl, rfl⟩, by simp⟩
  | some x =>
    cases y with
    | none =>
      rw [(unifyT_no _).1, (unifyT_no _).2]
      exact ⟨.inl ⟨.inr ⟨rfl, by simp⟩, rfl, rfl, rfl, rfl⟩, by simp⟩
    | some y =>
      obtain ⟨n, p⟩ := x
      obtain ⟨m, q⟩ := y
      obtain ⟨hn, hp, _⟩ := chainT_le 65 _ _ n p ha
      obtain ⟨hm, hq, _⟩ := chainT_le 65 _ _ m q hb
      obtain ⟨o, ho, h1, h2⟩ := unify_all n m p q hn hm hp hq
      rw [← unifyT_swap n m p q, ho]
      have rest := rest_ok n m p q hp hq a b ha hb gs o (match o with | some l => (l.map S50of, 0) | none => (([] : List S50), (14 : Int))).1 (match o with | some l => (l.map S50of, 0) | none => (([] : List S50), (14 : Int))).2 (by cases o <;> rfl) (fun l hl => (h1 l hl).1) h2 k (by omega)
      cases o with
      | none => exact ⟨.inr ⟨rfl, rfl, rfl, givens_self [] (.inl rfl) k (by omega), .inl (by decide), rest⟩, by simp⟩
      | some l =>
        obtain ⟨hl, M, hf, hI, hpq⟩ := h1 l rfl
        refine ⟨.inr ⟨rfl, rfl, rfl, givens_self l hl k (by omega), ?_, rest⟩, ?_⟩
        · have e1 : sort_Apply.f a.f0 a.f1 (l.map S50of) = some (doneC n p M) := by unfold sort_Apply.f; rw [ha]; simp only [applyT, hf, applyC]
          have e2 : sort_Apply.f b.f0 b.f1 (l.map S50of) = some (doneC m q M) := by unfold sort_Apply.f; rw [hb]; simp only [applyT, hf, applyC]
          rw [doneC_eq, hpq, ← doneC_eq] at e1
          refine BothOK.mk' _ e1 e2 ?_
          rw [doneC_eq]
          split
          · exact .inl (by decide)
          · by_cases e4 : (wholeC (puts M (m, q)).1 (puts M (m, q)).2).2.2 = 0
            · refine .inr ⟨e4, ?_⟩
              rw [same_wholeC _ _ _ _ (hI.puts m q hq) (hI.puts m q hq) k (by omega) e4 e4]
              simp
            · exact .inl e4
        · rcases hl with rfl | ⟨t, rfl, _⟩ <;> simp

end Go.Proofs.Ytlibklfianghlaa.S

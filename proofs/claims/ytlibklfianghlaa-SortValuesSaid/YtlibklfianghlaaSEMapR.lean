-- WRITTEN BY a program of this session (wip/extprint.py, over the kit's print.py); not trusted: Lean checks it.
import Derived.Maps.RangeRun
import Derived.Test.YtlibklfianghlaaSx0
import Derived.Test.YtlibklfianghlaaSEMapS
namespace Go.Proofs.Ytlibklfianghlaa.S
open Go.RowKit Go.Proofs.YtlibklfianghlaaW.PrintWords Go.Proofs.YtlibklfianghlaaW.PrintLast Go.Proofs.YtlibklfianghlaaW.PrintMore
attribute [local go_sem] max2_int min2_int max_two min_two max_three min_three max_four min_four   -- for this text's walks alone
set_option linter.unusedVariables false
set_option linter.unusedSimpArgs false

/-! Ranges over maps with string keys. -/
def unP (x : Value × Value) : ByteArray × Value := match x.1 with | .string k => (k, x.2) | _ => (⟨#[]⟩, x.2)
theorem unP_strP (p : ByteArray × Value) : unP (strP p) = p := rfl
theorem map_unP (l : List MapEntry) (L : List (ByteArray × Value)) (h : l.map kvOf = L.map strP) : L = l.map (fun e => unP (kvOf e)) := by
  have h2 := congrArg (List.map unP) h
  rw [List.map_map, List.map_map] at h2
  have e : (unP ∘ strP) = id := funext unP_strP
  rw [e, List.map_id] at h2
  exact h2.symm
theorem strP_unP {l : List MapEntry} {L : List (ByteArray × Value)} (h : l.map kvOf = L.map strP) : ∀ x ∈ l, strP (unP (kvOf x)) = kvOf x := by
  intro x hx
  have : kvOf x ∈ L.map strP := by rw [← h]; exact List.mem_map_of_mem hx
  obtain ⟨p, _, hp⟩ := List.mem_map.1 this
  rw [← hp, unP_strP]
theorem perm_born (e : MapEntry) : ∀ (l : List MapEntry), (l.map (·.born)).Nodup → e ∈ l → l.Perm (e :: l.filter (fun x => !(x.born == e.born)))
  | [], _, h => by cases h
  | x :: l, hn, h => by
    simp only [List.map_cons, List.nodup_cons] at hn
    rcases List.mem_cons.1 h with rfl | h
    · have e1 : (e :: l).filter (fun x => !(x.born == e.born)) = l := by
        rw [List.filter_cons_of_neg (by simp), List.filter_eq_self]
        intro y hy
        have : y.born ≠ e.born := fun q => hn.1 (q ▸ List.mem_map_of_mem hy)
        simp [this]
      rw [e1]
    · have hne : x.born ≠ e.born := fun q => hn.1 (q ▸ List.mem_map_of_mem h)
      rw [List.filter_cons_of_pos (by simp [hne])]
      exact ((perm_born e l hn.2 h).cons x).trans (List.Perm.swap _ _ _)
/-- A range over a map under way: what is still to come. -/
def IterS (w : World) (r g : Nat) (L rem : List (ByteArray × Value)) : Prop :=
  ∃ es clock since seen c0, w.heap[g]? = some (.map es clock) ∧ es.toList.map kvOf = L.map strP ∧ MapKept.Stamped es clock ∧ w.heap[r]? = some (.mapIter (some g) since seen c0) ∧ (∀ x ∈ es.toList, x.born < since) ∧ (leftOf es seen).toList.map kvOf = rem.map strP ∧ since ≤ c0 ∧ since ≤ clock
theorem IterS.mapS {w : World} {r g : Nat} {L rem : List (ByteArray × Value)} (h : IterS w r g L rem) : MapS w g L := by
  obtain ⟨es, clock, since, seen, c0, h1, h2, h3, _⟩ := h
  exact ⟨es, clock, h1, h2, h3⟩
theorem IterS.lt {w : World} {r g : Nat} {L rem : List (ByteArray × Value)} (h : IterS w r g L rem) : r < w.heap.size := by
  obtain ⟨es, clock, since, seen, c0, h1, h2, h3, h4, _⟩ := h
  exact blk_lt h4
theorem IterS.below {w w1 : World} {r g : Nat} {L rem : List (ByteArray × Value)} (h : IterS w r g L rem) (hb : Below w.heap.size w w1) : IterS w1 r g L rem := by
  obtain ⟨es, clock, since, seen, c0, h1, h2, h3, h4, h5⟩ := h
  exact ⟨es, clock, since, seen, c0, blk_below h1 hb, h2, h3, blk_below h4 hb, h5⟩
theorem IterS.kept {w w1 : World} {r g : Nat} {L rem : List (ByteArray × Value)} {row : Option Nat} (h : IterS w r g L rem) (hg : w.grownBy w1 row) (hne : some g ≠ row) (hnr : some r ≠ row) : IterS w1 r g L rem := by
  obtain ⟨es, clock, since, seen, c0, h1, h2, h3, h4, h5⟩ := h
  exact ⟨es, clock, since, seen, c0, blk_grown h1 hg hne, h2, h3, blk_grown h4 hg hnr, h5⟩
section
variable {P : Program} {ops : Array Oper} {rest : List Oper} {o : Oper} {a : Act} {Q : Exit → Act → World → Prop} {W : World}
theorem MapS.run_range {w : World} {g : Nat} {L : List (ByteArray × Value)} (h : MapS w g L) (t k e : TypeId) (ht : P.underlying t = some (.map k e)) :
    ∃ w1, (Instr.range t (.map (some g))).run P w = .ok (.pointer (some ⟨w.heap.size, 0, none⟩)) w1 ∧ IterS w1 w.heap.size g L L ∧ Below w.heap.size w w1 := by
  obtain ⟨es, clock, hb, hL, hs⟩ := h
  refine ⟨_, run_range_map w t k e g es clock ht hb, ⟨es, clock, clock, #[], clock, blk_alloc hb _, hL, hs, blk_new w _, hs.1, ?_, Nat.le_refl _, Nat.le_refl _⟩, below_alloc (Below.refl _ _) _⟩
  have : leftOf es #[] = es := by simp [leftOf]
  rw [this, hL]
theorem IterS.run_next {w : World} {r g : Nat} {L rem : List (ByteArray × Value)} (h : IterS w r g L rem) (ty : TypeId) :
    (rem = [] ∧ (Instr.next (.pointer (some ⟨r, 0, none⟩)) false ty).run P w = .ok (.tuple #[.bool false]) w) ∨
    ∃ p rem' w', rem.Perm (p :: rem') ∧ (Instr.next (.pointer (some ⟨r, 0, none⟩)) false ty).run P w = .ok (.tuple #[.bool true, .string p.1, p.2]) w' ∧ IterS w' r g L rem' ∧ w.grownBy w' (some r) ∧ w'.heap.size = w.heap.size ∧
      (Instr.entry (.pointer (some ⟨r, 0, none⟩))).run P w' = .ok (.tuple #[.string p.1, p.2]) w' := by
  obtain ⟨es, clock, since, seen, c0, hb, hL, hs, hr, hold, hrem, hsc, hsk⟩ := h
  rcases run_next_at (P := P) w ty r g since c0 seen es clock hr hb hold hsc with ⟨h0, hrun⟩ | ⟨e, he, w1, hal, hrun⟩
  · refine .inl ⟨?_, hrun⟩
    have : leftOf es seen = #[] := Array.eq_empty_of_size_eq_zero h0
    rw [this] at hrem
    cases rem with
    | nil => rfl
    | cons _ _ => cases hrem
  · obtain ⟨hem, hes⟩ := mem_left he
    have hst := hs
    have hr1 : w1.heap[r]? = some (.mapIter (some g) since seen c0) := by rcases hal with rfl | rfl <;> exact hr
    have hb1 : w1.heap[g]? = some (.map es clock) := by rcases hal with rfl | rfl <;> exact hb
    have hne : r ≠ g := by rintro rfl; rw [hb] at hr; cases hr
    have hset := MapKept.heap_set (o' := .mapIter (some g) since (seen.push e.born) clock) hr1
    have hb' := (hset.2 g (fun e1 => hne e1.symm)).trans hb1
    have hkv := strP_unP hrem e he
    have hkk : e.key = .string (unP (kvOf e)).1 := (congrArg Prod.fst hkv).symm
    have hvv : e.val = (unP (kvOf e)).2 := (congrArg Prod.snd hkv).symm
    have hent := run_entry_at (P := P) (Go.ChangeMaps.setBlock w1 r (.mapIter (some g) since (seen.push e.born) clock)) r g since seen es clock e hset.1 hb' hem hst.2.1
    have hl : (leftOf es (seen.push e.born)).toList = (leftOf es seen).toList.filter (fun x => !(x.born == e.born)) := by
      simp only [leftOf, Array.toList_filter, List.filter_filter]
      congr 1
      funext x
      rw [contains_push]
      cases seen.contains x.born <;> cases (x.born == e.born) <;> rfl
    have hnd : ((leftOf es seen).toList.map (·.born)).Nodup := by
      simp only [leftOf, Array.toList_filter]
      exact hst.2.1.sublist (List.Sublist.map _ List.filter_sublist)
    rw [hkk, hvv] at hrun hent
    refine .inr ⟨unP (kvOf e), (leftOf es (seen.push e.born)).toList.map (fun e => unP (kvOf e)), _, ?_, hrun, ⟨es, clock, since, seen.push e.born, clock, hb', hL, hs, hset.1, hold, ?_, hsk, hsk⟩, ?_, ?_, hent⟩
    · rw [map_unP _ _ hrem, hl]
      exact ((perm_born e _ hnd he).map _)
    · rw [List.map_map]
      refine List.map_congr_left fun x hx => ?_
      refine (strP_unP hrem x ?_).symm
      rw [hl] at hx
      exact (List.mem_filter.1 hx).1
    · rcases hal with rfl | rfl <;> exact ⟨rfl, rfl, rfl, by simp [Go.ChangeMaps.setBlock], fun i _ hi => hset.2 i (fun e1 => hi (by rw [e1]))⟩
    · rcases hal with rfl | rfl <;> simp [Go.ChangeMaps.setBlock]
/-- 'map[..]..{}': at 'gate_dst'. -/
theorem map_event (hgd : o.guard = none) (t : TypeId) (ho : o.op = .makeMap t none)
    (h : ∀ g, g = W.heap.size → ∀ w1, MapS w1 g [] → Below W.heap.size W w1 → wpList P ops Q rest (a.put o.dst (.map (some g))) w1) : wpList P ops Q (o :: rest) a W := by
  refine Kd.event_run (v := .map (some W.heap.size)) (w1 := W.alloc (.map #[] 0)) hgd ?_ (h _ rfl _ (MapS.made W) (below_alloc (Below.refl _ _) _))
  simp [execOp, ho, run_makeMap, Result.andThen]
/-- 'range m', behind 'at_range'. -/
theorem wpList_range_S (hgd : o.guard = none) (m : Operand) (t k e : TypeId) (ho : o.op = .range t m) (ht : P.underlying t = some (.map k e)) (g : Nat) (L : List (ByteArray × Value)) (hm : a.eval m = .map (some g)) (hM : MapS W g L)
    (h : ∀ r, r = W.heap.size → ∀ w1, IterS w1 r g L L → Below W.heap.size W w1 → wpList P ops Q rest (a.put o.dst (.pointer (some ⟨r, 0, none⟩))) w1) : wpList P ops Q (o :: rest) a W := by
  refine wpList_plain hgd fun K hK => ?_
  obtain ⟨w1, hr, h1, h2⟩ := hM.run_range t k e ht
  unfold Oper.wp
  simp [execOp, ho, hm, hr, Result.andThen]
  exact hK _ _ (h _ rfl w1 h1 h2)
/-- A step of a range over a map, behind 'at_next'. -/
theorem wpList_next_S (hgd : o.guard = none) (it : Operand) (ho : o.op = .next it false) (r g : Nat) (L rem : List (ByteArray × Value)) (hit : a.eval it = .pointer (some ⟨r, 0, none⟩)) (hI : IterS W r g L rem)
    (hdone : rem = [] → wpList P ops Q rest (a.put o.dst (.tuple #[.bool false])) W)
    (hmore : ∀ p rem' w', rem.Perm (p :: rem') → IterS w' r g L rem' → W.grownBy w' (some r) → w'.heap.size = W.heap.size → (Instr.entry (.pointer (some ⟨r, 0, none⟩))).run P w' = .ok (.tuple #[.string p.1, p.2]) w' → wpList P ops Q rest (a.put o.dst (.tuple #[.bool true, .string p.1, p.2])) w') : wpList P ops Q (o :: rest) a W := by
  refine wpList_plain hgd fun K hK => ?_
  unfold Oper.wp
  rcases hI.run_next (P := P) o.type with ⟨h0, hr⟩ | ⟨p, rem', w', h1, hr, h2, h3, h4, h5⟩
  · simp [execOp, ho, hit, hr, Result.andThen]
    exact hK _ _ (hdone h0)
  · simp [execOp, ho, hit, hr, Result.andThen]
    exact hK _ _ (hmore p rem' w' h1 h2 h3 h4 h5)
end

end Go.Proofs.Ytlibklfianghlaa.S

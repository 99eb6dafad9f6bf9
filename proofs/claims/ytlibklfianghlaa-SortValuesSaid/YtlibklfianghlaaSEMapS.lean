-- WRITTEN BY a program of this session (wip/extprint.py, over the kit's print.py); not trusted: Lean checks it.
import Derived.MapKept
import Derived.Maps.Own
import Derived.Maps.OwnOps
import Derived.Maps.RangeWalk
import Derived.Laws.IdiomRangeMap
import Derived.Test.YtlibklfianghlaaSx0
namespace Go.Proofs.Ytlibklfianghlaa.S
open Go.RowKit Go.Proofs.YtlibklfianghlaaW.PrintWords Go.Proofs.YtlibklfianghlaaW.PrintLast Go.Proofs.YtlibklfianghlaaW.PrintMore
attribute [local go_sem] max2_int min2_int max_two min_two max_three min_three max_four min_four   -- for this text's walks alone
set_option linter.unusedVariables false
set_option linter.unusedSimpArgs false

/-! Maps with string keys, whatever the elements: what they hold, as a list of pairs. -/
def getA : List (ByteArray × Value) → ByteArray → Option Value
  | [], _ => none
  | (a, v) :: r, k => if a = k then some v else getA r k
def setA : List (ByteArray × Value) → ByteArray → Value → List (ByteArray × Value)
  | [], k, v => [(k, v)]
  | (a, x) :: r, k, v => if a = k then (a, v) :: r else (a, x) :: setA r k v
def kvOf (e : MapEntry) : Value × Value := (e.key, e.val)
def strP (p : ByteArray × Value) : Value × Value := (.string p.1, p.2)
def MapS (w : World) (g : Nat) (L : List (ByteArray × Value)) : Prop :=
  ∃ es clock, w.heap[g]? = some (.map es clock) ∧ es.toList.map kvOf = L.map strP ∧ MapKept.Stamped es clock
theorem findNow_A (k : ByteArray) : ∀ (l : List MapEntry) (L : List (ByteArray × Value)) (i : Nat), l.map kvOf = L.map strP →
    (getA L k = none ∧ Instr.findNow .string (.string k) l i = some none ∧ (∀ x ∈ l, x.key ≠ .string k) ∧ ∀ v', setA L k v' = L ++ [(k, v')]) ∨
    ∃ j v e, getA L k = some v ∧ Instr.findNow .string (.string k) l i = some (some (i + j, v)) ∧ l[j]? = some e ∧ e.key = .string k ∧
      ∀ (f : MapEntry → MapEntry) (v' : Value), kvOf (f e) = (.string k, v') → (l.modify j f).map kvOf = (setA L k v').map strP
  | [], [], _, _ => .inl ⟨rfl, rfl, by simp, fun _ => rfl⟩
  | [], _ :: _, _, h => by simp at h
  | _ :: _, [], _, h => by simp at h
  | e :: l, (a, v) :: L, i, h => by
    simp only [List.map_cons, List.cons.injEq] at h
    obtain ⟨h1, h2⟩ := h
    have hk : e.key = .string a := congrArg Prod.fst h1
    have hv : e.val = v := congrArg Prod.snd h1
    by_cases ha : a = k
    · subst ha
      refine .inr ⟨0, v, e, by simp [getA], ?_, rfl, hk, fun f v' hf => ?_⟩
      · simp [Instr.findNow, hk, Instr.sameNow, hv, (MapKept.bytes_beq a a).2 rfl]
      · simp [setA, hf, h2, strP]
    · have hb : (k == a) = false := by
        cases hq : (k == a) with
        | false => rfl
        | true => exact absurd ((MapKept.bytes_beq k a).1 hq).symm ha
      have hne : e.key ≠ .string k := by rw [hk]; intro q; exact ha (by injection q)
      rcases findNow_A k l L (i + 1) h2 with ⟨g1, g2, g3, g4⟩ | ⟨j, v1, e1, g1, g2, g3, g4, g5⟩
      · refine .inl ⟨by simp [getA, ha, g1], by simp [Instr.findNow, hk, Instr.sameNow, hb, g2], ?_, fun v' => by simp [setA, ha, g4]⟩
        intro x hx
        cases hx with
        | head => exact hne
        | tail _ hx => exact g3 x hx
      · refine .inr ⟨j + 1, v1, e1, by simp [getA, ha, g1], by simp [Instr.findNow, hk, Instr.sameNow, hb, g2]; omega, by simpa using g3, g4, fun f v' hf => ?_⟩
        simp only [setA, ha, if_false, List.modify_succ_cons, List.map_cons, List.cons.injEq]
        exact ⟨h1, g5 f v' hf⟩
section
variable {P : Program} {ops : Array Oper} {rest : List Oper} {o : Oper} {a : Act} {Q : Exit → Act → World → Prop} {W : World}
theorem MapS.made (w : World) : MapS (w.alloc (.map #[] 0)) w.heap.size [] := ⟨#[], 0, blk_new w _, rfl, MapKept.stamped_empty 0⟩
theorem MapS.lt {w : World} {g : Nat} {L : List (ByteArray × Value)} (h : MapS w g L) : g < w.heap.size := by
  obtain ⟨es, clock, hb, _⟩ := h
  exact blk_lt hb
theorem MapS.below {w w1 : World} {g : Nat} {L : List (ByteArray × Value)} (h : MapS w g L) (hb : Below w.heap.size w w1) : MapS w1 g L := by
  obtain ⟨es, clock, h1, h2, h3⟩ := h
  exact ⟨es, clock, blk_below h1 hb, h2, h3⟩
theorem MapS.kept {w w1 : World} {g : Nat} {L : List (ByteArray × Value)} {row : Option Nat} (h : MapS w g L) (hg : w.grownBy w1 row) (hne : some g ≠ row) : MapS w1 g L := by
  obtain ⟨es, clock, h1, h2, h3⟩ := h
  exact ⟨es, clock, blk_grown h1 hg hne, h2, h3⟩
theorem MapS.far {w : World} {g : Nat} {L : List (ByteArray × Value)} (h : MapS w g L) {p : Addr} (hne : g ≠ p.block) (u : Value) : MapS (w.setCell p u) g L := by
  obtain ⟨es, clock, h1, h2, h3⟩ := h
  exact ⟨es, clock, (Below.heap_setCell w p u g hne).trans h1, h2, h3⟩
theorem MapS.drewN {w : World} {g : Nat} {L : List (ByteArray × Value)} (h : MapS w g L) (n : Nat) : MapS (w.drewN n) g L := h
/-- A map's block is none of cells. -/
theorem MapS.ne {w : World} {g b t : Nat} {cs : Array Value} {fr : Nat × Nat} {L : List (ByteArray × Value)} (h : MapS w g L) (hb : w.heap[b]? = some (.cells cs t fr)) : g ≠ b := by
  obtain ⟨es, clock, h1, _⟩ := h
  rintro rfl
  rw [h1] at hb
  cases hb
theorem MapS.run_lookup {w : World} {g : Nat} {L : List (ByteArray × Value)} (h : MapS w g L) (t kt et : TypeId) (ht : P.underlying t = some (.map kt et)) (hk : P.underlying kt = some .string) (z : Value) (hz : (zeroValue et).run P w = .ok z w) (k : ByteArray) :
    (Instr.lookup t (.map (some g)) (.string k) true).run P w = .ok (.tuple #[(getA L k).getD z, .bool (getA L k).isSome]) w := by
  obtain ⟨es, clock, hb, hL, _⟩ := h
  have hck := fun e => MapKept.run_checkKey (w := w) (k := .string k) hk (by simp [MapKept.IsKey]) e 9999
  rcases findNow_A k es.toList L 0 hL with ⟨g1, g2, _⟩ | ⟨j, v1, e1, g1, g2, _⟩
  · simp [Instr.lookup, run_underlying ht, MapKept.run_getObj_map hb, hck, MapKept.run_findKey hk g2, Result.andThen, hz, g1]
  · simp [Instr.lookup, run_underlying ht, MapKept.run_getObj_map hb, hck, MapKept.run_findKey hk g2, Result.andThen, g1]
theorem MapS.run_lookup1 {w : World} {g : Nat} {L : List (ByteArray × Value)} (h : MapS w g L) (t kt et : TypeId) (ht : P.underlying t = some (.map kt et)) (hk : P.underlying kt = some .string) (z : Value) (hz : (zeroValue et).run P w = .ok z w) (k : ByteArray) :
    (Instr.lookup t (.map (some g)) (.string k) false).run P w = .ok ((getA L k).getD z) w := by
  obtain ⟨es, clock, hb, hL, _⟩ := h
  have hck := fun e => MapKept.run_checkKey (w := w) (k := .string k) hk (by simp [MapKept.IsKey]) e 9999
  rcases findNow_A k es.toList L 0 hL with ⟨g1, g2, _⟩ | ⟨j, v1, e1, g1, g2, _⟩
  · simp [Instr.lookup, run_underlying ht, MapKept.run_getObj_map hb, hck, MapKept.run_findKey hk g2, Result.andThen, hz, g1]
  · simp [Instr.lookup, run_underlying ht, MapKept.run_getObj_map hb, hck, MapKept.run_findKey hk g2, Result.andThen, g1]
theorem grown_set {w : World} {g : Nat} (o : Obj) : w.grownBy { w with heap := w.heap.setIfInBounds g o } (some g) :=
  ⟨rfl, rfl, rfl, by simp, fun i hi hne => by simp [Array.getElem?_setIfInBounds, show g ≠ i from fun e => hne (by rw [e])]⟩
theorem MapS.run_update {w : World} {g : Nat} {L : List (ByteArray × Value)} (h : MapS w g L) (t kt et : TypeId) (ht : P.underlying t = some (.map kt et)) (hk : P.underlying kt = some .string) (k : ByteArray) (v : Value) :
    ∃ w1, (Instr.mapUpdate t (.map (some g)) (.string k) v).run P w = .ok () w1 ∧ MapS w1 g (setA L k v) ∧ w.grownBy w1 (some g) := by
  obtain ⟨es, clock, hb, hL, hs⟩ := h
  have hck := MapKept.run_checkKey (w := w) (k := .string k) hk (by simp [MapKept.IsKey]) false 9999
  have hi : MapKept.IsKey .string (.string k) := by simp [MapKept.IsKey]
  rcases findNow_A k es.toList L 0 hL with ⟨g1, g2, g3, g4⟩ | ⟨j, v1, e1, g1, g2, g3, g5, g6⟩
  · refine ⟨{ w with heap := w.heap.setIfInBounds g (.map (es.push { key := .string k, val := v, born := clock }) (clock + 1)) }, ?_, ⟨_, _, (MapKept.heap_set hb).1, ?_, MapKept.stamped_push hs g3⟩, grown_set _⟩
    · simp [Instr.mapUpdate, run_underlying ht, MapKept.run_getObj_map hb, hck, MapKept.run_findKey hk g2, MapKept.run_setObj_map _ hb, Result.andThen]
    · simp [g4, hL, kvOf, strP]
  · have hj : es[j]? = some e1 := by simpa using g3
    refine ⟨{ w with heap := w.heap.setIfInBounds g (.map (es.modify j (fun e => { e with key := .string k, val := v })) clock) }, ?_, ⟨_, _, (MapKept.heap_set hb).1, ?_, MapKept.stamped_modify hs _ _ (fun _ _ => rfl) (fun e' _ he' => by rw [hj] at he'; cases he'; exact g5.symm)⟩, grown_set _⟩
    · have g2' : Instr.findNow .string (.string k) es.toList 0 = some (some (j, v1)) := by simpa using g2
      simp [Instr.mapUpdate, run_underlying ht, MapKept.run_getObj_map hb, hck, MapKept.run_findKey hk g2', hj, g5, MapKept.run_keyThatStays hi, MapKept.run_setObj_map _ hb, Result.andThen]
    · rw [Array.toList_modify]
      exact g6 _ v rfl
/-- 'v, ok := m[k]', behind 'at_lookup'. -/
theorem wpList_lookup_S (hgd : o.guard = none) (m x : Operand) (t : TypeId) (ho : o.op = .lookup t m x true) (kt et : TypeId) (ht : P.underlying t = some (.map kt et)) (hk : P.underlying kt = some .string) (z : Value) (hz : ∀ w : World, (zeroValue et).run P w = .ok z w)
    (g : Nat) (L : List (ByteArray × Value)) (hm : a.eval m = .map (some g)) (k : ByteArray) (hx : a.eval x = .string k) (hM : MapS W g L)
    (h : wpList P ops Q rest (a.put o.dst (.tuple #[(getA L k).getD z, .bool (getA L k).isSome])) W) : wpList P ops Q (o :: rest) a W := by
  refine wpList_plain hgd fun K hK => ?_
  unfold Oper.wp
  simp [execOp, ho, hm, hx, hM.run_lookup t kt et ht hk z (hz W) k, Result.andThen]
  exact hK _ _ h
/-- 'm[k] = v', behind 'at_mapUpdate'. -/
theorem wpList_update_S (hgd : o.guard = none) (m x v : Operand) (t : TypeId) (ho : o.op = .mapUpdate t m x v) (kt et : TypeId) (ht : P.underlying t = some (.map kt et)) (hk : P.underlying kt = some .string)
    (g : Nat) (L : List (ByteArray × Value)) (hm : a.eval m = .map (some g)) (k : ByteArray) (hx : a.eval x = .string k) (u : Value) (hv : a.eval v = u) (hM : MapS W g L)
    (h : ∀ w1, MapS w1 g (setA L k u) → W.grownBy w1 (some g) → wpList P ops Q rest (a.put o.dst undef) w1) : wpList P ops Q (o :: rest) a W := by
  refine wpList_plain hgd fun K hK => ?_
  obtain ⟨w1, hr, h1, h2⟩ := hM.run_update t kt et ht hk k u
  unfold Oper.wp
  simp [execOp, ho, hm, hx, hv, hr, Result.andThen]
  exact hK _ _ (h w1 h1 h2)
end

end Go.Proofs.Ytlibklfianghlaa.S

-- WRITTEN BY a program of this session (wip/extprint.py, over the kit's print.py); not trusted: Lean checks it.
import Derived.Laws.Entries
import Derived.Test.YtlibklfianghlaaSx0
namespace Go.Proofs.Ytlibklfianghlaa.S
open Go.RowKit Go.Proofs.YtlibklfianghlaaW.PrintWords Go.Proofs.YtlibklfianghlaaW.PrintLast Go.Proofs.YtlibklfianghlaaW.PrintMore
attribute [local go_sem] max2_int min2_int max_two min_two max_three min_three max_four min_four   -- for this text's walks alone
set_option linter.unusedVariables false
set_option linter.unusedSimpArgs false

/-! A cell that is written twice: for walks that store where they stored. -/
theorem cell_isSome_set (W : World) (p q : Addr) (v : Value) : ((W.setCell p v).cell? q).isSome = (W.cell? q).isSome := by
  simp only [World.cell?, World.setCell, Array.getElem?_modify]
  by_cases hb : p.block = q.block
  · cases ho : W.heap[q.block]? with
    | none => simp [hb]
    | some o =>
      cases o with
      | cells c t f =>
        by_cases hq : q.spot.isSome = true
        · simp [hb, hq]
        · by_cases hp : p.spot.isSome = true
          · simp [hb, hq, hp]
          · simp only [hb, if_true, Option.map_some, hq, hp, Bool.false_eq_true, if_false, Array.getElem?_setIfInBounds]
            by_cases hoff : p.off = q.off
            · simp only [hoff, if_true]
              by_cases hlt : q.off < c.size
              · simp [hlt]
              · simp [hlt]
            · simp [hoff]
      | _ => simp [hb]
  · simp [hb]

end Go.Proofs.Ytlibklfianghlaa.S

-- WRITTEN BY a program of this session (wip/extprint.py, over the kit's print.py); not trusted: Lean checks it.
import Derived.Deep.RegionHeld3
import Derived.Test.YtlibklfianghlaaSx0
import Derived.Test.YtlibklfianghlaaSx3
import Derived.Test.YtlibklfianghlaaSEApply
import Derived.Test.YtlibklfianghlaaSEMath
import Derived.Test.YtlibklfianghlaaSEPure4
import Derived.Test.YtlibklfianghlaaSEPure8
import Derived.Test.YtlibklfianghlaaSEUnifies
import Derived.Test.YtlibklfianghlaaSEUnify
namespace Go.Proofs.Ytlibklfianghlaa.S
open Go.RowKit Go.Proofs.YtlibklfianghlaaW.PrintWords Go.Proofs.YtlibklfianghlaaW.PrintLast Go.Proofs.YtlibklfianghlaaW.PrintMore
attribute [local go_sem] max2_int min2_int max_two min_two max_three min_three max_four min_four   -- for this text's walks alone
set_option linter.unusedVariables false
set_option linter.unusedSimpArgs false

/-! espalierlaw5.other, first: a sort with another name in its variable's place. -/
/-- A literal of one given is read. -/
theorem lit_C {W : World} {g : Nat} {a b : ByteArray} {A : Option Addr} {c : Nat} {t : TypeId} (h : W.heap[g]? = some (.cells #[.string a, .string b, .slice A ([] : List S24).length c] t (0, 0))) (hC : Kd.C k24 W A ([] : List S24).length []) : Kd.C k50 W (some ⟨g, 0, none⟩) 1 [⟨a, ⟨b, []⟩⟩] := by
  refine ⟨rfl, by simp, fun _ => ⟨⟨g, 0, none⟩, rfl, fun j p hj => ?_⟩⟩
  cases j with
  | zero =>
    simp only [List.getElem?_cons_zero, Option.some.injEq] at hj
    subst hj
    refine ⟨_, rfl, k50_mk W ⟨a, ⟨b, []⟩⟩ (A2 := A) (c2 := c) (Nat.zero_le _) hC, ?_⟩
    intro i u hu
    have e := blk_cell h i
    rw [← Array.getElem?_toList] at e
    have e2 : (⟨g, 0, none⟩ : Addr).add (0 * k50.sz + i) = ⟨g, i, none⟩ := by
      rw [Nat.zero_mul, Nat.zero_add]
      unfold Addr.add
      split
      · rename_i h0; rw [h0]
      · simp
    rw [e2, e]
    exact hu
  | succ j => simp at hj
/-- What stays known. -/
structure OtW (w : World) (g1 g2 : Nat) (s : S24) (A : Option Addr) (c : Nat) (wc : World) : Prop where
  h1 : wc.heap[g1]? = some (.cells #[.string s.f0, .slice A s.f1.length c] 24 (0, 0))
  h2 : wc.heap[g2]? = some (.cells #[.string (⟨#[]⟩ : ByteArray), .slice none 0 0] 24 (0, 0))
  hbe : Below w.heap.size w wc
  hg1 : w.heap.size ≤ g1
  hg2 : w.heap.size ≤ g2
theorem OtW.below {w : World} {g1 g2 : Nat} {s : S24} {A : Option Addr} {c : Nat} {wc w1 : World} (h : OtW w g1 g2 s A c wc) (hb : Below wc.heap.size wc w1) : OtW w g1 g2 s A c w1 :=
  ⟨blk_below h.h1 hb, blk_below h.h2 hb, below_step h.hbe hb, h.hg1, h.hg2⟩
theorem OtW.step {w : World} {g1 g2 : Nat} {s : S24} {A : Option Addr} {c : Nat} {wc W w1 : World} (h : OtW w g1 g2 s A c wc) (hb : Below W.heap.size W w1) (h0 : Below wc.heap.size wc W) : OtW w g1 g2 s A c w1 := (h.below h0).below hb
theorem OtW.far {w : World} {g1 g2 : Nat} {s : S24} {A : Option Addr} {c : Nat} {wc : World} {g j : Nat} {u : Value} (h : OtW w g1 g2 s A c wc) (hg : w.heap.size ≤ g ∧ g1 ≠ g ∧ g2 ≠ g) : OtW w g1 g2 s A c (wc.setCell ⟨g, j, none⟩ u) :=
  ⟨blk_far h.h1 hg.2.1 _, blk_far h.h2 hg.2.2 _, below_set h.hbe hg.1, h.hg1, h.hg2⟩
theorem OtW.newer {w : World} {g1 g2 : Nat} {s : S24} {A : Option Addr} {c : Nat} {wc : World} (h : OtW w g1 g2 s A c wc) : w.heap.size ≤ wc.heap.size ∧ g1 ≠ wc.heap.size ∧ g2 ≠ wc.heap.size :=
  ⟨h.hbe.size, Nat.ne_of_lt (blk_lt h.h1), Nat.ne_of_lt (blk_lt h.h2)⟩
theorem OtW.read {w : World} {g1 g2 : Nat} {s : S24} {A : Option Addr} {c : Nat} {wc W : World} (hC : Kd.C k24 w A s.f1.length s.f1) (h : OtW w g1 g2 s A c wc) (h0 : Below wc.heap.size wc W) : Kd.C k24 W A s.f1.length s.f1 := Kd.C_below hC (below_step h.hbe h0)
theorem OtW.cells {w : World} {g1 g2 : Nat} {s : S24} {A : Option Addr} {c : Nat} {wc : World} (h : OtW w g1 g2 s A c wc) : wc.cell? ⟨g1, 0, none⟩ = some (.string s.f0) ∧ wc.cell? ⟨g1, 1, none⟩ = some (.slice A s.f1.length c) :=
  ⟨(blk_cell h.h1 0).trans rfl, (blk_cell h.h1 1).trans rfl⟩
theorem OtW.newer2 {w : World} {g1 g2 : Nat} {s : S24} {A : Option Addr} {c : Nat} {wc : World} (h : OtW w g1 g2 s A c wc) : w.heap.size ≤ wc.heap.size + 1 ∧ g1 ≠ wc.heap.size + 1 ∧ g2 ≠ wc.heap.size + 1 := by
  have a := h.hbe.size
  have b := blk_lt h.h1
  have c := blk_lt h.h2
  exact ⟨by omega, by omega, by omega⟩
theorem newbox {W w2 : World} {g : Nat} {o : Obj} (hb : Below W.heap.size W w2) (h : W.heap[g]? = some o) : w2.heap[g]? = some o ∧ g < W.heap.size := ⟨blk_below h hb, blk_lt h⟩
theorem OtW.lt2 {w : World} {g1 g2 : Nat} {s : S24} {A : Option Addr} {c : Nat} {wc W w1 : World} (h : OtW w g1 g2 s A c wc) (hb : Below W.heap.size W w1) (h0 : Below wc.heap.size wc W) : g2 < W.heap.size := Nat.lt_of_lt_of_le (blk_lt h.h2) h0.size
/-- What was told, stored into a box of the call's own that is older, or new. -/
theorem ot_endA {W w2 : World} {r1 : ByteArray} {r2 : List S24} {Ar : Option Addr} {cr g g2 : Nat} (hN : Kd.N k24 24 w2 W.heap.size (fun k_ => W.heap.size ≤ k_) (.slice Ar r2.length cr) r2) (hg : g < W.heap.size) (hg2 : g2 < W.heap.size) (hz : w2.heap[g]? = some (.cells #[.string (⟨#[]⟩ : ByteArray), .slice none 0 0] 24 (0, 0))) :
    Kd.C k24 ((((w2.setCell ⟨g, 0, none⟩ (.string r1)).setCell ⟨g, 1, none⟩ (.slice Ar r2.length cr)).setCell ⟨g2, 0, none⟩ (.string r1)).setCell ⟨g2, 1, none⟩ (.slice Ar r2.length cr)) Ar r2.length r2 ∧ BoxS ((w2.setCell ⟨g, 0, none⟩ (.string r1)).setCell ⟨g, 1, none⟩ (.slice Ar r2.length cr)) g r1 Ar r2 cr := by
  have n1 := Kd.N_far (p := ⟨g, 1, none⟩) (Kd.N_far (p := ⟨g, 0, none⟩) hN (fun k hk e => absurd hk (by rw [e]; exact Nat.not_le_of_lt hg)) (.string r1)) (fun k hk e => absurd hk (by rw [e]; exact Nat.not_le_of_lt hg)) (.slice Ar r2.length cr)
  have n2 := Kd.N_far (p := ⟨g2, 1, none⟩) (Kd.N_far (p := ⟨g2, 0, none⟩) n1 (fun k hk e => absurd hk (by rw [e]; exact Nat.not_le_of_lt hg2)) (.string r1)) (fun k hk e => absurd hk (by rw [e]; exact Nat.not_le_of_lt hg2)) (.slice Ar r2.length cr)
  exact ⟨(Kd.N_reads' n2).2.2, blk_put (blk_put hz 0 _ rfl) 1 _ rfl, (Kd.N_reads' n1).2.2, (Kd.N_reads' n1).2.1⟩
theorem ot_endB {W w2 : World} {r1 : ByteArray} {r2 : List S24} {Ar : Option Addr} {cr g2 : Nat} (hN : Kd.N k24 24 w2 W.heap.size (fun k_ => W.heap.size ≤ k_) (.slice Ar r2.length cr) r2) (hg2 : g2 < W.heap.size) :
    Kd.C k24 (((w2.alloc (.cells #[.string r1, .slice Ar r2.length cr] 24)).setCell ⟨g2, 0, none⟩ (.string r1)).setCell ⟨g2, 1, none⟩ (.slice Ar r2.length cr)) Ar r2.length r2 ∧ BoxS (w2.alloc (.cells #[.string r1, .slice Ar r2.length cr] 24)) w2.heap.size r1 Ar r2 cr := by
  have n1 := Kd.N_below hN (below_alloc (Below.refl _ _) (.cells #[.string r1, .slice Ar r2.length cr] 24))
  have n2 := Kd.N_far (p := ⟨g2, 1, none⟩) (Kd.N_far (p := ⟨g2, 0, none⟩) n1 (fun k hk e => absurd hk (by rw [e]; exact Nat.not_le_of_lt hg2)) (.string r1)) (fun k hk e => absurd hk (by rw [e]; exact Nat.not_le_of_lt hg2)) (.slice Ar r2.length cr)
  exact ⟨(Kd.N_reads' n2).2.2, blk_new _ _, (Kd.N_reads' n1).2.2, (Kd.N_reads' n1).2.1⟩
/-- A block that a further one leaves. -/
theorem box_old {W : World} {g : Nat} {o o' : Obj} (h : W.heap[g]? = some o) : (W.alloc o').heap[g]? = some o := blk_alloc h o'
set_option maxRecDepth 100000 in
set_option maxHeartbeats 8000000 in
theorem other_walk (s : S24) (r1 : ByteArray) (r2 : List S24) (A : Option Addr) (c : Nat) (w : World) (hC : Kd.C k24 w A s.f1.length s.f1) (hl : s.f1.length ≤ c) (h : sort_Apply.f s.f0 s.f1 [⟨nmA, ⟨nmY, []⟩⟩] = some (r1, r2, 0)) :
    Calls Try.prog 20 #[.agg #[.string s.f0, .slice A s.f1.length c]] w fun e w' => ∃ A' c', e = .returned (.agg #[.string r1, .slice A' r2.length c']) ∧ (r2.length ≤ c' ∧ Kd.C k24 w' A' r2.length r2) ∧ Below w.heap.size w w' := by
  have hu24 := Try.underlying24
  have hu50 := Try.underlying50
  have HX := Aside0.mk h
  have HR := Aside0.mk (And.intro hC hl)
  clear h hC hl
  go_enter Try.func20, Try.ntmps20
  go_upto_region 1 with (fail)
  have T0 := Aside0.mk (show OtW w w.heap.size (w.heap.size + 1) s A c ((w.alloc (.cells #[.string s.f0, .slice A s.f1.length c] 24)).alloc (.cells #[.string (⟨#[]⟩ : ByteArray), .slice none 0 0] 24)) from
    ⟨blk_alloc (blk_new w _) _, r24B w _ _, below2 w _ _, Nat.le_refl _, Nat.le_succ _⟩)
  obtain ⟨g1, hg1⟩ : ∃ g, g = w.heap.size := ⟨_, rfl⟩
  obtain ⟨g2, hg2⟩ : ∃ g, g = w.heap.size + 1 := ⟨_, rfl⟩
  rw [← hg2, ← hg1] at T0 ⊢
  generalize (w.alloc (.cells #[.string s.f0, .slice A s.f1.length c] 24)).alloc (.cells #[.string (⟨#[]⟩ : ByteArray), .slice none 0 0] 24) = w0 at T0 ⊢
  clear hg1 hg2
  go_cut [3, 4] (fun v3 v4 wc => Aside0 (v4 = .int .i64 0 ∧ (∃ g Ax cx, v3 = .pointer (some ⟨g, 0, none⟩) ∧ Kd.C k24 ((wc.setCell ⟨g2, 0, none⟩ (.string r1)).setCell ⟨g2, 1, none⟩ (.slice Ax r2.length cx)) Ax r2.length r2 ∧ BoxS wc g r1 Ax r2 cx) ∧ OtW w g1 g2 s A c wc))
  case first =>
    have T1 := Aside0.mk (T0.out.below (below_drew1 (Below.refl _ _)))
    obtain ⟨w1, hw1⟩ : ∃ w1, w1 = w0.drew := ⟨_, rfl⟩
    go_region_held3 (fun wc => wc.cell? ⟨g1, 0, none⟩ = some (.string s.f0) ∧ wc.cell? ⟨g1, 1, none⟩ = some (.slice A s.f1.length c)) (first | exact OtW.cells T1.out | exact OtW.cells (OtW.below T0.out (below_drew1 (below_alloc (Below.refl _ _) _))) | exact OtW.cells (OtW.far (OtW.far T1.out ZG2.out) ZG2.out) | exact OtW.cells (OtW.far T1.out ZG2.out) | (refine OtW.cells (OtW.below T1.out ?_); (repeat (first | exact Below.refl _ _ | apply below_alloc)); done)) (first | (go_at_call 12; refine (espalierlaw5_named.calls nmY nmY [] _ rfl).mono ?_; rintro e w1_ ⟨vn, rfl, ho, hb⟩; obtain ⟨An, cn, rfl⟩ := Kd.R_slice ho; have HN0 := Aside0.mk (Kd.R_reads' ho).2; (try (have ZB : Aside0 (w1_.heap[w0.heap.size]? = some (.cells #[.string (⟨#[]⟩ : ByteArray), .slice none 0 0] 24)) := ⟨blk_below (blk_drew (blk_new w0 (.cells #[.string (⟨#[]⟩ : ByteArray), .slice none 0 0] 24))) hb⟩; have ZG : Aside0 (w.heap.size ≤ w0.heap.size ∧ g1 ≠ w0.heap.size ∧ g2 ≠ w0.heap.size) := ⟨OtW.newer T0.out⟩)); have T1 := Aside0.mk (OtW.step T0.out hb (by repeat (first | exact Below.refl _ _ | apply below_drew1 | apply below_alloc))); clear ho hb) | (go_at_call 16; refine (sort_Apply.calls s.f0 A c s.f1 _ _ [⟨nmA, ⟨nmY, []⟩⟩] r1 r2 0 _ ?a1 ?a2 ?a3 ?a4 HX.out).mono ?_; (case a1 => exact OtW.read HR.out.1 T1.out (by repeat (first | exact Below.refl _ _ | apply below_alloc))); (case a2 => exact HR.out.2); (case a3 => exact lit_C (by first | exact blk_new _ _ | exact blk_alloc (blk_new _ _) _ | exact r24B _ _ _) (Kd.C_below HN0.out.2 (by repeat (first | exact Below.refl _ _ | apply below_alloc)))); (case a4 => exact Nat.le_refl _); rintro e w2_ ⟨vr, rfl, ho, hb⟩; obtain ⟨Ar, cr, rfl⟩ := Kd.N_slice ho; have HN := Aside0.mk ho; have ZL := Aside0.mk (OtW.lt2 T1.out hb (by repeat (first | exact Below.refl _ _ | apply below_alloc))); (try (first | (have ZB2 := Aside0.mk (newbox hb (g := w0.heap.size) (o := (.cells #[.string (⟨#[]⟩ : ByteArray), .slice none 0 0] 24)) (blk_alloc ZB.out _)); have ZG2 := ZG) | (have ZB2 := Aside0.mk (newbox hb (g := w1_.heap.size) (o := (.cells #[.string (⟨#[]⟩ : ByteArray), .slice none 0 0] 24)) (blk_alloc (blk_new w1_ (.cells #[.string (⟨#[]⟩ : ByteArray), .slice none 0 0] 24)) _)); have ZG2 := Aside0.mk (OtW.newer T1.out)) | (have ZB2 := Aside0.mk (newbox hb (g := w1_.heap.size + 1) (o := (.cells #[.string (⟨#[]⟩ : ByteArray), .slice none 0 0] 24)) (r24B w1_ _ (.cells #[.string (⟨#[]⟩ : ByteArray), .slice none 0 0] 24))); have ZG2 := Aside0.mk (OtW.newer2 T1.out)))); have T1 := Aside0.mk (OtW.step T1.out hb (by repeat (first | exact Below.refl _ _ | apply below_alloc))); clear ho hb; (try (have zc0 := (blk_cell ZB2.out.1 0).trans rfl; have zc1 := (blk_cell ZB2.out.1 1).trans rfl; have zf0 := blk_frozen ZB2.out.1 0; have zf1 := blk_frozen ZB2.out.1 1))))
    all_goals go_wp2_with fail
    all_goals go_meet
    all_goals first
      | exact ⟨rfl, ⟨_, _, _, rfl, (ot_endA HN.out ZB2.out.2 ZL.out ZB2.out.1).1, (ot_endA HN.out ZB2.out.2 ZL.out ZB2.out.1).2⟩, OtW.far (OtW.far T1.out ZG2.out) ZG2.out⟩
      | exact ⟨rfl, ⟨_, _, _, rfl, (ot_endB HN.out ZL.out).1, (ot_endB HN.out ZL.out).2⟩, OtW.below T1.out (below_alloc (Below.refl _ _) _)⟩
  case rest =>
    obtain ⟨rfl, ⟨g, Ax, cx, rfl, hne, hx⟩, hA⟩ := hcut.out
    clear hcut
    have T1 := Aside0.mk hA
    have BX1 := Aside0.mk hx
    have NE := Aside0.mk hne
    clear hA hx hne
    have x0 := (blk_cell BX1.out.1 0).trans rfl
    have x1 := (blk_cell BX1.out.1 1).trans rfl
    have y0 := (blk_cell T1.out.h2 0).trans rfl
    have y1 := (blk_cell T1.out.h2 1).trans rfl
    have f0 := blk_frozen T1.out.h2 0
    have f1 := blk_frozen T1.out.h2 1
    go_step
    go_wp2_with fail
    refine bodyPost_ret (results_cell_row rfl _ _ g2 24 #[.string r1, .slice Ax r2.length cx] (0, 0) _ rfl (blk_put (blk_put T1.out.h2 0 _ rfl) 1 _ rfl) hu24 rfl (by kernel_rfl)) rfl ?_
    exact ⟨Ax, cx, rfl, ⟨BX1.out.2.2, NE.out⟩, below_set (below_set T1.out.hbe T1.out.hg2) T1.out.hg2⟩
set_option maxRecDepth 100000 in
set_option maxHeartbeats 8000000 in
theorem firsty_walk (s : S24) (r1 : ByteArray) (r2 : List S24) (A : Option Addr) (c : Nat) (w : World) (hC : Kd.C k24 w A s.f1.length s.f1) (hl : s.f1.length ≤ c) (h : sort_Apply.f s.f0 s.f1 [⟨nmY, ⟨nmA, []⟩⟩] = some (r1, r2, 0)) :
    Calls Try.prog 22 #[.agg #[.string s.f0, .slice A s.f1.length c]] w fun e w' => ∃ A' c', e = .returned (.agg #[.string r1, .slice A' r2.length c']) ∧ (r2.length ≤ c' ∧ Kd.C k24 w' A' r2.length r2) ∧ Below w.heap.size w w' := by
  have hu24 := Try.underlying24
  have hu50 := Try.underlying50
  have HX := Aside0.mk h
  have HR := Aside0.mk (And.intro hC hl)
  clear h hC hl
  go_enter Try.func22, Try.ntmps22
  go_upto_region 1 with (fail)
  have T0 := Aside0.mk (show OtW w w.heap.size (w.heap.size + 1) s A c ((w.alloc (.cells #[.string s.f0, .slice A s.f1.length c] 24)).alloc (.cells #[.string (⟨#[]⟩ : ByteArray), .slice none 0 0] 24)) from
    ⟨blk_alloc (blk_new w _) _, r24B w _ _, below2 w _ _, Nat.le_refl _, Nat.le_succ _⟩)
  obtain ⟨g1, hg1⟩ : ∃ g, g = w.heap.size := ⟨_, rfl⟩
  obtain ⟨g2, hg2⟩ : ∃ g, g = w.heap.size + 1 := ⟨_, rfl⟩
  rw [← hg2, ← hg1] at T0 ⊢
  generalize (w.alloc (.cells #[.string s.f0, .slice A s.f1.length c] 24)).alloc (.cells #[.string (⟨#[]⟩ : ByteArray), .slice none 0 0] 24) = w0 at T0 ⊢
  clear hg1 hg2
  go_cut [3, 4] (fun v3 v4 wc => Aside0 (v4 = .int .i64 0 ∧ (∃ g Ax cx, v3 = .pointer (some ⟨g, 0, none⟩) ∧ Kd.C k24 ((wc.setCell ⟨g2, 0, none⟩ (.string r1)).setCell ⟨g2, 1, none⟩ (.slice Ax r2.length cx)) Ax r2.length r2 ∧ BoxS wc g r1 Ax r2 cx) ∧ OtW w g1 g2 s A c wc))
  case first =>
    have T1 := Aside0.mk (T0.out.below (below_drew1 (Below.refl _ _)))
    obtain ⟨w1, hw1⟩ : ∃ w1, w1 = w0.drew := ⟨_, rfl⟩
    go_region_held3 (fun wc => wc.cell? ⟨g1, 0, none⟩ = some (.string s.f0) ∧ wc.cell? ⟨g1, 1, none⟩ = some (.slice A s.f1.length c)) (first | exact OtW.cells T1.out | exact OtW.cells (OtW.below T0.out (below_drew1 (below_alloc (Below.refl _ _) _))) | exact OtW.cells (OtW.far (OtW.far T1.out ZG2.out) ZG2.out) | exact OtW.cells (OtW.far T1.out ZG2.out) | (refine OtW.cells (OtW.below T1.out ?_); (repeat (first | exact Below.refl _ _ | apply below_alloc)); done)) (first | (go_at_call 12; refine (espalierlaw5_named.calls nmA nmA [] _ rfl).mono ?_; rintro e w1_ ⟨vn, rfl, ho, hb⟩; obtain ⟨An, cn, rfl⟩ := Kd.R_slice ho; have HN0 := Aside0.mk (Kd.R_reads' ho).2; (try (have ZB : Aside0 (w1_.heap[w0.heap.size]? = some (.cells #[.string (⟨#[]⟩ : ByteArray), .slice none 0 0] 24)) := ⟨blk_below (blk_drew (blk_new w0 (.cells #[.string (⟨#[]⟩ : ByteArray), .slice none 0 0] 24))) hb⟩; have ZG : Aside0 (w.heap.size ≤ w0.heap.size ∧ g1 ≠ w0.heap.size ∧ g2 ≠ w0.heap.size) := ⟨OtW.newer T0.out⟩)); have T1 := Aside0.mk (OtW.step T0.out hb (by repeat (first | exact Below.refl _ _ | apply below_drew1 | apply below_alloc))); clear ho hb) | (go_at_call 16; refine (sort_Apply.calls s.f0 A c s.f1 _ _ [⟨nmY, ⟨nmA, []⟩⟩] r1 r2 0 _ ?a1 ?a2 ?a3 ?a4 HX.out).mono ?_; (case a1 => exact OtW.read HR.out.1 T1.out (by repeat (first | exact Below.refl _ _ | apply below_alloc))); (case a2 => exact HR.out.2); (case a3 => exact lit_C (by first | exact blk_new _ _ | exact blk_alloc (blk_new _ _) _ | exact r24B _ _ _) (Kd.C_below HN0.out.2 (by repeat (first | exact Below.refl _ _ | apply below_alloc)))); (case a4 => exact Nat.le_refl _); rintro e w2_ ⟨vr, rfl, ho, hb⟩; obtain ⟨Ar, cr, rfl⟩ := Kd.N_slice ho; have HN := Aside0.mk ho; have ZL := Aside0.mk (OtW.lt2 T1.out hb (by repeat (first | exact Below.refl _ _ | apply below_alloc))); (try (first | (have ZB2 := Aside0.mk (newbox hb (g := w0.heap.size) (o := (.cells #[.string (⟨#[]⟩ : ByteArray), .slice none 0 0] 24)) (blk_alloc ZB.out _)); have ZG2 := ZG) | (have ZB2 := Aside0.mk (newbox hb (g := w1_.heap.size) (o := (.cells #[.string (⟨#[]⟩ : ByteArray), .slice none 0 0] 24)) (blk_alloc (blk_new w1_ (.cells #[.string (⟨#[]⟩ : ByteArray), .slice none 0 0] 24)) _)); have ZG2 := Aside0.mk (OtW.newer T1.out)) | (have ZB2 := Aside0.mk (newbox hb (g := w1_.heap.size + 1) (o := (.cells #[.string (⟨#[]⟩ : ByteArray), .slice none 0 0] 24)) (r24B w1_ _ (.cells #[.string (⟨#[]⟩ : ByteArray), .slice none 0 0] 24))); have ZG2 := Aside0.mk (OtW.newer2 T1.out)))); have T1 := Aside0.mk (OtW.step T1.out hb (by repeat (first | exact Below.refl _ _ | apply below_alloc))); clear ho hb; (try (have zc0 := (blk_cell ZB2.out.1 0).trans rfl; have zc1 := (blk_cell ZB2.out.1 1).trans rfl; have zf0 := blk_frozen ZB2.out.1 0; have zf1 := blk_frozen ZB2.out.1 1))))
    all_goals go_wp2_with fail
    all_goals go_meet
    all_goals first
      | exact ⟨rfl, ⟨_, _, _, rfl, (ot_endA HN.out ZB2.out.2 ZL.out ZB2.out.1).1, (ot_endA HN.out ZB2.out.2 ZL.out ZB2.out.1).2⟩, OtW.far (OtW.far T1.out ZG2.out) ZG2.out⟩
      | exact ⟨rfl, ⟨_, _, _, rfl, (ot_endB HN.out ZL.out).1, (ot_endB HN.out ZL.out).2⟩, OtW.below T1.out (below_alloc (Below.refl _ _) _)⟩
  case rest =>
    obtain ⟨rfl, ⟨g, Ax, cx, rfl, hne, hx⟩, hA⟩ := hcut.out
    clear hcut
    have T1 := Aside0.mk hA
    have BX1 := Aside0.mk hx
    have NE := Aside0.mk hne
    clear hA hx hne
    have x0 := (blk_cell BX1.out.1 0).trans rfl
    have x1 := (blk_cell BX1.out.1 1).trans rfl
    have y0 := (blk_cell T1.out.h2 0).trans rfl
    have y1 := (blk_cell T1.out.h2 1).trans rfl
    have f0 := blk_frozen T1.out.h2 0
    have f1 := blk_frozen T1.out.h2 1
    go_step
    go_wp2_with fail
    refine bodyPost_ret (results_cell_row rfl _ _ g2 24 #[.string r1, .slice Ax r2.length cx] (0, 0) _ rfl (blk_put (blk_put T1.out.h2 0 _ rfl) 1 _ rfl) hu24 rfl (by kernel_rfl)) rfl ?_
    exact ⟨Ax, cx, rfl, ⟨BX1.out.2.2, NE.out⟩, below_set (below_set T1.out.hbe T1.out.hg2) T1.out.hg2⟩
theorem add0 (a : Addr) : a.add 0 = a := by unfold Addr.add; rw [if_pos rfl]
theorem three0 (w : World) (A B D : Obj) : (((w.alloc A).alloc B).alloc D).heap[w.heap.size + 1 + 1]? = some D := by simpa using blk_new ((w.alloc A).alloc B) D
theorem below3 (w : World) (A B D : Obj) : Below w.heap.size w (((w.alloc A).alloc B).alloc D) := below_alloc (below2 w A B) D
set_option maxRecDepth 100000 in
set_option maxHeartbeats 8000000 in
theorem apart_walk (s f : S24) (m : Nat) (x : ByteArray) (hf : chainT 65 f.f0 f.f1 = some (m, x)) (r1 : ByteArray) (r2 : List S24) (A A3 : Option Addr) (c c3 : Nat) (w : World) (hC : Kd.C k24 w A s.f1.length s.f1) (hl : s.f1.length ≤ c) (hC3 : Kd.C k24 w A3 f.f1.length f.f1) (hl3 : f.f1.length ≤ c3) (h : sort_Apply.f s.f0 s.f1 [⟨nmA, ⟨if x = nmY then nmX else nmY, []⟩⟩] = some (r1, r2, 0)) :
    Calls Try.prog 19 #[.agg #[.string s.f0, .slice A s.f1.length c], .agg #[.string f.f0, .slice A3 f.f1.length c3]] w fun e w' => ∃ A' c', e = .returned (.agg #[.string r1, .slice A' r2.length c']) ∧ (r2.length ≤ c' ∧ Kd.C k24 w' A' r2.length r2) ∧ Below w.heap.size w w' := by
  have hu24 := Try.underlying24
  have hu50 := Try.underlying50
  obtain rfl : f = wholeT m x := by
    have := (chainT_le 65 _ _ m x hf).2.2
    rw [eta24, eta24] at this
    exact this
  have HX := Aside0.mk h
  have HR := Aside0.mk (And.intro hC hl)
  have HR3 := Aside0.mk (And.intro hC3 hl3)
  clear h hC hl hC3 hl3 hf
  go_enter Try.func19, Try.ntmps19
  go_wp2_with fail
  have T0 := Aside0.mk (show OtW w w.heap.size (w.heap.size + 1 + 1) s A c (((w.alloc (.cells #[.string s.f0, .slice A s.f1.length c] 24)).alloc (.cells #[.string (wholeT m x).f0, .slice A3 (wholeT m x).f1.length c3] 24)).alloc (.cells #[.string (⟨#[]⟩ : ByteArray), .slice none 0 0] 24)) from
    ⟨blk_alloc (blk_alloc (blk_new w _) _) _, three0 w _ _ _, below3 w _ _ _, Nat.le_refl _, Nat.le_add_right _ 2⟩)
  have F0 := Aside0.mk (show (((w.alloc (.cells #[.string s.f0, .slice A s.f1.length c] 24)).alloc (.cells #[.string (wholeT m x).f0, .slice A3 (wholeT m x).f1.length c3] 24)).alloc (.cells #[.string (⟨#[]⟩ : ByteArray), .slice none 0 0] 24)).heap[w.heap.size + 1]? = some (.cells #[.string (wholeT m x).f0, .slice A3 (wholeT m x).f1.length c3] 24) from blk_alloc (r24B w _ _) _)
  obtain ⟨g1, hg1⟩ : ∃ g, g = w.heap.size := ⟨_, rfl⟩
  obtain ⟨g2, hg2⟩ : ∃ g, g = w.heap.size + 1 + 1 := ⟨_, rfl⟩
  obtain ⟨g3, hg3⟩ : ∃ g, g = w.heap.size + 1 := ⟨_, rfl⟩
  have HG := Aside0.mk (show w.heap.size ≤ g3 ∧ g1 ≠ g3 ∧ g2 ≠ g3 from ⟨by omega, by omega, by omega⟩)
  rw [← hg2, ← hg1] at T0
  rw [← hg3] at F0
  rw [← hg2, ← hg3, ← hg1]
  generalize ((w.alloc (.cells #[.string s.f0, .slice A s.f1.length c] 24)).alloc (.cells #[.string (wholeT m x).f0, .slice A3 (wholeT m x).f1.length c3] 24)).alloc (.cells #[.string (⟨#[]⟩ : ByteArray), .slice none 0 0] 24) = w0 at T0 F0 ⊢
  clear hg1 hg2 hg3
  go_loopg [] m (fun kq wc => Aside0 (OtW w g1 g2 s A c wc ∧ ∃ A' c', wc.heap[g3]? = some (.cells #[.string (wholeT kq x).f0, .slice A' (wholeT kq x).f1.length c'] 24 (0, 0)) ∧ (wholeT kq x).f1.length ≤ c' ∧ Kd.C k24 w A' (wholeT kq x).f1.length (wholeT kq x).f1))
  case atStart => exact ⟨T0.out, A3, c3, F0.out, HR3.out.2, HR3.out.1⟩
  case round =>
    obtain ⟨hT, A', c', hbk, hlc, hC'⟩ := hrel.out
    clear hrel T0 F0
    have T1 := Aside0.mk hT
    have BF := Aside0.mk hbk
    clear hT hbk
    cases gk with
    | succ k1 =>
      have e1 : (wholeT (k1 + 1) x).f1 = [wholeT k1 x] := rfl
      have e0 : (wholeT (k1 + 1) x).f0 = listB := rfl
      rw [e1] at hlc hC'
      have BF1 := Aside0.mk (show wr.heap[g3]? = some (.cells #[.string listB, .slice A' [wholeT k1 x].length c'] 24 (0, 0)) from BF.out)
      clear BF e0 e1
      have hCw := Kd.C_below hC' T1.out.hbe
      obtain ⟨ad, A2, c2, eA, cx0, cx1, hl2, _⟩ := at_T24 hCw 0 (Int.le_refl 0) (by simp)
      obtain ⟨ad', A2', c2', eA', cy0, cy1, _, hiw⟩ := at_T24 hC' 0 (Int.le_refl 0) (by simp)
      have e2 : rd_T24 [wholeT k1 x] 0 = wholeT k1 x := rfl
      obtain rfl : ad' = ad := Option.some.inj (eA'.symm.trans eA)
      have hB2 : A2' = A2 := by
        have := pw_cell_below T1.out.hbe cy1
        rw [this] at cx1
        injection cx1 with h1
        injection h1 with h2
      subst hB2
      clear cy0 cy1 eA'
      cases eA
      rw [e2] at cx0 cx1 hl2 hiw
      rw [show ((0 : Int)).toNat = 0 from rfl, show 0 * 2 = 0 from rfl, Addr.add_zero'] at cx0 cx1
      have HI := Aside0.mk (And.intro hl2 hiw)
      clear hl2 hiw hCw hC' e2
      have hcl := Aside0.mk hlc
      clear hlc
      have b0 := (blk_cell BF1.out 0).trans rfl
      have b1 := (blk_cell BF1.out 1).trans rfl
      have bf0 := blk_frozen BF1.out 0
      have bf1 := blk_frozen BF1.out 1
      go_wp2
      go_roundg k1
      case measure => omega
      case rel => exact ⟨⟨OtW.far (OtW.far T1.out HG.out) HG.out, A2', c2, blk_put (blk_put BF1.out 0 _ rfl) 1 _ rfl, HI.out⟩⟩
    | zero =>
      have BF1 := Aside0.mk (show wr.heap[g3]? = some (.cells #[.string x, .slice A' 0 c'] 24 (0, 0)) from BF.out)
      clear BF hlc hC'
      have b0 := (blk_cell BF1.out 0).trans rfl
      have b1 := (blk_cell BF1.out 1).trans rfl
      by_cases hx : x = nmY
      · have cx : (x.toList == ([121] : List UInt8)) = true := by rw [hx, ByteArray.toList_eq]; rfl
        rw [if_pos hx] at HX
        clear hx
        obtain ⟨w0, rfl⟩ : ∃ w', w' = wr := ⟨_, rfl⟩
        have T0 := T1
        go_upto_region 6 with (fail)
        clear cx b0 b1
        go_cut [6, 7] (fun v6 v7 wc => Aside0 (v7 = .int .i64 0 ∧ (∃ g Ax cx, v6 = .pointer (some ⟨g, 0, none⟩) ∧ Kd.C k24 ((wc.setCell ⟨g2, 0, none⟩ (.string r1)).setCell ⟨g2, 1, none⟩ (.slice Ax r2.length cx)) Ax r2.length r2 ∧ BoxS wc g r1 Ax r2 cx) ∧ OtW w g1 g2 s A c wc))
        case first =>
          have T1 := Aside0.mk (T0.out.below (below_drew1 (Below.refl _ _)))
          obtain ⟨w1, hw1⟩ : ∃ w1, w1 = w0.drew := ⟨_, rfl⟩
          go_region_held3 (fun wc => wc.cell? ⟨g1, 0, none⟩ = some (.string s.f0) ∧ wc.cell? ⟨g1, 1, none⟩ = some (.slice A s.f1.length c)) (first | exact OtW.cells T1.out | exact OtW.cells (OtW.below T0.out (below_drew1 (below_alloc (Below.refl _ _) _))) | exact OtW.cells (OtW.far (OtW.far T1.out ZG2.out) ZG2.out) | exact OtW.cells (OtW.far T1.out ZG2.out) | (refine OtW.cells (OtW.below T1.out ?_); (repeat (first | exact Below.refl _ _ | apply below_alloc)); done)) (first | (go_at_call 12; refine (espalierlaw5_named.calls nmX nmX [] _ rfl).mono ?_; rintro e w1_ ⟨vn, rfl, ho, hb⟩; obtain ⟨An, cn, rfl⟩ := Kd.R_slice ho; have HN0 := Aside0.mk (Kd.R_reads' ho).2; (try (have ZB : Aside0 (w1_.heap[w0.heap.size]? = some (.cells #[.string (⟨#[]⟩ : ByteArray), .slice none 0 0] 24)) := ⟨blk_below (blk_drew (blk_new w0 (.cells #[.string (⟨#[]⟩ : ByteArray), .slice none 0 0] 24))) hb⟩; have ZG : Aside0 (w.heap.size ≤ w0.heap.size ∧ g1 ≠ w0.heap.size ∧ g2 ≠ w0.heap.size) := ⟨OtW.newer T0.out⟩)); have T1 := Aside0.mk (OtW.step T0.out hb (by repeat (first | exact Below.refl _ _ | apply below_drew1 | apply below_alloc))); clear ho hb) | (go_at_call 16; refine (sort_Apply.calls s.f0 A c s.f1 _ _ [⟨nmA, ⟨nmX, []⟩⟩] r1 r2 0 _ ?a1 ?a2 ?a3 ?a4 HX.out).mono ?_; (case a1 => exact OtW.read HR.out.1 T1.out (by repeat (first | exact Below.refl _ _ | apply below_alloc))); (case a2 => exact HR.out.2); (case a3 => exact lit_C (by first | exact blk_new _ _ | exact blk_alloc (blk_new _ _) _ | exact r24B _ _ _) (Kd.C_below HN0.out.2 (by repeat (first | exact Below.refl _ _ | apply below_alloc)))); (case a4 => exact Nat.le_refl _); rintro e w2_ ⟨vr, rfl, ho, hb⟩; obtain ⟨Ar, cr, rfl⟩ := Kd.N_slice ho; have HN := Aside0.mk ho; have ZL := Aside0.mk (OtW.lt2 T1.out hb (by repeat (first | exact Below.refl _ _ | apply below_alloc))); (try (first | (have ZB2 := Aside0.mk (newbox hb (g := w0.heap.size) (o := (.cells #[.string (⟨#[]⟩ : ByteArray), .slice none 0 0] 24)) (blk_alloc ZB.out _)); have ZG2 := ZG) | (have ZB2 := Aside0.mk (newbox hb (g := w1_.heap.size) (o := (.cells #[.string (⟨#[]⟩ : ByteArray), .slice none 0 0] 24)) (blk_alloc (blk_new w1_ (.cells #[.string (⟨#[]⟩ : ByteArray), .slice none 0 0] 24)) _)); have ZG2 := Aside0.mk (OtW.newer T1.out)) | (have ZB2 := Aside0.mk (newbox hb (g := w1_.heap.size + 1) (o := (.cells #[.string (⟨#[]⟩ : ByteArray), .slice none 0 0] 24)) (r24B w1_ _ (.cells #[.string (⟨#[]⟩ : ByteArray), .slice none 0 0] 24))); have ZG2 := Aside0.mk (OtW.newer2 T1.out)))); have T1 := Aside0.mk (OtW.step T1.out hb (by repeat (first | exact Below.refl _ _ | apply below_alloc))); clear ho hb; (try (have zc0 := (blk_cell ZB2.out.1 0).trans rfl; have zc1 := (blk_cell ZB2.out.1 1).trans rfl; have zf0 := blk_frozen ZB2.out.1 0; have zf1 := blk_frozen ZB2.out.1 1))))
          all_goals go_wp2_with fail
          all_goals go_meet
          all_goals first
            | exact ⟨rfl, ⟨_, _, _, rfl, (ot_endA HN.out ZB2.out.2 ZL.out ZB2.out.1).1, (ot_endA HN.out ZB2.out.2 ZL.out ZB2.out.1).2⟩, OtW.far (OtW.far T1.out ZG2.out) ZG2.out⟩
            | exact ⟨rfl, ⟨_, _, _, rfl, (ot_endB HN.out ZL.out).1, (ot_endB HN.out ZL.out).2⟩, OtW.below T1.out (below_alloc (Below.refl _ _) _)⟩
        case rest =>
          obtain ⟨rfl, ⟨g, Ax, cx, rfl, hne, hx⟩, hA⟩ := hcut.out
          clear hcut
          have T1 := Aside0.mk hA
          have BX1 := Aside0.mk hx
          have NE := Aside0.mk hne
          clear hA hx hne
          have x0 := (blk_cell BX1.out.1 0).trans rfl
          have x1 := (blk_cell BX1.out.1 1).trans rfl
          have y0 := (blk_cell T1.out.h2 0).trans rfl
          have y1 := (blk_cell T1.out.h2 1).trans rfl
          have f0 := blk_frozen T1.out.h2 0
          have f1 := blk_frozen T1.out.h2 1
          go_step
          go_wp2_with fail
          refine bodyPost_ret (results_cell_row rfl _ _ g2 24 #[.string r1, .slice Ax r2.length cx] (0, 0) _ rfl (blk_put (blk_put T1.out.h2 0 _ rfl) 1 _ rfl) hu24 rfl (by kernel_rfl)) rfl ?_
          exact ⟨Ax, cx, rfl, ⟨BX1.out.2.2, NE.out⟩, below_set (below_set T1.out.hbe T1.out.hg2) T1.out.hg2⟩

      · have cx : (x.toList == ([121] : List UInt8)) = false := beq_eq_false_iff_ne.mpr (fun e => hx (toList_inj (by rw [e]; unfold nmY; rw [ByteArray.toList_eq])))
        rw [if_neg hx] at HX
        clear hx
        obtain ⟨w0, rfl⟩ : ∃ w', w' = wr := ⟨_, rfl⟩
        have T0 := T1
        go_upto_region 6 with (fail)
        clear cx b0 b1
        go_cut [6, 7] (fun v6 v7 wc => Aside0 (v7 = .int .i64 0 ∧ (∃ g Ax cx, v6 = .pointer (some ⟨g, 0, none⟩) ∧ Kd.C k24 ((wc.setCell ⟨g2, 0, none⟩ (.string r1)).setCell ⟨g2, 1, none⟩ (.slice Ax r2.length cx)) Ax r2.length r2 ∧ BoxS wc g r1 Ax r2 cx) ∧ OtW w g1 g2 s A c wc))
        case first =>
          have T1 := Aside0.mk (T0.out.below (below_drew1 (Below.refl _ _)))
          obtain ⟨w1, hw1⟩ : ∃ w1, w1 = w0.drew := ⟨_, rfl⟩
          go_region_held3 (fun wc => wc.cell? ⟨g1, 0, none⟩ = some (.string s.f0) ∧ wc.cell? ⟨g1, 1, none⟩ = some (.slice A s.f1.length c)) (first | exact OtW.cells T1.out | exact OtW.cells (OtW.below T0.out (below_drew1 (below_alloc (Below.refl _ _) _))) | exact OtW.cells (OtW.far (OtW.far T1.out ZG2.out) ZG2.out) | exact OtW.cells (OtW.far T1.out ZG2.out) | (refine OtW.cells (OtW.below T1.out ?_); (repeat (first | exact Below.refl _ _ | apply below_alloc)); done)) (first | (go_at_call 12; refine (espalierlaw5_named.calls nmY nmY [] _ rfl).mono ?_; rintro e w1_ ⟨vn, rfl, ho, hb⟩; obtain ⟨An, cn, rfl⟩ := Kd.R_slice ho; have HN0 := Aside0.mk (Kd.R_reads' ho).2; (try (have ZB : Aside0 (w1_.heap[w0.heap.size]? = some (.cells #[.string (⟨#[]⟩ : ByteArray), .slice none 0 0] 24)) := ⟨blk_below (blk_drew (blk_new w0 (.cells #[.string (⟨#[]⟩ : ByteArray), .slice none 0 0] 24))) hb⟩; have ZG : Aside0 (w.heap.size ≤ w0.heap.size ∧ g1 ≠ w0.heap.size ∧ g2 ≠ w0.heap.size) := ⟨OtW.newer T0.out⟩)); have T1 := Aside0.mk (OtW.step T0.out hb (by repeat (first | exact Below.refl _ _ | apply below_drew1 | apply below_alloc))); clear ho hb) | (go_at_call 16; refine (sort_Apply.calls s.f0 A c s.f1 _ _ [⟨nmA, ⟨nmY, []⟩⟩] r1 r2 0 _ ?a1 ?a2 ?a3 ?a4 HX.out).mono ?_; (case a1 => exact OtW.read HR.out.1 T1.out (by repeat (first | exact Below.refl _ _ | apply below_alloc))); (case a2 => exact HR.out.2); (case a3 => exact lit_C (by first | exact blk_new _ _ | exact blk_alloc (blk_new _ _) _ | exact r24B _ _ _) (Kd.C_below HN0.out.2 (by repeat (first | exact Below.refl _ _ | apply below_alloc)))); (case a4 => exact Nat.le_refl _); rintro e w2_ ⟨vr, rfl, ho, hb⟩; obtain ⟨Ar, cr, rfl⟩ := Kd.N_slice ho; have HN := Aside0.mk ho; have ZL := Aside0.mk (OtW.lt2 T1.out hb (by repeat (first | exact Below.refl _ _ | apply below_alloc))); (try (first | (have ZB2 := Aside0.mk (newbox hb (g := w0.heap.size) (o := (.cells #[.string (⟨#[]⟩ : ByteArray), .slice none 0 0] 24)) (blk_alloc ZB.out _)); have ZG2 := ZG) | (have ZB2 := Aside0.mk (newbox hb (g := w1_.heap.size) (o := (.cells #[.string (⟨#[]⟩ : ByteArray), .slice none 0 0] 24)) (blk_alloc (blk_new w1_ (.cells #[.string (⟨#[]⟩ : ByteArray), .slice none 0 0] 24)) _)); have ZG2 := Aside0.mk (OtW.newer T1.out)) | (have ZB2 := Aside0.mk (newbox hb (g := w1_.heap.size + 1) (o := (.cells #[.string (⟨#[]⟩ : ByteArray), .slice none 0 0] 24)) (r24B w1_ _ (.cells #[.string (⟨#[]⟩ : ByteArray), .slice none 0 0] 24))); have ZG2 := Aside0.mk (OtW.newer2 T1.out)))); have T1 := Aside0.mk (OtW.step T1.out hb (by repeat (first | exact Below.refl _ _ | apply below_alloc))); clear ho hb; (try (have zc0 := (blk_cell ZB2.out.1 0).trans rfl; have zc1 := (blk_cell ZB2.out.1 1).trans rfl; have zf0 := blk_frozen ZB2.out.1 0; have zf1 := blk_frozen ZB2.out.1 1))))
          all_goals go_wp2_with fail
          all_goals go_meet
          all_goals first
            | exact ⟨rfl, ⟨_, _, _, rfl, (ot_endA HN.out ZB2.out.2 ZL.out ZB2.out.1).1, (ot_endA HN.out ZB2.out.2 ZL.out ZB2.out.1).2⟩, OtW.far (OtW.far T1.out ZG2.out) ZG2.out⟩
            | exact ⟨rfl, ⟨_, _, _, rfl, (ot_endB HN.out ZL.out).1, (ot_endB HN.out ZL.out).2⟩, OtW.below T1.out (below_alloc (Below.refl _ _) _)⟩
        case rest =>
          obtain ⟨rfl, ⟨g, Ax, cx, rfl, hne, hx⟩, hA⟩ := hcut.out
          clear hcut
          have T1 := Aside0.mk hA
          have BX1 := Aside0.mk hx
          have NE := Aside0.mk hne
          clear hA hx hne
          have x0 := (blk_cell BX1.out.1 0).trans rfl
          have x1 := (blk_cell BX1.out.1 1).trans rfl
          have y0 := (blk_cell T1.out.h2 0).trans rfl
          have y1 := (blk_cell T1.out.h2 1).trans rfl
          have f0 := blk_frozen T1.out.h2 0
          have f1 := blk_frozen T1.out.h2 1
          go_step
          go_wp2_with fail
          refine bodyPost_ret (results_cell_row rfl _ _ g2 24 #[.string r1, .slice Ax r2.length cx] (0, 0) _ rfl (blk_put (blk_put T1.out.h2 0 _ rfl) 1 _ rfl) hu24 rfl (by kernel_rfl)) rfl ?_
          exact ⟨Ax, cx, rfl, ⟨BX1.out.2.2, NE.out⟩, below_set (below_set T1.out.hbe T1.out.hg2) T1.out.hg2⟩


end Go.Proofs.Ytlibklfianghlaa.S

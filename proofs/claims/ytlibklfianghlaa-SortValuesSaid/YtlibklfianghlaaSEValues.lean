-- WRITTEN BY a program of this session (wip/extprint.py, over the kit's print.py); not trusted: Lean checks it.
import Derived.Test.YtlibklfianghlaaSx0
import Derived.Test.YtlibklfianghlaaSx3
import Derived.Test.YtlibklfianghlaaSx4
import Derived.Test.YtlibklfianghlaaSx5
import Derived.Test.YtlibklfianghlaaSx6
import Derived.Test.YtlibklfianghlaaSEApply
import Derived.Test.YtlibklfianghlaaSEMath
import Derived.Test.YtlibklfianghlaaSEPure8
import Derived.Test.YtlibklfianghlaaSEUnifies
import Derived.Test.YtlibklfianghlaaSEUnify
import Derived.Test.YtlibklfianghlaaSEVal1
namespace Go.Proofs.Ytlibklfianghlaa.S
open Go.RowKit Go.Proofs.YtlibklfianghlaaW.PrintWords Go.Proofs.YtlibklfianghlaaW.PrintLast Go.Proofs.YtlibklfianghlaaW.PrintMore
attribute [local go_sem] max2_int min2_int max_two min_two max_three min_three max_four min_four   -- for this text's walks alone
set_option linter.unusedVariables false
set_option linter.unusedSimpArgs false

/-! SortValues' walk -/
/-- A literal of two values is read. -/
theorem lit2_C {W : World} {g : Nat} {p q : S40} {A B : Option Addr} {c d : Nat} {t : TypeId} (h : W.heap[g]? = some (.cells #[.int .i64 p.f0, .int .i64 p.f1, .string p.f2, .slice A p.f3.length c, .int .i64 q.f0, .int .i64 q.f1, .string q.f2, .slice B q.f3.length d] t (0, 0))) (hp : Kd.C k40 W A p.f3.length p.f3) (hq : Kd.C k40 W B q.f3.length q.f3) (hc : p.f3.length ≤ c) (hd : q.f3.length ≤ d) : Kd.C k40 W (some ⟨g, 0, none⟩) 2 [p, q] := by
  have at_ : ∀ n : Nat, (⟨g, 0, none⟩ : Addr).add n = ⟨g, n, none⟩ := by
    intro n
    unfold Addr.add
    split
    · rename_i h0; rw [h0]
    · simp
  refine ⟨rfl, by simp, fun _ => ⟨⟨g, 0, none⟩, rfl, fun j x hj => ?_⟩⟩
  match j with
  | 0 =>
    simp only [List.getElem?_cons_zero, Option.some.injEq] at hj
    subst hj
    refine ⟨_, rfl, k40_mk W p hc hp, ?_⟩
    intro i u hu
    rw [show (0 * k40.sz + i) = i by omega, at_, blk_cell h i, ← Array.getElem?_toList]
    have hi : i < 4 := (List.getElem?_eq_some_iff.1 hu).1
    match i, hi with
    | 0, _ => exact hu
    | 1, _ => exact hu
    | 2, _ => exact hu
    | 3, _ => exact hu
  | 1 =>
    simp only [List.getElem?_cons_succ, List.getElem?_cons_zero, Option.some.injEq] at hj
    subst hj
    refine ⟨_, rfl, k40_mk W q hd hq, ?_⟩
    intro i u hu
    have hs : k40.sz = 4 := rfl
    rw [hs, show (1 * 4 + i) = 4 + i by omega, at_, blk_cell h (4 + i), ← Array.getElem?_toList]
    have hi : i < 4 := (List.getElem?_eq_some_iff.1 hu).1
    match i, hi with
    | 0, _ => exact hu
    | 1, _ => exact hu
    | 2, _ => exact hu
    | 3, _ => exact hu
  | j + 2 => simp at hj
/-- What stays known. -/
structure VsW (w : World) (g3 g4 g5 : Nat) (p q : S40) (s : S24) (A3 A4 A5 : Option Addr) (c3 c4 c5 : Nat) (wc : World) : Prop where
  h3 : wc.heap[g3]? = some (.cells #[.int .i64 p.f0, .int .i64 p.f1, .string p.f2, .slice A3 p.f3.length c3] 40 (0, 0))
  h4 : wc.heap[g4]? = some (.cells #[.int .i64 q.f0, .int .i64 q.f1, .string q.f2, .slice A4 q.f3.length c4] 40 (0, 0))
  h5 : wc.heap[g5]? = some (.cells #[.string s.f0, .slice A5 s.f1.length c5] 24 (0, 0))
  hp : Kd.C k40 wc A3 p.f3.length p.f3
  hq : Kd.C k40 wc A4 q.f3.length q.f3
  hs : Kd.C k24 wc A5 s.f1.length s.f1
  lp : p.f3.length ≤ c3
  lq : q.f3.length ≤ c4
  ls : s.f1.length ≤ c5
  hbe : Below w.heap.size w wc
theorem VsW.below {w : World} {g3 g4 g5 : Nat} {p q : S40} {s : S24} {A3 A4 A5 : Option Addr} {c3 c4 c5 : Nat} {wc w1 : World} (h : VsW w g3 g4 g5 p q s A3 A4 A5 c3 c4 c5 wc) (hb : Below wc.heap.size wc w1) : VsW w g3 g4 g5 p q s A3 A4 A5 c3 c4 c5 w1 :=
  ⟨blk_below h.h3 hb, blk_below h.h4 hb, blk_below h.h5 hb, Kd.C_below h.hp hb, Kd.C_below h.hq hb, Kd.C_below h.hs hb, h.lp, h.lq, h.ls, below_step h.hbe hb⟩
theorem VsW.cells {w : World} {g3 g4 g5 : Nat} {p q : S40} {s : S24} {A3 A4 A5 : Option Addr} {c3 c4 c5 : Nat} {wc : World} (h : VsW w g3 g4 g5 p q s A3 A4 A5 c3 c4 c5 wc) : wc.cell? ⟨g3, 0, none⟩ = some (.int .i64 p.f0) ∧ wc.cell? ⟨g3, 1, none⟩ = some (.int .i64 p.f1) ∧ wc.cell? ⟨g3, 2, none⟩ = some (.string p.f2) ∧ wc.cell? ⟨g3, 3, none⟩ = some (.slice A3 p.f3.length c3) ∧ wc.cell? ⟨g5, 0, none⟩ = some (.string s.f0) ∧ wc.cell? ⟨g5, 1, none⟩ = some (.slice A5 s.f1.length c5) :=
  ⟨(blk_cell h.h3 0).trans rfl, (blk_cell h.h3 1).trans rfl, (blk_cell h.h3 2).trans rfl, (blk_cell h.h3 3).trans rfl, (blk_cell h.h5 0).trans rfl, (blk_cell h.h5 1).trans rfl⟩
theorem BoxS.cells {wc : World} {g : Nat} {nm : ByteArray} {A : Option Addr} {l : List S24} {c : Nat} (h : BoxS wc g nm A l c) : wc.cell? ⟨g, 0, none⟩ = some (.string nm) ∧ wc.cell? ⟨g, 1, none⟩ = some (.slice A l.length c) := ⟨(blk_cell h.1 0).trans rfl, (blk_cell h.1 1).trans rfl⟩
set_option maxRecDepth 100000 in
set_option maxHeartbeats 16000000 in
theorem values_walk (fu : Nat) (p q : S40) (s a : S24) (e : Int) (A3 A4 A5 : Option Addr) (c3 c4 c5 : Nat) (w : World) (hr3 : Kd.C k40 w A3 p.f3.length p.f3) (hc3 : p.f3.length ≤ c3) (hr4 : Kd.C k40 w A4 q.f3.length q.f3) (hc4 : q.f3.length ≤ c4) (hr5 : Kd.C k24 w A5 s.f1.length s.f1) (hc5 : s.f1.length ≤ c5)
    (hbeg : espalierlaw5_begun.f fu = some true) (hof : sort_Of.f fu p.f0 p.f1 p.f2 p.f3 = some (a.f0, a.f1, e)) (hok : ValuesOK fu p q s a e) :
    Calls Try.prog 6 #[.agg #[.int .i64 p.f0, .int .i64 p.f1, .string p.f2, .slice A3 p.f3.length c3], .agg #[.int .i64 q.f0, .int .i64 q.f1, .string q.f2, .slice A4 q.f3.length c4], .agg #[.string s.f0, .slice A5 s.f1.length c5]] w fun e w' => e = .returned (.bool true) ∧ Below w.heap.size w w' := by
  have hu24 := Try.underlying24
  have hu40 := Try.underlying40
  have H0 := Aside0.mk hbeg
  have H1 := Aside0.mk hof
  have H2 := Aside0.mk hok
  have HR := Aside0.mk (And.intro (And.intro hr3 hc3) (And.intro (And.intro hr4 hc4) (And.intro hr5 hc5)))
  clear hbeg hof hok hr3 hc3 hr4 hc4 hr5 hc5
  go_enter Try.func6, Try.ntmps6
  go_upto_region 1 with (fail)
  have T0 := Aside0.mk (show VsW w w.heap.size (w.heap.size + 1) (w.heap.size + 1 + 1) p q s A3 A4 A5 c3 c4 c5 (((w.alloc (.cells #[.int .i64 p.f0, .int .i64 p.f1, .string p.f2, .slice A3 p.f3.length c3] 40)).alloc (.cells #[.int .i64 q.f0, .int .i64 q.f1, .string q.f2, .slice A4 q.f3.length c4] 40)).alloc (.cells #[.string s.f0, .slice A5 s.f1.length c5] 24)) from
    ⟨blk_alloc (blk_alloc (blk_new w _) _) _, blk_alloc (r24B w _ _) _, three0 w _ _ _, Kd.C_below HR.out.1.1 (below3 w _ _ _), Kd.C_below HR.out.2.1.1 (below3 w _ _ _), Kd.C_below HR.out.2.2.1 (below3 w _ _ _), HR.out.1.2, HR.out.2.1.2, HR.out.2.2.2, below3 w _ _ _⟩)
  obtain ⟨g5, hg5⟩ : ∃ g, g = w.heap.size + 1 + 1 := ⟨_, rfl⟩
  obtain ⟨g4, hg4⟩ : ∃ g, g = w.heap.size + 1 := ⟨_, rfl⟩
  obtain ⟨g3, hg3⟩ : ∃ g, g = w.heap.size := ⟨_, rfl⟩
  rw [← hg5, ← hg4, ← hg3] at T0 ⊢
  generalize ((w.alloc (.cells #[.int .i64 p.f0, .int .i64 p.f1, .string p.f2, .slice A3 p.f3.length c3] 40)).alloc (.cells #[.int .i64 q.f0, .int .i64 q.f1, .string q.f2, .slice A4 q.f3.length c4] 40)).alloc (.cells #[.string s.f0, .slice A5 s.f1.length c5] 24) = w0 at T0 ⊢
  clear hg3 hg4 hg5 HR
  go_upto_region 3 with (go_at_call 7; refine (espalierlaw5_begun.calls fu true _ H0.out).mono ?_; rintro e w1 ⟨rfl, hb⟩; have T1 := Aside0.mk (T0.out.below hb); clear hb)
  clear T0
  go_cut [7, 8] (fun v7 v8 wc => Aside0 (v8 = .int .i64 e ∧ (∃ gx Ax cx, v7 = .pointer (some ⟨gx, 0, none⟩) ∧ BoxS wc gx a.f0 Ax a.f1 cx) ∧ VsW w g3 g4 g5 p q s A3 A4 A5 c3 c4 c5 wc))
  case first =>
    have z0 := (blk_cell T1.out.h3 0).trans rfl
    have z1 := (blk_cell T1.out.h3 1).trans rfl
    have z2 := (blk_cell T1.out.h3 2).trans rfl
    have z3 := (blk_cell T1.out.h3 3).trans rfl
    go_wp2_with (first | (go_at_call 17; refine (sort_Of.calls fu p.f0 p.f1 p.f2 A3 c3 p.f3 a.f0 a.f1 e _ T1.out.hp T1.out.lp H1.out).mono ?_; rintro e w1_ ⟨vr, rfl, ho, hb⟩; obtain ⟨Ar, cr, rfl⟩ := Kd.N_slice ho; have HN := Aside0.mk (Kd.N_reads' ho).2; have T2 := Aside0.mk (T1.out.below hb); clear ho hb) | ((with_reducible refine gate_dst (N := 7) rfl ?_); refine box_event ?hg (N := 7) ?hd (cs := #[.string (⟨#[]⟩ : ByteArray), .slice none 0 0]) (t := 24) ?hr ?_; (case hd => rfl); (case hg => rfl); (case hr => first | (go_simp; done) | (go_simp; rfl)); intro gx hg wz_ hbox hb; have BX := Aside0.mk hbox; have BS := Aside0.mk (below_set (below_set hb (Nat.le_of_eq hg.symm) (j := 0) (v := .string a.f0)) (Nat.le_of_eq hg.symm) (j := 1) (v := .slice Ar a.f1.length cr)); have xc0 := (blk_cell hbox 0).trans rfl; have xc1 := (blk_cell hbox 1).trans rfl; have xf0 := blk_frozen hbox 0; have xf1 := blk_frozen hbox 1; clear hbox hb hg))
    go_meet
    case rel => exact ⟨rfl, ⟨_, _, _, rfl, blk_put (blk_put BX.out 0 _ rfl) 1 _ rfl, Kd.C_below HN.out.2 BS.out, HN.out.1⟩, T2.out.below BS.out⟩
  case rest =>
    obtain ⟨rfl, ⟨ga, Aa, ca, rfl, hx⟩, hA⟩ := hcut.out
    clear hcut T1
    have T1 := Aside0.mk hA
    have BA := Aside0.mk hx
    clear hA hx
    rcases H2.out with ⟨he, hee, hi⟩ | ⟨rfl, hi1, hi2, hma, ⟨ms, hms, hmid⟩, b, l, f, g, hofq, hofl, hend⟩
    · have ce : (e != 0) = true := bne_iff_ne.mpr he
      have HI := Aside0.mk hi
      clear hi he
      have z0 := (blk_cell T1.out.h3 0).trans rfl
      have z1 := (blk_cell T1.out.h3 1).trans rfl
      have z2 := (blk_cell T1.out.h3 2).trans rfl
      have z3 := (blk_cell T1.out.h3 3).trans rfl
      have y0 := (blk_cell T1.out.h5 0).trans rfl
      have y1 := (blk_cell T1.out.h5 1).trans rfl
      have isn : ∀ (W : World) (h : VsW w g3 g4 g5 p q s A3 A4 A5 c3 c4 c5 W), Calls Try.prog 18 #[.agg #[.int .i64 p.f0, .int .i64 p.f1, .string p.f2, .slice A3 p.f3.length c3], .agg #[.string s.f0, .slice A5 s.f1.length c5]] W fun e w' => e = .returned (.bool false) ∧ Below W.heap.size W w' := fun W h => sort_Is.calls fu p.f0 p.f1 p.f2 A3 c3 p.f3 s.f0 A5 c5 s.f1 false W h.hp h.lp h.hs h.ls HI.out
      have ISN := Aside0.mk isn
      clear isn
      rcases hee with rfl | rfl
      · go_step
        go_wp2_with (go_at_call 18; refine (ISN.out _ T1.out).mono ?_; rintro e w2 ⟨rfl, hb⟩; have T2 := Aside0.mk (T1.out.below hb); clear hb)
        go_ret
        exact ⟨rfl, T2.out.hbe⟩
      · go_step
        go_wp2_with (go_at_call 18; refine (ISN.out _ T1.out).mono ?_; rintro e w2 ⟨rfl, hb⟩; have T2 := Aside0.mk (T1.out.below hb); clear hb)
        go_ret
        exact ⟨rfl, T2.out.hbe⟩
    have HI1 := Aside0.mk hi1
    have HI2 := Aside0.mk hi2
    have HMA := Aside0.mk hma
    have HMS := Aside0.mk hms
    have HMID := Aside0.mk hmid
    have HOQ := Aside0.mk hofq
    have HOL := Aside0.mk hofl
    have HEND := Aside0.mk hend
    clear hi1 hi2 hma hms hmid hofq hofl hend H2
    go_upto_region 6 with (fail)
    go_cut [54] (fun v54 wc => Aside0 (v54 = .bool false ∧ BoxS wc ga a.f0 Aa a.f1 ca ∧ VsW w g3 g4 g5 p q s A3 A4 A5 c3 c4 c5 wc))
    case first =>
      have T2 := Aside0.mk (T1.out.below (below_drew1 (Below.refl _ _)))
      have B2 := Aside0.mk (BA.out.below (below_drew1 (Below.refl _ _)))
      clear T1 BA
      have T1 := T2
      have BA := B2
      clear T2 B2
      go_region_held3 (fun wc => wc.cell? ⟨g3, 0, none⟩ = some (.int .i64 p.f0) ∧ wc.cell? ⟨g3, 1, none⟩ = some (.int .i64 p.f1) ∧ wc.cell? ⟨g3, 2, none⟩ = some (.string p.f2) ∧ wc.cell? ⟨g3, 3, none⟩ = some (.slice A3 p.f3.length c3) ∧ wc.cell? ⟨ga, 0, none⟩ = some (.string a.f0) ∧ wc.cell? ⟨ga, 1, none⟩ = some (.slice Aa a.f1.length ca)) (first | exact ⟨T1.out.cells.1, T1.out.cells.2.1, T1.out.cells.2.2.1, T1.out.cells.2.2.2.1, BA.out.cells.1, BA.out.cells.2⟩) (first | (go_at_call_of 18 a.f0; refine (sort_Is.calls fu p.f0 p.f1 p.f2 A3 c3 p.f3 a.f0 Aa ca a.f1 true _ T1.out.hp T1.out.lp BA.out.2.1 BA.out.2.2 HI1.out).mono ?_; rintro e w1_ ⟨rfl, hb⟩; have T1 := Aside0.mk (T1.out.below hb); have BA := Aside0.mk (BA.out.below hb); clear hb) | (go_at_call 12; refine (espalierlaw5_named.calls nmZ nmZ [] _ rfl).mono ?_; rintro e w1_ ⟨vn, rfl, ho, hb⟩; obtain ⟨An, cn, rfl⟩ := Kd.R_slice ho; have HN0 := Aside0.mk (Kd.R_reads' ho).2; have T1 := Aside0.mk (T1.out.below hb); have BA := Aside0.mk (BA.out.below hb); clear ho hb) | (go_at_call 18; refine (sort_Is.calls fu p.f0 p.f1 p.f2 A3 c3 p.f3 nmZ An cn [] true _ T1.out.hp T1.out.lp HN0.out.2 HN0.out.1 HI2.out).mono ?_; rintro e w1_ ⟨rfl, hb⟩; have T1 := Aside0.mk (T1.out.below hb); have BA := Aside0.mk (BA.out.below hb); clear hb) | (go_at_call 9; refine (sort_May.calls fu a.f0 Aa ca a.f1 0 _ BA.out.2.1 BA.out.2.2 HMA.out).mono ?_; rintro e w1_ ⟨rfl, hb⟩; have T1 := Aside0.mk (T1.out.below hb); have BA := Aside0.mk (BA.out.below hb); clear hb))
      all_goals go_wp2_with fail
      all_goals go_meet
      all_goals exact ⟨rfl, BA.out, T1.out⟩
    case rest =>
      obtain ⟨rfl, hx, hA⟩ := hcut.out
      clear hcut T1 BA
      have T1 := Aside0.mk hA
      have BA := Aside0.mk hx
      clear hA hx
      go_step
      go_step
      go_step
      go_step
      go_step
      go_step
      go_cut [] (fun wc => Aside0 (BoxS wc ga a.f0 Aa a.f1 ca ∧ VsW w g3 g4 g5 p q s A3 A4 A5 c3 c4 c5 wc))
      case first =>
        have y0 := (blk_cell T1.out.h5 0).trans rfl
        have y1 := (blk_cell T1.out.h5 1).trans rfl
        rcases HMID.out with hm | ⟨rfl, m, x, t1, t2, l1, f1, bb, hs, hap, hun, his, hbf⟩
        · have cm : (ms == 0) = false := beq_eq_false_iff_ne.mpr hm
          clear hm
          go_wp2_with (go_at_call 9; refine (sort_May.calls fu s.f0 A5 c5 s.f1 ms _ T1.out.hs T1.out.ls HMS.out).mono ?_; rintro e w1_ ⟨rfl, hb⟩; have T2 := Aside0.mk (T1.out.below hb); have B2 := Aside0.mk (BA.out.below hb); clear hb)
          go_meet
          case rel => exact ⟨B2.out, T2.out⟩
        have HS := Aside0.mk hs
        have HAP := Aside0.mk hap
        have HUN := Aside0.mk hun
        have HIS := Aside0.mk his
        have HBF := Aside0.mk hbf
        clear hs hap hun his hbf HMID
        go_upto_region 9 with (go_at_call 9; refine (sort_May.calls fu s.f0 A5 c5 s.f1 0 _ T1.out.hs T1.out.ls HMS.out).mono ?_; rintro e w1_ ⟨rfl, hb⟩; have T2 := Aside0.mk (T1.out.below hb); have B2 := Aside0.mk (BA.out.below hb); clear hb)
        clear y0 y1 T1 BA
        go_cut [10] (fun v10 wc => Aside0 (v10 = .int .i64 f1 ∧ BoxS wc ga a.f0 Aa a.f1 ca ∧ VsW w g3 g4 g5 p q s A3 A4 A5 c3 c4 c5 wc))
        case first =>
          have T1 := Aside0.mk (T2.out.below (below_drew1 (Below.refl _ _)))
          have BA := Aside0.mk (B2.out.below (below_drew1 (Below.refl _ _)))
          clear T2 B2
          go_region_held3 (fun wc => wc.cell? ⟨ga, 0, none⟩ = some (.string a.f0) ∧ wc.cell? ⟨ga, 1, none⟩ = some (.slice Aa a.f1.length ca) ∧ wc.cell? ⟨g5, 0, none⟩ = some (.string s.f0) ∧ wc.cell? ⟨g5, 1, none⟩ = some (.slice A5 s.f1.length c5)) (first | exact ⟨BA.out.cells.1, BA.out.cells.2, T1.out.cells.2.2.2.2.1, T1.out.cells.2.2.2.2.2⟩) (first | (go_at_call 19; refine (apart_walk a s m x HS.out t1 t2 Aa A5 ca c5 _ BA.out.2.1 BA.out.2.2 T1.out.hs T1.out.ls HAP.out).mono ?_; rintro e w1_ ⟨At, ct, rfl, ⟨htl, htc⟩, hb⟩; have HT := Aside0.mk (And.intro htl htc); have T1 := Aside0.mk (T1.out.below hb); have BA := Aside0.mk (BA.out.below hb); clear hb htl htc) | (go_at_call 14; refine (sort_Unify.calls t1 At ct t2 s.f0 A5 c5 s.f1 l1 f1 _ HT.out.2 HT.out.1 T1.out.hs T1.out.ls HUN.out).mono ?_; rintro e w1_ ⟨vr, rfl, ho, hb⟩; have T1 := Aside0.mk (T1.out.below hb); have BA := Aside0.mk (BA.out.below hb); clear hb ho))
          all_goals go_wp2_with fail
          all_goals go_meet
          all_goals exact ⟨rfl, BA.out, T1.out⟩
        case rest =>
          obtain ⟨rfl, hx, hA⟩ := hcut.out
          clear hcut T2 B2
          have T1 := Aside0.mk hA
          have BA := Aside0.mk hx
          clear hA hx
          have z0 := (blk_cell T1.out.h3 0).trans rfl
          have z1 := (blk_cell T1.out.h3 1).trans rfl
          have z2 := (blk_cell T1.out.h3 2).trans rfl
          have z3 := (blk_cell T1.out.h3 3).trans rfl
          have y0 := (blk_cell T1.out.h5 0).trans rfl
          have y1 := (blk_cell T1.out.h5 1).trans rfl
          rcases HBF.out with ⟨rfl, rfl⟩ | ⟨rfl, hf⟩
          · go_step
            go_wp2_with (go_at_call 18; refine (sort_Is.calls fu p.f0 p.f1 p.f2 A3 c3 p.f3 s.f0 A5 c5 s.f1 true _ T1.out.hp T1.out.lp T1.out.hs T1.out.ls HIS.out).mono ?_; rintro e w1_ ⟨rfl, hb⟩; have T2 := Aside0.mk (T1.out.below hb); have B2 := Aside0.mk (BA.out.below hb); clear hb)
            go_meet
            case rel => exact ⟨B2.out, T2.out⟩
          · have cf : (f1 == 0) = false := beq_eq_false_iff_ne.mpr hf
            clear hf
            go_step
            go_wp2_with (go_at_call 18; refine (sort_Is.calls fu p.f0 p.f1 p.f2 A3 c3 p.f3 s.f0 A5 c5 s.f1 false _ T1.out.hp T1.out.lp T1.out.hs T1.out.ls HIS.out).mono ?_; rintro e w1_ ⟨rfl, hb⟩; have T2 := Aside0.mk (T1.out.below hb); have B2 := Aside0.mk (BA.out.below hb); clear hb)
            go_meet
            case rel => exact ⟨B2.out, T2.out⟩
      case rest =>
        obtain ⟨hx, hA⟩ := hcut.out
        clear hcut T1 BA HMID
        have T1 := Aside0.mk hA
        have BA := Aside0.mk hx
        clear hA hx
        go_upto_region 12 with (fail)
        go_cut [11, 12] (fun v11 v12 wc => Aside0 (v12 = .int .i64 f ∧ (∃ gx Ax cx, v11 = .pointer (some ⟨gx, 0, none⟩) ∧ BoxS wc gx b.f0 Ax b.f1 cx) ∧ VsW w g3 g4 g5 p q s A3 A4 A5 c3 c4 c5 wc ∧ BoxS wc ga a.f0 Aa a.f1 ca))
        case first =>
          have z0 := (blk_cell T1.out.h4 0).trans rfl
          have z1 := (blk_cell T1.out.h4 1).trans rfl
          have z2 := (blk_cell T1.out.h4 2).trans rfl
          have z3 := (blk_cell T1.out.h4 3).trans rfl
          go_wp2_with (first | (go_at_call 17; refine (sort_Of.calls fu q.f0 q.f1 q.f2 A4 c4 q.f3 b.f0 b.f1 f _ T1.out.hq T1.out.lq HOQ.out).mono ?_; rintro e w1_ ⟨vr, rfl, ho, hb⟩; obtain ⟨Ar, cr, rfl⟩ := Kd.N_slice ho; have HN := Aside0.mk (Kd.N_reads' ho).2; have T2 := Aside0.mk (T1.out.below hb); have BA_ := Aside0.mk (BA.out.below hb); clear ho hb) | ((with_reducible refine gate_dst (N := 11) rfl ?_); refine box_event ?hg (N := 11) ?hd (cs := #[.string (⟨#[]⟩ : ByteArray), .slice none 0 0]) (t := 24) ?hr ?_; (case hd => rfl); (case hg => rfl); (case hr => first | (go_simp; done) | (go_simp; rfl)); intro gx hg wz_ hbox hb; have BX := Aside0.mk hbox; have BS := Aside0.mk (below_set (below_set hb (Nat.le_of_eq hg.symm) (j := 0) (v := .string b.f0)) (Nat.le_of_eq hg.symm) (j := 1) (v := .slice Ar b.f1.length cr)); have xc0 := (blk_cell hbox 0).trans rfl; have xc1 := (blk_cell hbox 1).trans rfl; have xf0 := blk_frozen hbox 0; have xf1 := blk_frozen hbox 1; clear hbox hb hg))
          go_meet
          case rel => exact ⟨rfl, ⟨_, _, _, rfl, blk_put (blk_put BX.out 0 _ rfl) 1 _ rfl, Kd.C_below HN.out.2 BS.out, HN.out.1⟩, T2.out.below BS.out, BA_.out.below BS.out⟩
        case rest =>
          obtain ⟨rfl, ⟨gb, Ab, cb, rfl, hy⟩, hA, hx⟩ := hcut.out
          clear hcut T1 BA
          have T1 := Aside0.mk hA
          have BA := Aside0.mk hx
          have BB := Aside0.mk hy
          clear hA hx hy
          go_upto_region 13 with (fail)
          go_cut [13, 14] (fun v13 v14 wc => Aside0 (v14 = .int .i64 g ∧ (∃ gx Ax cx, v13 = .pointer (some ⟨gx, 0, none⟩) ∧ BoxS wc gx l.f0 Ax l.f1 cx) ∧ VsW w g3 g4 g5 p q s A3 A4 A5 c3 c4 c5 wc ∧ BoxS wc ga a.f0 Aa a.f1 ca ∧ BoxS wc gb b.f0 Ab b.f1 cb))
          case first =>
            have z0 := (blk_cell T1.out.h3 0).trans rfl
            have z1 := (blk_cell T1.out.h3 1).trans rfl
            have z2 := (blk_cell T1.out.h3 2).trans rfl
            have z3 := (blk_cell T1.out.h3 3).trans rfl
            have y0 := (blk_cell T1.out.h4 0).trans rfl
            have y1 := (blk_cell T1.out.h4 1).trans rfl
            have y2 := (blk_cell T1.out.h4 2).trans rfl
            have y3 := (blk_cell T1.out.h4 3).trans rfl
            go_wp2_with (first | (go_at_call 17; refine (sort_Of.calls fu 5 0 (⟨#[]⟩ : ByteArray) _ _ [p, q] l.f0 l.f1 g _ (lit2_C (blk_new _ _) (Kd.C_below T1.out.hp (below_alloc (Below.refl _ _) _)) (Kd.C_below T1.out.hq (below_alloc (Below.refl _ _) _)) T1.out.lp T1.out.lq) (Nat.le_refl _) HOL.out).mono ?_; rintro e w1_ ⟨vr, rfl, ho, hb⟩; obtain ⟨Ar, cr, rfl⟩ := Kd.N_slice ho; have HN := Aside0.mk (Kd.N_reads' ho).2; have T2 := Aside0.mk ((T1.out.below (below_alloc (Below.refl _ _) _)).below hb); have BA_ := Aside0.mk ((BA.out.below (below_alloc (Below.refl _ _) _)).below hb); have BB_ := Aside0.mk ((BB.out.below (below_alloc (Below.refl _ _) _)).below hb); clear ho hb) | ((with_reducible refine gate_dst (N := 13) rfl ?_); refine box_event ?hg (N := 13) ?hd (cs := #[.string (⟨#[]⟩ : ByteArray), .slice none 0 0]) (t := 24) ?hr ?_; (case hd => rfl); (case hg => rfl); (case hr => first | (go_simp; done) | (go_simp; rfl)); intro gx hg wz_ hbox hb; have BX := Aside0.mk hbox; have BS := Aside0.mk (below_set (below_set hb (Nat.le_of_eq hg.symm) (j := 0) (v := .string l.f0)) (Nat.le_of_eq hg.symm) (j := 1) (v := .slice Ar l.f1.length cr)); have xc0 := (blk_cell hbox 0).trans rfl; have xc1 := (blk_cell hbox 1).trans rfl; have xf0 := blk_frozen hbox 0; have xf1 := blk_frozen hbox 1; clear hbox hb hg))
            go_meet
            case rel => exact ⟨rfl, ⟨_, _, _, rfl, blk_put (blk_put BX.out 0 _ rfl) 1 _ rfl, Kd.C_below HN.out.2 BS.out, HN.out.1⟩, T2.out.below BS.out, BA_.out.below BS.out, BB_.out.below BS.out⟩
          case rest =>
            obtain ⟨rfl, ⟨gl, Al, cl, rfl, hz⟩, hA, hx, hy⟩ := hcut.out
            clear hcut T1 BA BB
            have T1 := Aside0.mk hA
            have BA := Aside0.mk hx
            have BB := Aside0.mk hy
            have BL := Aside0.mk hz
            clear hA hx hy hz
            rcases HEND.out with ⟨hf, hg⟩ | ⟨rfl, rfl⟩ | ⟨rfl, hg, o1, o2, u, h, hap, hun, hend⟩
            · have cf : (f != 0) = true := bne_iff_ne.mpr hf
              have cg : (g != 0) = true := bne_iff_ne.mpr hg
              clear hf hg
              go_step
              go_wp2_with fail
              go_ret
              exact ⟨rfl, T1.out.hbe⟩
            · go_step
              go_wp2_with fail
              go_ret
              exact ⟨rfl, T1.out.hbe⟩
            have cg : (g == 1) = false := beq_eq_false_iff_ne.mpr hg
            have HAP := Aside0.mk hap
            have HUN := Aside0.mk hun
            have HE2 := Aside0.mk hend
            clear hg hap hun hend HEND
            go_upto_region 16 with (fail)
            clear cg
            go_cut [15, 16] (fun v15 v16 wc => Aside0 (v16 = .int .i64 h ∧ (∃ Au cu, v15 = .slice Au u.length cu ∧ u.length ≤ cu ∧ Kd.C k50 wc Au u.length u) ∧ BoxS wc ga a.f0 Aa a.f1 ca ∧ BoxS wc gl l.f0 Al l.f1 cl ∧ VsW w g3 g4 g5 p q s A3 A4 A5 c3 c4 c5 wc))
            case first =>
              have T1_ := Aside0.mk (T1.out.below (below_drew1 (Below.refl _ _)))
              have BA_ := Aside0.mk (BA.out.below (below_drew1 (Below.refl _ _)))
              have BB_ := Aside0.mk (BB.out.below (below_drew1 (Below.refl _ _)))
              have BL_ := Aside0.mk (BL.out.below (below_drew1 (Below.refl _ _)))
              clear T1 BA BB BL
              have T1 := T1_
              have BA := BA_
              have BB := BB_
              have BL := BL_
              clear T1_ BA_ BB_ BL_
              go_region_held3 (fun wc => wc.cell? ⟨ga, 0, none⟩ = some (.string a.f0) ∧ wc.cell? ⟨ga, 1, none⟩ = some (.slice Aa a.f1.length ca) ∧ wc.cell? ⟨gb, 0, none⟩ = some (.string b.f0) ∧ wc.cell? ⟨gb, 1, none⟩ = some (.slice Ab b.f1.length cb)) (first | exact ⟨BA.out.cells.1, BA.out.cells.2, BB.out.cells.1, BB.out.cells.2⟩) (first | (go_at_call 20; refine (other_walk b o1 o2 Ab cb _ BB.out.2.1 BB.out.2.2 HAP.out).mono ?_; rintro e w1_ ⟨At, ct, rfl, ⟨htl, htc⟩, hb⟩; have HT := Aside0.mk (And.intro htl htc); have T1 := Aside0.mk (T1.out.below hb); have BA := Aside0.mk (BA.out.below hb); have BB := Aside0.mk (BB.out.below hb); have BL := Aside0.mk (BL.out.below hb); clear hb htl htc) | (go_at_call 14; refine (sort_Unify.calls a.f0 Aa ca a.f1 o1 At ct o2 u h _ BA.out.2.1 BA.out.2.2 HT.out.2 HT.out.1 HUN.out).mono ?_; rintro e w1_ ⟨vr, rfl, ho, hb⟩; obtain ⟨Au, cu, rfl⟩ := Kd.N_slice ho; have HU := Aside0.mk (Kd.N_reads' ho).2; have T1 := Aside0.mk (T1.out.below hb); have BA := Aside0.mk (BA.out.below hb); have BB := Aside0.mk (BB.out.below hb); have BL := Aside0.mk (BL.out.below hb); clear hb ho))
              all_goals go_wp2_with fail
              all_goals go_meet
              all_goals exact ⟨rfl, ⟨Au, cu, rfl, HU.out⟩, BA.out, BL.out, T1.out⟩
            case rest =>
              obtain ⟨rfl, ⟨Au, cu, rfl, hu⟩, hx, hz, hA⟩ := hcut.out
              clear hcut T1 BA BB BL
              have T1 := Aside0.mk hA
              have BA := Aside0.mk hx
              have BL := Aside0.mk hz
              have HU := Aside0.mk hu
              clear hA hx hz hu
              rcases HE2.out with ⟨rfl, hh⟩ | ⟨rfl, rfl, w1, w2, i, hw, hi⟩
              · have ch : (h == 0) = false := beq_eq_false_iff_ne.mpr hh
                clear hh
                go_step
                go_wp2_with fail
                go_ret
                exact ⟨rfl, T1.out.hbe⟩
              have HW := Aside0.mk hw
              have HI := Aside0.mk hi
              clear hw hi HE2
              go_upto_region 21 with (fail)
              go_cut [17, 18] (fun v17 v18 wc => Aside0 (v18 = .int .i64 i ∧ (∃ gx Ax cx, v17 = .pointer (some ⟨gx, 0, none⟩) ∧ BoxS wc gx w1 Ax w2 cx) ∧ VsW w g3 g4 g5 p q s A3 A4 A5 c3 c4 c5 wc ∧ BoxS wc gl l.f0 Al l.f1 cl))
              case first =>
                have xa0 := (blk_cell BA.out.1 0).trans rfl
                have xa1 := (blk_cell BA.out.1 1).trans rfl
                go_wp2_with (first | (go_at_call 21; refine (espalierlaw5_list.calls a.f0 _ Aa ca a.f1 listB [a] _ (Kd.V_mk BA.out.2.2 (Kd.C_F k24_heap BA.out.2.1)) (by unfold espalierlaw5_list.f; rw [eta24]; rfl)).mono ?_; rintro e w1_ ⟨vl, rfl, ho, hb⟩; obtain ⟨Ak, ck, rfl⟩ := Kd.N_slice ho; have HK := Aside0.mk (Kd.N_reads' ho).2; have T2 := Aside0.mk (T1.out.below hb); have BL2 := Aside0.mk (BL.out.below hb); have HU2 := Aside0.mk (Kd.C_below HU.out.2 hb); clear ho hb) | (go_at_call 16; refine (sort_Apply.calls listB Ak ck [a] Au cu u w1 w2 i _ HK.out.2 HK.out.1 HU2.out HU.out.1 HW.out).mono ?_; rintro e w2_ ⟨vr, rfl, ho, hb⟩; obtain ⟨Ar, cr, rfl⟩ := Kd.N_slice ho; have HN := Aside0.mk (Kd.N_reads' ho).2; have T3 := Aside0.mk (T2.out.below hb); have BL_ := Aside0.mk (BL2.out.below hb); clear ho hb) | ((with_reducible refine gate_dst (N := 17) rfl ?_); refine box_event ?hg (N := 17) ?hd (cs := #[.string (⟨#[]⟩ : ByteArray), .slice none 0 0]) (t := 24) ?hr ?_; (case hd => rfl); (case hg => rfl); (case hr => first | (go_simp; done) | (go_simp; rfl)); intro gx hg wz_ hbox hb; have BX := Aside0.mk hbox; have BS := Aside0.mk (below_set (below_set hb (Nat.le_of_eq hg.symm) (j := 0) (v := .string w1)) (Nat.le_of_eq hg.symm) (j := 1) (v := .slice Ar w2.length cr)); have xc0 := (blk_cell hbox 0).trans rfl; have xc1 := (blk_cell hbox 1).trans rfl; have xf0 := blk_frozen hbox 0; have xf1 := blk_frozen hbox 1; clear hbox hb hg))
                go_meet
                case rel => exact ⟨rfl, ⟨_, _, _, rfl, blk_put (blk_put BX.out 0 _ rfl) 1 _ rfl, Kd.C_below HN.out.2 BS.out, HN.out.1⟩, T3.out.below BS.out, BL_.out.below BS.out⟩
              case rest =>
                obtain ⟨rfl, ⟨gw, Aw, cw, rfl, hy⟩, hA, hz⟩ := hcut.out
                clear hcut T1 BA BL
                have T1 := Aside0.mk hA
                have BW := Aside0.mk hy
                have BL := Aside0.mk hz
                clear hA hy hz
                rcases HI.out with hi | ⟨rfl, x1, x2, hx, hsm⟩
                · have ci : (i != 0) = true := bne_iff_ne.mpr hi
                  clear hi
                  go_upto_region 22 with (fail)
                  go_quiet (fail)
                  all_goals go_wp2
                  all_goals go_ret
                  all_goals exact ⟨rfl, by repeat (first | exact T1.out.hbe | apply pw_below_drewN | apply below_drew1)⟩
                · have HX := Aside0.mk hx
                  have HSM := Aside0.mk hsm
                  clear hx hsm
                  go_upto_region 22 with (fail)
                  have T1_ := Aside0.mk (T1.out.below (below_drew1 (Below.refl _ _)))
                  have BW_ := Aside0.mk (BW.out.below (below_drew1 (Below.refl _ _)))
                  have BL_ := Aside0.mk (BL.out.below (below_drew1 (Below.refl _ _)))
                  clear T1 BW BL
                  have T1 := T1_
                  have BW := BW_
                  have BL := BL_
                  clear T1_ BW_ BL_
                  go_region_held3 (fun wc => wc.cell? ⟨gl, 0, none⟩ = some (.string l.f0) ∧ wc.cell? ⟨gl, 1, none⟩ = some (.slice Al l.f1.length cl) ∧ wc.cell? ⟨gw, 0, none⟩ = some (.string w1) ∧ wc.cell? ⟨gw, 1, none⟩ = some (.slice Aw w2.length cw)) (first | exact ⟨BL.out.cells.1, BL.out.cells.2, BW.out.cells.1, BW.out.cells.2⟩) (first | (go_at_call 22; refine (firsty_walk ⟨w1, w2⟩ x1 x2 Aw cw _ BW.out.2.1 BW.out.2.2 HX.out).mono ?_; rintro e w1_ ⟨At, ct, rfl, ⟨htl, htc⟩, hb⟩; have HT := Aside0.mk (And.intro htl htc); have T1 := Aside0.mk (T1.out.below hb); have BW := Aside0.mk (BW.out.below hb); have BL := Aside0.mk (BL.out.below hb); clear hb htl htc) | (go_at_call 11; refine (sort_Same.calls fu l.f0 Al cl l.f1 x1 At ct x2 true _ BL.out.2.1 BL.out.2.2 HT.out.2 HT.out.1 HSM.out).mono ?_; rintro e w1_ ⟨rfl, hb⟩; have T1 := Aside0.mk (T1.out.below hb); have BW := Aside0.mk (BW.out.below hb); have BL := Aside0.mk (BL.out.below hb); clear hb))
                  all_goals go_wp2_with fail
                  all_goals go_ret
                  all_goals exact ⟨rfl, T1.out.hbe⟩

end Go.Proofs.Ytlibklfianghlaa.S

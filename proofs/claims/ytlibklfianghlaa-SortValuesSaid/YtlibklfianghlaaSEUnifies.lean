-- WRITTEN BY a program of this session (wip/extprint.py, over the kit's print.py); not trusted: Lean checks it.
import Derived.Test.YtlibklfianghlaaSx0
import Derived.Test.YtlibklfianghlaaSx3
import Derived.Test.YtlibklfianghlaaSx6
import Derived.Test.YtlibklfianghlaaSx8
import Derived.Test.YtlibklfianghlaaSEApply
import Derived.Test.YtlibklfianghlaaSEUnify
namespace Go.Proofs.Ytlibklfianghlaa.S
open Go.RowKit Go.Proofs.YtlibklfianghlaaW.PrintWords Go.Proofs.YtlibklfianghlaaW.PrintLast Go.Proofs.YtlibklfianghlaaW.PrintMore
attribute [local go_sem] max2_int min2_int max_two min_two max_three min_three max_four min_four   -- for this text's walks alone
set_option linter.unusedVariables false
set_option linter.unusedSimpArgs false

/-! SortUnifies' walk -/
def LegOK (fu : Nat) (gs : List S50) (x : S50) : Prop := ∃ r1 r2 r s1 s2 s, sort_Apply.f x.f0 [] gs = some (r1, r2, r) ∧ sort_Apply.f x.f1.f0 x.f1.f1 gs = some (s1, s2, s) ∧ (r ≠ 0 ∨ r = 0 ∧ s ≠ 0 ∨ r = 0 ∧ s = 0 ∧ sort_Same.f fu r1 r2 s1 s2 = some true)
def RestOK (fu : Nat) (a b : S24) (gs l : List S50) (e : Int) : Prop := ∃ r1 r2 r s1 s2 s, sort_Apply.f a.f0 a.f1 gs = some (r1, r2, r) ∧ sort_Apply.f b.f0 b.f1 gs = some (s1, s2, s) ∧
  (r ≠ 0 ∨ r = 0 ∧ s ≠ 0 ∨ r = 0 ∧ s = 0 ∧ sort_Same.f fu r1 r2 s1 s2 = some false ∨ r = 0 ∧ s = 0 ∧ sort_Same.f fu r1 r2 s1 s2 = some true ∧ e = 0 ∧ ∀ j, j < l.length → LegOK fu gs (rd_T50 l j))
def BothOK (fu : Nat) (a b : S24) (l : List S50) (e : Int) : Prop := e ≠ 0 ∨ e = 0 ∧ ∃ r1 r2 r s1 s2, sort_Apply.f a.f0 a.f1 l = some (r1, r2, r) ∧ sort_Apply.f b.f0 b.f1 l = some (s1, s2, r) ∧ (r ≠ 0 ∨ r = 0 ∧ sort_Same.f fu r1 r2 s1 s2 = some true)
def UnifiesOK (fu : Nat) (a b : S24) (gs l m : List S50) (e f ma mb : Int) : Prop :=
  (ma ≠ 0 ∨ ma = 0 ∧ mb ≠ 0) ∧ l = [] ∧ m = [] ∧ e = 14 ∧ f = 14 ∨ ma = 0 ∧ mb = 0 ∧ e = f ∧ espalierlaw5_givens.f fu l m = some true ∧ BothOK fu a b l e ∧ RestOK fu a b gs l e
/-- What stays known: the two boxes, all that is read. -/
structure UfW (w : World) (g3 g4 : Nat) (a b : S24) (gs l : List S50) (A0 A1 A2 Al : Option Addr) (c0 c1 c2 cl : Nat) (wc : World) : Prop where
  hba : wc.heap[g3]? = some (.cells #[.string a.f0, .slice A0 a.f1.length c0] 24 (0, 0))
  hbb : wc.heap[g4]? = some (.cells #[.string b.f0, .slice A1 b.f1.length c1] 24 (0, 0))
  hca : Kd.C k24 wc A0 a.f1.length a.f1
  hcb : Kd.C k24 wc A1 b.f1.length b.f1
  hcg : Kd.C k50 wc A2 gs.length gs
  hcl : Kd.C k50 wc Al l.length l
  hla : a.f1.length ≤ c0
  hlb : b.f1.length ≤ c1
  hlg : gs.length ≤ c2
  hll : l.length ≤ cl
  hbe : Below w.heap.size w wc
theorem UfW.below {w : World} {g3 g4 : Nat} {a b : S24} {gs l : List S50} {A0 A1 A2 Al : Option Addr} {c0 c1 c2 cl : Nat} {wc w1 : World} (h : UfW w g3 g4 a b gs l A0 A1 A2 Al c0 c1 c2 cl wc) (hb : Below wc.heap.size wc w1) : UfW w g3 g4 a b gs l A0 A1 A2 Al c0 c1 c2 cl w1 :=
  ⟨blk_below h.hba hb, blk_below h.hbb hb, Kd.C_below h.hca hb, Kd.C_below h.hcb hb, Kd.C_below h.hcg hb, Kd.C_below h.hcl hb, h.hla, h.hlb, h.hlg, h.hll, below_step h.hbe hb⟩
/-- A sort in a box of the call's own. -/
def BoxS (wc : World) (g : Nat) (nm : ByteArray) (A : Option Addr) (l : List S24) (c : Nat) : Prop :=
  wc.heap[g]? = some (.cells #[.string nm, .slice A l.length c] 24 (0, 0)) ∧ Kd.C k24 wc A l.length l ∧ l.length ≤ c
theorem BoxS.below {wc w1 : World} {g : Nat} {nm : ByteArray} {A : Option Addr} {l : List S24} {c : Nat} (h : BoxS wc g nm A l c) (hb : Below wc.heap.size wc w1) : BoxS w1 g nm A l c := ⟨blk_below h.1 hb, Kd.C_below h.2.1 hb, h.2.2⟩
set_option maxRecDepth 100000 in
set_option maxHeartbeats 8000000 in
theorem unifies_walk (fu : Nat) (a b : S24) (gs l m : List S50) (e f ma mb : Int) (A0 A1 A2 : Option Addr) (c0 c1 c2 : Nat) (w : World) (hr0 : Kd.C k24 w A0 a.f1.length a.f1) (hc0 : a.f1.length ≤ c0) (hr1 : Kd.C k24 w A1 b.f1.length b.f1) (hc1 : b.f1.length ≤ c1) (hr2 : Kd.C k50 w A2 gs.length gs) (hc2 : gs.length ≤ c2)
    (hbeg : espalierlaw5_begun.f fu = some true) (hU : sort_Unify.f a.f0 a.f1 b.f0 b.f1 = some (l, e)) (hV : sort_Unify.f b.f0 b.f1 a.f0 a.f1 = some (m, f)) (hma : sort_May.f fu a.f0 a.f1 = some ma) (hmb : sort_May.f fu b.f0 b.f1 = some mb) (hok : UnifiesOK fu a b gs l m e f ma mb) (hll : l.length ≤ 1000) :
    Calls Try.prog 5 #[.agg #[.string a.f0, .slice A0 a.f1.length c0], .agg #[.string b.f0, .slice A1 b.f1.length c1], .slice A2 gs.length c2] w fun e w' => e = .returned (.bool true) ∧ Below w.heap.size w w' := by
  have hu24 := Try.underlying24
  have H0 := Aside0.mk hbeg
  have H1 := Aside0.mk hU
  have H2 := Aside0.mk hV
  have H3 := Aside0.mk hma
  have H4 := Aside0.mk hmb
  have H5 := Aside0.mk hok
  have HLN := Aside0.mk hll
  clear hbeg hU hV hma hmb hok hll
  have HR := Aside0.mk (And.intro (And.intro hr0 hc0) (And.intro (And.intro hr1 hc1) (And.intro hr2 hc2)))
  clear hr0 hr1 hr2 hc0 hc1 hc2
  go_enter Try.func5, Try.ntmps5
  go_upto_region 1 with (fail)
  have T0 := Aside0.mk (show UfW w w.heap.size (w.heap.size + 1) a b gs [] A0 A1 A2 none c0 c1 c2 0 ((w.alloc (.cells #[.string a.f0, .slice A0 a.f1.length c0] 24)).alloc (.cells #[.string b.f0, .slice A1 b.f1.length c1] 24)) from
    ⟨blk_alloc (blk_new w _) _, r24B w _ _, Kd.C_below HR.out.1.1 (below2 w _ _), Kd.C_below HR.out.2.1.1 (below2 w _ _), Kd.C_below HR.out.2.2.1 (below2 w _ _), Kd.C_nil _ _, HR.out.1.2, HR.out.2.1.2, HR.out.2.2.2, Nat.le_refl _, below2 w _ _⟩)
  obtain ⟨g3, hg3⟩ : ∃ g, g = w.heap.size := ⟨_, rfl⟩
  obtain ⟨g4, hg4⟩ : ∃ g, g = w.heap.size + 1 := ⟨_, rfl⟩
  rw [← hg4, ← hg3] at T0 ⊢
  generalize (w.alloc (.cells #[.string a.f0, .slice A0 a.f1.length c0] 24)).alloc (.cells #[.string b.f0, .slice A1 b.f1.length c1] 24) = w0 at T0 ⊢
  clear hg3 hg4 HR
  go_upto_region 3 with (go_at_call 7; refine (espalierlaw5_begun.calls fu true _ H0.out).mono ?_; rintro e w1 ⟨rfl, hb⟩; have T1 := Aside0.mk (T0.out.below hb); clear hb)
  clear T0
  go_cut [7, 8] (fun v7 v8 wc => Aside0 (v8 = .int .i64 e ∧ ∃ Al cl, v7 = .slice Al l.length cl ∧ UfW w g3 g4 a b gs l A0 A1 A2 Al c0 c1 c2 cl wc))
  case first =>
    have za0 := (blk_cell T1.out.hba 0).trans rfl
    have za1 := (blk_cell T1.out.hba 1).trans rfl
    have zb0 := (blk_cell T1.out.hbb 0).trans rfl
    have zb1 := (blk_cell T1.out.hbb 1).trans rfl
    go_wp2_with (go_at_call 14; refine (sort_Unify.calls a.f0 A0 c0 a.f1 b.f0 A1 c1 b.f1 l e _ T1.out.hca T1.out.hla T1.out.hcb T1.out.hlb H1.out).mono ?_; rintro e w2 ⟨vr, rfl, ho, hb⟩; obtain ⟨Ar, cr, rfl⟩ := Kd.N_slice ho; have HN := Aside0.mk (Kd.N_reads' ho).2; have T2 := Aside0.mk (T1.out.below hb); clear ho hb)
    go_meet
    case rel => exact ⟨rfl, _, _, rfl, { T2.out with hcl := HN.out.2, hll := HN.out.1 }⟩
  case rest =>
    obtain ⟨rfl, Al, cl, rfl, hA⟩ := hcut.out
    clear hcut T1
    have T1 := Aside0.mk hA
    clear hA
    go_upto_region 4 with (fail)
    go_cut [9, 10] (fun v9 v10 wc => Aside0 (v10 = .int .i64 f ∧ ∃ Am cm, v9 = .slice Am m.length cm ∧ m.length ≤ cm ∧ Kd.C k50 wc Am m.length m ∧ UfW w g3 g4 a b gs l A0 A1 A2 Al c0 c1 c2 cl wc))
    case first =>
      have za0 := (blk_cell T1.out.hba 0).trans rfl
      have za1 := (blk_cell T1.out.hba 1).trans rfl
      have zb0 := (blk_cell T1.out.hbb 0).trans rfl
      have zb1 := (blk_cell T1.out.hbb 1).trans rfl
      go_wp2_with (go_at_call 14; refine (sort_Unify.calls b.f0 A1 c1 b.f1 a.f0 A0 c0 a.f1 m f _ T1.out.hcb T1.out.hlb T1.out.hca T1.out.hla H2.out).mono ?_; rintro e w2 ⟨vr, rfl, ho, hb⟩; obtain ⟨Ar, cr, rfl⟩ := Kd.N_slice ho; have HN := Aside0.mk (Kd.N_reads' ho).2; have T2 := Aside0.mk (T1.out.below hb); clear ho hb)
      go_meet
      case rel => exact ⟨rfl, _, _, rfl, HN.out.1, HN.out.2, T2.out⟩
    case rest =>
      obtain ⟨rfl, Am, cm, rfl, hlm, hcm, hA⟩ := hcut.out
      clear hcut T1
      have T1 := Aside0.mk hA
      have HM := Aside0.mk (And.intro hlm hcm)
      clear hA hlm hcm
      rcases H5.out with ⟨hm, rfl, rfl, rfl, rfl⟩ | ⟨rfl, rfl, rfl, hG, hB, hR⟩
      · rcases hm with hm | ⟨rfl, hm⟩
        · have cm0 : (ma != 0) = true := bne_iff_ne.mpr hm
          clear hm
          have za0 := (blk_cell T1.out.hba 0).trans rfl
          have za1 := (blk_cell T1.out.hba 1).trans rfl
          have zb0 := (blk_cell T1.out.hbb 0).trans rfl
          have zb1 := (blk_cell T1.out.hbb 1).trans rfl
          go_wp2_with (go_at_call 9; refine (sort_May.calls fu a.f0 A0 c0 a.f1 ma _ T1.out.hca T1.out.hla H3.out).mono ?_; rintro e w2 ⟨rfl, hb⟩; have T2 := Aside0.mk (T1.out.below hb); clear hb)
          go_ret
          exact ⟨rfl, T2.out.hbe⟩
        · have cm0 : (mb != 0) = true := bne_iff_ne.mpr hm
          clear hm
          have za0 := (blk_cell T1.out.hba 0).trans rfl
          have za1 := (blk_cell T1.out.hba 1).trans rfl
          have zb0 := (blk_cell T1.out.hbb 0).trans rfl
          have zb1 := (blk_cell T1.out.hbb 1).trans rfl
          go_wp2_with fail
          refine (sort_May.calls fu a.f0 A0 c0 a.f1 0 _ T1.out.hca T1.out.hla H3.out).mono ?_; rintro e w2 ⟨rfl, hb⟩; have T2 := Aside0.mk (T1.out.below hb); clear hb za0 za1 zb0 zb1
          have zb0 := (blk_cell T2.out.hbb 0).trans rfl
          have zb1 := (blk_cell T2.out.hbb 1).trans rfl
          go_wp2_with fail
          refine (sort_May.calls fu b.f0 A1 c1 b.f1 mb _ T2.out.hcb T2.out.hlb H4.out).mono ?_; rintro e w3 ⟨rfl, hb⟩; have T3 := Aside0.mk (T2.out.below hb); clear hb
          go_wp2_with fail
          go_ret
          exact ⟨rfl, T3.out.hbe⟩
      have HG := Aside0.mk hG
      have HB := Aside0.mk hB
      have HRs := Aside0.mk hR
      clear hG hB hR H5
      go_step
      go_step
      go_cut [] (fun wc => Aside0 ((m.length ≤ cm ∧ Kd.C k50 wc Am m.length m) ∧ UfW w g3 g4 a b gs l A0 A1 A2 Al c0 c1 c2 cl wc))
      case first =>
        have za0 := (blk_cell T1.out.hba 0).trans rfl
        have za1 := (blk_cell T1.out.hba 1).trans rfl
        have zb0 := (blk_cell T1.out.hbb 0).trans rfl
        have zb1 := (blk_cell T1.out.hbb 1).trans rfl
        go_wp2_with fail
        refine (sort_May.calls fu a.f0 A0 c0 a.f1 0 _ T1.out.hca T1.out.hla H3.out).mono ?_; rintro e w2 ⟨rfl, hb⟩; have T2 := Aside0.mk (T1.out.below hb); have HM2 := Aside0.mk (Kd.C_below HM.out.2 hb); clear hb za0 za1 zb0 zb1
        have zb0 := (blk_cell T2.out.hbb 0).trans rfl
        have zb1 := (blk_cell T2.out.hbb 1).trans rfl
        go_wp2_with fail
        refine (sort_May.calls fu b.f0 A1 c1 b.f1 0 _ T2.out.hcb T2.out.hlb H4.out).mono ?_; rintro e w3 ⟨rfl, hb⟩; have T3 := Aside0.mk (T2.out.below hb); have HM3 := Aside0.mk (Kd.C_below HM2.out hb); clear hb
        go_wp2_with fail
        go_meet
        case rel => exact ⟨⟨HM.out.1, HM3.out⟩, T3.out⟩
      case rest =>
        obtain ⟨hm, hA⟩ := hcut.out
        clear hcut T1 HM
        have T1 := Aside0.mk hA
        have HM := Aside0.mk hm
        clear hA hm
        go_step
        go_step
        go_cut [] (fun wc => Aside0 (UfW w g3 g4 a b gs l A0 A1 A2 Al c0 c1 c2 cl wc))
        case first =>
          have ee : (e != e) = false := by simp
          go_wp2_with (go_at_call 15; refine (espalierlaw5_givens.calls fu Al cl l Am cm m true _ T1.out.hcl T1.out.hll HM.out.2 HM.out.1 HG.out).mono ?_; rintro e w2 ⟨rfl, hb⟩; have T2 := Aside0.mk (T1.out.below hb); clear hb)
          go_meet
          case rel => exact T2
        case rest =>
          clear T1 HM HG
          have T1 := hcut
          clear hcut
          go_step
          go_step
          go_cut [] (fun wc => Aside0 (UfW w g3 g4 a b gs l A0 A1 A2 Al c0 c1 c2 cl wc))
          case first =>
            rcases HB.out with he | ⟨rfl, r1, r2, r, s1, s2, hx, hy, hs⟩
            · have ce : (e == 0) = false := beq_eq_false_iff_ne.mpr he
              clear he
              go_wp2_with fail
              go_meet
              case rel => exact T1
            · have HX := Aside0.mk hx
              have HY := Aside0.mk hy
              have HS := Aside0.mk hs
              clear hx hy hs HB
              go_upto_region 10 with (fail)
              go_cut [11, 12] (fun v11 v12 wc => Aside0 (v12 = .int .i64 r ∧ (∃ gx Ax cx, v11 = .pointer (some ⟨gx, 0, none⟩) ∧ BoxS wc gx r1 Ax r2 cx) ∧ UfW w g3 g4 a b gs l A0 A1 A2 Al c0 c1 c2 cl wc))
              case first =>
                have za0 := (blk_cell T1.out.hba 0).trans rfl
                have za1 := (blk_cell T1.out.hba 1).trans rfl
                go_wp2_with (first | (go_at_call 16; refine (sort_Apply.calls a.f0 A0 c0 a.f1 Al cl l r1 r2 r _ T1.out.hca T1.out.hla T1.out.hcl T1.out.hll HX.out).mono ?_; rintro e w1_ ⟨vr, rfl, ho, hb⟩; obtain ⟨Ar, cr, rfl⟩ := Kd.N_slice ho; have HN := Aside0.mk (Kd.N_reads' ho).2; have T2 := Aside0.mk (T1.out.below hb); clear ho hb) | ((with_reducible refine gate_dst (N := 11) rfl ?_); refine box_event ?hg (N := 11) ?hd (cs := #[.string (⟨#[]⟩ : ByteArray), .slice none 0 0]) (t := 24) ?hr ?_; (case hd => rfl); (case hg => rfl); (case hr => first | (go_simp; done) | (go_simp; rfl)); intro gx hg w2_ hbox hb; have BX := Aside0.mk hbox; have BS := Aside0.mk (below_set (below_set hb (Nat.le_of_eq hg.symm) (j := 0) (v := .string r1)) (Nat.le_of_eq hg.symm) (j := 1) (v := .slice Ar r2.length cr)); have xc0 := (blk_cell hbox 0).trans rfl; have xc1 := (blk_cell hbox 1).trans rfl; have xf0 := blk_frozen hbox 0; have xf1 := blk_frozen hbox 1; clear hbox hb hg))
                go_meet
                case rel => exact ⟨rfl, ⟨_, _, _, rfl, blk_put (blk_put BX.out 0 _ rfl) 1 _ rfl, Kd.C_below HN.out.2 BS.out, HN.out.1⟩, T2.out.below BS.out⟩
              case rest =>
                obtain ⟨rfl, ⟨gx, Ax, cx, rfl, hx⟩, hA⟩ := hcut.out
                clear hcut T1
                have T1 := Aside0.mk hA
                have BX1 := Aside0.mk hx
                clear hA hx
                go_upto_region 11 with (fail)
                go_cut [13, 14] (fun v13 v14 wc => Aside0 (v14 = .int .i64 r ∧ (∃ gx Ax cx, v13 = .pointer (some ⟨gx, 0, none⟩) ∧ BoxS wc gx s1 Ax s2 cx) ∧ UfW w g3 g4 a b gs l A0 A1 A2 Al c0 c1 c2 cl wc ∧ BoxS wc gx r1 Ax r2 cx))
                case first =>
                  have zb0 := (blk_cell T1.out.hbb 0).trans rfl
                  have zb1 := (blk_cell T1.out.hbb 1).trans rfl
                  go_wp2_with (first | (go_at_call 16; refine (sort_Apply.calls b.f0 A1 c1 b.f1 Al cl l s1 s2 r _ T1.out.hcb T1.out.hlb T1.out.hcl T1.out.hll HY.out).mono ?_; rintro e w1_ ⟨vr, rfl, ho, hb⟩; obtain ⟨Ar, cr, rfl⟩ := Kd.N_slice ho; have HN := Aside0.mk (Kd.N_reads' ho).2; have T2 := Aside0.mk (T1.out.below hb); have BX1_ := Aside0.mk (BX1.out.below hb); clear ho hb) | ((with_reducible refine gate_dst (N := 13) rfl ?_); refine box_event ?hg (N := 13) ?hd (cs := #[.string (⟨#[]⟩ : ByteArray), .slice none 0 0]) (t := 24) ?hr ?_; (case hd => rfl); (case hg => rfl); (case hr => first | (go_simp; done) | (go_simp; rfl)); intro gx hg w2_ hbox hb; have BX := Aside0.mk hbox; have BS := Aside0.mk (below_set (below_set hb (Nat.le_of_eq hg.symm) (j := 0) (v := .string s1)) (Nat.le_of_eq hg.symm) (j := 1) (v := .slice Ar s2.length cr)); have xc0 := (blk_cell hbox 0).trans rfl; have xc1 := (blk_cell hbox 1).trans rfl; have xf0 := blk_frozen hbox 0; have xf1 := blk_frozen hbox 1; clear hbox hb hg))
                  go_meet
                  case rel => exact ⟨rfl, ⟨_, _, _, rfl, blk_put (blk_put BX.out 0 _ rfl) 1 _ rfl, Kd.C_below HN.out.2 BS.out, HN.out.1⟩, T2.out.below BS.out, BX1_.out.below BS.out⟩
                case rest =>
                  obtain ⟨rfl, ⟨gy, Ay, cy, rfl, hy⟩, hA, hx⟩ := hcut.out
                  clear hcut T1 BX1
                  have T1 := Aside0.mk hA
                  have BX1 := Aside0.mk hx
                  have BY1 := Aside0.mk hy
                  clear hA hx hy
                  have er : (r != r) = false := by simp
                  have xc0 := (blk_cell BX1.out.1 0).trans rfl
                  have xc1 := (blk_cell BX1.out.1 1).trans rfl
                  have yc0 := (blk_cell BY1.out.1 0).trans rfl
                  have yc1 := (blk_cell BY1.out.1 1).trans rfl
                  rcases HS.out with hr | ⟨rfl, hs⟩
                  · have cr0 : (r == 0) = false := beq_eq_false_iff_ne.mpr hr
                    clear hr
                    go_step
                    go_wp2_with fail
                    go_meet
                    case rel => exact T1
                  · have HS := Aside0.mk hs
                    clear hs
                    go_step
                    go_wp2_with (go_at_call 11; refine (sort_Same.calls fu r1 Ax cx r2 s1 Ay cy s2 true _ BX1.out.2.1 BX1.out.2.2 BY1.out.2.1 BY1.out.2.2 HS.out).mono ?_; rintro e w2 ⟨rfl, hb⟩; have T2 := Aside0.mk (T1.out.below hb); clear hb)
                    go_meet
                    case rel => exact T2
          case rest =>
            clear T1 HB
            have T1 := hcut
            clear hcut
            obtain ⟨r1, r2, r, s1, s2, s, hx, hy, hs⟩ := HRs.out
            have HX := Aside0.mk hx
            have HY := Aside0.mk hy
            have HS := Aside0.mk hs
            clear hx hy hs HRs
            go_upto_region 14 with (fail)
            go_cut [15, 16] (fun v15 v16 wc => Aside0 (v16 = .int .i64 r ∧ (∃ gx Ax cx, v15 = .pointer (some ⟨gx, 0, none⟩) ∧ BoxS wc gx r1 Ax r2 cx) ∧ UfW w g3 g4 a b gs l A0 A1 A2 Al c0 c1 c2 cl wc))
            case first =>
              have za0 := (blk_cell T1.out.hba 0).trans rfl
              have za1 := (blk_cell T1.out.hba 1).trans rfl
              go_wp2_with (first | (go_at_call 16; refine (sort_Apply.calls a.f0 A0 c0 a.f1 A2 c2 gs r1 r2 r _ T1.out.hca T1.out.hla T1.out.hcg T1.out.hlg HX.out).mono ?_; rintro e w1_ ⟨vr, rfl, ho, hb⟩; obtain ⟨Ar, cr, rfl⟩ := Kd.N_slice ho; have HN := Aside0.mk (Kd.N_reads' ho).2; have T2 := Aside0.mk (T1.out.below hb); clear ho hb) | ((with_reducible refine gate_dst (N := 15) rfl ?_); refine box_event ?hg (N := 15) ?hd (cs := #[.string (⟨#[]⟩ : ByteArray), .slice none 0 0]) (t := 24) ?hr ?_; (case hd => rfl); (case hg => rfl); (case hr => first | (go_simp; done) | (go_simp; rfl)); intro gx hg w2_ hbox hb; have BX := Aside0.mk hbox; have BS := Aside0.mk (below_set (below_set hb (Nat.le_of_eq hg.symm) (j := 0) (v := .string r1)) (Nat.le_of_eq hg.symm) (j := 1) (v := .slice Ar r2.length cr)); have xc0 := (blk_cell hbox 0).trans rfl; have xc1 := (blk_cell hbox 1).trans rfl; have xf0 := blk_frozen hbox 0; have xf1 := blk_frozen hbox 1; clear hbox hb hg))
              go_meet
              case rel => exact ⟨rfl, ⟨_, _, _, rfl, blk_put (blk_put BX.out 0 _ rfl) 1 _ rfl, Kd.C_below HN.out.2 BS.out, HN.out.1⟩, T2.out.below BS.out⟩
            case rest =>
              obtain ⟨rfl, ⟨gx, Ax, cx, rfl, hx⟩, hA⟩ := hcut.out
              clear hcut T1
              have T1 := Aside0.mk hA
              have BX1 := Aside0.mk hx
              clear hA hx
              go_upto_region 15 with (fail)
              go_cut [17, 18] (fun v17 v18 wc => Aside0 (v18 = .int .i64 s ∧ (∃ gx Ax cx, v17 = .pointer (some ⟨gx, 0, none⟩) ∧ BoxS wc gx s1 Ax s2 cx) ∧ UfW w g3 g4 a b gs l A0 A1 A2 Al c0 c1 c2 cl wc ∧ BoxS wc gx r1 Ax r2 cx))
              case first =>
                have zb0 := (blk_cell T1.out.hbb 0).trans rfl
                have zb1 := (blk_cell T1.out.hbb 1).trans rfl
                go_wp2_with (first | (go_at_call 16; refine (sort_Apply.calls b.f0 A1 c1 b.f1 A2 c2 gs s1 s2 s _ T1.out.hcb T1.out.hlb T1.out.hcg T1.out.hlg HY.out).mono ?_; rintro e w1_ ⟨vr, rfl, ho, hb⟩; obtain ⟨Ar, cr, rfl⟩ := Kd.N_slice ho; have HN := Aside0.mk (Kd.N_reads' ho).2; have T2 := Aside0.mk (T1.out.below hb); have BX1_ := Aside0.mk (BX1.out.below hb); clear ho hb) | ((with_reducible refine gate_dst (N := 17) rfl ?_); refine box_event ?hg (N := 17) ?hd (cs := #[.string (⟨#[]⟩ : ByteArray), .slice none 0 0]) (t := 24) ?hr ?_; (case hd => rfl); (case hg => rfl); (case hr => first | (go_simp; done) | (go_simp; rfl)); intro gx hg w2_ hbox hb; have BX := Aside0.mk hbox; have BS := Aside0.mk (below_set (below_set hb (Nat.le_of_eq hg.symm) (j := 0) (v := .string s1)) (Nat.le_of_eq hg.symm) (j := 1) (v := .slice Ar s2.length cr)); have xc0 := (blk_cell hbox 0).trans rfl; have xc1 := (blk_cell hbox 1).trans rfl; have xf0 := blk_frozen hbox 0; have xf1 := blk_frozen hbox 1; clear hbox hb hg))
                go_meet
                case rel => exact ⟨rfl, ⟨_, _, _, rfl, blk_put (blk_put BX.out 0 _ rfl) 1 _ rfl, Kd.C_below HN.out.2 BS.out, HN.out.1⟩, T2.out.below BS.out, BX1_.out.below BS.out⟩
              case rest =>
                obtain ⟨rfl, ⟨gy, Ay, cy, rfl, hy⟩, hA, hx⟩ := hcut.out
                clear hcut T1 BX1
                have T1 := Aside0.mk hA
                have BX1 := Aside0.mk hx
                have BY1 := Aside0.mk hy
                clear hA hx hy
                have xc0 := (blk_cell BX1.out.1 0).trans rfl
                have xc1 := (blk_cell BX1.out.1 1).trans rfl
                have yc0 := (blk_cell BY1.out.1 0).trans rfl
                have yc1 := (blk_cell BY1.out.1 1).trans rfl
                rcases HS.out with hr | ⟨rfl, hr⟩ | ⟨rfl, rfl, hs⟩ | ⟨rfl, rfl, hs, rfl, hl⟩
                · have cr0 : (r != 0) = true := bne_iff_ne.mpr hr
                  clear hr HS
                  go_step
                  go_wp2_with fail
                  go_ret
                  exact ⟨rfl, T1.out.hbe⟩
                · have cr0 : (s != 0) = true := bne_iff_ne.mpr hr
                  clear hr HS
                  go_step
                  go_wp2_with fail
                  go_ret
                  exact ⟨rfl, T1.out.hbe⟩
                · have HQ := Aside0.mk hs
                  clear hs HS
                  go_step
                  go_wp2_with (go_at_call 11; refine (sort_Same.calls fu r1 Ax cx r2 s1 Ay cy s2 false _ BX1.out.2.1 BX1.out.2.2 BY1.out.2.1 BY1.out.2.2 HQ.out).mono ?_; rintro e w2 ⟨rfl, hb⟩; have T2 := Aside0.mk (T1.out.below hb); clear hb)
                  go_ret
                  exact ⟨rfl, T2.out.hbe⟩
                have HQ := Aside0.mk hs
                have HL := Aside0.mk hl
                clear hs hl HS
                go_step
                go_wp2_with (go_at_call 11; refine (sort_Same.calls fu r1 Ax cx r2 s1 Ay cy s2 true _ BX1.out.2.1 BX1.out.2.2 BY1.out.2.1 BY1.out.2.2 HQ.out).mono ?_; rintro e w2 ⟨rfl, hb⟩; have T2 := Aside0.mk (T1.out.below hb); clear hb)
                clear xc0 xc1 yc0 yc1 T1 BX1 BY1
                have T1 := T2
                clear T2
                go_loopw [19] (fun v19 wc => ∃ x : Int, v19 = .int .i64 x ∧ Aside0 (0 ≤ x ∧ x ≤ l.length ∧ UfW w g3 g4 a b gs l A0 A1 A2 Al c0 c1 c2 cl wc)) (fun v19 _ => ((l.length : Int) - intOf v19).toNat)
                case atStart => exact ⟨0, rfl, Int.le_refl 0, Int.natCast_nonneg _, T1.out⟩
                case round =>
                  clear T1
                  obtain ⟨x, rfl, hx⟩ := hrel
                  obtain ⟨hx0, hx1, hA⟩ := hx.out
                  clear hx
                  have T1 := Aside0.mk hA
                  clear hA
                  have hll := HLN.out
                  by_cases hlt : x < (l.length : Int)
                  rotate_left
                  · have hd : decide (x < (l.length : Int)) = false := decide_eq_false hlt
                    clear hlt hx1 hll
                    go_wp2
                    go_ret
                    exact ⟨rfl, T1.out.hbe⟩
                  have hd : decide (x < (l.length : Int)) = true := decide_eq_true hlt
                  obtain ⟨ad, A2', c2', e', cx0, cx1, cx2, hl2, hi2⟩ := at_T50 T1.out.hcl x hx0 hlt
                  cases e'
                  have hL := HL.out x.toNat (by omega)
                  rw [Int.toNat_of_nonneg hx0] at hL
                  obtain ⟨p1, p2, p, q1, q2, q, hp, hq, hs⟩ := hL
                  have HP := Aside0.mk hp
                  have HQ1 := Aside0.mk hq
                  have HS := Aside0.mk hs
                  have HI := Aside0.mk (And.intro hl2 hi2)
                  clear hp hq hs hl2 hi2
                  have HX := Aside0.mk (And.intro hx0 (And.intro hlt hll))
                  replace hlt := eq_true hlt
                  have hx0t := eq_true hx0
                  go_upto_region 23 with (fail)
                  go_cut [20, 21] (fun v20 v21 wc => Aside0 (v21 = .int .i64 p ∧ (∃ gx Ax cx, v20 = .pointer (some ⟨gx, 0, none⟩) ∧ BoxS wc gx p1 Ax p2 cx) ∧ UfW w g3 g4 a b gs l A0 A1 A2 (some ad) c0 c1 c2 cl wc))
                  case first =>
                    go_wp2_with (first | (go_at_call 12; refine (espalierlaw5_named.calls (rd_T50 l x).f0 (rd_T50 l x).f0 [] _ rfl).mono ?_; rintro e w1_ ⟨vn, rfl, ho, hb⟩; obtain ⟨An, cn, rfl⟩ := Kd.R_slice ho; have HN0 := Aside0.mk (Kd.R_reads' ho).2; have T2 := Aside0.mk (T1.out.below hb); clear ho hb) | (go_at_call 16; refine (sort_Apply.calls (rd_T50 l x).f0 An cn [] A2 c2 gs p1 p2 p _ HN0.out.2 HN0.out.1 T2.out.hcg T2.out.hlg HP.out).mono ?_; rintro e w2_ ⟨vr, rfl, ho, hb⟩; obtain ⟨Ar, cr, rfl⟩ := Kd.N_slice ho; have HN := Aside0.mk (Kd.N_reads' ho).2; have T3 := Aside0.mk (T2.out.below hb); clear ho hb) | ((with_reducible refine gate_dst (N := 20) rfl ?_); refine box_event ?hg (N := 20) ?hd (cs := #[.string (⟨#[]⟩ : ByteArray), .slice none 0 0]) (t := 24) ?hr ?_; (case hd => rfl); (case hg => rfl); (case hr => first | (go_simp; done) | (go_simp; rfl)); intro gx hg w3_ hbox hb; have BX := Aside0.mk hbox; have BS := Aside0.mk (below_set (below_set hb (Nat.le_of_eq hg.symm) (j := 0) (v := .string p1)) (Nat.le_of_eq hg.symm) (j := 1) (v := .slice Ar p2.length cr)); have xc0 := (blk_cell hbox 0).trans rfl; have xc1 := (blk_cell hbox 1).trans rfl; have xf0 := blk_frozen hbox 0; have xf1 := blk_frozen hbox 1; clear hbox hb hg))
                    go_meet
                    case rel => exact ⟨rfl, ⟨_, _, _, rfl, blk_put (blk_put BX.out 0 _ rfl) 1 _ rfl, Kd.C_below HN.out.2 BS.out, HN.out.1⟩, T3.out.below BS.out⟩
                  case rest =>
                    obtain ⟨rfl, ⟨gp, Ap, cp, rfl, hx⟩, hA⟩ := hcut.out
                    clear hcut T1 HI cx0 cx1 cx2
                    have T1 := Aside0.mk hA
                    have BX1 := Aside0.mk hx
                    clear hA hx
                    obtain ⟨ad', A2', c2', e', cx0, cx1, cx2, hl2, hi2⟩ := at_T50 T1.out.hcl x HX.out.1 HX.out.2.1
                    cases e'
                    have HI := Aside0.mk (And.intro hl2 hi2)
                    clear hl2 hi2
                    go_upto_region 24 with (fail)
                    go_cut [22, 23] (fun v22 v23 wc => Aside0 (v23 = .int .i64 q ∧ (∃ gx Ax cx, v22 = .pointer (some ⟨gx, 0, none⟩) ∧ BoxS wc gx q1 Ax q2 cx) ∧ BoxS wc gp p1 Ap p2 cp ∧ UfW w g3 g4 a b gs l A0 A1 A2 (some ad) c0 c1 c2 cl wc))
                    case first =>
                      go_wp2_with (first | (go_at_call 16; refine (sort_Apply.calls (rd_T50 l x).f1.f0 A2' c2' (rd_T50 l x).f1.f1 A2 c2 gs q1 q2 q _ HI.out.2 HI.out.1 T1.out.hcg T1.out.hlg HQ1.out).mono ?_; rintro e w2_ ⟨vr, rfl, ho, hb⟩; obtain ⟨Ar, cr, rfl⟩ := Kd.N_slice ho; have HN := Aside0.mk (Kd.N_reads' ho).2; have T3 := Aside0.mk (T1.out.below hb); have BX2 := Aside0.mk (BX1.out.below hb); clear ho hb) | ((with_reducible refine gate_dst (N := 22) rfl ?_); refine box_event ?hg (N := 22) ?hd (cs := #[.string (⟨#[]⟩ : ByteArray), .slice none 0 0]) (t := 24) ?hr ?_; (case hd => rfl); (case hg => rfl); (case hr => first | (go_simp; done) | (go_simp; rfl)); intro gx hg w3_ hbox hb; have BX := Aside0.mk hbox; have BS := Aside0.mk (below_set (below_set hb (Nat.le_of_eq hg.symm) (j := 0) (v := .string q1)) (Nat.le_of_eq hg.symm) (j := 1) (v := .slice Ar q2.length cr)); have xc0 := (blk_cell hbox 0).trans rfl; have xc1 := (blk_cell hbox 1).trans rfl; have xf0 := blk_frozen hbox 0; have xf1 := blk_frozen hbox 1; clear hbox hb hg))
                      go_meet
                      case rel => exact ⟨rfl, ⟨_, _, _, rfl, blk_put (blk_put BX.out 0 _ rfl) 1 _ rfl, Kd.C_below HN.out.2 BS.out, HN.out.1⟩, BX2.out.below BS.out, T3.out.below BS.out⟩
                    case rest =>
                      obtain ⟨rfl, ⟨gq, Aq, cq, rfl, hy⟩, hx, hA⟩ := hcut.out
                      clear hcut T1 BX1 HI cx0 cx1 cx2
                      have T1 := Aside0.mk hA
                      have BX1 := Aside0.mk hx
                      have BY1 := Aside0.mk hy
                      clear hA hx hy
                      have xc0 := (blk_cell BX1.out.1 0).trans rfl
                      have xc1 := (blk_cell BX1.out.1 1).trans rfl
                      have yc0 := (blk_cell BY1.out.1 0).trans rfl
                      have yc1 := (blk_cell BY1.out.1 1).trans rfl
                      clear hlt hx0t hd
                      have hx0 : 0 ≤ x := HX.out.1
                      have hx9 : x ≤ 1000 := by have := HX.out.2; omega
                      rcases HS.out with hr | ⟨rfl, hr⟩ | ⟨rfl, rfl, hs⟩
                      · have cr0 : (p == 0) = false := beq_eq_false_iff_ne.mpr hr
                        clear hr HS
                        go_step
                        go_wp2_with fail
                        go_roundw
                        case rel => exact ⟨x + 1, by go_num, ⟨by have := HX.out; omega, by have := HX.out; omega, T1.out⟩⟩
                        case measure => have := HX.out; simp [intOf]; omega
                      · have cr0 : (q == 0) = false := beq_eq_false_iff_ne.mpr hr
                        clear hr HS
                        go_step
                        go_wp2_with fail
                        go_roundw
                        case rel => exact ⟨x + 1, by go_num, ⟨by have := HX.out; omega, by have := HX.out; omega, T1.out⟩⟩
                        case measure => have := HX.out; simp [intOf]; omega
                      · have HQ2 := Aside0.mk hs
                        clear hs HS
                        go_step
                        go_wp2_with (go_at_call 11; refine (sort_Same.calls fu p1 Ap cp p2 q1 Aq cq q2 true _ BX1.out.2.1 BX1.out.2.2 BY1.out.2.1 BY1.out.2.2 HQ2.out).mono ?_; rintro e w2 ⟨rfl, hb⟩; have T2 := Aside0.mk (T1.out.below hb); clear hb)
                        go_roundw
                        case rel => exact ⟨x + 1, by go_num, ⟨by have := HX.out; omega, by have := HX.out; omega, T2.out⟩⟩
                        case measure => have := HX.out; simp [intOf]; omega
                      skip

end Go.Proofs.Ytlibklfianghlaa.S

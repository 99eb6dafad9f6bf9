-- WRITTEN BY a program of this session (wip/extprint.py, over the kit's print.py); not trusted: Lean checks it.
import Derived.Test.YtlibklfianghlaaSx0
import Derived.Test.YtlibklfianghlaaSx3
import Derived.Test.YtlibklfianghlaaSx6
import Derived.Test.YtlibklfianghlaaSEOpen
import Derived.Test.YtlibklfianghlaaSERead
namespace Go.Proofs.Ytlibklfianghlaa.S
open Go.RowKit Go.Proofs.YtlibklfianghlaaW.PrintWords Go.Proofs.YtlibklfianghlaaW.PrintLast Go.Proofs.YtlibklfianghlaaW.PrintMore
attribute [local go_sem] max2_int min2_int max_two min_two max_three min_three max_four min_four   -- for this text's walks alone
set_option linter.unusedVariables false
set_option linter.unusedSimpArgs false

/-! SortThere's walk -/
def ThW (w wc : World) (g2 : Nat) (nm : ByteArray) (A : Option Addr) (l : List S24) (c : Nat) : Prop :=
  wc.heap[g2]? = some (.cells #[.string nm, .slice A l.length c] 24 (0, 0)) ∧ Below w.heap.size w wc ∧ w.heap.size ≤ g2
theorem ThW.below {w wc w1 : World} {g2 : Nat} {nm : ByteArray} {A : Option Addr} {l : List S24} {c : Nat} (h : ThW w wc g2 nm A l c) (hb : Below wc.heap.size wc w1) : ThW w w1 g2 nm A l c :=
  ⟨blk_below h.1 hb, below_step h.2.1 hb, h.2.2⟩
theorem ThW.far {w wc : World} {g2 : Nat} {nm : ByteArray} {A : Option Addr} {l : List S24} {c : Nat} (h : ThW w wc g2 nm A l c) {b j : Nat} (h0 : w.heap.size ≤ b) (h1 : g2 ≠ b) (u : Value) : ThW w (wc.setCell ⟨b, j, none⟩ u) g2 nm A l c := ⟨blk_far h.1 h1 _, below_set h.2.1 h0, h.2.2⟩
theorem pair_cells : ∀ (cs : List Value), cs.length = k24.sz → ∃ a b, cs = [a, b] := fun cs h => two_cells cs h
/-- What Read told, laid into a new block: the block, and the row behind it. -/
def ThR (w wc : World) (g2 g7 : Nat) (nm1 : ByteArray) (vr : Value) (l1 : List S24) : Prop :=
  wc.heap[g7]? = some (.cells #[.string nm1, vr] 24 (0, 0)) ∧ Kd.N k24 24 wc w.heap.size (fun k_ => w.heap.size ≤ k_ ∧ k_ ≠ g2 ∧ k_ ≠ g7) vr l1 ∧ w.heap.size ≤ g7 ∧ g2 ≠ g7
theorem ThR.below {w wc w1 : World} {g2 g7 : Nat} {nm1 : ByteArray} {vr : Value} {l1 : List S24} (h : ThR w wc g2 g7 nm1 vr l1) (hb : Below wc.heap.size wc w1) : ThR w w1 g2 g7 nm1 vr l1 := ⟨blk_below h.1 hb, Kd.N_below h.2.1 hb, h.2.2⟩
/-- .. its cells not yet stored. -/
def ThQ (w wc : World) (g2 g7 : Nat) (vr : Value) (l1 : List S24) : Prop :=
  wc.heap[g7]? = some (.cells #[.string (⟨#[]⟩ : ByteArray), .slice none 0 0] 24 (0, 0)) ∧ Kd.N k24 24 wc w.heap.size (fun k_ => w.heap.size ≤ k_ ∧ k_ ≠ g2 ∧ k_ ≠ g7) vr l1 ∧ w.heap.size ≤ g7 ∧ g2 ≠ g7
theorem ThR.stored {w wc : World} {g2 g7 : Nat} {nm1 : ByteArray} {vr : Value} {l1 : List S24} (h : ThQ w wc g2 g7 vr l1) :
    ThR w ((wc.setCell ⟨g7, 0, none⟩ (.string nm1)).setCell ⟨g7, 1, none⟩ vr) g2 g7 nm1 vr l1 :=
  ⟨blk_put (blk_put h.1 0 _ rfl) 1 _ rfl, Kd.N_far (Kd.N_far h.2.1 (fun _ hk => hk.2.2) _) (fun _ hk => hk.2.2) _, h.2.2⟩
theorem ThQ.made {w wc w1 w2 : World} {g2 g7 : Nat} {vr : Value} {l1 : List S24} (hN : Kd.N k24 24 w1 wc.heap.size (fun k_ => wc.heap.size ≤ k_) vr l1) (hB : Below w.heap.size w wc) (hb1 : Below wc.heap.size wc w1) (h2 : g2 < wc.heap.size) (hg : g7 = w1.heap.size) (hbox : w2.heap[g7]? = some (.cells #[.string (⟨#[]⟩ : ByteArray), .slice none 0 0] 24 (0, 0))) (hb : Below w1.heap.size w1 w2) : ThQ w w2 g2 g7 vr l1 := by
  have e1 := hB.size
  have e2 := hb1.size
  refine ⟨hbox, ?_, by omega, by omega⟩
  exact Kd.N_mono (Kd.N_lower (Kd.N_below (Kd.N_bound hN) hb) e1) (fun k hk => ⟨by omega, by omega, by omega⟩)
set_option maxRecDepth 100000 in
set_option maxHeartbeats 8000000 in
theorem there_walk (fu : Nat) (nm : ByteArray) (A : Option Addr) (c : Nat) (l : List S24) (t : ByteArray) (w : World) (hr0 : Kd.C k24 w A l.length l) (hc0 : l.length ≤ c)
    (hbeg : espalierlaw5_begun.f fu = some true) (u : ByteArray) (e : Int) (hE : e ≠ 0 ∨ e = 0 ∧ ∃ nm1 l1, sort_Read.f u = some (nm1, l1, 0, 0) ∧ sort_Same.f fu nm1 l1 nm l = some true)
    (nm2 : ByteArray) (l2 : List S24) (at2 f2 : Int) (hF : sort_Read.f t = some (nm2, l2, at2, f2)) (hF2 : f2 ≠ 0 ∧ nm2.toList = [] ∧ l2 = [] ∧ 0 ≤ at2 ∧ at2 ≤ (t.size : Int) ∨ f2 = 0 ∧ at2 = 0 ∧ sort_Text.f fu nm2 l2 = some (t, 0))
    (hT : sort_Text.f fu nm l = some (u, e)) (hM : sort_May.f fu nm l = some e) :
    Calls Try.prog 3 #[.agg #[.string nm, .slice A l.length c], .string t] w fun e w' => e = .returned (.bool true) ∧ Below w.heap.size w w' := by
  have hu24 := Try.underlying24
  have HC := Aside0.mk hc0
  have H0 := Aside0.mk hbeg
  have H1 := Aside0.mk hT
  have H2 := Aside0.mk hM
  have H3 := Aside0.mk hE
  have H4 := Aside0.mk hF
  have H5 := Aside0.mk hF2
  clear hbeg hT hM hE hF hF2
  go_enter Try.func3, Try.ntmps3
  go_upto_region 1 with (fail)
  have TH0 := Aside0.mk (show ThW w (w.alloc (.cells #[.string nm, .slice A l.length c] 24)) w.heap.size nm A l c from ⟨blk_new w _, below_alloc (Below.refl _ _) _, Nat.le_refl _⟩)
  have HR0 := Aside0.mk hr0
  clear hr0 hc0
  obtain ⟨g2, hg2⟩ : ∃ g, g = w.heap.size := ⟨_, rfl⟩
  rw [← hg2] at TH0 ⊢
  generalize w.alloc (.cells #[.string nm, .slice A l.length c] 24) = w0 at TH0 ⊢
  clear hg2
  go_upto_region 3 with (go_at_call 7; refine (espalierlaw5_begun.calls fu true _ H0.out).mono ?_; rintro e w1 ⟨rfl, hb⟩; have TH1 := Aside0.mk (TH0.out.below hb); clear hb)
  clear TH0
  go_cut [5, 6] (fun v5 v6 wc => Aside0 (v5 = .string u ∧ v6 = .int .i64 e ∧ ThW w wc g2 nm A l c))
  case first =>
    have z0 := (blk_cell TH1.out.1 0).trans rfl
    have z1 := (blk_cell TH1.out.1 1).trans rfl
    go_wp2_with (go_at_call 8; refine (sort_Text.calls fu nm A c l u e _ (Kd.C_below HR0.out TH1.out.2.1) HC.out H1.out).mono ?_; rintro e w2 ⟨rfl, hb⟩; have TH2 := Aside0.mk (TH1.out.below hb); clear hb)
    go_meet
    case rel => exact ⟨rfl, rfl, TH2.out⟩
  case rest =>
    obtain ⟨rfl, rfl, hA⟩ := hcut.out
    clear hcut TH1
    have TH1 := Aside0.mk hA
    clear hA
    have z0 := (blk_cell TH1.out.1 0).trans rfl
    have z1 := (blk_cell TH1.out.1 1).trans rfl
    have ee : (e != e) = false := by simp
    go_step
    go_step
    go_cut [] (fun wc => Aside0 (ThW w wc g2 nm A l c))
    case first =>
      go_wp2_with (go_at_call 9; refine (sort_May.calls fu nm A c l e _ (Kd.C_below HR0.out TH1.out.2.1) HC.out H2.out).mono ?_; rintro e w2 ⟨rfl, hb⟩; have TH2 := Aside0.mk (TH1.out.below hb); clear hb)
      go_meet
      case rel => exact TH2
    case rest =>
      clear TH1 z0 z1 ee
      have TH1 := hcut
      clear hcut
      go_step
      go_step
      go_cut [] (fun wc => Aside0 (ThW w wc g2 nm A l c))
      case first =>
        rcases H3.out with he | ⟨rfl, nm1, l1, hRd, hSm⟩
        · have ce : (e == 0) = false := beq_eq_false_iff_ne.mpr he
          go_wp2_with fail
          go_meet
          case rel => exact TH1
        · have HRd := Aside0.mk hRd
          have HSm := Aside0.mk hSm
          clear hRd hSm
          go_upto_region 7 with (fail)
          go_cut [7, 8, 9] (fun v7 v8 v9 wc => Aside0 (v8 = .int .i64 0 ∧ v9 = .int .i64 0 ∧ ∃ g7 vr, v7 = .pointer (some ⟨g7, 0, none⟩) ∧ ThR w wc g2 g7 nm1 vr l1 ∧ ThW w wc g2 nm A l c))
          case first =>
            go_wp2_with (first | (go_at_call 10; refine (sort_Read.calls u nm1 l1 0 0 _ HRd.out).mono ?_; rintro e w3 ⟨vr, rfl, ho, hb⟩; have HN := Aside0.mk ho; have HB1 := Aside0.mk hb; have TH2 := Aside0.mk (TH1.out.below hb); clear ho hb; obtain ⟨Ar, cr, rfl⟩ := Kd.N_slice HN.out) | ((with_reducible refine gate_dst (N := 7) rfl ?_); refine box_event ?hg (N := 7) ?hd (cs := #[.string (⟨#[]⟩ : ByteArray), .slice none 0 0]) (t := 24) ?hr ?_; (case hd => rfl); (case hg => rfl); (case hr => first | (go_simp; done) | (go_simp; rfl)); intro g7 hg w4 hbox hb; have TR := Aside0.mk (ThQ.made HN.out TH1.out.2.1 HB1.out (blk_lt TH1.out.1) hg hbox hb); have TH3 := Aside0.mk (TH2.out.below hb); have bc0 := (blk_cell hbox 0).trans rfl; have bc1 := (blk_cell hbox 1).trans rfl; have bf0 := blk_frozen hbox 0; have bf1 := blk_frozen hbox 1; clear hbox hb hg))
            go_meet
            case rel => exact ⟨rfl, rfl, _, _, rfl, ThR.stored TR.out, ((TH3.out.far TR.out.2.2.1 TR.out.2.2.2 _).far TR.out.2.2.1 TR.out.2.2.2 _)⟩
          case rest =>
            obtain ⟨rfl, rfl, g7, vr, rfl, hR, hA⟩ := hcut.out
            clear hcut TH1
            have TH1 := Aside0.mk hA
            have TR := Aside0.mk hR
            clear hA hR
            obtain ⟨Ar, cr, rfl⟩ := Kd.N_slice TR.out.2.1
            have z0 := (blk_cell TH1.out.1 0).trans rfl
            have z1 := (blk_cell TH1.out.1 1).trans rfl
            have y0 := (blk_cell TR.out.1 0).trans rfl
            have y1 := (blk_cell TR.out.1 1).trans rfl
            go_step
            go_step
            go_cut [] (fun wc => Aside0 (ThR w wc g2 g7 nm1 (.slice Ar l1.length cr) l1 ∧ ThW w wc g2 nm A l c))
            case first =>
              go_wp2_with (go_at_call 11; refine (sort_Same.calls fu nm1 Ar cr l1 nm A c l true _ (Kd.N_reads' TR.out.2.1).2.2 (Kd.N_reads' TR.out.2.1).2.1 (Kd.C_below HR0.out TH1.out.2.1) HC.out HSm.out).mono ?_; rintro e w2 ⟨rfl, hb⟩; have TH2 := Aside0.mk (TH1.out.below hb); have TR2 := Aside0.mk (TR.out.below hb); clear hb)
              go_meet
              case rel => exact ⟨TR2.out, TH2.out⟩
            case rest =>
              obtain ⟨hR, hA⟩ := hcut.out
              clear hcut TH1 TR z0 z1 y0 y1
              have TH1 := Aside0.mk hA
              have TR := Aside0.mk hR
              clear hA hR
              have y0 := (blk_cell TR.out.1 0).trans rfl
              have y1 := (blk_cell TR.out.1 1).trans rfl
              go_step
              go_step
              go_cut [] (fun wc => Aside0 (ThW w wc g2 nm A l c))
              case first =>
                by_cases hl : 0 < l1.length
                · have cl : decide ((0 : Int) < (l1.length : Int)) = true := decide_eq_true (by omega)
                  have cl2 : (0 < l1.length) = True := eq_true hl
                  go_upto_region 11 with (fail)
                  obtain ⟨gw, cap, hv, hb0, hlt, cells, hcells⟩ := Kd.N_form TR.out.2.1 hl
                  injection hv with hv1 _ hv3
                  subst hv1 hv3
                  obtain ⟨cc, hcl, _, hcc, hfr⟩ := Kd.N_elem TR.out.2.1 z24 0 (by omega) (by omega)
                  obtain ⟨ca, cb, rfl⟩ := pair_cells cc hcl
                  have GW := Aside0.mk (show w.heap.size ≤ gw ∧ g2 ≠ gw from ⟨hb0, fun e => (TR.out.2.1.1 gw (by simp [Value.ownBlock])).2.1 e.symm⟩)
                  have x0 : wc.cell? ⟨gw, 0, none⟩ = some ca := hcc 0 _ rfl
                  have x1 : wc.cell? ⟨gw, 1, none⟩ = some cb := hcc 1 _ rfl
                  have xf0 := blk_frozen hcells 0
                  have xf1 := blk_frozen hcells 1
                  have BW := Aside0.mk hcells
                  have e0 := (blk_cell hcells 0).symm.trans x0
                  have e1 := (blk_cell hcells 1).symm.trans x1
                  have E0 := Aside0.mk e0
                  have E1 := Aside0.mk e1
                  clear hcells hcc hfr e0 e1 hb0 hlt hcl
                  go_region_with (go_at_call 12; refine (espalierlaw5_named.calls ⟨#[115, 112, 111, 105, 108, 116]⟩ ⟨#[115, 112, 111, 105, 108, 116]⟩ [] _ rfl).mono ?_; rintro e w2 ⟨vn, rfl, ho, hb0⟩; have hb := below_step (w := wc) (W := wc.drew) (below_drew1 (Below.refl _ _)) hb0; have TH2 := Aside0.mk (TH1.out.below hb); have TR2 := Aside0.mk (TR.out.below hb); have BW2 := Aside0.mk (blk_below BW.out hb); obtain ⟨An, cn, rfl⟩ := Kd.R_slice ho; clear hb hb0 ho; have p0 := (blk_cell BW2.out 0).trans E0.out; have p1 := (blk_cell BW2.out 1).trans E1.out; have pf0 := blk_frozen BW2.out 0; have pf1 := blk_frozen BW2.out 1; have q0 := (blk_cell TR2.out.1 0).trans rfl; have q1 := (blk_cell TR2.out.1 1).trans rfl)
                  all_goals
                    go_wp2_with fail
                    go_meet
                    case rel => exact ⟨(TH2.out.far GW.out.1 GW.out.2 _).far GW.out.1 GW.out.2 _⟩
                · have cl : decide ((0 : Int) < (l1.length : Int)) = false := decide_eq_false (by omega)
                  have cl2 : (0 < l1.length) = False := eq_false hl
                  go_wp2_with fail
                  go_meet
                  case rel => exact TH1
              case rest =>
                have TH1 := hcut
                clear hcut TR y0 y1
                go_upto_region 12 with (fail)
                go_cut [10] (fun v10 wc => Aside0 (∃ g7 vr, v10 = .pointer (some ⟨g7, 0, none⟩) ∧ ThR w wc g2 g7 nm1 vr l1 ∧ ThW w wc g2 nm A l c))
                case first =>
                  go_wp2_with (first | (go_at_call 10; refine (sort_Read.calls u nm1 l1 0 0 _ HRd.out).mono ?_; rintro e w3 ⟨vr, rfl, ho, hb⟩; have HN := Aside0.mk ho; have HB1 := Aside0.mk hb; have TH2 := Aside0.mk (TH1.out.below hb); clear ho hb; obtain ⟨Ar, cr, rfl⟩ := Kd.N_slice HN.out) | ((with_reducible refine gate_dst (N := 10) rfl ?_); refine box_event ?hg (N := 10) ?hd (cs := #[.string (⟨#[]⟩ : ByteArray), .slice none 0 0]) (t := 24) ?hr ?_; (case hd => rfl); (case hg => rfl); (case hr => first | (go_simp; done) | (go_simp; rfl)); intro g7 hg w4 hbox hb; have TR := Aside0.mk (ThQ.made HN.out TH1.out.2.1 HB1.out (blk_lt TH1.out.1) hg hbox hb); have TH3 := Aside0.mk (TH2.out.below hb); have bc0 := (blk_cell hbox 0).trans rfl; have bc1 := (blk_cell hbox 1).trans rfl; have bf0 := blk_frozen hbox 0; have bf1 := blk_frozen hbox 1; clear hbox hb hg))
                  go_meet
                  case rel => exact ⟨_, _, rfl, ThR.stored TR.out, ((TH3.out.far TR.out.2.2.1 TR.out.2.2.2 _).far TR.out.2.2.1 TR.out.2.2.2 _)⟩
                case rest =>
                  obtain ⟨g8, vr, rfl, hR, hA⟩ := hcut.out
                  clear hcut TH1
                  have TH1 := Aside0.mk hA
                  have TR := Aside0.mk hR
                  clear hA hR
                  obtain ⟨Ar2, cr2, rfl⟩ := Kd.N_slice TR.out.2.1
                  have z0 := (blk_cell TH1.out.1 0).trans rfl
                  have z1 := (blk_cell TH1.out.1 1).trans rfl
                  have y0 := (blk_cell TR.out.1 0).trans rfl
                  have y1 := (blk_cell TR.out.1 1).trans rfl
                  go_wp2_with (go_at_call 11; refine (sort_Same.calls fu nm1 Ar2 cr2 l1 nm A c l true _ (Kd.N_reads' TR.out.2.1).2.2 (Kd.N_reads' TR.out.2.1).2.1 (Kd.C_below HR0.out TH1.out.2.1) HC.out HSm.out).mono ?_; rintro e w2 ⟨rfl, hb⟩; have TH2 := Aside0.mk (TH1.out.below hb); clear hb)
                  go_meet
                  case rel => exact TH2
      case rest =>
        clear TH1
        have TH1 := hcut
        clear hcut
        go_upto_region 15 with (fail)
        go_cut [13, 14, 15] (fun v13 v14 v15 wc => Aside0 (v14 = .int .i64 at2 ∧ v15 = .int .i64 f2 ∧ ∃ g7 vr, v13 = .pointer (some ⟨g7, 0, none⟩) ∧ ThR w wc g2 g7 nm2 vr l2 ∧ ThW w wc g2 nm A l c))
        case first =>
          go_wp2_with (first | (go_at_call 10; refine (sort_Read.calls t nm2 l2 at2 f2 _ H4.out).mono ?_; rintro e w3 ⟨vr, rfl, ho, hb⟩; have HN := Aside0.mk ho; have HB1 := Aside0.mk hb; have TH2 := Aside0.mk (TH1.out.below hb); clear ho hb; obtain ⟨Ar, cr, rfl⟩ := Kd.N_slice HN.out) | ((with_reducible refine gate_dst (N := 13) rfl ?_); refine box_event ?hg (N := 13) ?hd (cs := #[.string (⟨#[]⟩ : ByteArray), .slice none 0 0]) (t := 24) ?hr ?_; (case hd => rfl); (case hg => rfl); (case hr => first | (go_simp; done) | (go_simp; rfl)); intro g7 hg w4 hbox hb; have TR := Aside0.mk (ThQ.made HN.out TH1.out.2.1 HB1.out (blk_lt TH1.out.1) hg hbox hb); have TH3 := Aside0.mk (TH2.out.below hb); have bc0 := (blk_cell hbox 0).trans rfl; have bc1 := (blk_cell hbox 1).trans rfl; have bf0 := blk_frozen hbox 0; have bf1 := blk_frozen hbox 1; clear hbox hb hg))
          go_meet
          case rel => exact ⟨rfl, rfl, _, _, rfl, ThR.stored TR.out, ((TH3.out.far TR.out.2.2.1 TR.out.2.2.2 _).far TR.out.2.2.1 TR.out.2.2.2 _)⟩
        case rest =>
          obtain ⟨rfl, rfl, g8, vr, rfl, hR, hA⟩ := hcut.out
          clear hcut TH1
          have TH1 := Aside0.mk hA
          have TR := Aside0.mk hR
          clear hA hR
          obtain ⟨Ar2, cr2, rfl⟩ := Kd.N_slice TR.out.2.1
          have y0 := (blk_cell TR.out.1 0).trans rfl
          have y1 := (blk_cell TR.out.1 1).trans rfl
          rcases H5.out with ⟨hf, hn, rfl, h0, h1⟩ | ⟨rfl, rfl, hTx⟩
          · have cf : (f2 != 0) = true := bne_iff_ne.mpr hf
            have cn : (nm2.toList == ([] : List UInt8)) = true := beq_iff_eq.mpr hn
            have cn2 : nm2.toList.isEmpty = true := by rw [hn]; rfl
            have ca : decide (0 ≤ at2) = true := decide_eq_true h0
            have cb : decide (at2 ≤ (t.size : Int)) = true := decide_eq_true h1
            go_wp2_with fail
            refine bodyPost_ret (v := .bool true) (by simp [results, Try.results3, go_sem]) rfl ⟨rfl, TH1.out.2.1⟩
          · have HTx := Aside0.mk hTx
            clear hTx
            have ct : (t.toList == t.toList) = true := by simp
            go_wp2_with (go_at_call 8; refine (sort_Text.calls fu nm2 Ar2 cr2 l2 t 0 _ (Kd.N_reads' TR.out.2.1).2.2 (Kd.N_reads' TR.out.2.1).2.1 HTx.out).mono ?_; rintro e w2 ⟨rfl, hb⟩; have TH2 := Aside0.mk (TH1.out.below hb); clear hb)
            refine bodyPost_ret (v := .bool true) (by simp [results, Try.results3, go_sem]) rfl ⟨rfl, TH2.out.2.1⟩


end Go.Proofs.Ytlibklfianghlaa.S

-- WRITTEN BY a program of this session (wip/extprint.py, over the kit's print.py); not trusted: Lean checks it.
import Derived.Test.YtlibklfianghlaaSx0
import Derived.Test.YtlibklfianghlaaSx3
import Derived.Test.YtlibklfianghlaaSEGiven
import Derived.Test.YtlibklfianghlaaSEMapR
import Derived.Test.YtlibklfianghlaaSEMapS
import Derived.Test.YtlibklfianghlaaSEMath
import Derived.Test.YtlibklfianghlaaSEUnify
namespace Go.Proofs.Ytlibklfianghlaa.S
open Go.RowKit Go.Proofs.YtlibklfianghlaaW.PrintWords Go.Proofs.YtlibklfianghlaaW.PrintLast Go.Proofs.YtlibklfianghlaaW.PrintMore
attribute [local go_sem] max2_int min2_int max_two min_two max_three min_three max_four min_four   -- for this text's walks alone
set_option linter.unusedVariables false
set_option linter.unusedSimpArgs false

/-! sort.Apply: what it does with the givens -/
def ivA : Value → Nat
  | .int _ i => i.toNat
  | _ => 0
def getC : List (ByteArray × Nat × ByteArray) → ByteArray → Option (Nat × ByteArray)
  | [], _ => none
  | (a, v) :: r, k => if a = k then some v else getC r k
def setC : List (ByteArray × Nat × ByteArray) → ByteArray → Nat × ByteArray → List (ByteArray × Nat × ByteArray)
  | [], k, v => [(k, v)]
  | (a, x) :: r, k, v => if a = k then (a, v) :: r else (a, x) :: setC r k v
def valC (r : Nat × ByteArray) : Value := .agg #[.int .i64 (r.1 : Int), .string r.2]
theorem getA_entB (k : ByteArray) : ∀ (M : List (ByteArray × Nat × ByteArray)), getA (M.map entB) k = (getC M k).map valC
  | [] => rfl
  | (a, v) :: r => by
    show (if a = k then _ else _) = _
    unfold getC
    split
    · rfl
    · exact getA_entB k r
theorem setA_entB (k : ByteArray) (v : Nat × ByteArray) : ∀ (M : List (ByteArray × Nat × ByteArray)), setA (M.map entB) k (valC v) = (setC M k v).map entB
  | [] => rfl
  | (a, x) :: r => by
    show (if a = k then _ else _) = _
    unfold setC
    split
    · rfl
    · show _ = _ :: _
      rw [← setA_entB k v r]; rfl
theorem getC_le {M : List (ByteArray × Nat × ByteArray)} (h : ∀ e ∈ M, e.2.1 ≤ 64) {k : ByteArray} {r : Nat × ByteArray} (hg : getC M k = some r) : r.1 ≤ 64 := by
  induction M with
  | nil => cases hg
  | cons e M ih =>
    obtain ⟨a, v⟩ := e
    unfold getC at hg
    split at hg
    · cases hg; exact h _ (List.mem_cons_self ..)
    · exact ih (fun e he => h e (List.mem_cons_of_mem _ he)) hg
theorem setC_le {M : List (ByteArray × Nat × ByteArray)} (h : ∀ e ∈ M, e.2.1 ≤ 64) (k : ByteArray) (r : Nat × ByteArray) (hr : r.1 ≤ 64) : ∀ e ∈ setC M k r, e.2.1 ≤ 64 := by
  induction M with
  | nil => intro e he; simp [setC] at he; subst he; exact hr
  | cons e M ih =>
    obtain ⟨a, v⟩ := e
    unfold setC
    have hM := ih (fun e he => h e (List.mem_cons_of_mem _ he))
    have ha := h (a, v) (List.mem_cons_self ..)
    split
    · intro e he
      rcases List.mem_cons.1 he with rfl | he
      · exact hr
      · exact h e (List.mem_cons_of_mem _ he)
    · intro e he
      rcases List.mem_cons.1 he with rfl | he
      · exact ha
      · exact hM e he
def stepC (M : List (ByteArray × Nat × ByteArray)) (x : S50) : Option (List (ByteArray × Nat × ByteArray)) := match chainT 65 x.f1.f0 x.f1.f1 with
  | none => none
  | some r => some (if (getC M x.f0).isSome then setC M ⟨#[]⟩ (0, ⟨#[]⟩) else if isVar x.f0 then setC M x.f0 r else setC M ⟨#[]⟩ (0, ⟨#[]⟩))
def foldC : List (ByteArray × Nat × ByteArray) → List S50 → Option (List (ByteArray × Nat × ByteArray))
  | M, [] => some M
  | M, x :: r => match stepC M x with
    | none => none
    | some M' => foldC M' r
def wholeC (n : Nat) (p : ByteArray) : ByteArray × List S24 × Int := if n ≥ 65 then (⟨#[]⟩, [], 2) else ((wholeT n p).f0, (wholeT n p).f1, 0)
def doneC (n : Nat) (p : ByteArray) (M : List (ByteArray × Nat × ByteArray)) : ByteArray × List S24 × Int :=
  if (getC M ⟨#[]⟩).isSome then (⟨#[]⟩, [], 1) else match getC M p with
    | some r => wholeC (n + r.1) r.2
    | none => wholeC n p
def applyC (n : Nat) (p : ByteArray) (o : Option (List (ByteArray × Nat × ByteArray))) : ByteArray × List S24 × Int := match o with
  | none => (⟨#[]⟩, [], 14)
  | some M => doneC n p M
def applyT (c : Option (Nat × ByteArray)) (l : List S50) : ByteArray × List S24 × Int := match c with
  | none => (⟨#[]⟩, [], 14)
  | some (n, p) => applyC n p (foldC [] l)
def sort_Apply.f (a0_0 : ByteArray) (l0_1 : List (S24)) (l1 : List (S50)) : Option (ByteArray × (List (S24)) × Int) := some (applyT (chainT 65 a0_0 l0_1) l1)
theorem foldC_drop (M : List (ByteArray × Nat × ByteArray)) (l : List S50) (j : Nat) (hj : j < l.length) : foldC M (l.drop j) = match stepC M (rd_T50 l j) with | none => none | some M' => foldC M' (l.drop (j + 1)) := by
  rw [List.drop_eq_getElem_cons hj]
  have : rd_T50 l j = l[j] := by unfold rd_T50; simp [List.getD_eq_getElem?_getD, List.getElem?_eq_getElem hj]
  rw [this]
  rfl
/-- The blocks of the call: the result's, the chain's, the map's. -/
def ApW (w wc : World) (gr gc g : Nat) (x : Int) (p : ByteArray) (M : List (ByteArray × Nat × ByteArray)) : Prop :=
  wc.heap[gr]? = some (.cells #[.string (⟨#[]⟩ : ByteArray), .slice none 0 0] 24 (0, 0)) ∧ wc.heap[gc]? = some (.cells #[.int .i64 x, .string p] 58 (0, 0)) ∧ MapS wc g (M.map entB) ∧ Below w.heap.size w wc ∧ w.heap.size ≤ gr ∧ w.heap.size ≤ gc ∧ w.heap.size ≤ g
theorem ApW.below {w wc w1 : World} {gr gc g : Nat} {x : Int} {p : ByteArray} {M : List (ByteArray × Nat × ByteArray)} (h : ApW w wc gr gc g x p M) (hb : Below wc.heap.size wc w1) : ApW w w1 gr gc g x p M :=
  ⟨blk_below h.1 hb, blk_below h.2.1 hb, h.2.2.1.below hb, below_step h.2.2.2.1 hb, h.2.2.2.2⟩
theorem ApW.far {w wc : World} {gr gc g : Nat} {x : Int} {p : ByteArray} {M : List (ByteArray × Nat × ByteArray)} (h : ApW w wc gr gc g x p M) {b j : Nat} (h0 : w.heap.size ≤ b) (h1 : gr ≠ b) (h2 : gc ≠ b) (h3 : g ≠ b) (u : Value) : ApW w (wc.setCell ⟨b, j, none⟩ u) gr gc g x p M :=
  ⟨blk_far h.1 h1 _, blk_far h.2.1 h2 _, h.2.2.1.far h3 _, below_set h.2.2.2.1 h0, h.2.2.2.2⟩
theorem ApW.lt {w wc : World} {gr gc g : Nat} {x : Int} {p : ByteArray} {M : List (ByteArray × Nat × ByteArray)} (h : ApW w wc gr gc g x p M) : gr < wc.heap.size ∧ gc < wc.heap.size ∧ g < wc.heap.size := ⟨blk_lt h.1, blk_lt h.2.1, h.2.2.1.lt⟩
theorem ApW.put {w wc w1 : World} {gr gc g : Nat} {x : Int} {p : ByteArray} {M M' : List (ByteArray × Nat × ByteArray)} (h : ApW w wc gr gc g x p M) (hM : MapS w1 g (M'.map entB)) (hg : wc.grownBy w1 (some g)) : ApW w w1 gr gc g x p M' := by
  have h1 : gr ≠ g := (h.2.2.1.ne h.1).symm
  have h2 : gc ≠ g := (h.2.2.1.ne h.2.1).symm
  refine ⟨blk_grown h.1 hg (by simpa using h1), blk_grown h.2.1 hg (by simpa using h2), hM, ⟨hg.os.trans h.2.2.2.1.os, hg.tape.trans h.2.2.2.1.tape, hg.output.trans h.2.2.2.1.output, Nat.le_trans h.2.2.2.1.size hg.size, fun k hk => (hg.block k (Nat.lt_of_lt_of_le hk h.2.2.2.1.size) (by have := h.2.2.2.2.2.2; simp; omega)).trans (h.2.2.2.1.block k hk)⟩, h.2.2.2.2⟩
theorem ApW.ne {w wc : World} {gr gc g : Nat} {x : Int} {p : ByteArray} {M : List (ByteArray × Nat × ByteArray)} (h : ApW w wc gr gc g x p M) : gr ≠ gc := by
  intro e
  have := h.2.1
  rw [← e, h.1] at this
  simp at this


theorem below2 (w : World) (A B : Obj) : Below w.heap.size w ((w.alloc A).alloc B) := ((Below.refl _ _).alloc (Nat.le_refl _) A).alloc (by simp) B
set_option maxRecDepth 100000 in
set_option maxHeartbeats 8000000 in
theorem apply_walk (a0_0 : ByteArray) (A0_1 : Option Addr) (c0_1 : Nat) (l0_1 : List (S24)) (A1 : Option Addr) (c1 : Nat) (l1 : List (S50)) (w : World) (hr0_1 : Kd.C k24 w A0_1 l0_1.length l0_1) (hc0_1 : l0_1.length ≤ c0_1) (hr1 : Kd.C k50 w A1 l1.length l1) (hc1 : l1.length ≤ c1)
   (x : Int) (p : ByteArray) (o : Bool) (R : ByteArray × List S24 × Int) (ho : o = true → 0 ≤ x ∧ x ≤ 64) (hR : (if o then applyC x.toNat p (foldC [] l1) else (⟨#[]⟩, [], 14)) = R) (h1 : sort_cut.f 131 a0_0 l0_1 = some (x, p, o)) :
    Calls Try.prog 16 #[.agg #[.string a0_0, .slice A0_1 l0_1.length c0_1], .slice A1 l1.length c1] w fun e w' => ∃ v1_ : Value, e = .returned (.tuple #[.agg #[.string R.1, v1_], .int .i64 R.2.2]) ∧ Kd.N k24 24 w' w.heap.size (fun k_ => w.heap.size ≤ k_) v1_ R.2.1 ∧ Below w.heap.size w w' := by
  have hu24 := Try.underlying24
  have hu50 := Try.underlying50
  have hu58 := Try.underlying58
  have HR0 := Aside0.mk hr0_1
  have HC0 := Aside0.mk hc0_1
  have HR1 := Aside0.mk hr1
  have HC1 := Aside0.mk hc1
  clear hr0_1 hc0_1 hr1 hc1
  have H1 := Aside0.mk h1
  have HO := Aside0.mk ho
  have HRR := Aside0.mk hR
  clear h1 ho hR
  go_enter Try.func16, Try.ntmps16
  go_upto_region 1 with (fail)
  have HB0 := Aside0.mk (below2 w (.cells #[.string a0_0, .slice A0_1 l0_1.length c0_1] 24) (.cells #[.string (⟨#[]⟩ : ByteArray), .slice none 0 0] 24))
  have BB0 := Aside0.mk (r24B w (.cells #[.string a0_0, .slice A0_1 l0_1.length c0_1] 24) (.cells #[.string (⟨#[]⟩ : ByteArray), .slice none 0 0] 24))
  go_cut [6, 7] (fun v6 v7 wc => Aside0 (v7 = .bool o ∧ ∃ gc, v6 = .pointer (some ⟨gc, 0, none⟩) ∧ wc.heap[gc]? = some (.cells #[.int .i64 x, .string p] 58 (0, 0)) ∧ wc.heap[w.heap.size + 1]? = some (.cells #[.string (⟨#[]⟩ : ByteArray), .slice none 0 0] 24 (0, 0)) ∧ Below w.heap.size w wc ∧ w.heap.size + 1 < gc))
  case first =>
    go_wp2_with (first | (go_at_call_of 24 a0_0; refine (sort_cut.calls 131 a0_0 (fun k_ => k_ < w.heap.size) _ _ l0_1 x p o _ (Kd.V_mk HC0.out (Kd.F_below (Kd.C_F k24_heap HR0.out) (by repeat (first | exact HB0.out | apply below_alloc | apply pw_below_drewN | apply below_drew)))) H1.out).mono ?_; rintro e w1 ⟨rfl, hb⟩; have HB1 := Aside0.mk (below_step HB0.out hb); have BB1 := Aside0.mk (blk_below BB0.out hb); clear HB0 BB0; clear hb) | ((with_reducible refine gate_dst (N := 6) rfl ?_); refine box_event ?hg (N := 6) ?hd (cs := #[.int .i64 0, .string (⟨#[]⟩ : ByteArray)]) (t := 58) ?hr ?_; (case hd => rfl); (case hg => rfl); (case hr => first | (go_simp; done) | (go_simp; rfl)); intro gx hg w3 hbox hb; have BX := Aside0.mk hbox; have HB2 := Aside0.mk (below_step HB1.out hb); have BB2 := Aside0.mk (blk_below BB1.out hb); have GX := Aside0.mk (show w.heap.size + 1 < gx by rw [hg]; exact blk_lt BB1.out); clear HB1 BB1; have xc0 := (blk_cell BX.out 0).trans rfl; have xf0 := blk_frozen BX.out 0; have xc1 := (blk_cell BX.out 1).trans rfl; have xf1 := blk_frozen BX.out 1; clear hbox hb hg))
    go_meet
    case rel => exact ⟨rfl, _, rfl, blk_put (blk_put BX.out 0 _ rfl) 1 _ rfl, blk_far (blk_far BB2.out (by have := GX.out; simp; omega) _) (by have := GX.out; simp; omega) _, (HB2.out.setCell (by have := GX.out; simp; omega) _).setCell (by have := GX.out; simp; omega) _, GX.out⟩
  case rest =>
    have hcut' := hcut.out
    clear hcut HB0 BB0
    obtain ⟨rfl, gc, rfl, hA⟩ := hcut'
    have UA := Aside0.mk hA
    clear hA
    have rc0 := (blk_cell UA.out.2.1 0).trans rfl
    have rc1 := (blk_cell UA.out.2.1 1).trans rfl
    have rf0 := blk_frozen UA.out.2.1 0
    have rf1 := blk_frozen UA.out.2.1 1
    cases o with
    | false =>
      have e : R = (⟨#[]⟩, [], 14) := by have := HRR.out; simpa using this.symm
      subst e
      go_wp2_with fail
      refine bodyPost_ret (results_ct rfl _ _ (w.heap.size + 1) 24 #[.string (⟨#[]⟩ : ByteArray), .slice none 0 0] (0, 0) _ rfl (blk_put (blk_put UA.out.2.1 0 _ rfl) 1 _ rfl) Try.underlying24 rfl (by kernel_rfl)) rfl ?_
      exact ⟨_, rfl, Kd.N_nil _ _ _ _ _, below_set (below_set UA.out.2.2.1 (by omega)) (by omega)⟩
    | true =>
      obtain ⟨hx0, hx1⟩ := HO.out rfl
      have HRp := Aside0.mk (show applyC x.toNat p (foldC [] l1) = R from HRR.out)
      clear HRR HO
      obtain ⟨gr, hgr⟩ : ∃ gr, gr = w.heap.size + 1 := ⟨_, rfl⟩
      go_upto_region 4 with (fail)
      go_cut [8] (fun v8 wc => Aside0 (∃ g, v8 = .map (some g) ∧ ApW w wc gr gc g x p []))
      case first =>
        go_wp2_with ((with_reducible refine gate_dst (N := 27) rfl ?_); refine map_event rfl 66 rfl ?_; intro g hg w5 hM hb; have A5 := Aside0.mk (show ApW w w5 gr gc g x p [] from ⟨by rw [hgr]; exact blk_below UA.out.2.1 hb, blk_below UA.out.1 hb, hM, below_step UA.out.2.2.1 hb, by omega, by have := UA.out.2.2.2; omega, by rw [hg]; exact below_size UA.out.2.2.1⟩); clear hg hM hb)
        go_meet
        case rel => exact ⟨_, rfl, A5.out⟩
      case rest =>
        have hcut' := hcut.out
        clear hcut UA rc0 rc1 rf0 rf1
        obtain ⟨g, rfl, hA⟩ := hcut'
        have AP0 := Aside0.mk hA
        clear hA
        rw [← hgr]
        clear hgr
        have hu66 := Try.underlying66
        go_wp2_with fail
        go_loopw [30] (fun s wr => Aside0 (∃ (j : Nat) (M : List (ByteArray × Nat × ByteArray)), s = .int .i64 (j : Int) ∧ j ≤ l1.length ∧ foldC M (l1.drop j) = foldC [] l1 ∧ (∀ e ∈ M, e.2.1 ≤ 64) ∧ ApW w wr gr gc g x p M)) (fun s _ => l1.length - ivA s)
        case atStart => exact ⟨0, [], rfl, Nat.zero_le _, rfl, by simp, AP0.out⟩
        case round =>
          have hrel' := hrel.out
          clear hrel AP0
          obtain ⟨j, M, rfl, hj, hF, hM64, hA⟩ := hrel'
          have AP := Aside0.mk hA
          have HF := Aside0.mk hF
          have HM64 := Aside0.mk hM64
          clear hA hF hM64
          by_cases hjl : j < l1.length
          · have cj : decide ((j : Int) < (l1.length : Int)) = true := decide_eq_true (by omega)
            obtain ⟨ad, A2, c2, e, hx0', hx1', hx2', hl2, hi2⟩ := at_T50 HR1.out (j : Int) (by omega) (by omega)
            subst e
            have hmx := HR1.out.2.1
            have hwj : wrap64 ((j : Int) + 1) = ((j + 1 : Nat) : Int) := by unfold wrap64; omega
            obtain ⟨X, hX⟩ : ∃ X, rd_T50 l1 (j : Int) = X := ⟨_, rfl⟩
            have hstep := foldC_drop M l1 j hjl
            rw [hX] at hx0' hx1' hx2' hl2 hi2 hstep
            have HSt := Aside0.mk (hstep.symm.trans HF.out)
            clear hstep HF hX
            have HRX := Aside0.mk hi2
            have HCX := Aside0.mk hl2
            clear hi2 hl2
            replace hx0' := (AP.out.2.2.2.1.cell (World.block_lt_of_cell? w _ hx0')).trans hx0'
            replace hx1' := (AP.out.2.2.2.1.cell (World.block_lt_of_cell? w _ hx1')).trans hx1'
            replace hx2' := (AP.out.2.2.2.1.cell (World.block_lt_of_cell? w _ hx2')).trans hx2'
            simp only [Int.toNat_natCast] at hx0' hx1' hx2'
            have pj0 : (0 ≤ (j : Int)) = True := eq_true (by omega)
            have pj1 : ((j : Int) < (l1.length : Int)) = True := eq_true (by omega)
            go_upto_region 7 with (fail)
            go_cut [10] (fun v10 wc => Aside0 (∃ gx, v10 = .pointer (some ⟨gx, 0, none⟩) ∧ wc.heap[gx]? = some (.cells #[.string X.f0, .string X.f1.f0, .slice A2 X.f1.f1.length c2] 50 (0, 0)) ∧ (gr < gx ∧ gc < gx ∧ g < gx ∧ w.heap.size ≤ gx) ∧ ApW w wc gr gc g x p M))
            case first =>
              go_wp2_with (first | ((with_reducible refine gate_dst (N := 10) rfl ?_); refine box_event ?hg (N := 10) ?hd (cs := #[.string (⟨#[]⟩ : ByteArray), .string (⟨#[]⟩ : ByteArray), .slice none 0 0]) (t := 50) ?hr ?_; (case hd => rfl); (case hg => rfl); (case hr => first | (go_simp; done) | (go_simp; rfl)); intro gx hg w2 hbox hb; have BX := Aside0.mk hbox; have AP2 := Aside0.mk (AP.out.below hb); have GX := Aside0.mk (show gr < gx ∧ gc < gx ∧ g < gx ∧ w.heap.size ≤ gx by rw [hg]; have := AP.out.lt; have := AP.out.2.2.2.2.1; omega); have xc0 := (blk_cell BX.out 0).trans rfl; have xf0 := blk_frozen BX.out 0; have xc1 := (blk_cell BX.out 1).trans rfl; have xf1 := blk_frozen BX.out 1; have xc2 := (blk_cell BX.out 2).trans rfl; have xf2 := blk_frozen BX.out 2; clear hbox hb hg))
              go_meet
              case rel => exact ⟨_, rfl, blk_put (blk_put (blk_put BX.out 0 _ rfl) 1 _ rfl) 2 _ rfl, GX.out, (((AP2.out.far GX.out.2.2.2 (by have := GX.out; omega) (by have := GX.out; omega) (by have := GX.out; omega) _).far GX.out.2.2.2 (by have := GX.out; omega) (by have := GX.out; omega) (by have := GX.out; omega) _).far GX.out.2.2.2 (by have := GX.out; omega) (by have := GX.out; omega) (by have := GX.out; omega) _)⟩
            case rest =>
              have hcut' := hcut.out
              obtain ⟨gx, rfl, hB, hg, hA⟩ := hcut'
              have BX := Aside0.mk hB
              have GX := Aside0.mk hg
              have AP7 := Aside0.mk hA
              have HBX := Aside0.mk hA.2.2.2.1
              clear hcut hB hg hA hx0' hx1' hx2' AP
              have xc0 := (blk_cell BX.out 0).trans rfl
              have xc1 := (blk_cell BX.out 1).trans rfl
              have xc2 := (blk_cell BX.out 2).trans rfl
              obtain ⟨d2, q2, o2, hcut2, hd2, hch⟩ := chain_cut X.f1.f0 X.f1.f1
              have HCUT := Aside0.mk ((sort_cut_eq X.f1.f0 X.f1.f1 131 (by omega)).trans (congrArg some hcut2))
              have HCH := Aside0.mk hch
              have HD2 := Aside0.mk hd2
              clear hcut2 hch hd2
              have AP := AP7
              go_upto_region 8 with (fail)
              go_cut [11, 12] (fun v11 v12 wc => Aside0 (v12 = .bool o2 ∧ ∃ gd, v11 = .pointer (some ⟨gd, 0, none⟩) ∧ wc.heap[gx]? = some (.cells #[.string X.f0, .string X.f1.f0, .slice A2 X.f1.f1.length c2] 50 (0, 0)) ∧ wc.heap[gd]? = some (.cells #[.int .i64 d2, .string q2] 58 (0, 0)) ∧ (gr < gd ∧ gc < gd ∧ g < gd ∧ w.heap.size ≤ gd ∧ gx < gd) ∧ ApW w wc gr gc g x p M))
              case first =>
                go_wp2_with (first | ((with_reducible refine gate_dst (N := 11) rfl ?_); refine box_event ?hg (N := 11) ?hd (cs := #[.int .i64 0, .string (⟨#[]⟩ : ByteArray)]) (t := 58) ?hr ?_; (case hd => rfl); (case hg => rfl); (case hr => first | (go_simp; done) | (go_simp; rfl)); intro gd hg w4 hbox hb; have BD := Aside0.mk hbox; have AP3 := Aside0.mk (AP2.out.below hb); have BX3 := Aside0.mk (blk_below BX2.out hb); have GD := Aside0.mk (show gr < gd ∧ gc < gd ∧ g < gd ∧ w.heap.size ≤ gd ∧ gx < gd by rw [hg]; have := AP2.out.lt; have := AP2.out.2.2.2.2.1; have := blk_lt BX2.out; omega); have yc0 := (blk_cell BD.out 0).trans rfl; have yf0 := blk_frozen BD.out 0; have yc1 := (blk_cell BD.out 1).trans rfl; have yf1 := blk_frozen BD.out 1; clear hbox hb hg) | (go_at_call 24; refine (sort_cut.calls 131 (X.f1.f0) (fun k_ => k_ < w.heap.size) _ _ (X.f1.f1) d2 q2 o2 _ (Kd.V_mk HCX.out (Kd.F_below (Kd.C_F k24_heap HRX.out) (by repeat (first | exact HBX.out | apply below_alloc | apply pw_below_drewN | apply below_drew)))) HCUT.out).mono ?_; rintro e w3 ⟨rfl, hb⟩; have AP2 := Aside0.mk (AP.out.below hb); have BX2 := Aside0.mk (blk_below BX.out hb); clear hb))
                go_meet
                case rel => exact ⟨rfl, _, rfl, blk_far (blk_far BX3.out (by have := GD.out; simp; omega) _) (by have := GD.out; simp; omega) _, blk_put (blk_put BD.out 0 _ rfl) 1 _ rfl, GD.out, ((AP3.out.far GD.out.2.2.2.1 (by have := GD.out; omega) (by have := GD.out; omega) (by have := GD.out; omega) _).far GD.out.2.2.2.1 (by have := GD.out; omega) (by have := GD.out; omega) (by have := GD.out; omega) _)⟩
              case rest =>
                have hcut' := hcut.out
                obtain ⟨rfl, gd, rfl, hX1, hD1, hgd, hA⟩ := hcut'
                clear hcut AP AP7 HBX BX xc0 xc1 xc2 HRX HCX HCUT
                have BX := Aside0.mk hX1
                have BD := Aside0.mk hD1
                have GD := Aside0.mk hgd
                have AP := Aside0.mk hA
                clear hX1 hD1 hgd hA
                cases o2 with
                | false =>
                  have hn : chainT 65 X.f1.f0 X.f1.f1 = none := by rcases HCH.out with h | h; exact absurd h.1 (by simp); exact h.2
                  have eR : R = (⟨#[]⟩, [], 14) := by
                    have h1 := HSt.out
                    have h2 := HRp.out
                    unfold stepC at h1
                    rw [hn] at h1
                    rw [← h1] at h2
                    exact h2.symm
                  subst eR
                  clear hn
                  have xc0 := (blk_cell BX.out 0).trans rfl
                  have xc1 := (blk_cell BX.out 1).trans rfl
                  have xc2 := (blk_cell BX.out 2).trans rfl
                  have yc0 := (blk_cell BD.out 0).trans rfl
                  have yc1 := (blk_cell BD.out 1).trans rfl
                  have rc0 := (blk_cell AP.out.1 0).trans rfl
                  have rc1 := (blk_cell AP.out.1 1).trans rfl
                  have rf0 := blk_frozen AP.out.1 0
                  have rf1 := blk_frozen AP.out.1 1
                  go_wp2_with fail
                  refine bodyPost_ret (results_ct rfl _ _ gr 24 #[.string (⟨#[]⟩ : ByteArray), .slice none 0 0] (0, 0) _ rfl (blk_put (cs := #[.string (⟨#[]⟩ : ByteArray), .slice none 0 0]) (blk_put AP.out.1 0 _ rfl) 1 _ rfl) Try.underlying24 rfl (by kernel_rfl)) rfl ?_
                  exact ⟨_, rfl, Kd.N_nil _ _ _ _ _, below_set (below_set AP.out.2.2.2.1 AP.out.2.2.2.2.1) AP.out.2.2.2.2.1⟩
                | true =>
                  obtain ⟨hd0, hd1⟩ := HD2.out rfl
                  have hn : chainT 65 X.f1.f0 X.f1.f1 = some (d2.toNat, q2) := by rcases HCH.out with h | h; exact h.2.1; exact absurd h.1 (by simp)
                  have HED := Aside0.mk (show ((d2.toNat : Nat) : Int) = d2 by omega)
                  have HD1 := Aside0.mk hd1
                  have hst : stepC M X = some (if (getC M X.f0).isSome then setC M ⟨#[]⟩ (0, ⟨#[]⟩) else if isVar X.f0 then setC M X.f0 (d2.toNat, q2) else setC M ⟨#[]⟩ (0, ⟨#[]⟩)) := by unfold stepC; rw [hn]
                  have HSt' := HSt.out
                  rw [hst] at HSt'
                  have HSt := Aside0.mk (show foldC (if (getC M X.f0).isSome then setC M ⟨#[]⟩ (0, ⟨#[]⟩) else if isVar X.f0 then setC M X.f0 (d2.toNat, q2) else setC M ⟨#[]⟩ (0, ⟨#[]⟩)) (l1.drop (j + 1)) = foldC [] l1 from HSt')
                  clear hn hst HSt' HCH HD2
                  have xc0 := (blk_cell BX.out 0).trans rfl
                  have xc1 := (blk_cell BX.out 1).trans rfl
                  have xc2 := (blk_cell BX.out 2).trans rfl
                  have yc0 := (blk_cell BD.out 0).trans rfl
                  have yc1 := (blk_cell BD.out 1).trans rfl
                  have rc0 := (blk_cell AP.out.1 0).trans rfl
                  have rc1 := (blk_cell AP.out.1 1).trans rfl
                  have rf0 := blk_frozen AP.out.1 0
                  have rf1 := blk_frozen AP.out.1 1
                  cases hG : getC M X.f0 with
                  | some r =>
                    have HE2 := Aside0.mk (show getA (M.map entB) X.f0 = some (valC r) by rw [getA_entB, hG]; rfl)
                    rw [hG] at HSt
                    have HSt := Aside0.mk (show foldC (setC M ⟨#[]⟩ (0, ⟨#[]⟩)) (l1.drop (j + 1)) = foldC [] l1 from HSt.out)
                    clear hG
                    go_upto_region 11 with (fail)
                    go_cut [14] (fun v14 wc => Aside0 (v14 = .bool true ∧ ApW w wc gr gc g x p M))
                    case first =>
                      go_wp2_with (first | (at_lookup; refine wpList_lookup_S rfl _ _ 66 rfl 9 58 Try.underlying66 Try.underlying9 _ zero58 g (M.map entB) rfl X.f0 rfl AP.out.2.2.1 ?_; rw [HE2.out]; simp only [Option.getD_some, Option.isSome_some, Option.getD_none, Option.isSome_none, valC]) | ((with_reducible refine gate_dst (N := 13) rfl ?_); refine box_event ?hg (N := 13) ?hd (cs := #[.int .i64 0, .string (⟨#[]⟩ : ByteArray)]) (t := 58) ?hr ?_; (case hd => rfl); (case hg => rfl); (case hr => first | (go_simp; done) | (go_simp; rfl)); intro gt hg w5 hbox hb; have BT := Aside0.mk hbox; have AP4 := Aside0.mk (AP.out.below hb); have BX4 := Aside0.mk (blk_below BX.out hb); have BD4 := Aside0.mk (blk_below BD.out hb); have GT := Aside0.mk (show gr < gt ∧ gc < gt ∧ g < gt ∧ w.heap.size ≤ gt ∧ gx < gt ∧ gd < gt by rw [hg]; have := AP.out.lt; have := AP.out.2.2.2.2.1; have := blk_lt BX.out; have := blk_lt BD.out; omega); have tc0 := (blk_cell BT.out 0).trans rfl; have tf0 := blk_frozen BT.out 0; have tc1 := (blk_cell BT.out 1).trans rfl; have tf1 := blk_frozen BT.out 1; clear hbox hb hg))
                      go_meet
                      case rel => exact ⟨rfl, ((AP4.out.far GT.out.2.2.2.1 (by have := GT.out; omega) (by have := GT.out; omega) (by have := GT.out; omega) _).far GT.out.2.2.2.1 (by have := GT.out; omega) (by have := GT.out; omega) (by have := GT.out; omega) _)⟩
                    case rest =>
                      have hcut' := hcut.out
                      obtain ⟨rfl, hA⟩ := hcut'
                      clear hcut AP xc0 xc1 xc2 yc0 yc1 rc0 rc1 rf0 rf1
                      have AP := Aside0.mk hA
                      clear hA
                      go_wp2_with (first | (at_mapUpdate; refine wpList_update_S rfl _ _ _ 66 rfl 9 58 Try.underlying66 Try.underlying9 g (M.map entB) rfl (⟨#[]⟩ : ByteArray) rfl (.agg #[.int .i64 0, .string ⟨#[]⟩]) rfl AP.out.2.2.1 ?_; intro w1 hM1 hg1; have AP1 := Aside0.mk (AP.out.put (M' := setC M ⟨#[]⟩ (0, ⟨#[]⟩)) (by rw [← setA_entB]; exact hM1) hg1); clear hM1 hg1))
                      go_roundw
                      case rel => exact ⟨⟨j + 1, setC M ⟨#[]⟩ (0, ⟨#[]⟩), by simp, by omega, HSt.out, setC_le HM64.out _ _ (Nat.zero_le _), AP1.out⟩⟩
                      case measure =>
                        show l1.length - ((j : Int) + 1).toNat < l1.length - ((j : Nat) : Int).toNat
                        omega
                  | none =>
                    have HE2 := Aside0.mk (show getA (M.map entB) X.f0 = none by rw [getA_entB, hG]; rfl)
                    have HSt := Aside0.mk (show foldC (if isVar X.f0 then setC M X.f0 (d2.toNat, q2) else setC M ⟨#[]⟩ (0, ⟨#[]⟩)) (l1.drop (j + 1)) = foldC [] l1 by have h := HSt.out; rw [hG] at h; exact h)
                    clear hG
                    go_upto_region 11 with (fail)
                    go_cut [14] (fun v14 wc => Aside0 (v14 = .bool false ∧ wc.heap[gx]? = some (.cells #[.string X.f0, .string X.f1.f0, .slice A2 X.f1.f1.length c2] 50 (0, 0)) ∧ wc.heap[gd]? = some (.cells #[.int .i64 d2, .string q2] 58 (0, 0)) ∧ ApW w wc gr gc g x p M))
                    case first =>
                      go_wp2_with (first | (at_lookup; refine wpList_lookup_S rfl _ _ 66 rfl 9 58 Try.underlying66 Try.underlying9 _ zero58 g (M.map entB) rfl X.f0 rfl AP.out.2.2.1 ?_; rw [HE2.out]; simp only [Option.getD_some, Option.isSome_some, Option.getD_none, Option.isSome_none, valC]) | ((with_reducible refine gate_dst (N := 13) rfl ?_); refine box_event ?hg (N := 13) ?hd (cs := #[.int .i64 0, .string (⟨#[]⟩ : ByteArray)]) (t := 58) ?hr ?_; (case hd => rfl); (case hg => rfl); (case hr => first | (go_simp; done) | (go_simp; rfl)); intro gt hg w5 hbox hb; have BT := Aside0.mk hbox; have AP4 := Aside0.mk (AP.out.below hb); have BX4 := Aside0.mk (blk_below BX.out hb); have BD4 := Aside0.mk (blk_below BD.out hb); have GT := Aside0.mk (show gr < gt ∧ gc < gt ∧ g < gt ∧ w.heap.size ≤ gt ∧ gx < gt ∧ gd < gt by rw [hg]; have := AP.out.lt; have := AP.out.2.2.2.2.1; have := blk_lt BX.out; have := blk_lt BD.out; omega); have tc0 := (blk_cell BT.out 0).trans rfl; have tf0 := blk_frozen BT.out 0; have tc1 := (blk_cell BT.out 1).trans rfl; have tf1 := blk_frozen BT.out 1; clear hbox hb hg))
                      go_meet
                      case rel => exact ⟨rfl, blk_far (blk_far BX4.out (by have := GT.out; simp; omega) _) (by have := GT.out; simp; omega) _, blk_far (blk_far BD4.out (by have := GT.out; simp; omega) _) (by have := GT.out; simp; omega) _, ((AP4.out.far GT.out.2.2.2.1 (by have := GT.out; omega) (by have := GT.out; omega) (by have := GT.out; omega) _).far GT.out.2.2.2.1 (by have := GT.out; omega) (by have := GT.out; omega) (by have := GT.out; omega) _)⟩
                    case rest =>
                      have hcut' := hcut.out
                      obtain ⟨rfl, hX1, hD1, hA⟩ := hcut'
                      clear hcut AP BX BD xc0 xc1 xc2 yc0 yc1 rc0 rc1 rf0 rf1
                      have AP := Aside0.mk hA
                      have BX := Aside0.mk hX1
                      have BD := Aside0.mk hD1
                      clear hA hX1 hD1
                      have xc0 := (blk_cell BX.out 0).trans rfl
                      have xc1 := (blk_cell BX.out 1).trans rfl
                      have xc2 := (blk_cell BX.out 2).trans rfl
                      have yc0 := (blk_cell BD.out 0).trans rfl
                      have yc1 := (blk_cell BD.out 1).trans rfl
                      cases hV : isVar X.f0 with
                      | true =>
                        have HSt := Aside0.mk (show foldC (setC M X.f0 (d2.toNat, q2)) (l1.drop (j + 1)) = foldC [] l1 by have h := HSt.out; rw [hV] at h; exact h)
                        have HV := Aside0.mk ((sort_variable_eq X.f0).trans (congrArg some hV))
                        clear hV
                        go_wp2_with (first | (at_mapUpdate; refine wpList_update_S rfl _ _ _ 66 rfl 9 58 Try.underlying66 Try.underlying9 g (M.map entB) rfl X.f0 rfl (.agg #[.int .i64 d2, .string q2]) rfl AP.out.2.2.1 ?_; intro w1 hM1 hg1; have AP1 := Aside0.mk (AP.out.put (M' := setC M X.f0 (d2.toNat, q2)) (by rw [← setA_entB, show valC (d2.toNat, q2) = .agg #[.int .i64 d2, .string q2] from by simp only [valC, HED.out]]; exact hM1) hg1); clear hM1 hg1) | (go_at_call 27; refine (sort_variable.calls X.f0 true _ HV.out).mono ?_; rintro e w' ⟨rfl, ⟨nd, rfl⟩⟩; have AP := Aside0.mk (AP.out.below (pw_below_drewN (Below.refl _ _) nd))))
                        go_roundw
                        case rel => exact ⟨⟨j + 1, setC M X.f0 (d2.toNat, q2), by simp, by omega, HSt.out, setC_le HM64.out _ _ (by have := HD1.out; omega), AP1.out⟩⟩
                        case measure =>
                          show l1.length - ((j : Int) + 1).toNat < l1.length - ((j : Nat) : Int).toNat
                          omega
                      | false =>
                        have HSt := Aside0.mk (show foldC (setC M ⟨#[]⟩ (0, ⟨#[]⟩)) (l1.drop (j + 1)) = foldC [] l1 by have h := HSt.out; rw [hV] at h; exact h)
                        have HV := Aside0.mk ((sort_variable_eq X.f0).trans (congrArg some hV))
                        clear hV
                        go_wp2_with (first | (at_mapUpdate; refine wpList_update_S rfl _ _ _ 66 rfl 9 58 Try.underlying66 Try.underlying9 g (M.map entB) rfl (⟨#[]⟩ : ByteArray) rfl (.agg #[.int .i64 0, .string ⟨#[]⟩]) rfl AP.out.2.2.1 ?_; intro w1 hM1 hg1; have AP1 := Aside0.mk (AP.out.put (M' := setC M ⟨#[]⟩ (0, ⟨#[]⟩)) (by rw [← setA_entB]; exact hM1) hg1); clear hM1 hg1) | (go_at_call 27; refine (sort_variable.calls X.f0 false _ HV.out).mono ?_; rintro e w' ⟨rfl, ⟨nd, rfl⟩⟩; have AP := Aside0.mk (AP.out.below (pw_below_drewN (Below.refl _ _) nd))))
                        go_roundw
                        case rel => exact ⟨⟨j + 1, setC M ⟨#[]⟩ (0, ⟨#[]⟩), by simp, by omega, HSt.out, setC_le HM64.out _ _ (Nat.zero_le _), AP1.out⟩⟩
                        case measure =>
                          show l1.length - ((j : Int) + 1).toNat < l1.length - ((j : Nat) : Int).toNat
                          omega
    
          · have cj : decide ((j : Int) < (l1.length : Int)) = false := decide_eq_false (by omega)
            have hFe : foldC [] l1 = some M := by rw [← HF.out, List.drop_eq_nil_of_le (by omega)]; rfl
            have HRd := Aside0.mk (show doneC x.toNat p M = R by have := HRp.out; rw [hFe] at this; exact this)
            clear hFe HRp HF
            have cc0 := (blk_cell AP.out.2.1 0).trans rfl
            have cc1 := (blk_cell AP.out.2.1 1).trans rfl
            have cf0 := blk_frozen AP.out.2.1 0
            have cf1 := blk_frozen AP.out.2.1 1
            have rc0 := (blk_cell AP.out.1 0).trans rfl
            have rc1 := (blk_cell AP.out.1 1).trans rfl
            have rf0 := blk_frozen AP.out.1 0
            have rf1 := blk_frozen AP.out.1 1
            cases hE : getC M ⟨#[]⟩ with
            | some re =>
              have hE' : getA (M.map entB) ⟨#[]⟩ = some (valC re) := by rw [getA_entB, hE]; rfl
              have HE := Aside0.mk hE'
              have eR : R = (⟨#[]⟩, [], 1) := by rw [← HRd.out, doneC, if_pos (by rw [hE]; rfl)]
              subst eR
              clear hE hE' HRd
              go_wp2_with (first | (at_lookup; refine wpList_lookup_S rfl _ _ 66 rfl 9 58 Try.underlying66 Try.underlying9 _ zero58 g (M.map entB) rfl ⟨#[]⟩ rfl AP.out.2.2.1 ?_; rw [HE.out]; simp only [Option.getD_some, Option.isSome_some, valC]) | ((with_reducible refine gate_dst (N := 15) rfl ?_); refine box_event ?hg (N := 15) ?hd (cs := #[.int .i64 0, .string (⟨#[]⟩ : ByteArray)]) (t := 58) ?hr ?_; (case hd => rfl); (case hg => rfl); (case hr => first | (go_simp; done) | (go_simp; rfl)); intro gt hg w5 hbox hb; have BT := Aside0.mk hbox; have AP4 := Aside0.mk (AP.out.below hb); have GT := Aside0.mk (show gr < gt ∧ gc < gt ∧ g < gt ∧ w.heap.size ≤ gt by rw [hg]; have := AP.out.lt; have := AP.out.2.2.2.2.1; omega); have nt1 : gr ≠ gt := (by have := GT.out; omega); have tc0 := (blk_cell BT.out 0).trans rfl; have tf0 := blk_frozen BT.out 0; have tc1 := (blk_cell BT.out 1).trans rfl; have tf1 := blk_frozen BT.out 1; have sc0 := (blk_cell AP4.out.1 0).trans rfl; have sf0 := blk_frozen AP4.out.1 0; have sc1 := (blk_cell AP4.out.1 1).trans rfl; have sf1 := blk_frozen AP4.out.1 1; clear hbox hb hg))
              have AP5 := Aside0.mk (show ApW w ((w5.setCell ⟨gt, 0, none⟩ (.int .i64 (re.1 : Int))).setCell ⟨gt, 1, none⟩ (.string re.2)) gr gc g x p M from ((AP4.out.far GT.out.2.2.2 (by have := GT.out; omega) (by have := GT.out; omega) (by have := GT.out; omega) _).far GT.out.2.2.2 (by have := GT.out; omega) (by have := GT.out; omega) (by have := GT.out; omega) _))
              refine bodyPost_ret (results_ct rfl _ _ gr 24 #[.string (⟨#[]⟩ : ByteArray), .slice none 0 0] (0, 0) _ rfl (blk_put (cs := #[.string (⟨#[]⟩ : ByteArray), .slice none 0 0]) (blk_put AP5.out.1 0 _ rfl) 1 _ rfl) Try.underlying24 rfl (by kernel_rfl)) rfl ?_
              exact ⟨_, rfl, Kd.N_nil _ _ _ _ _, below_set (below_set AP5.out.2.2.2.1 AP5.out.2.2.2.2.1) AP5.out.2.2.2.2.1⟩
            | none =>
              have hE' : getA (M.map entB) ⟨#[]⟩ = none := by rw [getA_entB, hE]; rfl
              have HE := Aside0.mk hE'
              have HRe := Aside0.mk (show (match getC M p with | some r => wholeC (x.toNat + r.1) r.2 | none => wholeC x.toNat p) = R by have := HRd.out; rw [doneC, if_neg (by rw [hE]; simp)] at this; exact this)
              clear hE hE' HRd
              go_upto_region 16 with (fail)
              go_cut [16] (fun v16 wc => Aside0 (v16 = .bool false ∧ ApW w wc gr gc g x p M))
              case first =>
                go_wp2_with (first | (at_lookup; refine wpList_lookup_S rfl _ _ 66 rfl 9 58 Try.underlying66 Try.underlying9 _ zero58 g (M.map entB) rfl ⟨#[]⟩ rfl AP.out.2.2.1 ?_; rw [HE.out]; simp only [Option.getD_some, Option.isSome_some, Option.getD_none, Option.isSome_none, valC]) | ((with_reducible refine gate_dst (N := 15) rfl ?_); refine box_event ?hg (N := 15) ?hd (cs := #[.int .i64 0, .string (⟨#[]⟩ : ByteArray)]) (t := 58) ?hr ?_; (case hd => rfl); (case hg => rfl); (case hr => first | (go_simp; done) | (go_simp; rfl)); intro gt hg w5 hbox hb; have BT := Aside0.mk hbox; have AP4 := Aside0.mk (AP.out.below hb); have GT := Aside0.mk (show gr < gt ∧ gc < gt ∧ g < gt ∧ w.heap.size ≤ gt by rw [hg]; have := AP.out.lt; have := AP.out.2.2.2.2.1; omega); have nt1 : gr ≠ gt := (by have := GT.out; omega); have tc0 := (blk_cell BT.out 0).trans rfl; have tf0 := blk_frozen BT.out 0; have tc1 := (blk_cell BT.out 1).trans rfl; have tf1 := blk_frozen BT.out 1; have sc0 := (blk_cell AP4.out.1 0).trans rfl; have sf0 := blk_frozen AP4.out.1 0; have sc1 := (blk_cell AP4.out.1 1).trans rfl; have sf1 := blk_frozen AP4.out.1 1; clear hbox hb hg))
                go_meet
                case rel => exact ⟨rfl, ((AP4.out.far GT.out.2.2.2 (by have := GT.out; omega) (by have := GT.out; omega) (by have := GT.out; omega) _).far GT.out.2.2.2 (by have := GT.out; omega) (by have := GT.out; omega) (by have := GT.out; omega) _)⟩
              case rest =>
                have hcut' := hcut.out
                obtain ⟨rfl, hA⟩ := hcut'
                have APn := Aside0.mk hA
                clear hA hcut AP cc0 cc1 cf0 cf1 rc0 rc1 rf0 rf1
                have cc0 := (blk_cell APn.out.2.1 0).trans rfl
                have cc1 := (blk_cell APn.out.2.1 1).trans rfl
                have cf0 := blk_frozen APn.out.2.1 0
                have cf1 := blk_frozen APn.out.2.1 1
                have nrc := APn.out.ne
                cases hG : getC M p with
                | some r =>
                  have HE2 := Aside0.mk (show getA (M.map entB) p = some (valC r) by rw [getA_entB, hG]; rfl)
                  rw [hG] at HRe
                  have hr64 := getC_le HM64.out hG
                  clear hG
                  go_upto_region 19 with (fail)
                  go_cut [17, 18] (fun v17 v18 wc => Aside0 (v18 = .bool true ∧ ∃ gd, v17 = .pointer (some ⟨gd, 0, none⟩) ∧ wc.heap[gd]? = some (.cells #[.int .i64 (r.1 : Int), .string r.2] 58 (0, 0)) ∧ gd ≠ gc ∧ ApW w wc gr gc g x p M))
                  case first =>
                    go_wp2_with (first | (at_lookup; refine wpList_lookup_S rfl _ _ 66 rfl 9 58 Try.underlying66 Try.underlying9 _ zero58 g (M.map entB) rfl p rfl APn.out.2.2.1 ?_; rw [HE2.out]; simp only [Option.getD_some, Option.isSome_some, Option.getD_none, Option.isSome_none, valC]) | ((with_reducible refine gate_dst (N := 17) rfl ?_); refine box_event ?hg (N := 17) ?hd (cs := #[.int .i64 0, .string (⟨#[]⟩ : ByteArray)]) (t := 58) ?hr ?_; (case hd => rfl); (case hg => rfl); (case hr => first | (go_simp; done) | (go_simp; rfl)); intro gd hg w6 hbox hb; have BD := Aside0.mk hbox; have AP6 := Aside0.mk (APn.out.below hb); have GD := Aside0.mk (show gr < gd ∧ gc < gd ∧ g < gd ∧ w.heap.size ≤ gd by rw [hg]; have := APn.out.lt; have := APn.out.2.2.2.2.1; omega); have nd1 : gr ≠ gd := (by have := GD.out; omega); have nd2 : gc ≠ gd := (by have := GD.out; omega); have nd3 : gd ≠ gc := (by have := GD.out; omega); have tc0 := (blk_cell BD.out 0).trans rfl; have tf0 := blk_frozen BD.out 0; have tc1 := (blk_cell BD.out 1).trans rfl; have tf1 := blk_frozen BD.out 1; clear hbox hb hg))
                    go_meet
                    case rel => exact ⟨rfl, _, rfl, blk_put (blk_put BD.out 0 _ rfl) 1 _ rfl, by have := GD.out; omega, ((AP6.out.far GD.out.2.2.2 (by have := GD.out; omega) (by have := GD.out; omega) (by have := GD.out; omega) _).far GD.out.2.2.2 (by have := GD.out; omega) (by have := GD.out; omega) (by have := GD.out; omega) _)⟩
                  case rest =>
                    have hcut' := hcut.out
                    obtain ⟨rfl, gd, rfl, hD, hgd, hA⟩ := hcut'
                    have BDn := Aside0.mk hD
                    have APm := Aside0.mk hA
                    clear hA hD hcut APn cc0 cc1 cf0 cf1
                    have cc0 := (blk_cell APm.out.2.1 0).trans rfl
                    have cc1 := (blk_cell APm.out.2.1 1).trans rfl
                    have cf0 := blk_frozen APm.out.2.1 0
                    have cf1 := blk_frozen APm.out.2.1 1
                    have dd0 := (blk_cell BDn.out 0).trans rfl
                    have dd1 := (blk_cell BDn.out 1).trans rfl
                    have hwr : (x + (r.1 : Int) + 9223372036854775808) % 18446744073709551616 - 9223372036854775808 = x + r.1 := by omega
                    go_upto_region 22 with (fail)
                    go_cut [89] (fun v89 wc => Aside0 (v89 = .bool (decide ((x + (r.1 : Int)) ≥ 65)) ∧ ApW w wc gr gc g (x + (r.1 : Int)) r.2 M))
                    case first =>
                      go_wp2_with fail
                      go_meet
                      case rel => exact ⟨rfl, ⟨blk_far (blk_far APm.out.1 nrc _) nrc _, blk_put (blk_put APm.out.2.1 0 _ rfl) 1 _ rfl, (APm.out.2.2.1.far (APm.out.2.2.1.ne APm.out.2.1) _).far (APm.out.2.2.1.ne APm.out.2.1) _, below_set (below_set APm.out.2.2.2.1 APm.out.2.2.2.2.2.1) APm.out.2.2.2.2.2.1, APm.out.2.2.2.2⟩⟩
                    case rest =>
                      have hcut' := hcut.out
                      obtain ⟨rfl, hA⟩ := hcut'
                      have APz := Aside0.mk hA
                      clear hA hcut
                      have cc0 := (blk_cell APz.out.2.1 0).trans rfl
                      have cc1 := (blk_cell APz.out.2.1 1).trans rfl
                      have rc0 := (blk_cell APz.out.1 0).trans rfl
                      have rc1 := (blk_cell APz.out.1 1).trans rfl
                      have rf0 := blk_frozen APz.out.1 0
                      have rf1 := blk_frozen APz.out.1 1
                      by_cases h65 : (x + (r.1 : Int)) ≥ 65
                      · have c65 : decide ((x + (r.1 : Int)) ≥ 65) = true := decide_eq_true h65
                        have eR : R = (⟨#[]⟩, [], 2) := by have := HRe.out; simp only [wholeC] at this; rw [if_pos (by omega)] at this; exact this.symm
                        subst eR
                        rw [c65]
                        go_wp2_with fail
                        refine bodyPost_ret (results_ct rfl _ _ gr 24 #[.string (⟨#[]⟩ : ByteArray), .slice none 0 0] (0, 0) _ rfl (blk_put (cs := #[.string (⟨#[]⟩ : ByteArray), .slice none 0 0]) (blk_put APz.out.1 0 _ rfl) 1 _ rfl) Try.underlying24 rfl (by kernel_rfl)) rfl ?_
                        exact ⟨_, rfl, Kd.N_nil _ _ _ _ _, below_set (below_set APz.out.2.2.2.1 APz.out.2.2.2.2.1) APz.out.2.2.2.2.1⟩
                      · have c65 : decide ((x + (r.1 : Int)) ≥ 65) = false := decide_eq_false h65
                        obtain ⟨s0, s1, fu, hw, hS⟩ : ∃ s0 s1 fu, sort_chain_whole.f fu (x + (r.1 : Int)) r.2 = some (s0, s1) ∧ R = (s0, s1, 0) := ⟨_, _, 1000, by rw [show (x + (r.1 : Int)) = ((x.toNat + r.1 : Nat) : Int) by omega]; exact sort_whole_eq r.2 (x.toNat + r.1) 1000 (by omega) (by omega), by have := HRe.out; simp only [wholeC] at this; rw [if_neg (by omega)] at this; exact this.symm⟩
                        subst hS
                        have HW := Aside0.mk hw
                        clear hw HRe
                        rw [c65]
                        go_wp2_with (go_at_call 28; refine (sort_chain_whole.calls fu _ _ _ _ _ HW.out).mono ?_; rintro e w10 ⟨v1, rfl, ho, hb⟩; have HO := Aside0.mk ho; have AP10 := Aside0.mk (APz.out.below hb); clear hb ho; obtain ⟨A3, c3, rfl⟩ := Kd.N_slice HO.out; have sc0 := (blk_cell AP10.out.1 0).trans rfl; have sc1 := (blk_cell AP10.out.1 1).trans rfl; have sf0 := blk_frozen AP10.out.1 0; have sf1 := blk_frozen AP10.out.1 1)
                        refine bodyPost_ret (results_ct rfl _ _ gr 24 #[.string s0, .slice A3 s1.length c3] (0, 0) _ rfl (blk_put (cs := #[.string s0, .slice none 0 0]) (blk_put AP10.out.1 0 _ rfl) 1 _ rfl) Try.underlying24 rfl (by kernel_rfl)) rfl ?_
                        exact ⟨_, rfl, Kd.N_lower (Kd.N_mono (ok' := fun k_ => w.heap.size ≤ k_) (Kd.N_far (Kd.N_far (Kd.N_mono (ok' := fun k_ => w.heap.size ≤ k_ ∧ k_ ≠ gr) HO.out (fun k hk => ⟨Nat.le_trans (below_size APz.out.2.2.2.1) hk, fun e => absurd APz.out.lt.1 (by omega)⟩)) (fun k hk => hk.2) _) (fun k hk => hk.2) _) (fun k hk => hk.1)) (below_size APz.out.2.2.2.1), below_set (below_set AP10.out.2.2.2.1 AP10.out.2.2.2.2.1) AP10.out.2.2.2.2.1⟩
                | none =>
                  have HE2 := Aside0.mk (show getA (M.map entB) p = none by rw [getA_entB, hG]; rfl)
                  rw [hG] at HRe
                  clear hG
                  go_upto_region 19 with (fail)
                  go_cut [18] (fun v18 wc => Aside0 (v18 = .bool false ∧ ApW w wc gr gc g x p M))
                  case first =>
                    go_wp2_with (first | (at_lookup; refine wpList_lookup_S rfl _ _ 66 rfl 9 58 Try.underlying66 Try.underlying9 _ zero58 g (M.map entB) rfl p rfl APn.out.2.2.1 ?_; rw [HE2.out]; simp only [Option.getD_some, Option.isSome_some, Option.getD_none, Option.isSome_none, valC]) | ((with_reducible refine gate_dst (N := 17) rfl ?_); refine box_event ?hg (N := 17) ?hd (cs := #[.int .i64 0, .string (⟨#[]⟩ : ByteArray)]) (t := 58) ?hr ?_; (case hd => rfl); (case hg => rfl); (case hr => first | (go_simp; done) | (go_simp; rfl)); intro gd hg w6 hbox hb; have BD := Aside0.mk hbox; have AP6 := Aside0.mk (APn.out.below hb); have GD := Aside0.mk (show gr < gd ∧ gc < gd ∧ g < gd ∧ w.heap.size ≤ gd by rw [hg]; have := APn.out.lt; have := APn.out.2.2.2.2.1; omega); have nd1 : gr ≠ gd := (by have := GD.out; omega); have nd2 : gc ≠ gd := (by have := GD.out; omega); have nd3 : gd ≠ gc := (by have := GD.out; omega); have tc0 := (blk_cell BD.out 0).trans rfl; have tf0 := blk_frozen BD.out 0; have tc1 := (blk_cell BD.out 1).trans rfl; have tf1 := blk_frozen BD.out 1; clear hbox hb hg))
                    go_meet
                    case rel => exact ⟨rfl, ((AP6.out.far GD.out.2.2.2 (by have := GD.out; omega) (by have := GD.out; omega) (by have := GD.out; omega) _).far GD.out.2.2.2 (by have := GD.out; omega) (by have := GD.out; omega) (by have := GD.out; omega) _)⟩
                  case rest =>
                    have hcut' := hcut.out
                    obtain ⟨rfl, hA⟩ := hcut'
                    have APm := Aside0.mk hA
                    clear hA hcut APn cc0 cc1 cf0 cf1
                    have cc0 := (blk_cell APm.out.2.1 0).trans rfl
                    have cc1 := (blk_cell APm.out.2.1 1).trans rfl
                    go_upto_region 22 with (fail)
                    go_cut [89] (fun v89 wc => Aside0 (v89 = .bool (decide (x ≥ 65)) ∧ ApW w wc gr gc g x p M))
                    case first =>
                      go_wp2_with fail
                      go_meet
                      case rel => exact ⟨rfl, APm.out⟩
                    case rest =>
                      have hcut' := hcut.out
                      obtain ⟨rfl, hA⟩ := hcut'
                      have APz := Aside0.mk hA
                      clear hA hcut
                      have cc0 := (blk_cell APz.out.2.1 0).trans rfl
                      have cc1 := (blk_cell APz.out.2.1 1).trans rfl
                      have rc0 := (blk_cell APz.out.1 0).trans rfl
                      have rc1 := (blk_cell APz.out.1 1).trans rfl
                      have rf0 := blk_frozen APz.out.1 0
                      have rf1 := blk_frozen APz.out.1 1
                      by_cases h65 : x ≥ 65
                      · exact absurd h65 (by omega)
                      · have c65 : decide (x ≥ 65) = false := decide_eq_false h65
                        obtain ⟨s0, s1, fu, hw, hS⟩ : ∃ s0 s1 fu, sort_chain_whole.f fu x p = some (s0, s1) ∧ R = (s0, s1, 0) := ⟨_, _, 1000, by rw [show x = ((x.toNat : Nat) : Int) by omega]; exact sort_whole_eq p (x.toNat) 1000 (by omega) (by omega), by have := HRe.out; simp only [wholeC] at this; rw [if_neg (by omega)] at this; exact this.symm⟩
                        subst hS
                        have HW := Aside0.mk hw
                        clear hw HRe
                        rw [c65]
                        go_wp2_with (go_at_call 28; refine (sort_chain_whole.calls fu _ _ _ _ _ HW.out).mono ?_; rintro e w10 ⟨v1, rfl, ho, hb⟩; have HO := Aside0.mk ho; have AP10 := Aside0.mk (APz.out.below hb); clear hb ho; obtain ⟨A3, c3, rfl⟩ := Kd.N_slice HO.out; have sc0 := (blk_cell AP10.out.1 0).trans rfl; have sc1 := (blk_cell AP10.out.1 1).trans rfl; have sf0 := blk_frozen AP10.out.1 0; have sf1 := blk_frozen AP10.out.1 1)
                        refine bodyPost_ret (results_ct rfl _ _ gr 24 #[.string s0, .slice A3 s1.length c3] (0, 0) _ rfl (blk_put (cs := #[.string s0, .slice none 0 0]) (blk_put AP10.out.1 0 _ rfl) 1 _ rfl) Try.underlying24 rfl (by kernel_rfl)) rfl ?_
                        exact ⟨_, rfl, Kd.N_lower (Kd.N_mono (ok' := fun k_ => w.heap.size ≤ k_) (Kd.N_far (Kd.N_far (Kd.N_mono (ok' := fun k_ => w.heap.size ≤ k_ ∧ k_ ≠ gr) HO.out (fun k hk => ⟨Nat.le_trans (below_size APz.out.2.2.2.1) hk, fun e => absurd APz.out.lt.1 (by omega)⟩)) (fun k hk => hk.2) _) (fun k hk => hk.2) _) (fun k hk => hk.1)) (below_size APz.out.2.2.2.1), below_set (below_set AP10.out.2.2.2.1 AP10.out.2.2.2.2.1) AP10.out.2.2.2.2.1⟩
    

theorem sort_Apply.calls (a0_0 : ByteArray) (A0_1 : Option Addr) (c0_1 : Nat) (l0_1 : List (S24)) (A1 : Option Addr) (c1 : Nat) (l1 : List (S50)) (r1 : ByteArray) (r2 : List (S24)) (r3 : Int) (w : World) (hr0_1 : Kd.C k24 w A0_1 l0_1.length l0_1) (hc0_1 : l0_1.length ≤ c0_1) (hr1 : Kd.C k50 w A1 l1.length l1) (hc1 : l1.length ≤ c1) (h : sort_Apply.f a0_0 l0_1 l1 = some (r1, r2, r3)) :
    Calls Try.prog 16 #[.agg #[.string a0_0, .slice A0_1 l0_1.length c0_1], .slice A1 l1.length c1] w fun e w' => ∃ v1_ : Value, e = .returned (.tuple #[.agg #[.string r1, v1_], .int .i64 r3]) ∧ Kd.N k24 24 w' w.heap.size (fun k_ => w.heap.size ≤ k_) v1_ r2 ∧ Below w.heap.size w w' := by
  obtain ⟨x, p, o, h1, hx, hc⟩ := chain_cut a0_0 l0_1
  refine apply_walk a0_0 A0_1 c0_1 l0_1 A1 c1 l1 w hr0_1 hc0_1 hr1 hc1 x p o (r1, r2, r3) hx ?_ ((sort_cut_eq a0_0 l0_1 131 (by omega)).trans (congrArg some h1))
  have h := Option.some.inj h
  rcases hc with ⟨rfl, hc, ex⟩ | ⟨rfl, hc⟩ <;> rw [hc] at h
  · rw [if_pos rfl, ← h]; rfl
  · rw [if_neg (by simp), ← h]; rfl


end Go.Proofs.Ytlibklfianghlaa.S

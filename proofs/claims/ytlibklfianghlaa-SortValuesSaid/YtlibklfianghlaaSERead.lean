-- WRITTEN BY a program of this session (wip/extprint.py, over the kit's print.py); not trusted: Lean checks it.
import Derived.Laws.Strings
import Derived.Lib.IndexLaws
import Derived.Test.YtlibklfianghlaaSx0
import Derived.Test.YtlibklfianghlaaSx3
import Derived.Test.YtlibklfianghlaaSEApply
import Derived.Test.YtlibklfianghlaaSELib
import Derived.Test.YtlibklfianghlaaSEMath
import Derived.Test.YtlibklfianghlaaSEUnify
namespace Go.Proofs.Ytlibklfianghlaa.S
open Go.RowKit Go.Proofs.YtlibklfianghlaaW.PrintWords Go.Proofs.YtlibklfianghlaaW.PrintLast Go.Proofs.YtlibklfianghlaaW.PrintMore
attribute [local go_sem] max2_int min2_int max_two min_two max_three min_three max_four min_four   -- for this text's walks alone
set_option linter.unusedVariables false
set_option linter.unusedSimpArgs false

/-! sort.Read -/
def ivR : Value → Nat
  | .int _ i => i.toNat
  | _ => 0
def restB (s : ByteArray) (i : Nat) : ByteArray := s.extract i s.size
def endB (s : ByteArray) (i : Nat) : Int := Lib.indexByte (restB s i).data.toList 32
def wordB (s : ByteArray) (i : Nat) : ByteArray := if endB s i < 0 then restB s i else s.extract i (i + (endB s i).toNat)
def readT : Nat → ByteArray → Nat → Nat → ByteArray × List S24 × Int × Int
  | 0, _, _, _ => (⟨#[]⟩, [], 0, 2)
  | d + 1, s, i, n =>
    if isList (wordB s i) then (if endB s i < 0 then (⟨#[]⟩, [], (s.size : Int), 5) else readT d s (i + (endB s i).toNat + 1) (n + 1))
    else if isBase (wordB s i) || isVar (wordB s i) then (if endB s i < 0 then ((wholeT n (wordB s i)).f0, (wholeT n (wordB s i)).f1, 0, 0) else (⟨#[]⟩, [], ((i + (endB s i).toNat + 1 : Nat) : Int), 5))
    else (⟨#[]⟩, [], (i : Int), 5)
def sort_Read.f (a0 : ByteArray) : Option (ByteArray × (List (S24)) × Int × Int) := if a0.size ≤ 4611686018427387904 then some (readT 65 a0 0 0) else none
theorem restB_size (s : ByteArray) (i : Nat) (h : i ≤ s.size) : (restB s i).size = s.size - i := by unfold restB; rw [ByteArray.size_extract]; omega
theorem endB_range (s : ByteArray) (i : Nat) (h : i ≤ s.size) : endB s i = -1 ∨ ∃ k : Nat, endB s i = (k : Int) ∧ i + k < s.size := by
  have h1 := Lib.indexByte_ge (restB s i).data.toList 32
  by_cases h2 : endB s i = -1
  · exact .inl h2
  · right
    refine ⟨(endB s i).toNat, ?_, ?_⟩
    · have : -1 ≤ endB s i := h1
      omega
    · have h3 : endB s i = ((endB s i).toNat : Int) := by have : -1 ≤ endB s i := h1; omega
      have h4 := (Lib.indexByte_some h3).1
      have h5 := (List.getElem?_eq_some_iff.1 h4).1
      have h6 := restB_size s i h
      have h7 : (restB s i).data.toList.length = (restB s i).size := by rw [Array.length_toList]; rfl
      omega
def RdW (w wc : World) (gr gc : Nat) (n : Nat) : Prop :=
  wc.heap[gr]? = some (.cells #[.string (⟨#[]⟩ : ByteArray), .slice none 0 0] 24 (0, 0)) ∧ wc.heap[gc]? = some (.cells #[.int .i64 (n : Int), .string (⟨#[]⟩ : ByteArray)] 58 (0, 0)) ∧ Below w.heap.size w wc ∧ w.heap.size ≤ gr ∧ w.heap.size ≤ gc
theorem RdW.below {w wc w1 : World} {gr gc n : Nat} (h : RdW w wc gr gc n) (hb : Below wc.heap.size wc w1) : RdW w w1 gr gc n := ⟨blk_below h.1 hb, blk_below h.2.1 hb, below_step h.2.2.1 hb, h.2.2.2⟩
def RdWz (w wc : World) (gr : Nat) : Prop :=
  wc.heap[gr]? = some (.cells #[.string (⟨#[]⟩ : ByteArray), .slice none 0 0] 24 (0, 0)) ∧ Below w.heap.size w wc ∧ w.heap.size ≤ gr
theorem RdWz.below {w wc w1 : World} {gr : Nat} (h : RdWz w wc gr) (hb : Below wc.heap.size wc w1) : RdWz w w1 gr := ⟨blk_below h.1 hb, below_step h.2.1 hb, h.2.2⟩
theorem RdW.ne {w wc : World} {gr gc n : Nat} (h : RdW w wc gr gc n) : gr ≠ gc := by
  intro e
  have := h.2.1
  rw [← e, h.1] at this
  simp at this

set_option maxRecDepth 100000 in
set_option maxHeartbeats 8000000 in
theorem read_walk (a0 : ByteArray) (w : World) (R : ByteArray × List S24 × Int × Int) (hs : a0.size ≤ 4611686018427387904) (hR : readT 65 a0 0 0 = R) :
    Calls Try.prog 10 #[.string a0] w fun e w' => ∃ v1_ : Value, e = .returned (.tuple #[.agg #[.string R.1, v1_], .int .i64 R.2.2.1, .int .i64 R.2.2.2]) ∧ Kd.N k24 24 w' w.heap.size (fun k_ => w.heap.size ≤ k_) v1_ R.2.1 ∧ Below w.heap.size w w' := by
  have hu24 := Try.underlying24
  have hu58 := Try.underlying58
  have HR := Aside0.mk hR
  clear hR
  go_enter Try.func10, Try.ntmps10
  go_wp2_with fail
  obtain ⟨gr, hgr⟩ : ∃ gr, gr = w.heap.size := ⟨_, rfl⟩
  obtain ⟨gc, hgc⟩ : ∃ gc, gc = w.heap.size + 1 := ⟨_, rfl⟩
  have HRD0 := Aside0.mk (show RdW w ((w.alloc (.cells #[.string (⟨#[]⟩ : ByteArray), .slice none 0 0] 24)).alloc (.cells #[.int .i64 0, .string (⟨#[]⟩ : ByteArray)] 58)) gr gc 0 from ⟨by rw [hgr]; exact blk_alloc (blk_new w _) _, by rw [hgc]; exact r24B w _ _, below2 w _ _, by omega, by omega⟩)
  rw [← hgc, ← hgr]
  clear hgc hgr
  generalize (w.alloc (.cells #[.string (⟨#[]⟩ : ByteArray), .slice none 0 0] 24)).alloc (.cells #[.int .i64 0, .string (⟨#[]⟩ : ByteArray)] 58) = w0 at HRD0 ⊢
  go_loopw [6] (fun s wr => Aside0 (∃ (i n d : Nat), s = .int .i64 (i : Int) ∧ i ≤ a0.size ∧ n + d = 65 ∧ readT d a0 i n = R ∧ RdW w wr gr gc n)) (fun s _ => a0.size + 1 - ivR s)
  case atStart => exact ⟨0, 0, 65, rfl, Nat.zero_le _, rfl, HR.out, HRD0.out⟩
  case round =>
    have hrel' := hrel.out
    clear hrel HRD0 HR
    obtain ⟨i, n, d, rfl, hi, hnd, hRd, hA⟩ := hrel'
    have RD := Aside0.mk hA
    have HR := Aside0.mk hRd
    clear hA hRd
    have hi0 : (0 ≤ (i : Int)) = True := eq_true (by omega)
    have hi1 : ((i : Int) ≤ (a0.size : Int)) = True := eq_true (by omega)
    go_upto_region 3 with (fail)
    go_cut [7] (fun v7 wc => Aside0 (v7 = .int .i64 (endB a0 i) ∧ RdW w wc gr gc n))
    case first =>
      go_wp2_with (go_at_call 26; refine (strings_IndexByte.calls (restB a0 i) 32 (endB a0 i) _ rfl).mono ?_; rintro e w' ⟨rfl, ⟨nd, rfl⟩⟩)
      go_meet
      case rel => exact ⟨rfl, RD.out.below (pw_below_drewN (Below.refl _ _) _)⟩
    case rest =>
      have hcut' := hcut.out
      obtain ⟨rfl, hA⟩ := hcut'
      clear hcut RD
      have RD := Aside0.mk hA
      clear hA
      have cc0 := (blk_cell RD.out.2.1 0).trans rfl
      have cc1 := (blk_cell RD.out.2.1 1).trans rfl
      have cf0 := blk_frozen RD.out.2.1 0
      have cf1 := blk_frozen RD.out.2.1 1
      have rc0 := (blk_cell RD.out.1 0).trans rfl
      have rc1 := (blk_cell RD.out.1 1).trans rfl
      have rf0 := blk_frozen RD.out.1 0
      have rf1 := blk_frozen RD.out.1 1
      rcases endB_range a0 i hi with he | ⟨k, he, hk⟩
      · have hw : wordB a0 i = restB a0 i := by unfold wordB; rw [if_pos (by omega)]
        have hm : decide ((-1 : Int) < 0) = true := rfl
        rw [he]
        go_upto_region 7 with (fail)
        obtain ⟨wd, hwd⟩ : ∃ wd, wordB a0 i = wd := ⟨_, rfl⟩
        rw [show a0.extract i a0.size = wd from hw.symm.trans hwd]
        clear hw
        cases d with
        | zero =>
          have eR : R = (⟨#[]⟩, [], 0, 2) := HR.out.symm
          subst eR
          have hn : n = 65 := by omega
          subst hn
          go_wp2_with fail
          refine bodyPost_ret (results_ctt rfl _ _ gr 24 #[.string (⟨#[]⟩ : ByteArray), .slice none 0 0] (0, 0) _ rfl (blk_put (cs := #[.string (⟨#[]⟩ : ByteArray), .slice none 0 0]) (blk_put RD.out.1 0 _ rfl) 1 _ rfl) Try.underlying24 rfl (by kernel_rfl)) rfl ?_
          exact ⟨_, rfl, Kd.N_nil _ _ _ _ _, below_set (below_set RD.out.2.2.1 RD.out.2.2.2.1) RD.out.2.2.2.1⟩
        | succ d =>
          have c30 : ((n : Int) == 65) = false := beq_eq_false_iff_ne.mpr (by omega)
          have HR2 := Aside0.mk (show (if isList wd then (if endB a0 i < 0 then (⟨#[]⟩, [], (a0.size : Int), 5) else readT d a0 (i + (endB a0 i).toNat + 1) (n + 1)) else if isBase wd || isVar wd then (if endB a0 i < 0 then ((wholeT n wd).f0, (wholeT n wd).f1, 0, 0) else (⟨#[]⟩, [], ((i + (endB a0 i).toNat + 1 : Nat) : Int), 5)) else (⟨#[]⟩, [], (i : Int), 5)) = R by have h := HR.out; unfold readT at h; rw [hwd] at h; exact h)
          clear HR
          cases hL : isList wd with
          | true =>
            have hl0 : (wd.toList == ([108, 105, 115, 116] : List UInt8)) = true := hL
            have HR3 := Aside0.mk (show (⟨#[]⟩, [], (a0.size : Int), 5) = R by have h := HR2.out; rw [hL, he] at h; exact h)
            clear HR2 hL
            have eR : R = (⟨#[]⟩, [], (a0.size : Int), 5) := HR3.out.symm
            subst eR
            go_wp2_with fail
            refine bodyPost_ret (results_ctt rfl _ _ gr 24 #[.string (⟨#[]⟩ : ByteArray), .slice none 0 0] (0, 0) _ rfl (blk_put (cs := #[.string (⟨#[]⟩ : ByteArray), .slice none 0 0]) (blk_put RD.out.1 0 _ rfl) 1 _ rfl) Try.underlying24 rfl (by kernel_rfl)) rfl ?_
            exact ⟨_, rfl, Kd.N_nil _ _ _ _ _, below_set (below_set RD.out.2.2.1 RD.out.2.2.2.1) RD.out.2.2.2.1⟩
          | false =>
            have hl0 : (wd.toList == ([108, 105, 115, 116] : List UInt8)) = false := hL
            have HR3 := Aside0.mk (show (if isBase wd || isVar wd then ((wholeT n wd).f0, (wholeT n wd).f1, (0 : Int), (0 : Int)) else (⟨#[]⟩, [], (i : Int), 5)) = R by have h := HR2.out; rw [hL, he] at h; exact h)
            clear HR2 hL
            go_upto_region 14 with (fail)
            obtain ⟨b1, hb1⟩ : ∃ b, (wd.toList == ([117, 110, 105, 116] : List UInt8)) = b := ⟨_, rfl⟩
            obtain ⟨b2, hb2⟩ : ∃ b, (wd.toList == ([116, 114, 117, 116, 104] : List UInt8)) = b := ⟨_, rfl⟩
            obtain ⟨b3, hb3⟩ : ∃ b, (wd.toList == ([105, 110, 116] : List UInt8)) = b := ⟨_, rfl⟩
            obtain ⟨b4, hb4⟩ : ∃ b, (wd.toList == ([116, 101, 120, 116] : List UInt8)) = b := ⟨_, rfl⟩
            obtain ⟨b5, hb5⟩ : ∃ b, isVar wd = b := ⟨_, rfl⟩
            have hbb : (isBase wd || isVar wd) = (b1 || b2 || b3 || b4 || b5) := by rw [← hb1, ← hb2, ← hb3, ← hb4, ← hb5]; rfl
            have HR3 := Aside0.mk (show (if (b1 || b2 || b3 || b4 || b5) then ((wholeT n wd).f0, (wholeT n wd).f1, (0 : Int), (0 : Int)) else (⟨#[]⟩, [], (i : Int), 5)) = R by have h := HR3.out; rw [hbb] at h; exact h)
            have HV := Aside0.mk ((sort_variable_eq wd).trans (congrArg some hb5))
            clear hbb hb5
            go_cut [45] (fun v45 wc => Aside0 (v45 = .bool (b1 || b2 || b3 || b4 || b5) ∧ RdW w wc gr gc n))
            case first =>
              cases b1
              · cases b2
                · cases b3
                  · cases b4
                    · go_wp2_with (go_at_call 27; refine (sort_variable.calls wd b5 _ HV.out).mono ?_; rintro e w' ⟨rfl, ⟨nd, rfl⟩⟩)
                      go_meet
                      case rel => exact ⟨by simp, RD.out.below (pw_below_drewN (Below.refl _ _) _)⟩
                    · go_wp2_with fail
                      go_meet
                      case rel => exact ⟨by simp, RD.out.below (by first | exact pw_below_drewN (Below.refl _ _) _ | exact Below.refl _ _)⟩
                  · go_wp2_with fail
                    go_meet
                    case rel => exact ⟨by simp, RD.out.below (by first | exact pw_below_drewN (Below.refl _ _) _ | exact Below.refl _ _)⟩
                · go_wp2_with fail
                  go_meet
                  case rel => exact ⟨by simp, RD.out.below (by first | exact pw_below_drewN (Below.refl _ _) _ | exact Below.refl _ _)⟩
              · go_wp2_with fail
                go_meet
                case rel => exact ⟨by simp, RD.out.below (by first | exact pw_below_drewN (Below.refl _ _) _ | exact Below.refl _ _)⟩
            case rest =>
              have hcut' := hcut.out
              obtain ⟨rfl, hA⟩ := hcut'
              clear hcut RD cc0 cc1 cf0 cf1 rc0 rc1 rf0 rf1 HV hb1 hb2 hb3 hb4
              have RD := Aside0.mk hA
              clear hA
              generalize (b1 || b2 || b3 || b4 || b5) = bb at HR3 ⊢
              have cc0 := (blk_cell RD.out.2.1 0).trans rfl
              have cc1 := (blk_cell RD.out.2.1 1).trans rfl
              have cf0 := blk_frozen RD.out.2.1 0
              have cf1 := blk_frozen RD.out.2.1 1
              have rc0 := (blk_cell RD.out.1 0).trans rfl
              have rc1 := (blk_cell RD.out.1 1).trans rfl
              have rf0 := blk_frozen RD.out.1 0
              have rf1 := blk_frozen RD.out.1 1
              cases bb with
              | true =>
                have HR4 := Aside0.mk (show ((wholeT n wd).f0, (wholeT n wd).f1, (0 : Int), (0 : Int)) = R from HR3.out)
                clear HR3
                obtain ⟨s0, s1, fu, hw, hS⟩ : ∃ s0 s1 fu, sort_chain_whole.f fu (n : Int) wd = some (s0, s1) ∧ R = (s0, s1, 0, 0) := ⟨_, _, 1000, sort_whole_eq wd n 1000 (by omega) (by omega), HR4.out.symm⟩
                subst hS
                have HW := Aside0.mk hw
                clear hw HR4
                have nrc := RD.out.ne
                have HRW := Aside0.mk (show RdWz w (wc.setCell ⟨gc, 1, none⟩ (.string wd)) gr from ⟨blk_far RD.out.1 nrc _, below_set RD.out.2.2.1 RD.out.2.2.2.2, RD.out.2.2.2.1⟩)
                have sf0 := blk_frozen HRW.out.1 0
                have sf1 := blk_frozen HRW.out.1 1
                go_wp2_with (go_at_call 28; refine (sort_chain_whole.calls fu _ _ _ _ _ HW.out).mono ?_; rintro e w10 ⟨v1, rfl, ho, hb⟩; have HO := Aside0.mk ho; have RZ := Aside0.mk (HRW.out.below hb); clear hb ho; obtain ⟨A3, c3, rfl⟩ := Kd.N_slice HO.out; have sc0 := (blk_cell RZ.out.1 0).trans rfl; have sc1 := (blk_cell RZ.out.1 1).trans rfl; have sf0 := blk_frozen RZ.out.1 0; have sf1 := blk_frozen RZ.out.1 1)
                refine bodyPost_ret (results_ctt rfl _ _ gr 24 #[.string s0, .slice A3 s1.length c3] (0, 0) _ rfl (blk_put (cs := #[.string s0, .slice none 0 0]) (blk_put RZ.out.1 0 _ rfl) 1 _ rfl) Try.underlying24 rfl (by kernel_rfl)) rfl ?_
                exact ⟨_, rfl, Kd.N_lower (Kd.N_mono (ok' := fun k_ => w.heap.size ≤ k_) (Kd.N_far (Kd.N_far (Kd.N_mono (ok' := fun k_ => w.heap.size ≤ k_ ∧ k_ ≠ gr) HO.out (fun k hk => ⟨Nat.le_trans (below_size HRW.out.2.1) hk, fun e => absurd (blk_lt HRW.out.1) (by omega)⟩)) (fun k hk => hk.2) _) (fun k hk => hk.2) _) (fun k hk => hk.1)) (below_size HRW.out.2.1), below_set (below_set RZ.out.2.1 RZ.out.2.2) RZ.out.2.2⟩
              | false =>
                have eR : R = (⟨#[]⟩, [], (i : Int), 5) := HR3.out.symm
                subst eR
                go_wp2_with fail
                refine bodyPost_ret (results_ctt rfl _ _ gr 24 #[.string (⟨#[]⟩ : ByteArray), .slice none 0 0] (0, 0) _ rfl (blk_put (cs := #[.string (⟨#[]⟩ : ByteArray), .slice none 0 0]) (blk_put RD.out.1 0 _ rfl) 1 _ rfl) Try.underlying24 rfl (by kernel_rfl)) rfl ?_
                exact ⟨_, rfl, Kd.N_nil _ _ _ _ _, below_set (below_set RD.out.2.2.1 RD.out.2.2.2.1) RD.out.2.2.2.1⟩
      · have hw : wordB a0 i = a0.extract i (i + k) := by unfold wordB; rw [if_neg (by omega), he]; rfl
        have hm : decide ((k : Int) < 0) = false := decide_eq_false (by omega)
        have hwk0 : wrap64 ((i : Int) + (k : Int)) = (i : Int) + k := by unfold wrap64; omega
        have hi2 : ((i : Int) ≤ (i : Int) + (k : Int)) = True := eq_true (by omega)
        have hi3 : ((i : Int) + (k : Int) ≤ (a0.size : Int)) = True := eq_true (by omega)
        rw [he]
        go_upto_region 7 with (fail)
        obtain ⟨wd, hwd⟩ : ∃ wd, wordB a0 i = wd := ⟨_, rfl⟩
        rw [show a0.extract i (i + k) = wd from hw.symm.trans hwd]
        clear hw
        have hwk : (i : Int) + ((k : Int) + 1) = ((i + k + 1 : Nat) : Int) := by omega
        cases d with
        | zero =>
          have eR : R = (⟨#[]⟩, [], 0, 2) := HR.out.symm
          subst eR
          have hn : n = 65 := by omega
          subst hn
          go_wp2_with fail
          refine bodyPost_ret (results_ctt rfl _ _ gr 24 #[.string (⟨#[]⟩ : ByteArray), .slice none 0 0] (0, 0) _ rfl (blk_put (cs := #[.string (⟨#[]⟩ : ByteArray), .slice none 0 0]) (blk_put RD.out.1 0 _ rfl) 1 _ rfl) Try.underlying24 rfl (by kernel_rfl)) rfl ?_
          exact ⟨_, rfl, Kd.N_nil _ _ _ _ _, below_set (below_set RD.out.2.2.1 RD.out.2.2.2.1) RD.out.2.2.2.1⟩
        | succ d =>
          have c30 : ((n : Int) == 65) = false := beq_eq_false_iff_ne.mpr (by omega)
          have HR2 := Aside0.mk (show (if isList wd then (if endB a0 i < 0 then (⟨#[]⟩, [], (a0.size : Int), 5) else readT d a0 (i + (endB a0 i).toNat + 1) (n + 1)) else if isBase wd || isVar wd then (if endB a0 i < 0 then ((wholeT n wd).f0, (wholeT n wd).f1, 0, 0) else (⟨#[]⟩, [], ((i + (endB a0 i).toNat + 1 : Nat) : Int), 5)) else (⟨#[]⟩, [], (i : Int), 5)) = R by have h := HR.out; unfold readT at h; rw [hwd] at h; exact h)
          clear HR
          cases hL : isList wd with
          | true =>
            have hl0 : (wd.toList == ([108, 105, 115, 116] : List UInt8)) = true := hL
            have HR3 := Aside0.mk (show readT d a0 (i + k + 1) (n + 1) = R by have h := HR2.out; rw [hL, he] at h; exact h)
            clear HR2 hL
            go_wp2_with fail
            go_roundw
            case rel => exact ⟨i + k + 1, n + 1, d, congrArg (Value.int .i64) hwk, by omega, by omega, HR3.out, RD.out.1 |> fun h => blk_far h RD.out.ne _, blk_put RD.out.2.1 0 _ rfl, below_set RD.out.2.2.1 RD.out.2.2.2.2, RD.out.2.2.2⟩
            case measure =>
              show a0.size + 1 - ((i : Int) + (k : Int) + 1).toNat < a0.size + 1 - (i : Int).toNat
              omega
          | false =>
            have hl0 : (wd.toList == ([108, 105, 115, 116] : List UInt8)) = false := hL
            have HR3 := Aside0.mk (show (if isBase wd || isVar wd then (⟨#[]⟩, [], ((i + k + 1 : Nat) : Int), 5) else (⟨#[]⟩, [], (i : Int), 5)) = R by have h := HR2.out; rw [hL, he] at h; exact h)
            clear HR2 hL
            go_upto_region 14 with (fail)
            obtain ⟨b1, hb1⟩ : ∃ b, (wd.toList == ([117, 110, 105, 116] : List UInt8)) = b := ⟨_, rfl⟩
            obtain ⟨b2, hb2⟩ : ∃ b, (wd.toList == ([116, 114, 117, 116, 104] : List UInt8)) = b := ⟨_, rfl⟩
            obtain ⟨b3, hb3⟩ : ∃ b, (wd.toList == ([105, 110, 116] : List UInt8)) = b := ⟨_, rfl⟩
            obtain ⟨b4, hb4⟩ : ∃ b, (wd.toList == ([116, 101, 120, 116] : List UInt8)) = b := ⟨_, rfl⟩
            obtain ⟨b5, hb5⟩ : ∃ b, isVar wd = b := ⟨_, rfl⟩
            have hbb : (isBase wd || isVar wd) = (b1 || b2 || b3 || b4 || b5) := by rw [← hb1, ← hb2, ← hb3, ← hb4, ← hb5]; rfl
            have HR3 := Aside0.mk (show (if (b1 || b2 || b3 || b4 || b5) then (⟨#[]⟩, [], ((i + k + 1 : Nat) : Int), 5) else (⟨#[]⟩, [], (i : Int), 5)) = R by have h := HR3.out; rw [hbb] at h; exact h)
            have HV := Aside0.mk ((sort_variable_eq wd).trans (congrArg some hb5))
            clear hbb hb5
            go_cut [45] (fun v45 wc => Aside0 (v45 = .bool (b1 || b2 || b3 || b4 || b5) ∧ RdW w wc gr gc n))
            case first =>
              cases b1
              · cases b2
                · cases b3
                  · cases b4
                    · go_wp2_with (go_at_call 27; refine (sort_variable.calls wd b5 _ HV.out).mono ?_; rintro e w' ⟨rfl, ⟨nd, rfl⟩⟩)
                      go_meet
                      case rel => exact ⟨by simp, RD.out.below (pw_below_drewN (Below.refl _ _) _)⟩
                    · go_wp2_with fail
                      go_meet
                      case rel => exact ⟨by simp, RD.out.below (by first | exact pw_below_drewN (Below.refl _ _) _ | exact Below.refl _ _)⟩
                  · go_wp2_with fail
                    go_meet
                    case rel => exact ⟨by simp, RD.out.below (by first | exact pw_below_drewN (Below.refl _ _) _ | exact Below.refl _ _)⟩
                · go_wp2_with fail
                  go_meet
                  case rel => exact ⟨by simp, RD.out.below (by first | exact pw_below_drewN (Below.refl _ _) _ | exact Below.refl _ _)⟩
              · go_wp2_with fail
                go_meet
                case rel => exact ⟨by simp, RD.out.below (by first | exact pw_below_drewN (Below.refl _ _) _ | exact Below.refl _ _)⟩
            case rest =>
              have hcut' := hcut.out
              obtain ⟨rfl, hA⟩ := hcut'
              clear hcut RD cc0 cc1 cf0 cf1 rc0 rc1 rf0 rf1 HV hb1 hb2 hb3 hb4
              have RD := Aside0.mk hA
              clear hA
              generalize (b1 || b2 || b3 || b4 || b5) = bb at HR3 ⊢
              have cc0 := (blk_cell RD.out.2.1 0).trans rfl
              have cc1 := (blk_cell RD.out.2.1 1).trans rfl
              have cf0 := blk_frozen RD.out.2.1 0
              have cf1 := blk_frozen RD.out.2.1 1
              have rc0 := (blk_cell RD.out.1 0).trans rfl
              have rc1 := (blk_cell RD.out.1 1).trans rfl
              have rf0 := blk_frozen RD.out.1 0
              have rf1 := blk_frozen RD.out.1 1
              cases bb with
              | true =>
                have HR4 := Aside0.mk (show (⟨#[]⟩, [], ((i + k + 1 : Nat) : Int), 5) = R from HR3.out)
                clear HR3
                have eR : R = (⟨#[]⟩, [], ((i + k + 1 : Nat) : Int), 5) := HR4.out.symm
                subst eR
                go_wp2_with fail
                refine bodyPost_ret (results_ctt rfl _ _ gr 24 #[.string (⟨#[]⟩ : ByteArray), .slice none 0 0] (0, 0) _ rfl (blk_put (cs := #[.string (⟨#[]⟩ : ByteArray), .slice none 0 0]) (blk_put RD.out.1 0 _ rfl) 1 _ rfl) Try.underlying24 rfl (by kernel_rfl)) rfl ?_
                exact ⟨_, rfl, Kd.N_nil _ _ _ _ _, below_set (below_set RD.out.2.2.1 RD.out.2.2.2.1) RD.out.2.2.2.1⟩
              | false =>
                have eR : R = (⟨#[]⟩, [], (i : Int), 5) := HR3.out.symm
                subst eR
                go_wp2_with fail
                refine bodyPost_ret (results_ctt rfl _ _ gr 24 #[.string (⟨#[]⟩ : ByteArray), .slice none 0 0] (0, 0) _ rfl (blk_put (cs := #[.string (⟨#[]⟩ : ByteArray), .slice none 0 0]) (blk_put RD.out.1 0 _ rfl) 1 _ rfl) Try.underlying24 rfl (by kernel_rfl)) rfl ?_
                exact ⟨_, rfl, Kd.N_nil _ _ _ _ _, below_set (below_set RD.out.2.2.1 RD.out.2.2.2.1) RD.out.2.2.2.1⟩


theorem sort_Read.calls (a0 : ByteArray) (r1 : ByteArray) (r2 : List (S24)) (r3 : Int) (r4 : Int) (w : World) (h : sort_Read.f a0 = some (r1, r2, r3, r4)) :
    Calls Try.prog 10 #[.string a0] w fun e w' => ∃ v1_ : Value, e = .returned (.tuple #[.agg #[.string r1, v1_], .int .i64 r3, .int .i64 r4]) ∧ Kd.N k24 24 w' w.heap.size (fun k_ => (w.heap.size ≤ k_)) v1_ r2 ∧ Below w.heap.size w w' := by
  unfold sort_Read.f at h
  by_cases hs : a0.size ≤ 4611686018427387904
  · rw [if_pos hs] at h
    exact read_walk a0 w (r1, r2, r3, r4) hs (Option.some.inj h)
  · rw [if_neg hs] at h
    cases h


end Go.Proofs.Ytlibklfianghlaa.S

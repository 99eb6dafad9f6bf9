-- WRITTEN BY a program of this session (wip/extprint.py, over the kit's print.py); not trusted: Lean checks it.
import Derived.Test.YtlibklfianghlaaSx0
import Derived.Test.YtlibklfianghlaaSx1
import Derived.Test.YtlibklfianghlaaSx3
import Derived.Test.YtlibklfianghlaaSEMapS
import Derived.Test.YtlibklfianghlaaSEMath
namespace Go.Proofs.Ytlibklfianghlaa.S
open Go.RowKit Go.Proofs.YtlibklfianghlaaW.PrintWords Go.Proofs.YtlibklfianghlaaW.PrintLast Go.Proofs.YtlibklfianghlaaW.PrintMore
attribute [local go_sem] max2_int min2_int max_two min_two max_three min_three max_four min_four   -- for this text's walks alone
set_option linter.unusedVariables false
set_option linter.unusedSimpArgs false

/-! (given).real, (given).unify -/
theorem zero58 (w : World) : (zeroValue 58).run Try.prog w = .ok (.agg #[.int .i64 0, .string ⟨#[]⟩]) w := by kernel_rfl
set_option maxRecDepth 100000 in
set_option maxHeartbeats 1000000 in
theorem real_none (g : Nat) (L : List (ByteArray × Value)) (x : Int) (nm : ByteArray) (w : World) (hM : MapS w g L) (hn : getA L nm = none) :
    Calls Try.prog 38 #[.map (some g), .agg #[.int .i64 x, .string nm]] w fun e w' => e = .returned (.agg #[.int .i64 x, .string nm]) ∧ Below w.heap.size w w' := by
  have hu58 := Try.underlying58
  have hlt := hM.lt
  have HM := Aside0.mk hM
  have HN := Aside0.mk hn
  clear hM hn
  go_enter Try.func38, Try.ntmps38
  go_wp2_with fail
  refine wp_loop_once ?_
  go_wp2_with (at_lookup; refine wpList_lookup_S rfl _ _ 66 rfl 9 58 Try.underlying66 Try.underlying9 _ zero58 g L rfl nm rfl (HM.out.below (((Below.refl _ _).alloc (Nat.le_refl _) _).alloc (by simp) _)) ?_; rw [HN.out]; simp only [Option.getD_none, Option.isSome_none])
  refine bodyPost_ret (v := .agg #[.int .i64 x, .string nm]) (by simp [results, Try.results38, go_sem]) rfl ⟨rfl, ?_⟩
  exact (((Below.refl _ _).alloc (Nat.le_refl _) _).alloc (by simp) _).alloc (by simp; omega) _
set_option maxRecDepth 100000 in
set_option maxHeartbeats 1000000 in
theorem real_one (g : Nat) (L : List (ByteArray × Value)) (x n : Int) (nm u : ByteArray) (w : World) (hM : MapS w g L) (hn : getA L nm = some (.agg #[.int .i64 n, .string u])) (hu : getA L u = none)
    (h0 : 0 ≤ x) (h1 : x ≤ 65) (h2 : 0 ≤ n) (h3 : n ≤ 65) :
    Calls Try.prog 38 #[.map (some g), .agg #[.int .i64 x, .string nm]] w fun e w' => e = .returned (.agg #[.int .i64 (x + n), .string u]) ∧ Below w.heap.size w w' := by
  have hu58 := Try.underlying58
  have hlt := hM.lt
  have HM := Aside0.mk hM
  have HN := Aside0.mk hn
  have HU := Aside0.mk hu
  clear hM hn hu
  have t1 : True := trivial
  go_enter Try.func38, Try.ntmps38
  go_wp2_with fail
  refine wp_loop_rounds 2 ?_
  rw [rounds_succ]
  go_wp2_with (at_lookup; refine wpList_lookup_S rfl _ _ 66 rfl 9 58 Try.underlying66 Try.underlying9 _ zero58 g L rfl nm rfl (HM.out.below (((Below.refl _ _).alloc (Nat.le_refl _) _).alloc (by simp) _)) ?_; rw [HN.out]; simp only [Option.getD_some, Option.isSome_some])
  rw [rounds_succ]
  go_wp2_with (at_lookup; refine wpList_lookup_S rfl _ _ 66 rfl 9 58 Try.underlying66 Try.underlying9 _ zero58 g L rfl u rfl (HM.out.below ((((Below.refl _ _).alloc (Nat.le_refl _) _).alloc (by simp) _).alloc (by simp; omega) _)) ?_; rw [HU.out]; simp only [Option.getD_none, Option.isSome_none])
  refine bodyPost_ret (v := .agg #[.int .i64 (x + n), .string u]) (by simp [results, Try.results38, go_sem]) rfl ⟨rfl, ?_⟩
  exact ((((Below.refl _ _).alloc (Nat.le_refl _) _).alloc (by simp) _).alloc (by simp; omega) _).alloc (by simp; omega) _

/-- Two chains of which one has no lists: the other's lists, the name without, the name within. -/
def normA (x y : Int) (p q : ByteArray) : Int × ByteArray × ByteArray :=
  if x < y then (y - x, p, q) else if y < x then (x - y, q, p) else if Op.bytesLess p.toList q.toList then (0, q, p) else (0, p, q)
/-- What a name and a chain are unified by. -/
def unifyB (d : Int) (m n : ByteArray) : Bool × List (ByteArray × Value) :=
  if d = 0 ∧ m.toList = n.toList then (true, [])
  else if isVar m = true ∧ m.toList ≠ n.toList then (true, [(m, .agg #[.int .i64 d, .string n])])
  else if d = 0 ∧ isVar n = true then (true, [(n, .agg #[.int .i64 0, .string m])])
  else (false, [])
def TwoBoxes (w wc : World) (g : Nat) (x y : Int) (p q : ByteArray) : Prop :=
  wc.heap[w.heap.size]? = some (.cells #[.int .i64 x, .string p] 58) ∧ wc.heap[w.heap.size + 1]? = some (.cells #[.int .i64 y, .string q] 58) ∧ MapS wc g [] ∧ Below w.heap.size w wc
theorem TwoBoxes.set {w wc : World} {g : Nat} {x y x' y' : Int} {p q p' q' : ByteArray} (h : TwoBoxes w wc g x y p q) (hg : g < w.heap.size) :
    TwoBoxes w ((((wc.setCell ⟨w.heap.size, 0, none⟩ (.int .i64 x')).setCell ⟨w.heap.size, 1, none⟩ (.string p')).setCell ⟨w.heap.size + 1, 0, none⟩ (.int .i64 y')).setCell ⟨w.heap.size + 1, 1, none⟩ (.string q')) g x' y' p' q' := by
  obtain ⟨h1, h2, h3, h4⟩ := h
  refine ⟨?_, ?_, ?_, ?_⟩
  · refine blk_far (blk_far (blk_put (blk_put h1 0 _ rfl) 1 _ rfl) (by simp) _) (by simp) _
  · refine blk_put (blk_put (blk_far (blk_far h2 (by simp) _) (by simp) _) 0 _ rfl) 1 _ rfl
  · exact (((h3.far (by simp; omega) _).far (by simp; omega) _).far (by simp; omega) _).far (by simp; omega) _
  · exact ((((h4.setCell (by simp) _).setCell (by simp) _).setCell (by simp) _).setCell (by simp) _)
theorem TwoBoxes.set0 {w wc : World} {g : Nat} {x y x' y' : Int} {p q : ByteArray} (h : TwoBoxes w wc g x y p q) (hg : g < w.heap.size) :
    TwoBoxes w ((wc.setCell ⟨w.heap.size, 0, none⟩ (.int .i64 x')).setCell ⟨w.heap.size + 1, 0, none⟩ (.int .i64 y')) g x' y' p q := by
  obtain ⟨h1, h2, h3, h4⟩ := h
  refine ⟨?_, ?_, ?_, ?_⟩
  · exact blk_far (blk_put h1 0 _ rfl) (by simp) _
  · exact blk_put (blk_far h2 (by simp) _) 0 _ rfl
  · exact (h3.far (by simp; omega) _).far (by simp; omega) _
  · exact (h4.setCell (by simp) _).setCell (by simp) _
theorem TwoBoxes.drew {w wc : World} {g : Nat} {x y : Int} {p q : ByteArray} (h : TwoBoxes w wc g x y p q) : TwoBoxes w wc.drew g x y p q := ⟨h.1, h.2.1, h.2.2.1, below_drew h.2.2.2⟩
theorem TwoBoxes.drewN {w wc : World} {g : Nat} {x y : Int} {p q : ByteArray} (h : TwoBoxes w wc g x y p q) (n : Nat) : TwoBoxes w (wc.drewN n) g x y p q := ⟨h.1, h.2.1, h.2.2.1, pw_below_drewN h.2.2.2 n⟩
theorem TwoBoxes.cells {w wc : World} {g : Nat} {x y : Int} {p q : ByteArray} (h : TwoBoxes w wc g x y p q) :
    (wc.cell? ⟨w.heap.size, 0, none⟩ = some (.int .i64 x) ∧ wc.cell? ⟨w.heap.size, 1, none⟩ = some (.string p) ∧ wc.cell? ⟨w.heap.size + 1, 0, none⟩ = some (.int .i64 y) ∧ wc.cell? ⟨w.heap.size + 1, 1, none⟩ = some (.string q)) ∧
    (wc.frozen? ⟨w.heap.size, 0, none⟩ = false ∧ wc.frozen? ⟨w.heap.size, 1, none⟩ = false ∧ wc.frozen? ⟨w.heap.size + 1, 0, none⟩ = false ∧ wc.frozen? ⟨w.heap.size + 1, 1, none⟩ = false) :=
  ⟨⟨(blk_cell h.1 0).trans rfl, (blk_cell h.1 1).trans rfl, (blk_cell h.2.1 0).trans rfl, (blk_cell h.2.1 1).trans rfl⟩, blk_frozen h.1 0, blk_frozen h.1 1, blk_frozen h.2.1 0, blk_frozen h.2.1 1⟩
attribute [local go_sem high] eqA58
set_option maxRecDepth 100000 in
set_option maxHeartbeats 4000000 in
theorem unify_calls (g : Nat) (x y : Int) (p q : ByteArray) (w : World) (hM : MapS w g []) (hx0 : 0 ≤ x) (hx1 : x ≤ 64) (hy0 : 0 ≤ y) (hy1 : y ≤ 64) (d : Int) (m n : ByteArray) (hN : normA x y p q = (d, m, n)) (ok : Bool) (L : List (ByteArray × Value)) (hU : unifyB d m n = (ok, L)) :
    Calls Try.prog 37 #[.map (some g), .agg #[.int .i64 x, .string p], .agg #[.int .i64 y, .string q]] w fun e w' => e = .returned (.bool ok) ∧ MapS w' g L ∧ Below g w w' := by
  have hu58 := Try.underlying58
  have hlt := hM.lt
  have HM := Aside0.mk hM
  have HN := Aside0.mk hN
  have HU := Aside0.mk hU
  clear hM hN hU
  go_enter Try.func37, Try.ntmps37
  go_upto_region 1 with (fail)
  go_cut [] (fun wc => Aside0 (TwoBoxes w wc g x y p q))
  case first =>
    have K1 := Aside0.mk (fun (wx : World) (h : Aside0 (MapS wx g [])) => real_none g [] x p wx h.out rfl)
    have K2 := Aside0.mk (fun (wx : World) (h : Aside0 (MapS wx g [])) => real_none g [] y q wx h.out rfl)
    have hm0 : Aside0 (MapS ((w.alloc (Obj.cells #[Value.int IntKind.i64 x, Value.string p] 58)).alloc (Obj.cells #[Value.int IntKind.i64 y, Value.string q] 58)).drew g []) := ⟨HM.out.below (below_drew (((Below.refl _ _).alloc (Nat.le_refl _) _).alloc (by simp) _))⟩
    have hb0 : Aside0 (Below w.heap.size w ((w.alloc (Obj.cells #[Value.int IntKind.i64 x, Value.string p] 58)).alloc (Obj.cells #[Value.int IntKind.i64 y, Value.string q] 58)).drew) := ⟨below_drew (((Below.refl _ _).alloc (Nat.le_refl _) _).alloc (by simp) _)⟩
    have b40 : Aside0 (((w.alloc (Obj.cells #[Value.int IntKind.i64 x, Value.string p] 58)).alloc (Obj.cells #[Value.int IntKind.i64 y, Value.string q] 58)).drew.heap[w.heap.size]? = some (.cells #[.int .i64 x, .string p] 58 (0, 0))) := ⟨blk_drew (blk_alloc (blk_new w _) _)⟩
    have b50 : Aside0 (((w.alloc (Obj.cells #[Value.int IntKind.i64 x, Value.string p] 58)).alloc (Obj.cells #[Value.int IntKind.i64 y, Value.string q] 58)).drew.heap[w.heap.size + 1]? = some (.cells #[.int .i64 y, .string q] 58 (0, 0))) := ⟨blk_drew (by simpa using blk_new (w.alloc (Obj.cells #[Value.int IntKind.i64 x, Value.string p] 58)) (Obj.cells #[Value.int IntKind.i64 y, Value.string q] 58))⟩
    go_region_with (first | (go_at_call_of 38 p; refine (K1.out _ (by assumption)).mono ?_; rintro e w' ⟨rfl, hb⟩; have hm := Aside0.mk (MapS.below (L := []) (g := g) (Aside0.out (by assumption)) hb); have hB := Aside0.mk (below_step (w := w) (Aside0.out (by assumption)) hb); have b4 := Aside0.mk (blk_below (g := w.heap.size) (o := .cells #[.int .i64 x, .string p] 58 (0, 0)) (Aside0.out (by assumption)) hb); have b5 := Aside0.mk (blk_below (g := w.heap.size + 1) (o := .cells #[.int .i64 y, .string q] 58 (0, 0)) (Aside0.out (by assumption)) hb); have z0 := (blk_cell b4.out 0).trans rfl; have z1 := (blk_cell b4.out 1).trans rfl; have z2 := (blk_cell b5.out 0).trans rfl; have z3 := (blk_cell b5.out 1).trans rfl; have f0 := blk_frozen b4.out 0; have f1 := blk_frozen b4.out 1; have f2 := blk_frozen b5.out 0; have f3 := blk_frozen b5.out 1; clear hb) | (go_at_call_of 38 q; refine (K2.out _ (by assumption)).mono ?_; rintro e w' ⟨rfl, hb⟩; have hm := Aside0.mk (MapS.below (L := []) (g := g) (Aside0.out (by assumption)) hb); have hB := Aside0.mk (below_step (w := w) (Aside0.out (by assumption)) hb); have b4 := Aside0.mk (blk_below (g := w.heap.size) (o := .cells #[.int .i64 x, .string p] 58 (0, 0)) (Aside0.out (by assumption)) hb); have b5 := Aside0.mk (blk_below (g := w.heap.size + 1) (o := .cells #[.int .i64 y, .string q] 58 (0, 0)) (Aside0.out (by assumption)) hb); have z0 := (blk_cell b4.out 0).trans rfl; have z1 := (blk_cell b4.out 1).trans rfl; have z2 := (blk_cell b5.out 0).trans rfl; have z3 := (blk_cell b5.out 1).trans rfl; have f0 := blk_frozen b4.out 0; have f1 := blk_frozen b4.out 1; have f2 := blk_frozen b5.out 0; have f3 := blk_frozen b5.out 1; clear hb))
    all_goals
      go_wp2_with fail
      go_meet
      case rel => exact ⟨TwoBoxes.set (x := x) (y := y) (p := p) (q := q) ⟨b4.out, b5.out, hm.out, hB.out⟩ hlt⟩
  case rest =>
    have T0 := Aside0.mk hcut.out
    clear hcut
    obtain ⟨⟨z0, z1, z2, z3⟩, f0, f1, f2, f3⟩ := T0.out.cells
    go_upto_region 3 with (fail)
    obtain ⟨k, hk⟩ : ∃ k, (if y < x then y else x) = k := ⟨_, rfl⟩
    rw [hk]
    have hk1 : k ≤ x := by rw [← hk]; split <;> omega
    have hk2 : k ≤ y := by rw [← hk]; split <;> omega
    have hk3 : k = x ∨ k = y := by rw [← hk]; split <;> omega
    have hk4 : 0 ≤ k := by omega
    have HK3 := Aside0.mk hk3
    clear hk hk3
    go_cut [] (fun wc => Aside0 (TwoBoxes w wc g (x - k) (y - k) p q))
    case first =>
      go_region
      all_goals
        go_wp2_with fail
        go_meet
        case rel => exact ⟨(TwoBoxes.set0 T0.out hlt).drew⟩
    case rest =>
      have T1 := Aside0.mk hcut.out
      clear hcut z0 z1 z2 z3 f0 f1 f2 f3 T0
      obtain ⟨a1, ha⟩ : ∃ a1, x - k = a1 := ⟨_, rfl⟩
      obtain ⟨b1, hb⟩ : ∃ b1, y - k = b1 := ⟨_, rfl⟩
      have HAB := Aside0.mk (show (a1 = 0 ∨ b1 = 0) ∧ a1 - b1 = x - y by have := HK3.out; omega)
      have ha0 : 0 ≤ a1 := by omega
      have hb0 : 0 ≤ b1 := by omega
      have ha1 : a1 ≤ 64 := by omega
      have hb1 : b1 ≤ 64 := by omega
      rw [ha, hb] at T1
      clear ha hb hk1 hk2 hk4 HK3
      go_step
      go_step
      go_cut [] (fun wc => Aside0 (TwoBoxes w wc g 0 d m n) ∧ Aside0 (0 ≤ d ∧ d ≤ 64))
      case first =>
        obtain ⟨⟨z0, z1, z2, z3⟩, f0, f1, f2, f3⟩ := T1.out.cells
        by_cases c1 : 0 < a1
        · obtain rfl : b1 = 0 := by have := HAB.out; omega
          have e1 : decide (0 < a1) = true := decide_eq_true c1
          have HS := Aside0.mk (show d = a1 ∧ m = q ∧ n = p by
            have h1 := HN.out; have h2 := HAB.out
            unfold normA at h1
            rw [if_neg (by omega), if_pos (by omega)] at h1
            simp only [Prod.mk.injEq] at h1
            exact ⟨by omega, h1.2.1.symm, h1.2.2.symm⟩)
          go_wp2_with fail
          go_meet
          obtain ⟨rfl, rfl, rfl⟩ := HS.out
          case rel => exact ⟨⟨TwoBoxes.set T1.out hlt⟩, ⟨by omega, by omega⟩⟩
        · obtain rfl : a1 = 0 := by omega
          by_cases c2 : b1 = 0
          · subst c2
            cases c3 : Op.bytesLess p.toList q.toList
            · have HS := Aside0.mk (show d = 0 ∧ m = p ∧ n = q by
                have h1 := HN.out; have h2 := HAB.out
                unfold normA at h1
                rw [if_neg (by omega), if_neg (by omega), if_neg (by simp [c3])] at h1
                simp only [Prod.mk.injEq] at h1
                exact ⟨h1.1.symm, h1.2.1.symm, h1.2.2.symm⟩)
              go_wp2_with fail
              go_meet
              obtain ⟨rfl, rfl, rfl⟩ := HS.out
              case rel => exact ⟨T1, ⟨by omega, by omega⟩⟩
            · have HS := Aside0.mk (show d = 0 ∧ m = q ∧ n = p by
                have h1 := HN.out; have h2 := HAB.out
                unfold normA at h1
                rw [if_neg (by omega), if_neg (by omega), if_pos c3] at h1
                simp only [Prod.mk.injEq] at h1
                exact ⟨h1.1.symm, h1.2.1.symm, h1.2.2.symm⟩)
              go_wp2_with fail
              go_meet
              obtain ⟨rfl, rfl, rfl⟩ := HS.out
              case rel => exact ⟨⟨TwoBoxes.set T1.out hlt⟩, ⟨by omega, by omega⟩⟩
          · have e2 : (b1 == 0) = false := beq_eq_false_iff_ne.mpr c2
            have HS := Aside0.mk (show d = b1 ∧ m = p ∧ n = q by
              have h1 := HN.out; have h2 := HAB.out
              unfold normA at h1
              rw [if_pos (by omega)] at h1
              simp only [Prod.mk.injEq] at h1
              exact ⟨by omega, h1.2.1.symm, h1.2.2.symm⟩)
            go_wp2_with fail
            go_meet
            obtain ⟨rfl, rfl, rfl⟩ := HS.out
            case rel => exact ⟨T1, ⟨by omega, by omega⟩⟩
      case rest =>
        obtain ⟨hcu, hcv⟩ := hcut
        have T2 := Aside0.mk hcu.out
        obtain ⟨hd0, hd1⟩ := hcv.out
        clear hcu hcv T1 HAB ha0 hb0 ha1 hb1
        obtain ⟨⟨z0, z1, z2, z3⟩, f0, f1, f2, f3⟩ := T2.out.cells
        have vm := Aside0.mk (fun wx => sort_variable.calls m (isVar m) wx (sort_variable_eq m))
        have vn := Aside0.mk (fun wx => sort_variable.calls n (isVar n) wx (sort_variable_eq n))
        by_cases c1 : d = 0
        · subst c1
          by_cases c2 : m.toList = n.toList
          · have e1 : (m.toList == n.toList) = true := beq_iff_eq.mpr c2
            have hu := HU.out
            unfold unifyB at hu
            rw [if_pos ⟨rfl, c2⟩] at hu
            obtain ⟨rfl, rfl⟩ := Prod.mk.inj hu
            clear hu c2
            go_wp2_with fail
            go_ret
            exact ⟨rfl, T2.out.2.2.1, T2.out.2.2.2.mono (Nat.le_of_lt hlt)⟩
          · have e1 : (m.toList == n.toList) = false := beq_eq_false_iff_ne.mpr c2
            have e2 : (m.toList != n.toList) = true := bne_iff_ne.mpr c2
            cases hvm : isVar m
            · rw [hvm] at vm
              cases hvn : isVar n
              · rw [hvn] at vn
                have hu := HU.out
                unfold unifyB at hu
                rw [if_neg (by simp [c2]), if_neg (by simp [hvm]), if_neg (by simp [hvn])] at hu
                obtain ⟨rfl, rfl⟩ := Prod.mk.inj hu
                clear hu c2 hvm hvn
                go_wp2_with (first | (go_at_call_of 27 m; refine (vm.out _).mono ?_; rintro e w' ⟨rfl, ⟨nd, rfl⟩⟩) | (go_at_call_of 27 n; refine (vn.out _).mono ?_; rintro e w' ⟨rfl, ⟨nd, rfl⟩⟩))
                go_ret
                exact ⟨rfl, T2.out.2.2.1, pw_below_drewN (T2.out.2.2.2.mono (Nat.le_of_lt hlt)) _⟩
              · rw [hvn] at vn
                have hu := HU.out
                unfold unifyB at hu
                rw [if_neg (by simp [c2]), if_neg (by simp [hvm]), if_pos (by simp [hvn])] at hu
                obtain ⟨rfl, rfl⟩ := Prod.mk.inj hu
                clear hu c2 hvm hvn
                go_wp2_with (first | (go_at_call_of 27 m; refine (vm.out _).mono ?_; rintro e w' ⟨rfl, ⟨nd, rfl⟩⟩) | (go_at_call_of 27 n; refine (vn.out _).mono ?_; rintro e w' ⟨rfl, ⟨nd, rfl⟩⟩) | (at_mapUpdate; refine wpList_update_S rfl _ _ _ 66 rfl 9 58 Try.underlying66 Try.underlying9 g [] rfl n rfl _ rfl (T2.out.2.2.1) ?_; intro w9 hm9 hg9))
                go_ret
                exact ⟨rfl, hm9, (pw_below_drewN (T2.out.2.2.2.mono (Nat.le_of_lt hlt)) _).grown hg9 (by have := T2.out.2.2.2.size; simp; omega) (fun k hk => by cases hk; exact Nat.le_refl _)⟩
            · rw [hvm] at vm
              have hu := HU.out
              unfold unifyB at hu
              rw [if_neg (by simp [c2]), if_pos (by simp [hvm, c2])] at hu
              obtain ⟨rfl, rfl⟩ := Prod.mk.inj hu
              clear hu c2 hvm
              go_wp2_with (first | (go_at_call_of 27 m; refine (vm.out _).mono ?_; rintro e w' ⟨rfl, ⟨nd, rfl⟩⟩) | (at_mapUpdate; refine wpList_update_S rfl _ _ _ 66 rfl 9 58 Try.underlying66 Try.underlying9 g [] rfl m rfl _ rfl (T2.out.2.2.1) ?_; intro w9 hm9 hg9))
              go_ret
              exact ⟨rfl, hm9, (pw_below_drewN (T2.out.2.2.2.mono (Nat.le_of_lt hlt)) _).grown hg9 (by have := T2.out.2.2.2.size; simp; omega) (fun k hk => by cases hk; exact Nat.le_refl _)⟩
        · have g1 : (d == 0) = false := beq_eq_false_iff_ne.mpr c1
          have g2 : ((0 : Int) == d) = false := beq_eq_false_iff_ne.mpr (fun h => c1 h.symm)
          cases hvm : isVar m
          · rw [hvm] at vm
            have hu := HU.out
            unfold unifyB at hu
            rw [if_neg (by simp [c1]), if_neg (by simp [hvm]), if_neg (by simp [c1])] at hu
            obtain ⟨rfl, rfl⟩ := Prod.mk.inj hu
            clear hu hvm c1
            go_wp2_with (go_at_call_of 27 m; refine (vm.out _).mono ?_; rintro e w' ⟨rfl, ⟨nd, rfl⟩⟩)
            go_ret
            exact ⟨rfl, T2.out.2.2.1, pw_below_drewN (T2.out.2.2.2.mono (Nat.le_of_lt hlt)) _⟩
          · rw [hvm] at vm
            by_cases c2 : m.toList = n.toList
            · have e1 : (m.toList == n.toList) = true := beq_iff_eq.mpr c2
              have e2 : (m.toList != n.toList) = false := bne_eq_false_iff_eq.mpr c2
              have hu := HU.out
              unfold unifyB at hu
              rw [if_neg (by simp [c1]), if_neg (by simp [c2]), if_neg (by simp [c1])] at hu
              obtain ⟨rfl, rfl⟩ := Prod.mk.inj hu
              clear hu hvm c1 c2
              go_wp2_with (go_at_call_of 27 m; refine (vm.out _).mono ?_; rintro e w' ⟨rfl, ⟨nd, rfl⟩⟩)
              go_ret
              exact ⟨rfl, T2.out.2.2.1, pw_below_drewN (T2.out.2.2.2.mono (Nat.le_of_lt hlt)) _⟩
            · have e1 : (m.toList == n.toList) = false := beq_eq_false_iff_ne.mpr c2
              have e2 : (m.toList != n.toList) = true := bne_iff_ne.mpr c2
              have hu := HU.out
              unfold unifyB at hu
              rw [if_neg (by simp [c1]), if_pos (by simp [hvm, c2])] at hu
              obtain ⟨rfl, rfl⟩ := Prod.mk.inj hu
              clear hu hvm c1 c2
              go_wp2_with (first | (go_at_call_of 27 m; refine (vm.out _).mono ?_; rintro e w' ⟨rfl, ⟨nd, rfl⟩⟩) | (at_mapUpdate; refine wpList_update_S rfl _ _ _ 66 rfl 9 58 Try.underlying66 Try.underlying9 g [] rfl m rfl _ rfl (T2.out.2.2.1) ?_; intro w9 hm9 hg9))
              go_ret
              exact ⟨rfl, hm9, (pw_below_drewN (T2.out.2.2.2.mono (Nat.le_of_lt hlt)) _).grown hg9 (by have := T2.out.2.2.2.size; simp; omega) (fun k hk => by cases hk; exact Nat.le_refl _)⟩

end Go.Proofs.Ytlibklfianghlaa.S

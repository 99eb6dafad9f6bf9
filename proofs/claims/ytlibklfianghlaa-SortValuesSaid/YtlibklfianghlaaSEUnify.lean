-- WRITTEN BY a program of this session (wip/extprint.py, over the kit's print.py); not trusted: Lean checks it.
import Derived.Test.YtlibklfianghlaaSx0
import Derived.Test.YtlibklfianghlaaSx3
import Derived.Test.YtlibklfianghlaaSEGiven
import Derived.Test.YtlibklfianghlaaSEMapR
import Derived.Test.YtlibklfianghlaaSEMapS
import Derived.Test.YtlibklfianghlaaSEMath
import Derived.Test.YtlibklfianghlaaSESort1
namespace Go.Proofs.Ytlibklfianghlaa.S
open Go.RowKit Go.Proofs.YtlibklfianghlaaW.PrintWords Go.Proofs.YtlibklfianghlaaW.PrintLast Go.Proofs.YtlibklfianghlaaW.PrintMore
attribute [local go_sem] max2_int min2_int max_two min_two max_three min_three max_four min_four   -- for this text's walks alone
set_option linter.unusedVariables false
set_option linter.unusedSimpArgs false

/-! sort.Unify -/
set_option maxRecDepth 100000 in
theorem r24B (w : World) (A B : Obj) : ((w.alloc A).alloc B).heap[w.heap.size + 1]? = some B := by simpa using blk_new (w.alloc A) B
def UnA (w wc : World) (gx : Nat) (x : Int) (p a1 : ByteArray) (A1 : Option Addr) (n1 c1 : Nat) : Prop :=
  wc.heap[gx]? = some (.cells #[.int .i64 x, .string p] 58 (0, 0)) ∧ wc.heap[w.heap.size + 1]? = some (.cells #[.string a1, .slice A1 n1 c1] 24 (0, 0)) ∧ Below w.heap.size w wc ∧ w.heap.size + 1 < gx
def UnB (w wc : World) (gx gy : Nat) (x y : Int) (p q : ByteArray) : Prop :=
  wc.heap[gx]? = some (.cells #[.int .i64 x, .string p] 58 (0, 0)) ∧ wc.heap[gy]? = some (.cells #[.int .i64 y, .string q] 58 (0, 0)) ∧ Below w.heap.size w wc ∧ w.heap.size < gx ∧ w.heap.size < gy

theorem IterS.next_nil {P : Program} {ops : Array Oper} {rest : List Oper} {o : Oper} {a : Act} {Q : Exit → Act → World → Prop} {W : World} (hgd : o.guard = none) (it : Operand) (ho : o.op = .next it false) (r g : Nat) (L : List (ByteArray × Value)) (hit : a.eval it = .pointer (some ⟨r, 0, none⟩)) (hI : IterS W r g L [])
    (h : wpList P ops Q rest (a.put o.dst (.tuple #[.bool false])) W) : wpList P ops Q (o :: rest) a W :=
  wpList_next_S hgd it ho r g L [] hit hI (fun _ => h) (fun p rem' w' hp => absurd hp.length_eq (by simp))
theorem IterS.next_one {P : Program} {ops : Array Oper} {rest : List Oper} {o : Oper} {a : Act} {Q : Exit → Act → World → Prop} {W : World} (hgd : o.guard = none) (it : Operand) (ho : o.op = .next it false) (r g : Nat) (L : List (ByteArray × Value)) (p : ByteArray × Value) (hit : a.eval it = .pointer (some ⟨r, 0, none⟩)) (hI : IterS W r g L [p])
    (h : ∀ w', IterS w' r g L [] → W.grownBy w' (some r) → w'.heap.size = W.heap.size → (Instr.entry (.pointer (some ⟨r, 0, none⟩))).run P w' = .ok (.tuple #[.string p.1, p.2]) w' → wpList P ops Q rest (a.put o.dst (.tuple #[.bool true, .string p.1, p.2])) w') : wpList P ops Q (o :: rest) a W :=
  wpList_next_S hgd it ho r g L [p] hit hI (fun h0 => absurd h0 (by simp)) (fun p' rem' w' hp h1 h2 h3 h4 => by
    have hl := hp.length_eq
    cases rem' with
    | cons _ _ => simp at hl
    | nil =>
      have : p' = p := by simpa using hp.symm.mem_iff.1 (List.mem_singleton.2 rfl)
      subst this
      exact h w' h1 h2 h3 h4)
/-- What unifying gives: the variables' sorts, as chains. -/
def pairsB (d : Int) (m n : ByteArray) : Option (List (ByteArray × Nat × ByteArray)) :=
  if d = 0 ∧ m.toList = n.toList then some []
  else if isVar m = true ∧ m.toList ≠ n.toList then some [(m, d.toNat, n)]
  else if d = 0 ∧ isVar n = true then some [(n, 0, m)]
  else none
def S50of (p : ByteArray × Nat × ByteArray) : S50 := ⟨p.1, wholeT p.2.1 p.2.2⟩
def unifyT (x y : Option (Nat × ByteArray)) : List S50 × Int := match x, y with
  | some (x, p), some (y, q) => match pairsB (normA x y p q).1 (normA x y p q).2.1 (normA x y p q).2.2 with
    | some l => (l.map S50of, 0)
    | none => ([], 14)
  | _, _ => ([], 14)
def sort_Unify.f (a0_0 : ByteArray) (l0_1 : List (S24)) (a1_0 : ByteArray) (l1_1 : List (S24)) : Option ((List (S50)) × Int) := some (unifyT (chainT 65 a0_0 l0_1) (chainT 65 a1_0 l1_1))
def entB (p : ByteArray × Nat × ByteArray) : ByteArray × Value := (p.1, .agg #[.int .i64 (p.2.1 : Int), .string p.2.2])
theorem unifyB_pairs (d : Int) (hd : 0 ≤ d) (m n : ByteArray) : unifyB d m n = match pairsB d m n with | some l => (true, l.map entB) | none => (false, []) := by
  unfold unifyB pairsB
  split
  · rfl
  split
  · simp [entB, Int.toNat_of_nonneg hd]
  split
  · rfl
  · rfl
theorem pairsB_one {d : Int} {m n : ByteArray} {l : List (ByteArray × Nat × ByteArray)} (h : pairsB d m n = some l) : l = [] ∨ ∃ p, l = [p] ∧ p.1 ≠ p.2.2 ∧ p.2.1 ≤ d.toNat := by
  unfold pairsB at h
  split at h
  · cases h; exact .inl rfl
  rename_i h1
  split at h
  · rename_i h2
    cases h; exact .inr ⟨_, rfl, fun e => h2.2 (by rw [show m = n from e]), Nat.le_refl _⟩
  split at h
  · rename_i h3
    cases h; exact .inr ⟨_, rfl, fun e => h1 ⟨h3.1, by rw [show n = m from e]⟩, Nat.zero_le _⟩
  · cases h
set_option maxRecDepth 100000 in
set_option maxHeartbeats 8000000 in
theorem unify_walk (a0_0 : ByteArray) (A0_1 : Option Addr) (c0_1 : Nat) (l0_1 : List (S24)) (a1_0 : ByteArray) (A1_1 : Option Addr) (c1_1 : Nat) (l1_1 : List (S24)) (w : World) (hr0_1 : Kd.C k24 w A0_1 l0_1.length l0_1) (hc0_1 : l0_1.length ≤ c0_1) (hr1_1 : Kd.C k24 w A1_1 l1_1.length l1_1) (hc1_1 : l1_1.length ≤ c1_1) 
   (x y : Int) (p q : ByteArray) (o1 o2 : Bool) (hx : o1 = true → 0 ≤ x ∧ x ≤ 64) (hy : o2 = true → 0 ≤ y ∧ y ≤ 64) (R : List S50 × Int) (hR : (if o1 && o2 then (match pairsB (normA x y p q).1 (normA x y p q).2.1 (normA x y p q).2.2 with | some l => (l.map S50of, (0 : Int)) | none => ([], 14)) else ([], 14)) = R) (h1 : sort_cut.f 131 a0_0 l0_1 = some (x, p, o1)) (h2 : sort_cut.f 131 a1_0 l1_1 = some (y, q, o2)) :
    Calls Try.prog 14 #[.agg #[.string a0_0, .slice A0_1 l0_1.length c0_1], .agg #[.string a1_0, .slice A1_1 l1_1.length c1_1]] w fun e w' => ∃ v0_ : Value, e = .returned (.tuple #[v0_, .int .i64 R.2]) ∧ Kd.N k50 50 w' w.heap.size (fun k_ => w.heap.size ≤ k_) v0_ R.1 ∧ Below w.heap.size w w' := by
  have hu24 := Try.underlying24
  have hu58 := Try.underlying58
  have HR0 := Aside0.mk hr0_1
  have HC0 := Aside0.mk hc0_1
  have HR1 := Aside0.mk hr1_1
  have HC1 := Aside0.mk hc1_1
  clear hr0_1 hc0_1 hr1_1 hc1_1
  have H1 := Aside0.mk h1
  have H2 := Aside0.mk h2
  clear h1 h2
  have HX := Aside0.mk hx
  have HY := Aside0.mk hy
  have HRR := Aside0.mk hR
  clear hx hy hR
  go_enter Try.func14, Try.ntmps14
  go_upto_region 1 with (fail)
  have HB0 := Aside0.mk (((Below.refl w.heap.size w).alloc (Nat.le_refl _) (.cells #[.string a0_0, .slice A0_1 l0_1.length c0_1] 24)).alloc (by simp) (.cells #[.string a1_0, .slice A1_1 l1_1.length c1_1] 24))
  have BB0 := Aside0.mk (r24B w (.cells #[.string a0_0, .slice A0_1 l0_1.length c0_1] 24) (.cells #[.string a1_0, .slice A1_1 l1_1.length c1_1] 24))
  go_cut [6, 7] (fun v6 v7 wc => Aside0 (v7 = .bool o1 ∧ ∃ gx, v6 = .pointer (some ⟨gx, 0, none⟩) ∧ UnA w wc gx x p a1_0 A1_1 l1_1.length c1_1))
  case first =>
    go_wp2_with (first | (go_at_call_of 24 a0_0; refine (sort_cut.calls 131 a0_0 (fun k_ => k_ < w.heap.size) _ _ l0_1 x p o1 _ (Kd.V_mk HC0.out (Kd.F_below (Kd.C_F k24_heap HR0.out) (by repeat (first | exact HB0.out | apply below_alloc | apply pw_below_drewN | apply below_drew)))) H1.out).mono ?_; rintro e w1 ⟨rfl, hb⟩; have HB1 := Aside0.mk (below_step HB0.out hb); have BB1 := Aside0.mk (blk_below BB0.out hb); clear HB0 BB0; clear hb) | ((with_reducible refine gate_dst (N := 6) rfl ?_); refine box_event ?hg (N := 6) ?hd (cs := #[.int .i64 0, .string (⟨#[]⟩ : ByteArray)]) (t := 58) ?hr ?_; (case hd => rfl); (case hg => rfl); (case hr => first | (go_simp; done) | (go_simp; rfl)); intro gx hg w3 hbox hb; have BX := Aside0.mk hbox; have HB2 := Aside0.mk (below_step HB1.out hb); have BB2 := Aside0.mk (blk_below BB1.out hb); have GX := Aside0.mk (show w.heap.size + 1 < gx by rw [hg]; exact blk_lt BB1.out); clear HB1 BB1; have xc0 := (blk_cell BX.out 0).trans rfl; have xf0 := blk_frozen BX.out 0; have xc1 := (blk_cell BX.out 1).trans rfl; have xf1 := blk_frozen BX.out 1; clear hbox hb hg))
    go_meet
    case rel => exact ⟨rfl, _, rfl, blk_put (blk_put BX.out 0 _ rfl) 1 _ rfl, blk_far (blk_far BB2.out (by have := GX.out; simp; omega) _) (by have := GX.out; simp; omega) _, (HB2.out.setCell (by have := GX.out; simp; omega) _).setCell (by have := GX.out; simp; omega) _, GX.out⟩
  case rest =>
    have hcut' := hcut.out
    clear hcut HB0 BB0
    obtain ⟨rfl, gx, rfl, hA⟩ := hcut'
    have UA := Aside0.mk hA
    clear hA
    have yc0 := (blk_cell UA.out.2.1 0).trans rfl
    have yc1 := (blk_cell UA.out.2.1 1).trans rfl
    have yf0 := blk_frozen UA.out.2.1 0
    have yf1 := blk_frozen UA.out.2.1 1
    have HBc := Aside0.mk UA.out.2.2.1
    go_upto_region 2 with (fail)
    go_cut [8, 9] (fun v8 v9 wc => Aside0 (v9 = .bool o2 ∧ ∃ gy, v8 = .pointer (some ⟨gy, 0, none⟩) ∧ UnB w wc gx gy x y p q))
    case first =>
      go_wp2_with (first | (go_at_call_of 24 a1_0; refine (sort_cut.calls 131 a1_0 (fun k_ => k_ < w.heap.size) _ _ l1_1 y q o2 _ (Kd.V_mk HC1.out (Kd.F_below (Kd.C_F k24_heap HR1.out) (by repeat (first | exact HBc.out | apply below_alloc | apply pw_below_drewN | apply below_drew)))) H2.out).mono ?_; rintro e w2 ⟨rfl, hb⟩; have HB1 := Aside0.mk (below_step UA.out.2.2.1 hb); have BX1 := Aside0.mk (blk_below UA.out.1 hb); have GX1 := Aside0.mk UA.out.2.2.2; clear UA; clear hb) | ((with_reducible refine gate_dst (N := 8) rfl ?_); refine box_event ?hg (N := 8) ?hd (cs := #[.int .i64 0, .string (⟨#[]⟩ : ByteArray)]) (t := 58) ?hr ?_; (case hd => rfl); (case hg => rfl); (case hr => first | (go_simp; done) | (go_simp; rfl)); intro gy hg w4 hbox hb; have BY := Aside0.mk hbox; have HB2 := Aside0.mk (below_step HB1.out hb); have BX2 := Aside0.mk (blk_below BX1.out hb); have GX2 := Aside0.mk (show gx < gy by rw [hg]; exact blk_lt BX1.out); have GY := Aside0.mk (show w.heap.size < gy by have := GX2.out; have := GX1.out; omega); clear HB1 BX1; have yc0 := (blk_cell BY.out 0).trans rfl; have yf0 := blk_frozen BY.out 0; have yc1 := (blk_cell BY.out 1).trans rfl; have yf1 := blk_frozen BY.out 1; clear hbox hb hg))
      go_meet
      case rel => exact ⟨rfl, _, rfl, blk_far (blk_far BX2.out (by have := GX2.out; simp; omega) _) (by have := GX2.out; simp; omega) _, blk_put (blk_put BY.out 0 _ rfl) 1 _ rfl, (HB2.out.setCell (by have := GY.out; simp; omega) _).setCell (by have := GY.out; simp; omega) _, by have := GX1.out; omega, GY.out⟩
    case rest =>
      have hcut' := hcut.out
      clear hcut UA yc0 yc1 yf0 yf1 HBc
      obtain ⟨rfl, gy, rfl, hB⟩ := hcut'
      have UB := Aside0.mk hB
      clear hB
      have xc0 := (blk_cell UB.out.1 0).trans rfl
      have xc1 := (blk_cell UB.out.1 1).trans rfl
      have yc0 := (blk_cell UB.out.2.1 0).trans rfl
      have yc1 := (blk_cell UB.out.2.1 1).trans rfl
      go_upto_region 3 with (fail)
      go_cut [10] (fun v10 wc => Aside0 (∃ g, v10 = .map (some g) ∧ MapS wc g [] ∧ UnB w wc gx gy x y p q ∧ w.heap.size ≤ g))
      case first =>
        go_wp2_with ((with_reducible refine gate_dst (N := 23) rfl ?_); refine map_event rfl 66 rfl ?_; intro g hg w5 hM hb; have M5 := Aside0.mk hM; have U5 := Aside0.mk (show UnB w w5 gx gy x y p q from ⟨blk_below UB.out.1 hb, blk_below UB.out.2.1 hb, below_step UB.out.2.2.1 hb, UB.out.2.2.2⟩); have G5 := Aside0.mk (show w.heap.size ≤ g by rw [hg]; exact below_size UB.out.2.2.1); clear hg hM hb)
        go_meet
        case rel => exact ⟨_, rfl, M5.out, U5.out, G5.out⟩
      case rest =>
        have hcut' := hcut.out
        clear hcut UB xc0 xc1 yc0 yc1
        obtain ⟨g, rfl, hM, hB, hg⟩ := hcut'
        have HM := Aside0.mk hM
        have UB := Aside0.mk hB
        have HG := Aside0.mk hg
        clear hM hB hg
        have xc0 := (blk_cell UB.out.1 0).trans rfl
        have xc1 := (blk_cell UB.out.1 1).trans rfl
        have yc0 := (blk_cell UB.out.2.1 0).trans rfl
        have yc1 := (blk_cell UB.out.2.1 1).trans rfl
        cases o1
        · have e : R = ([], 14) := by have := HRR.out; simpa using this.symm
          subst e
          go_wp2_with fail
          refine bodyPost_ret (v := .tuple #[.slice none 0 0, .int .i64 14]) (by simp [results, Try.results14, go_sem]) rfl ⟨_, rfl, Kd.N_nil _ _ _ _ _, UB.out.2.2.1⟩
        cases o2
        · have e : R = ([], 14) := by have := HRR.out; simpa using this.symm
          subst e
          go_wp2_with fail
          refine bodyPost_ret (v := .tuple #[.slice none 0 0, .int .i64 14]) (by simp [results, Try.results14, go_sem]) rfl ⟨_, rfl, Kd.N_nil _ _ _ _ _, UB.out.2.2.1⟩
        obtain ⟨hx0, hx1⟩ := HX.out rfl
        obtain ⟨hy0, hy1⟩ := HY.out rfl
        have HRp := Aside0.mk (show _ = R from (if_pos (by rfl)).symm.trans HRR.out)
        clear HRR
        rcases hN : normA x y p q with ⟨d, m, n⟩
        have hd0 : 0 ≤ d := by unfold normA at hN; split at hN <;> (try split at hN) <;> (try split at hN) <;> simp only [Prod.mk.injEq] at hN <;> omega
        have hd1 : d ≤ 64 := by unfold normA at hN; split at hN <;> (try split at hN) <;> (try split at hN) <;> simp only [Prod.mk.injEq] at hN <;> omega
        rw [hN] at HRp
        have HN := Aside0.mk hN
        clear hN
        cases hP : pairsB d m n with
        | none =>
          have hU : unifyB d m n = (false, []) := by rw [unifyB_pairs d hd0, hP]
          rw [hP] at HRp
          obtain rfl := HRp.out
          have KU := Aside0.mk (fun (wx : World) (h : MapS wx g []) => unify_calls g x y p q wx h hx0 hx1 hy0 hy1 d m n HN.out false [] hU)
          clear hU hP
          go_wp2_with (go_at_call 37; refine (KU.out _ HM.out).mono ?_; rintro e w6 ⟨rfl, hM6, hb⟩; have HB6 := Aside0.mk (show Below w.heap.size w w6 from below_weaken UB.out.2.2.1 HG.out hb); clear hM6 hb)
          refine bodyPost_ret (v := .tuple #[.slice none 0 0, .int .i64 14]) (by simp [results, Try.results14, go_sem]) rfl ⟨_, rfl, Kd.N_nil _ _ _ _ _, HB6.out⟩
        | some l =>
          have hU : unifyB d m n = (true, l.map entB) := by rw [unifyB_pairs d hd0, hP]
          rw [hP] at HRp
          obtain rfl := HRp.out
          have KU := Aside0.mk (fun (wx : World) (h : MapS wx g []) => unify_calls g x y p q wx h hx0 hx1 hy0 hy1 d m n HN.out true _ hU)
          have HL := Aside0.mk (pairsB_one hP)
          clear hU hP
          have hu66 := Try.underlying66
          go_upto_region 7 with (go_at_call 37; refine (KU.out _ HM.out).mono ?_; rintro e w6 ⟨rfl, hM6, hb⟩; have HB6 := Aside0.mk (show Below w.heap.size w w6 from below_weaken UB.out.2.2.1 HG.out hb); have M6 := Aside0.mk hM6; clear hM6 hb)
          rcases HL.out with rfl | ⟨⟨v, n', m'⟩, rfl, hne, hle⟩
          · go_wp2_with (at_range; refine wpList_range_S rfl _ 66 9 58 rfl Try.underlying66 g _ rfl M6.out ?_; intro r hr w7 hI hb; have I7 := Aside0.mk hI; have HB7 := Aside0.mk (below_step HB6.out hb); clear hr hI hb)
            refine wp_loop_rounds 1 ?_
            rw [rounds_succ]
            go_wp2_with (first | (at_next; refine IterS.next_nil rfl _ rfl r g _ rfl I7.out ?_) | (go_at_call 39; refine (sort_small _ 0 _ _ _ (by omega)).mono ?_; rintro e w8 ⟨rfl, ⟨nd, rfl⟩⟩))
            refine bodyPost_ret (v := .tuple #[.slice none 0 0, .int .i64 0]) (by simp [results, Try.results14, go_sem]) rfl ⟨_, rfl, Kd.N_nil _ _ _ _ _, pw_below_drewN HB7.out _⟩
          · have hle' : n' ≤ 64 := by have : n' ≤ d.toNat := hle; omega
            go_wp2_with (at_range; refine wpList_range_S rfl _ 66 9 58 rfl Try.underlying66 g _ rfl M6.out ?_; intro r hr w7 hI hb; have I7 := Aside0.mk hI; have HB7 := Aside0.mk (below_step HB6.out hb); have GR := Aside0.mk (show w.heap.size ≤ r by rw [hr]; exact below_size HB6.out); clear hr hI hb)
            refine wp_loop_rounds 2 ?_
            rw [rounds_succ]
            obtain ⟨s0, s1, fu, hw, hS⟩ : ∃ s0 s1 fu, sort_chain_whole.f fu (n' : Int) m' = some (s0, s1) ∧ S50of (v, n', m') = ⟨v, ⟨s0, s1⟩⟩ := ⟨_, _, 1000, sort_whole_eq m' n' 1000 (by omega) (by omega), by rw [eta24]; rfl⟩
            have HS := Aside0.mk hS
            clear hS
            have HW := Aside0.mk hw
            have HNE := Aside0.mk (show v ≠ m' from hne)
            clear hw hne
            go_wp2_with (first
              | (at_next; refine IterS.next_one rfl _ rfl r g _ (v, .agg #[.int .i64 (n' : Int), .string m']) rfl I7.out ?_; intro w8 hI hg hs hen; have I8 := Aside0.mk hI; have HB8 := Aside0.mk (show Below w.heap.size w w8 from ⟨hg.os.trans HB7.out.os, hg.tape.trans HB7.out.tape, hg.output.trans HB7.out.output, Nat.le_trans HB7.out.size (Nat.le_of_eq hs.symm), fun k hk => (hg.block k (Nat.lt_of_lt_of_le hk HB7.out.size) (by have := GR.out; simp; omega)).trans (HB7.out.block k hk)⟩); clear hI hg hs)
              | (go_at_call 38; refine (real_one g _ 0 (n' : Int) v m' _ I8.out.mapS (by simp [getA, entB]) (by have := HNE.out; simp [getA, entB, this]) (by omega) (by omega) (by omega) (by omega)).mono ?_; rintro e w9 ⟨rfl, hb⟩; have HB9 := Aside0.mk (below_step HB8.out hb); have I9 := Aside0.mk (I8.out.below hb); clear hb)
              | (go_at_call 28; refine (sort_chain_whole.calls fu _ _ _ _ _ HW.out).mono ?_; rintro e w10 ⟨v1, rfl, ho, hb⟩; have HO := Aside0.mk ho; have HB10 := Aside0.mk (below_step HB9.out hb); have I10 := Aside0.mk (I9.out.below hb); clear hb ho; obtain ⟨A1, c1, rfl⟩ := Kd.N_slice HO.out)
              | ((with_reducible refine gate_builtin (b := .append) (xs := #[.tmp 43, .tmp 51]) rfl ?_); at_builtin; refine Kd.N_append k50 (w0 := w) w.heap.size rfl (.tmp 43) (.tmp 51) 37 50 (.agg #[(.string ⟨#[]⟩), (.string ⟨#[]⟩), (.slice none 0 0)]) 56 rfl Try.underlying37 info50 rfl (by decide) (by omega) (.slice none 0 0) [] ⟨v, ⟨s0, s1⟩⟩ [.string v, .string s0, .slice A1 s1.length c1] (fun k_ => w.heap.size ≤ k_) (fun k_ => w.heap.size ≤ k_) rfl rfl ?aP ?aok ?aF (Kd.N_nil _ _ _ _ _) HB10.out (below_size HB10.out) (by simp) ?_; (case aP => exact k50_mkF _ _ _ (Kd.N_reads' HO.out).2.1 (Kd.N_F (Kd.N_mono (ok' := fun k_ => w.heap.size ≤ k_) HO.out (fun k hk => Nat.le_trans (below_size HB9.out) hk)))); (case aok => exact fun k hk => ⟨hk, by simp [Value.ownBlock]⟩); (case aF => exact fun k hk => Nat.le_trans (below_size HB10.out) hk); intro v2 w11 hN hb hgr hat; have HN11 := Aside0.mk hN; have HB11 := Aside0.mk hb; have I11 := Aside0.mk (I10.out.kept hgr (by simp [Value.ownBlock]) (by simp [Value.ownBlock])); clear hN hb hgr hat; obtain ⟨A2, c2, rfl⟩ := Kd.N_slice HN11.out)
              )
            rw [rounds_succ]
            go_wp2_with (first | (at_next; refine IterS.next_nil rfl _ rfl r g _ rfl I11.out ?_) | (go_at_call 39; refine (sort_small _ 1 _ _ _ (by omega)).mono ?_; rintro e w8 ⟨rfl, ⟨nd, rfl⟩⟩))
            refine bodyPost_ret (v := .tuple #[.slice A2 1 c2, .int .i64 0]) (by simp [results, Try.results14, go_sem]) rfl ⟨_, rfl, (congrArg (fun z => Kd.N k50 50 _ _ _ _ [z]) HS.out).mpr (Kd.N_drewN HN11.out _), pw_below_drewN HB11.out _⟩
        

theorem chain_cut (nm : ByteArray) (l : List S24) : ∃ x p o, cutT (chainT 65 nm l) 0 = (x, p, o) ∧ (o = true → 0 ≤ x ∧ x ≤ 64) ∧ (o = true ∧ chainT 65 nm l = some (x.toNat, p) ∧ ((x.toNat : Nat) : Int) = x ∨ o = false ∧ chainT 65 nm l = none) := by
  cases h : chainT 65 nm l with
  | none => exact ⟨0, ⟨#[]⟩, false, rfl, fun h => (by cases h), .inr ⟨rfl, rfl⟩⟩
  | some r =>
    obtain ⟨m, x⟩ := r
    have h1 := (chainT_le 65 nm l m x h).1
    exact ⟨((0 + m : Nat) : Int), x, true, rfl, fun _ => by omega, .inl ⟨rfl, by simp, by simp⟩⟩
theorem sort_Unify.calls (a0_0 : ByteArray) (A0_1 : Option Addr) (c0_1 : Nat) (l0_1 : List (S24)) (a1_0 : ByteArray) (A1_1 : Option Addr) (c1_1 : Nat) (l1_1 : List (S24)) (r1 : List (S50)) (r2 : Int) (w : World) (hr0_1 : Kd.C k24 w A0_1 l0_1.length l0_1) (hc0_1 : l0_1.length ≤ c0_1) (hr1_1 : Kd.C k24 w A1_1 l1_1.length l1_1) (hc1_1 : l1_1.length ≤ c1_1) (h : sort_Unify.f a0_0 l0_1 a1_0 l1_1 = some (r1, r2)) :
    Calls Try.prog 14 #[.agg #[.string a0_0, .slice A0_1 l0_1.length c0_1], .agg #[.string a1_0, .slice A1_1 l1_1.length c1_1]] w fun e w' => ∃ v0_ : Value, e = .returned (.tuple #[v0_, .int .i64 r2]) ∧ Kd.N k50 50 w' w.heap.size (fun k_ => w.heap.size ≤ k_) v0_ r1 ∧ Below w.heap.size w w' := by
  obtain ⟨x, p, o1, h1, hx, hc1⟩ := chain_cut a0_0 l0_1
  obtain ⟨y, q, o2, h2, hy, hc2⟩ := chain_cut a1_0 l1_1
  refine (unify_walk a0_0 A0_1 c0_1 l0_1 a1_0 A1_1 c1_1 l1_1 w hr0_1 hc0_1 hr1_1 hc1_1 x y p q o1 o2 hx hy (r1, r2) ?_ ((sort_cut_eq a0_0 l0_1 131 (by omega)).trans (congrArg some h1)) ((sort_cut_eq a1_0 l1_1 131 (by omega)).trans (congrArg some h2)))
  have h := Option.some.inj h
  rcases hc1 with ⟨rfl, hc1, ex⟩ | ⟨rfl, hc1⟩ <;> rcases hc2 with ⟨rfl, hc2, ey⟩ | ⟨rfl, hc2⟩ <;> rw [hc1, hc2] at h
  · rw [if_pos (show (true && true) = true from rfl), ← h]
    simp only [unifyT, ex, ey]
  · rw [if_neg (by simp), ← h]; rfl
  · rw [if_neg (by simp), ← h]; rfl
  · rw [if_neg (by simp), ← h]; rfl


end Go.Proofs.Ytlibklfianghlaa.S

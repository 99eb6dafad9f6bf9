-- WRITTEN BY a program of this session (wip/extprint.py, over the kit's print.py); not trusted: Lean checks it.
import Derived.Test.YtlibklfianghlaaProg
import Derived.Below
import Derived.Deep.Draws
import Derived.Deep.AppendLies
import Derived.Maps.AppendAt
import Derived.OwnWalk
import Derived.Laws.BytesArg
import Derived.Laws.MakeOwn
import Derived.Laws.OwnMore
import Derived.Deep.OwnRows
import Derived.Tactics
import Derived.Lib.ConvBytes
import Derived.Laws.Slices
import Derived.WalkKit
import Derived.KernelRfl
import Derived.RowKit3
import Derived.Deep.LoopGhost
import Derived.Deep.QuietTactic
import Derived.BigQuiet
import Derived.WideLaws
import Derived.Deep.DeepCutAuto
import Derived.Deep.CutBlock
import Derived.Deep.RegionHeld3
import Derived.Laws.Rows
import Derived.Lib.AppendStr
import Derived.ArgAppend
import Derived.Laws.IdiomCopy
import Derived.OrdersHeld
import Derived.Laws.BitsLemmas
import Derived.RowKit
import Derived.Test.YtlibklfianghlaaWWords
import Derived.Test.YtlibklfianghlaaWLast
import Derived.Test.YtlibklfianghlaaWTab
import Derived.Test.YtlibklfianghlaaWFour
import Derived.Test.YtlibklfianghlaaWQPut
import Derived.Test.YtlibklfianghlaaWApart
import Derived.Test.YtlibklfianghlaaWArr
import Derived.Test.YtlibklfianghlaaWZeros
import Derived.Test.YtlibklfianghlaaWFoot
import Derived.Test.YtlibklfianghlaaWKept
import Derived.Test.YtlibklfianghlaaWShare
import Derived.Test.YtlibklfianghlaaWN
import Derived.Test.YtlibklfianghlaaWFootNe
import Derived.Test.YtlibklfianghlaaWAt
import Derived.Test.YtlibklfianghlaaWEqStruct
import Derived.Test.YtlibklfianghlaaWRepsOne
import Derived.Test.YtlibklfianghlaaWInv
import Derived.Test.YtlibklfianghlaaWInvWords
import Derived.Test.YtlibklfianghlaaWGuard
import Derived.Test.YtlibklfianghlaaWNEv
import Derived.Test.YtlibklfianghlaaWMore
namespace Go.Proofs.Ytlibklfianghlaa.S
open Go.RowKit Go.Proofs.YtlibklfianghlaaW.PrintWords Go.Proofs.YtlibklfianghlaaW.PrintLast Go.Proofs.YtlibklfianghlaaW.PrintMore
attribute [local go_sem] max2_int min2_int max_two min_two max_three min_three max_four min_four   -- for this text's walks alone
set_option linter.unusedVariables false
set_option linter.unusedSimpArgs false



def errW : Option Int → Value
  | none => .nilIface
  | some c => .iface 0 (.int .i64 c)
theorem errW_none : errW none = .nilIface := rfl
theorem errW_some (c : Int) : errW (some c) = .iface 0 (.int .i64 c) := rfl

theorem info24 : (Try.prog.info? 24).map (fun i => (i.zero, i.size, i.bytes)) = some (some (.agg #[(.string ⟨#[]⟩), (.slice none 0 0)]), 2, 40) := by kernel_rfl
theorem info50 : (Try.prog.info? 50).map (fun i => (i.zero, i.size, i.bytes)) = some (some (.agg #[(.string ⟨#[]⟩), (.string ⟨#[]⟩), (.slice none 0 0)]), 3, 56) := by kernel_rfl
-- the values' own types
/-! #### struct type 24, nested in itself -/
structure S24 where
  f0 : ByteArray
  f1 : (List S24)
def z24 : S24 := ⟨(⟨#[]⟩ : ByteArray), ([] : List S24)⟩
def F24 (d : Kd S24) : Kd S24 := Kd.iso (Kd.pair Kd.string (Kd.slice 24 d)) (fun x : S24 => (x.f0, x.f1))
theorem mono24 : Kd.Mono F24 := Kd.mono_iso _ (Kd.mono_pair (Kd.mono_const _) (Kd.mono_slice 24 Kd.mono_id))
theorem sub24 : Kd.Sub F24 [24] := Kd.sub_iso _ (Kd.sub_pair (Kd.sub_const _ (by decide)) (Kd.sub_slice 24 (by decide) Kd.sub_id))
theorem sz24 : ∀ n, (Kd.upto F24 2 [24] n).sz = 2 := Kd.upto_sz (fun _ => rfl)
def k24 : Kd S24 := Kd.fix F24 2 [24] sz24 (Kd.upto_E sub24)
theorem k24_heap : Kd.Heap k24 := Kd.heap_fix (fun _ h_ => Kd.heap_iso _ (Kd.heap_pair Kd.heap_string (Kd.heap_slice 24 h_)))
theorem k24_open {w : World} {x : S24} {cs : List Value} (h : k24.K w x cs) : ∃ A1 c1, cs = [.string x.f0, .slice A1 x.f1.length c1] ∧ x.f1.length ≤ c1 ∧ k24.C w A1 x.f1.length x.f1 := by
  obtain ⟨n, h⟩ := h
  cases n with
  | zero => exact h.elim
  | succ n =>
    obtain ⟨_, _, rfl, rfl, ⟨A1, c1, rfl, l1, g1⟩⟩ := h
    exact ⟨A1, c1, rfl, l1, Kd.fix_C g1⟩
theorem k24_openM {w : World} {base : Nat} {ok : Nat → Prop} {x : S24} {cs : List Value} (h : k24.M w base ok x cs) : ∃ v1, cs = [.string x.f0, v1] ∧ k24.R 24 w base ok v1 x.f1 := by
  obtain ⟨n, h⟩ := h
  cases n with
  | zero => exact h.elim
  | succ n =>
    obtain ⟨_, _, rfl, rfl, ⟨v1, rfl, g1⟩⟩ := h
    exact ⟨v1, rfl, Kd.fix_R g1⟩
theorem k24_mk (w : World) (x : S24) {A1 : Option Addr} {c1 : Nat} (l1 : x.f1.length ≤ c1) (g1 : k24.C w A1 x.f1.length x.f1) : k24.K w x [.string x.f0, .slice A1 x.f1.length c1] := by
  obtain ⟨n1, q1⟩ := Kd.fix_C_back mono24 g1
  have r1 := Kd.upto_C_le mono24 sz24 (show n1 ≤ n1 by omega) q1
  exact ⟨n1 + 1, ⟨[.string x.f0], [.slice A1 x.f1.length c1], rfl, rfl, ⟨A1, c1, rfl, l1, r1⟩⟩⟩
theorem k24_mkM (w : World) (base : Nat) (ok : Nat → Prop) (x : S24) {v1 : Value} (g1 : k24.R 24 w base ok v1 x.f1) : k24.M w base ok x [.string x.f0, v1] := by
  obtain ⟨n1, q1⟩ := Kd.fix_R_back mono24 g1
  have r1 := Kd.upto_R_le mono24 sz24 (show n1 ≤ n1 by omega) q1
  exact ⟨n1 + 1, ⟨[.string x.f0], [v1], rfl, rfl, ⟨v1, rfl, r1⟩⟩⟩
theorem k24_openF {W : World} {ok : Nat → Prop} {x : S24} {cs : List Value} (h : Kd.FK k24 W ok x cs) : ∃ A1 c1, cs = [.string x.f0, .slice A1 x.f1.length c1] ∧ x.f1.length ≤ c1 ∧ Kd.F k24 W ok A1 x.f1.length x.f1 := by
  obtain ⟨A1, c1, rfl, l1, _⟩ := k24_open (Kd.FK_now h)
  exact ⟨A1, c1, rfl, l1, (fun W' hW => by obtain ⟨A1_, c1_, he, l1_, g1_⟩ := k24_open (h W' hW); injection (Option.some.inj (show some (Value.slice A1 x.f1.length c1) = some (Value.slice A1_ x.f1.length c1_) from congrArg (fun l => l[1]?) he)) with ha_ _ _; rw [ha_]; exact g1_)⟩
theorem k24_mkF (W : World) (ok : Nat → Prop) (x : S24) {A1 : Option Addr} {c1 : Nat} (l1 : x.f1.length ≤ c1) (g1 : Kd.F k24 W ok A1 x.f1.length x.f1) : Kd.FK k24 W ok x [.string x.f0, .slice A1 x.f1.length c1] := fun W2 hW => k24_mk W2 x l1 (g1 W2 hW)
def rd_T24 (xs : List S24) (i : Int) : S24 := xs.getD i.toNat z24
theorem at_T24 {w : World} {A : Option Addr} {n : Nat} {xs : List S24} (h : Kd.C k24 w A n xs) (i : Int) (h0 : 0 ≤ i) (h1 : i < n) : ∃ ad A1 c1, A = some ad ∧ w.cell? (ad.add (i.toNat * 2)) = some (.string (rd_T24 xs i).f0) ∧ w.cell? ⟨(ad.add (i.toNat * 2)).block, (ad.add (i.toNat * 2)).off + 1, none⟩ = some (.slice A1 (rd_T24 xs i).f1.length c1) ∧ (rd_T24 xs i).f1.length ≤ c1 ∧ k24.C w A1 (rd_T24 xs i).f1.length (rd_T24 xs i).f1 := by
  obtain ⟨ad, c, e, _, hK, hc0⟩ := Kd.C_get h z24 i h0 h1
  have hc : ∀ j u, c[j]? = some u → w.cell? (ad.add (i.toNat * 2 + j)) = some u := hc0
  obtain ⟨A1, c1, rfl, l1, g1⟩ := k24_open hK
  exact ⟨ad, A1, c1, e, hc 0 _ rfl, by rw [← add_field _ _ 1 (by omega)]; exact hc 1 _ rfl, l1, g1⟩

/-! #### struct type 50 -/
structure S50 where
  f0 : ByteArray
  f1 : S24
def z50 : S50 := ⟨(⟨#[]⟩ : ByteArray), z24⟩
def k50 : Kd S50 := Kd.iso (Kd.pair Kd.string k24) (fun x : S50 => (x.f0, x.f1))
theorem k50_heap : Kd.Heap k50 := Kd.heap_iso _ (Kd.heap_pair Kd.heap_string k24_heap)
theorem k50_open {w : World} {x : S50} {cs : List Value} (h : k50.K w x cs) : ∃ A2 c2, cs = [.string x.f0, .string x.f1.f0, .slice A2 x.f1.f1.length c2] ∧ x.f1.f1.length ≤ c2 ∧ k24.C w A2 x.f1.f1.length x.f1.f1 := by
  obtain ⟨_, _, rfl, rfl, s1⟩ := h
  obtain ⟨A2, c2, rfl, l2, g2⟩ := k24_open s1
  exact ⟨A2, c2, rfl, l2, g2⟩
theorem k50_openM {w : World} {base : Nat} {ok : Nat → Prop} {x : S50} {cs : List Value} (h : k50.M w base ok x cs) : ∃ v2, cs = [.string x.f0, .string x.f1.f0, v2] ∧ k24.R 24 w base ok v2 x.f1.f1 := by
  obtain ⟨_, _, rfl, rfl, s1⟩ := h
  obtain ⟨v2, rfl, g2⟩ := k24_openM s1
  exact ⟨v2, rfl, g2⟩
theorem k50_mk (w : World) (x : S50) {A2 : Option Addr} {c2 : Nat} (l2 : x.f1.f1.length ≤ c2) (g2 : k24.C w A2 x.f1.f1.length x.f1.f1) : k50.K w x [.string x.f0, .string x.f1.f0, .slice A2 x.f1.f1.length c2] := ⟨[.string x.f0], [.string x.f1.f0, .slice A2 x.f1.f1.length c2], rfl, rfl, (k24_mk w x.f1 l2 g2)⟩
theorem k50_mkM (w : World) (base : Nat) (ok : Nat → Prop) (x : S50) {v2 : Value} (g2 : k24.R 24 w base ok v2 x.f1.f1) : k50.M w base ok x [.string x.f0, .string x.f1.f0, v2] := ⟨[.string x.f0], [.string x.f1.f0, v2], rfl, rfl, (k24_mkM w base ok x.f1 g2)⟩
theorem k50_openF {W : World} {ok : Nat → Prop} {x : S50} {cs : List Value} (h : Kd.FK k50 W ok x cs) : ∃ A2 c2, cs = [.string x.f0, .string x.f1.f0, .slice A2 x.f1.f1.length c2] ∧ x.f1.f1.length ≤ c2 ∧ Kd.F k24 W ok A2 x.f1.f1.length x.f1.f1 := by
  obtain ⟨A2, c2, rfl, l2, _⟩ := k50_open (Kd.FK_now h)
  exact ⟨A2, c2, rfl, l2, (fun W' hW => by obtain ⟨A2_, c2_, he, l2_, g2_⟩ := k50_open (h W' hW); injection (Option.some.inj (show some (Value.slice A2 x.f1.f1.length c2) = some (Value.slice A2_ x.f1.f1.length c2_) from congrArg (fun l => l[2]?) he)) with ha_ _ _; rw [ha_]; exact g2_)⟩
theorem k50_mkF (W : World) (ok : Nat → Prop) (x : S50) {A2 : Option Addr} {c2 : Nat} (l2 : x.f1.f1.length ≤ c2) (g2 : Kd.F k24 W ok A2 x.f1.f1.length x.f1.f1) : Kd.FK k50 W ok x [.string x.f0, .string x.f1.f0, .slice A2 x.f1.f1.length c2] := fun W2 hW => k50_mk W2 x l2 (g2 W2 hW)
def rd_T50 (xs : List S50) (i : Int) : S50 := xs.getD i.toNat z50
theorem at_T50 {w : World} {A : Option Addr} {n : Nat} {xs : List S50} (h : Kd.C k50 w A n xs) (i : Int) (h0 : 0 ≤ i) (h1 : i < n) : ∃ ad A2 c2, A = some ad ∧ w.cell? (ad.add (i.toNat * 3)) = some (.string (rd_T50 xs i).f0) ∧ w.cell? ⟨(ad.add (i.toNat * 3)).block, (ad.add (i.toNat * 3)).off + 1, none⟩ = some (.string (rd_T50 xs i).f1.f0) ∧ w.cell? ⟨(ad.add (i.toNat * 3)).block, (ad.add (i.toNat * 3)).off + 2, none⟩ = some (.slice A2 (rd_T50 xs i).f1.f1.length c2) ∧ (rd_T50 xs i).f1.f1.length ≤ c2 ∧ k24.C w A2 (rd_T50 xs i).f1.f1.length (rd_T50 xs i).f1.f1 := by
  obtain ⟨ad, c, e, _, hK, hc0⟩ := Kd.C_get h z50 i h0 h1
  have hc : ∀ j u, c[j]? = some u → w.cell? (ad.add (i.toNat * 3 + j)) = some u := hc0
  obtain ⟨A2, c2, rfl, l2, g2⟩ := k50_open hK
  exact ⟨ad, A2, c2, e, hc 0 _ rfl, by rw [← add_field _ _ 1 (by omega)]; exact hc 1 _ rfl, by rw [← add_field _ _ 2 (by omega)]; exact hc 2 _ rfl, l2, g2⟩

def rd_L4 (xs : List (List S50)) (i : Int) : (List S50) := xs.getD i.toNat ([] : List S50)
theorem at_L4 {w : World} {A : Option Addr} {n : Nat} {xs : List (List S50)} (h : Kd.C (Kd.slice 50 k50) w A n xs) (i : Int) (h0 : 0 ≤ i) (h1 : i < n) : ∃ ad A0 c0, A = some ad ∧ w.cell? (ad.add i.toNat) = some (.slice A0 (rd_L4 xs i).length c0) ∧ (rd_L4 xs i).length ≤ c0 ∧ k50.C w A0 (rd_L4 xs i).length (rd_L4 xs i) := by
  obtain ⟨ad, c, e, _, hK, hc0⟩ := Kd.C_get h ([] : List S50) i h0 h1
  have hc : ∀ j u, c[j]? = some u → w.cell? (ad.add (i.toNat * 1 + j)) = some u := hc0
  obtain ⟨A0, c0, rfl, l0, g0⟩ := hK
  exact ⟨ad, A0, c0, e, by have hq := hc 0 _ rfl; rwa [Nat.mul_one, Nat.add_zero] at hq, l0, g0⟩

/-! #### struct type 40, nested in itself -/
structure S40 where
  f0 : Int
  f1 : Int
  f2 : ByteArray
  f3 : (List S40)
def z40 : S40 := ⟨(0 : Int), (0 : Int), (⟨#[]⟩ : ByteArray), ([] : List S40)⟩
def F40 (d : Kd S40) : Kd S40 := Kd.iso (Kd.pair (Kd.int .i64) (Kd.pair (Kd.int .i64) (Kd.pair Kd.string (Kd.slice 40 d)))) (fun x : S40 => (x.f0, x.f1, x.f2, x.f3))
theorem mono40 : Kd.Mono F40 := Kd.mono_iso _ (Kd.mono_pair (Kd.mono_const _) (Kd.mono_pair (Kd.mono_const _) (Kd.mono_pair (Kd.mono_const _) (Kd.mono_slice 40 Kd.mono_id))))
theorem sub40 : Kd.Sub F40 [40] := Kd.sub_iso _ (Kd.sub_pair (Kd.sub_const _ (by decide)) (Kd.sub_pair (Kd.sub_const _ (by decide)) (Kd.sub_pair (Kd.sub_const _ (by decide)) (Kd.sub_slice 40 (by decide) Kd.sub_id))))
theorem sz40 : ∀ n, (Kd.upto F40 4 [40] n).sz = 4 := Kd.upto_sz (fun _ => rfl)
def k40 : Kd S40 := Kd.fix F40 4 [40] sz40 (Kd.upto_E sub40)
theorem k40_heap : Kd.Heap k40 := Kd.heap_fix (fun _ h_ => Kd.heap_iso _ (Kd.heap_pair (Kd.heap_int .i64) (Kd.heap_pair (Kd.heap_int .i64) (Kd.heap_pair Kd.heap_string (Kd.heap_slice 40 h_)))))
theorem k40_open {w : World} {x : S40} {cs : List Value} (h : k40.K w x cs) : ∃ A3 c3, cs = [.int .i64 x.f0, .int .i64 x.f1, .string x.f2, .slice A3 x.f3.length c3] ∧ x.f3.length ≤ c3 ∧ k40.C w A3 x.f3.length x.f3 := by
  obtain ⟨n, h⟩ := h
  cases n with
  | zero => exact h.elim
  | succ n =>
    obtain ⟨_, _, rfl, rfl, ⟨_, _, rfl, rfl, ⟨_, _, rfl, rfl, ⟨A3, c3, rfl, l3, g3⟩⟩⟩⟩ := h
    exact ⟨A3, c3, rfl, l3, Kd.fix_C g3⟩
theorem k40_openM {w : World} {base : Nat} {ok : Nat → Prop} {x : S40} {cs : List Value} (h : k40.M w base ok x cs) : ∃ v3, cs = [.int .i64 x.f0, .int .i64 x.f1, .string x.f2, v3] ∧ k40.R 40 w base ok v3 x.f3 := by
  obtain ⟨n, h⟩ := h
  cases n with
  | zero => exact h.elim
  | succ n =>
    obtain ⟨_, _, rfl, rfl, ⟨_, _, rfl, rfl, ⟨_, _, rfl, rfl, ⟨v3, rfl, g3⟩⟩⟩⟩ := h
    exact ⟨v3, rfl, Kd.fix_R g3⟩
theorem k40_mk (w : World) (x : S40) {A3 : Option Addr} {c3 : Nat} (l3 : x.f3.length ≤ c3) (g3 : k40.C w A3 x.f3.length x.f3) : k40.K w x [.int .i64 x.f0, .int .i64 x.f1, .string x.f2, .slice A3 x.f3.length c3] := by
  obtain ⟨n3, q3⟩ := Kd.fix_C_back mono40 g3
  have r3 := Kd.upto_C_le mono40 sz40 (show n3 ≤ n3 by omega) q3
  exact ⟨n3 + 1, ⟨[.int .i64 x.f0], [.int .i64 x.f1, .string x.f2, .slice A3 x.f3.length c3], rfl, rfl, ⟨[.int .i64 x.f1], [.string x.f2, .slice A3 x.f3.length c3], rfl, rfl, ⟨[.string x.f2], [.slice A3 x.f3.length c3], rfl, rfl, ⟨A3, c3, rfl, l3, r3⟩⟩⟩⟩⟩
theorem k40_mkM (w : World) (base : Nat) (ok : Nat → Prop) (x : S40) {v3 : Value} (g3 : k40.R 40 w base ok v3 x.f3) : k40.M w base ok x [.int .i64 x.f0, .int .i64 x.f1, .string x.f2, v3] := by
  obtain ⟨n3, q3⟩ := Kd.fix_R_back mono40 g3
  have r3 := Kd.upto_R_le mono40 sz40 (show n3 ≤ n3 by omega) q3
  exact ⟨n3 + 1, ⟨[.int .i64 x.f0], [.int .i64 x.f1, .string x.f2, v3], rfl, rfl, ⟨[.int .i64 x.f1], [.string x.f2, v3], rfl, rfl, ⟨[.string x.f2], [v3], rfl, rfl, ⟨v3, rfl, r3⟩⟩⟩⟩⟩
theorem k40_openF {W : World} {ok : Nat → Prop} {x : S40} {cs : List Value} (h : Kd.FK k40 W ok x cs) : ∃ A3 c3, cs = [.int .i64 x.f0, .int .i64 x.f1, .string x.f2, .slice A3 x.f3.length c3] ∧ x.f3.length ≤ c3 ∧ Kd.F k40 W ok A3 x.f3.length x.f3 := by
  obtain ⟨A3, c3, rfl, l3, _⟩ := k40_open (Kd.FK_now h)
  exact ⟨A3, c3, rfl, l3, (fun W' hW => by obtain ⟨A3_, c3_, he, l3_, g3_⟩ := k40_open (h W' hW); injection (Option.some.inj (show some (Value.slice A3 x.f3.length c3) = some (Value.slice A3_ x.f3.length c3_) from congrArg (fun l => l[3]?) he)) with ha_ _ _; rw [ha_]; exact g3_)⟩
theorem k40_mkF (W : World) (ok : Nat → Prop) (x : S40) {A3 : Option Addr} {c3 : Nat} (l3 : x.f3.length ≤ c3) (g3 : Kd.F k40 W ok A3 x.f3.length x.f3) : Kd.FK k40 W ok x [.int .i64 x.f0, .int .i64 x.f1, .string x.f2, .slice A3 x.f3.length c3] := fun W2 hW => k40_mk W2 x l3 (g3 W2 hW)
def rd_T40 (xs : List S40) (i : Int) : S40 := xs.getD i.toNat z40
theorem at_T40 {w : World} {A : Option Addr} {n : Nat} {xs : List S40} (h : Kd.C k40 w A n xs) (i : Int) (h0 : 0 ≤ i) (h1 : i < n) : ∃ ad A3 c3, A = some ad ∧ w.cell? (ad.add (i.toNat * 4)) = some (.int .i64 (rd_T40 xs i).f0) ∧ w.cell? ⟨(ad.add (i.toNat * 4)).block, (ad.add (i.toNat * 4)).off + 1, none⟩ = some (.int .i64 (rd_T40 xs i).f1) ∧ w.cell? ⟨(ad.add (i.toNat * 4)).block, (ad.add (i.toNat * 4)).off + 2, none⟩ = some (.string (rd_T40 xs i).f2) ∧ w.cell? ⟨(ad.add (i.toNat * 4)).block, (ad.add (i.toNat * 4)).off + 3, none⟩ = some (.slice A3 (rd_T40 xs i).f3.length c3) ∧ (rd_T40 xs i).f3.length ≤ c3 ∧ k40.C w A3 (rd_T40 xs i).f3.length (rd_T40 xs i).f3 := by
  obtain ⟨ad, c, e, _, hK, hc0⟩ := Kd.C_get h z40 i h0 h1
  have hc : ∀ j u, c[j]? = some u → w.cell? (ad.add (i.toNat * 4 + j)) = some u := hc0
  obtain ⟨A3, c3, rfl, l3, g3⟩ := k40_open hK
  exact ⟨ad, A3, c3, e, hc 0 _ rfl, by rw [← add_field _ _ 1 (by omega)]; exact hc 1 _ rfl, by rw [← add_field _ _ 2 (by omega)]; exact hc 2 _ rfl, by rw [← add_field _ _ 3 (by omega)]; exact hc 3 _ rfl, l3, g3⟩

/-! #### struct type 42 -/
structure S42 where
  f0 : Int
  f1 : S24
  f2 : S24
  f3 : ByteArray
  f4 : (List S50)
  f5 : S40
def z42 : S42 := ⟨(0 : Int), z24, z24, (⟨#[]⟩ : ByteArray), ([] : List S50), z40⟩
def k42 : Kd S42 := Kd.iso (Kd.pair (Kd.int .i64) (Kd.pair k24 (Kd.pair k24 (Kd.pair Kd.string (Kd.pair (Kd.slice 50 k50) k40))))) (fun x : S42 => (x.f0, x.f1, x.f2, x.f3, x.f4, x.f5))
theorem k42_heap : Kd.Heap k42 := Kd.heap_iso _ (Kd.heap_pair (Kd.heap_int .i64) (Kd.heap_pair k24_heap (Kd.heap_pair k24_heap (Kd.heap_pair Kd.heap_string (Kd.heap_pair (Kd.heap_slice 50 k50_heap) k40_heap)))))
theorem k42_open {w : World} {x : S42} {cs : List Value} (h : k42.K w x cs) : ∃ A2 c2 A4 c4 A6 c6 A10 c10, cs = [.int .i64 x.f0, .string x.f1.f0, .slice A2 x.f1.f1.length c2, .string x.f2.f0, .slice A4 x.f2.f1.length c4, .string x.f3, .slice A6 x.f4.length c6, .int .i64 x.f5.f0, .int .i64 x.f5.f1, .string x.f5.f2, .slice A10 x.f5.f3.length c10] ∧ x.f1.f1.length ≤ c2 ∧ k24.C w A2 x.f1.f1.length x.f1.f1 ∧ x.f2.f1.length ≤ c4 ∧ k24.C w A4 x.f2.f1.length x.f2.f1 ∧ x.f4.length ≤ c6 ∧ k50.C w A6 x.f4.length x.f4 ∧ x.f5.f3.length ≤ c10 ∧ k40.C w A10 x.f5.f3.length x.f5.f3 := by
  obtain ⟨_, _, rfl, rfl, ⟨_, _, rfl, s1, ⟨_, _, rfl, s3, ⟨_, _, rfl, rfl, ⟨_, _, rfl, ⟨A6, c6, rfl, l6, g6⟩, s7⟩⟩⟩⟩⟩ := h
  obtain ⟨A2, c2, rfl, l2, g2⟩ := k24_open s1
  obtain ⟨A4, c4, rfl, l4, g4⟩ := k24_open s3
  obtain ⟨A10, c10, rfl, l10, g10⟩ := k40_open s7
  exact ⟨A2, c2, A4, c4, A6, c6, A10, c10, rfl, l2, g2, l4, g4, l6, g6, l10, g10⟩
theorem k42_openM {w : World} {base : Nat} {ok : Nat → Prop} {x : S42} {cs : List Value} (h : k42.M w base ok x cs) : ∃ v2 v4 v6 v10, cs = [.int .i64 x.f0, .string x.f1.f0, v2, .string x.f2.f0, v4, .string x.f3, v6, .int .i64 x.f5.f0, .int .i64 x.f5.f1, .string x.f5.f2, v10] ∧ k24.R 24 w base ok v2 x.f1.f1 ∧ k24.R 24 w base ok v4 x.f2.f1 ∧ k50.R 50 w base ok v6 x.f4 ∧ k40.R 40 w base ok v10 x.f5.f3 := by
  obtain ⟨_, _, rfl, rfl, ⟨_, _, rfl, s1, ⟨_, _, rfl, s3, ⟨_, _, rfl, rfl, ⟨_, _, rfl, ⟨v6, rfl, g6⟩, s7⟩⟩⟩⟩⟩ := h
  obtain ⟨v2, rfl, g2⟩ := k24_openM s1
  obtain ⟨v4, rfl, g4⟩ := k24_openM s3
  obtain ⟨v10, rfl, g10⟩ := k40_openM s7
  exact ⟨v2, v4, v6, v10, rfl, g2, g4, g6, g10⟩
theorem k42_mk (w : World) (x : S42) {A2 : Option Addr} {c2 : Nat} (l2 : x.f1.f1.length ≤ c2) (g2 : k24.C w A2 x.f1.f1.length x.f1.f1) {A4 : Option Addr} {c4 : Nat} (l4 : x.f2.f1.length ≤ c4) (g4 : k24.C w A4 x.f2.f1.length x.f2.f1) {A6 : Option Addr} {c6 : Nat} (l6 : x.f4.length ≤ c6) (g6 : k50.C w A6 x.f4.length x.f4) {A10 : Option Addr} {c10 : Nat} (l10 : x.f5.f3.length ≤ c10) (g10 : k40.C w A10 x.f5.f3.length x.f5.f3) : k42.K w x [.int .i64 x.f0, .string x.f1.f0, .slice A2 x.f1.f1.length c2, .string x.f2.f0, .slice A4 x.f2.f1.length c4, .string x.f3, .slice A6 x.f4.length c6, .int .i64 x.f5.f0, .int .i64 x.f5.f1, .string x.f5.f2, .slice A10 x.f5.f3.length c10] := ⟨[.int .i64 x.f0], [.string x.f1.f0, .slice A2 x.f1.f1.length c2, .string x.f2.f0, .slice A4 x.f2.f1.length c4, .string x.f3, .slice A6 x.f4.length c6, .int .i64 x.f5.f0, .int .i64 x.f5.f1, .string x.f5.f2, .slice A10 x.f5.f3.length c10], rfl, rfl, ⟨[.string x.f1.f0, .slice A2 x.f1.f1.length c2], [.string x.f2.f0, .slice A4 x.f2.f1.length c4, .string x.f3, .slice A6 x.f4.length c6, .int .i64 x.f5.f0, .int .i64 x.f5.f1, .string x.f5.f2, .slice A10 x.f5.f3.length c10], rfl, (k24_mk w x.f1 l2 g2), ⟨[.string x.f2.f0, .slice A4 x.f2.f1.length c4], [.string x.f3, .slice A6 x.f4.length c6, .int .i64 x.f5.f0, .int .i64 x.f5.f1, .string x.f5.f2, .slice A10 x.f5.f3.length c10], rfl, (k24_mk w x.f2 l4 g4), ⟨[.string x.f3], [.slice A6 x.f4.length c6, .int .i64 x.f5.f0, .int .i64 x.f5.f1, .string x.f5.f2, .slice A10 x.f5.f3.length c10], rfl, rfl, ⟨[.slice A6 x.f4.length c6], [.int .i64 x.f5.f0, .int .i64 x.f5.f1, .string x.f5.f2, .slice A10 x.f5.f3.length c10], rfl, ⟨A6, c6, rfl, l6, g6⟩, (k40_mk w x.f5 l10 g10)⟩⟩⟩⟩⟩
theorem k42_mkM (w : World) (base : Nat) (ok : Nat → Prop) (x : S42) {v2 : Value} (g2 : k24.R 24 w base ok v2 x.f1.f1) {v4 : Value} (g4 : k24.R 24 w base ok v4 x.f2.f1) {v6 : Value} (g6 : k50.R 50 w base ok v6 x.f4) {v10 : Value} (g10 : k40.R 40 w base ok v10 x.f5.f3) : k42.M w base ok x [.int .i64 x.f0, .string x.f1.f0, v2, .string x.f2.f0, v4, .string x.f3, v6, .int .i64 x.f5.f0, .int .i64 x.f5.f1, .string x.f5.f2, v10] := ⟨[.int .i64 x.f0], [.string x.f1.f0, v2, .string x.f2.f0, v4, .string x.f3, v6, .int .i64 x.f5.f0, .int .i64 x.f5.f1, .string x.f5.f2, v10], rfl, rfl, ⟨[.string x.f1.f0, v2], [.string x.f2.f0, v4, .string x.f3, v6, .int .i64 x.f5.f0, .int .i64 x.f5.f1, .string x.f5.f2, v10], rfl, (k24_mkM w base ok x.f1 g2), ⟨[.string x.f2.f0, v4], [.string x.f3, v6, .int .i64 x.f5.f0, .int .i64 x.f5.f1, .string x.f5.f2, v10], rfl, (k24_mkM w base ok x.f2 g4), ⟨[.string x.f3], [v6, .int .i64 x.f5.f0, .int .i64 x.f5.f1, .string x.f5.f2, v10], rfl, rfl, ⟨[v6], [.int .i64 x.f5.f0, .int .i64 x.f5.f1, .string x.f5.f2, v10], rfl, ⟨v6, rfl, g6⟩, (k40_mkM w base ok x.f5 g10)⟩⟩⟩⟩⟩
theorem k42_openF {W : World} {ok : Nat → Prop} {x : S42} {cs : List Value} (h : Kd.FK k42 W ok x cs) : ∃ A2 c2 A4 c4 A6 c6 A10 c10, cs = [.int .i64 x.f0, .string x.f1.f0, .slice A2 x.f1.f1.length c2, .string x.f2.f0, .slice A4 x.f2.f1.length c4, .string x.f3, .slice A6 x.f4.length c6, .int .i64 x.f5.f0, .int .i64 x.f5.f1, .string x.f5.f2, .slice A10 x.f5.f3.length c10] ∧ x.f1.f1.length ≤ c2 ∧ Kd.F k24 W ok A2 x.f1.f1.length x.f1.f1 ∧ x.f2.f1.length ≤ c4 ∧ Kd.F k24 W ok A4 x.f2.f1.length x.f2.f1 ∧ x.f4.length ≤ c6 ∧ Kd.F k50 W ok A6 x.f4.length x.f4 ∧ x.f5.f3.length ≤ c10 ∧ Kd.F k40 W ok A10 x.f5.f3.length x.f5.f3 := by
  obtain ⟨A2, c2, A4, c4, A6, c6, A10, c10, rfl, l2, _, l4, _, l6, _, l10, _⟩ := k42_open (Kd.FK_now h)
  exact ⟨A2, c2, A4, c4, A6, c6, A10, c10, rfl, l2, (fun W' hW => by obtain ⟨A2_, c2_, A4_, c4_, A6_, c6_, A10_, c10_, he, l2_, g2_, l4_, g4_, l6_, g6_, l10_, g10_⟩ := k42_open (h W' hW); injection (Option.some.inj (show some (Value.slice A2 x.f1.f1.length c2) = some (Value.slice A2_ x.f1.f1.length c2_) from congrArg (fun l => l[2]?) he)) with ha_ _ _; rw [ha_]; exact g2_), l4, (fun W' hW => by obtain ⟨A2_, c2_, A4_, c4_, A6_, c6_, A10_, c10_, he, l2_, g2_, l4_, g4_, l6_, g6_, l10_, g10_⟩ := k42_open (h W' hW); injection (Option.some.inj (show some (Value.slice A4 x.f2.f1.length c4) = some (Value.slice A4_ x.f2.f1.length c4_) from congrArg (fun l => l[4]?) he)) with ha_ _ _; rw [ha_]; exact g4_), l6, (fun W' hW => by obtain ⟨A2_, c2_, A4_, c4_, A6_, c6_, A10_, c10_, he, l2_, g2_, l4_, g4_, l6_, g6_, l10_, g10_⟩ := k42_open (h W' hW); injection (Option.some.inj (show some (Value.slice A6 x.f4.length c6) = some (Value.slice A6_ x.f4.length c6_) from congrArg (fun l => l[6]?) he)) with ha_ _ _; rw [ha_]; exact g6_), l10, (fun W' hW => by obtain ⟨A2_, c2_, A4_, c4_, A6_, c6_, A10_, c10_, he, l2_, g2_, l4_, g4_, l6_, g6_, l10_, g10_⟩ := k42_open (h W' hW); injection (Option.some.inj (show some (Value.slice A10 x.f5.f3.length c10) = some (Value.slice A10_ x.f5.f3.length c10_) from congrArg (fun l => l[10]?) he)) with ha_ _ _; rw [ha_]; exact g10_)⟩
theorem k42_mkF (W : World) (ok : Nat → Prop) (x : S42) {A2 : Option Addr} {c2 : Nat} (l2 : x.f1.f1.length ≤ c2) (g2 : Kd.F k24 W ok A2 x.f1.f1.length x.f1.f1) {A4 : Option Addr} {c4 : Nat} (l4 : x.f2.f1.length ≤ c4) (g4 : Kd.F k24 W ok A4 x.f2.f1.length x.f2.f1) {A6 : Option Addr} {c6 : Nat} (l6 : x.f4.length ≤ c6) (g6 : Kd.F k50 W ok A6 x.f4.length x.f4) {A10 : Option Addr} {c10 : Nat} (l10 : x.f5.f3.length ≤ c10) (g10 : Kd.F k40 W ok A10 x.f5.f3.length x.f5.f3) : Kd.FK k42 W ok x [.int .i64 x.f0, .string x.f1.f0, .slice A2 x.f1.f1.length c2, .string x.f2.f0, .slice A4 x.f2.f1.length c4, .string x.f3, .slice A6 x.f4.length c6, .int .i64 x.f5.f0, .int .i64 x.f5.f1, .string x.f5.f2, .slice A10 x.f5.f3.length c10] := fun W2 hW => k42_mk W2 x l2 (g2 W2 hW) l4 (g4 W2 hW) l6 (g6 W2 hW) l10 (g10 W2 hW)
def rd_T42 (xs : List S42) (i : Int) : S42 := xs.getD i.toNat z42
theorem at_T42 {w : World} {A : Option Addr} {n : Nat} {xs : List S42} (h : Kd.C k42 w A n xs) (i : Int) (h0 : 0 ≤ i) (h1 : i < n) : ∃ ad A2 c2 A4 c4 A6 c6 A10 c10, A = some ad ∧ w.cell? (ad.add (i.toNat * 11)) = some (.int .i64 (rd_T42 xs i).f0) ∧ w.cell? ⟨(ad.add (i.toNat * 11)).block, (ad.add (i.toNat * 11)).off + 1, none⟩ = some (.string (rd_T42 xs i).f1.f0) ∧ w.cell? ⟨(ad.add (i.toNat * 11)).block, (ad.add (i.toNat * 11)).off + 2, none⟩ = some (.slice A2 (rd_T42 xs i).f1.f1.length c2) ∧ w.cell? ⟨(ad.add (i.toNat * 11)).block, (ad.add (i.toNat * 11)).off + 3, none⟩ = some (.string (rd_T42 xs i).f2.f0) ∧ w.cell? ⟨(ad.add (i.toNat * 11)).block, (ad.add (i.toNat * 11)).off + 4, none⟩ = some (.slice A4 (rd_T42 xs i).f2.f1.length c4) ∧ w.cell? ⟨(ad.add (i.toNat * 11)).block, (ad.add (i.toNat * 11)).off + 5, none⟩ = some (.string (rd_T42 xs i).f3) ∧ w.cell? ⟨(ad.add (i.toNat * 11)).block, (ad.add (i.toNat * 11)).off + 6, none⟩ = some (.slice A6 (rd_T42 xs i).f4.length c6) ∧ w.cell? ⟨(ad.add (i.toNat * 11)).block, (ad.add (i.toNat * 11)).off + 7, none⟩ = some (.int .i64 (rd_T42 xs i).f5.f0) ∧ w.cell? ⟨(ad.add (i.toNat * 11)).block, (ad.add (i.toNat * 11)).off + 8, none⟩ = some (.int .i64 (rd_T42 xs i).f5.f1) ∧ w.cell? ⟨(ad.add (i.toNat * 11)).block, (ad.add (i.toNat * 11)).off + 9, none⟩ = some (.string (rd_T42 xs i).f5.f2) ∧ w.cell? ⟨(ad.add (i.toNat * 11)).block, (ad.add (i.toNat * 11)).off + 10, none⟩ = some (.slice A10 (rd_T42 xs i).f5.f3.length c10) ∧ (rd_T42 xs i).f1.f1.length ≤ c2 ∧ k24.C w A2 (rd_T42 xs i).f1.f1.length (rd_T42 xs i).f1.f1 ∧ (rd_T42 xs i).f2.f1.length ≤ c4 ∧ k24.C w A4 (rd_T42 xs i).f2.f1.length (rd_T42 xs i).f2.f1 ∧ (rd_T42 xs i).f4.length ≤ c6 ∧ k50.C w A6 (rd_T42 xs i).f4.length (rd_T42 xs i).f4 ∧ (rd_T42 xs i).f5.f3.length ≤ c10 ∧ k40.C w A10 (rd_T42 xs i).f5.f3.length (rd_T42 xs i).f5.f3 := by
  obtain ⟨ad, c, e, _, hK, hc0⟩ := Kd.C_get h z42 i h0 h1
  have hc : ∀ j u, c[j]? = some u → w.cell? (ad.add (i.toNat * 11 + j)) = some u := hc0
  obtain ⟨A2, c2, A4, c4, A6, c6, A10, c10, rfl, l2, g2, l4, g4, l6, g6, l10, g10⟩ := k42_open hK
  exact ⟨ad, A2, c2, A4, c4, A6, c6, A10, c10, e, hc 0 _ rfl, by rw [← add_field _ _ 1 (by omega)]; exact hc 1 _ rfl, by rw [← add_field _ _ 2 (by omega)]; exact hc 2 _ rfl, by rw [← add_field _ _ 3 (by omega)]; exact hc 3 _ rfl, by rw [← add_field _ _ 4 (by omega)]; exact hc 4 _ rfl, by rw [← add_field _ _ 5 (by omega)]; exact hc 5 _ rfl, by rw [← add_field _ _ 6 (by omega)]; exact hc 6 _ rfl, by rw [← add_field _ _ 7 (by omega)]; exact hc 7 _ rfl, by rw [← add_field _ _ 8 (by omega)]; exact hc 8 _ rfl, by rw [← add_field _ _ 9 (by omega)]; exact hc 9 _ rfl, by rw [← add_field _ _ 10 (by omega)]; exact hc 10 _ rfl, l2, g2, l4, g4, l6, g6, l10, g10⟩

end Go.Proofs.Ytlibklfianghlaa.S

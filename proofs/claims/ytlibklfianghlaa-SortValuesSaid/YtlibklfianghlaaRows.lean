/-
  NARROWER THAN 'FOR EVERY INPUT', by the rows' own cells (each row's printed sentence says how): SortThere: loops · SortAll: loops · SortUnifies: loops · SortValues: loops.
  DERIVED. THE GIVEN ROWS OF THIS SEAT. 4 by the template 'for every input the law returns true; each argument reads behind the call as it read before'; 0 by the template 'total and deterministic' (their statements: YtlibklfianghlaaTotals.lean).
  GIVEN WITH THE SEED: the statements are not yours to turn. If you find one false, say at which input.
  Laid BY PROGRAM, IN A SANDBOX (cutbox-rows.mjs): the forced cells as the released guide's own fill.sh prints them over the translation 1620d45316d1077e… (all of the seat's roots in one cut). By AI agents, Wed Nov 11 2026. No macro, syntax, notation, axiom, sorry.
-/
import Derived.Test.YtlibklfianghlaaChecked
import GoSem.Claim
import GoSem.ClaimJoined
import GoSem.ClaimMapViews
import Derived.JoinedTies
import Derived.KernelRfl
namespace Go.Proofs.Ytlibklfianghlaa
/- THE CELL 'sum', in the pinned program and in every row, IS THE sha256 OF THE DUMP (.gsa) THAT YtlibklfianghlaaProg.lean LOADS. Nothing in Lean hashes anything: it is a label: what it is worth is what the hold of that sum in a sandbox is worth. -/
noncomputable def Try.pinned : Pinned := { name := "ytlibklfianghlaa", sum := "1620d45316d1077ee3ac70d3e4af3e793cd9916b07d2ebda5b7177320d0ed243", checked := Try.checked }
namespace Rows
def none {H : Type} : Left H := { results := [], args := [] }

/-- 'espalierlaw5.SortThere': WHATEVER THE INPUT: true; the input reads as it did. -/
def sortThereSpec : ChangeSpec := { name := "sortThere", fn := fun _ => fun
  | [d1, d2] => { results := [.lit (.bool true)], args := [d1, d2] }
  | _ => none }
def sortThereRow : OpenClaim := { program := "ytlibklfianghlaa", sum := "1620d45316d1077ee3ac70d3e4af3e793cd9916b07d2ebda5b7177320d0ed243", func := "espalier/espalierlaw5.SortThere", spec := "sortThere", inPlace := ["internal/bytealg.IndexByteString", "internal/abi.NoEscape", "internal/bytealg.MakeNoZero", "internal/bytealg.abigen_runtime_cmpstring"], unfollowed := true, recurses := true, loops := true, apart := false }
def SortThereSaid : Prop := sortThereRow.holds Try.pinned (OpenSpec.ofChange sortThereSpec)

/-- ITS FALSE NEIGHBOUR: 'it returns false'. Refute it at one input. -/
def sortThereWrong : ChangeSpec := { name := "sortThere", fn := fun _ => fun
  | [d1, d2] => { results := [.lit (.bool false)], args := [d1, d2] }
  | _ => none }
def SortThereWrongFalsely : Prop := sortThereRow.holds Try.pinned (OpenSpec.ofChange sortThereWrong)

/-- 'espalierlaw5.SortAll': WHATEVER THE INPUT: true; the input reads as it did. -/
def sortAllSpec : ChangeSpec := { name := "sortAll", fn := fun _ => fun
  | [d] => { results := [.lit (.bool true)], args := [d] }
  | _ => none }
def sortAllRow : OpenClaim := { program := "ytlibklfianghlaa", sum := "1620d45316d1077ee3ac70d3e4af3e793cd9916b07d2ebda5b7177320d0ed243", func := "espalier/espalierlaw5.SortAll", spec := "sortAll", inPlace := ["internal/bytealg.IndexByteString", "internal/abi.NoEscape", "internal/bytealg.MakeNoZero", "internal/bytealg.abigen_runtime_cmpstring"], unfollowed := true, recurses := true, loops := true, apart := false }
def SortAllSaid : Prop := sortAllRow.holds Try.pinned (OpenSpec.ofChange sortAllSpec)

/-- ITS FALSE NEIGHBOUR: 'it returns false'. Refute it at one input. -/
def sortAllWrong : ChangeSpec := { name := "sortAll", fn := fun _ => fun
  | [d] => { results := [.lit (.bool false)], args := [d] }
  | _ => none }
def SortAllWrongFalsely : Prop := sortAllRow.holds Try.pinned (OpenSpec.ofChange sortAllWrong)

/-- 'espalierlaw5.SortUnifies': WHATEVER THE INPUT: true; the input reads as it did. -/
def sortUnifiesSpec : ChangeSpec := { name := "sortUnifies", fn := fun _ => fun
  | [d1, d2, d3] => { results := [.lit (.bool true)], args := [d1, d2, d3] }
  | _ => none }
def sortUnifiesRow : OpenClaim := { program := "ytlibklfianghlaa", sum := "1620d45316d1077ee3ac70d3e4af3e793cd9916b07d2ebda5b7177320d0ed243", func := "espalier/espalierlaw5.SortUnifies", spec := "sortUnifies", inPlace := ["internal/bytealg.IndexByteString", "internal/abi.NoEscape", "internal/bytealg.MakeNoZero", "internal/bytealg.abigen_runtime_cmpstring"], unfollowed := true, recurses := true, loops := true, apart := false }
def SortUnifiesSaid : Prop := sortUnifiesRow.holds Try.pinned (OpenSpec.ofChange sortUnifiesSpec)

/-- ITS FALSE NEIGHBOUR: 'it returns false'. Refute it at one input. -/
def sortUnifiesWrong : ChangeSpec := { name := "sortUnifies", fn := fun _ => fun
  | [d1, d2, d3] => { results := [.lit (.bool false)], args := [d1, d2, d3] }
  | _ => none }
def SortUnifiesWrongFalsely : Prop := sortUnifiesRow.holds Try.pinned (OpenSpec.ofChange sortUnifiesWrong)

/-- 'espalierlaw5.SortValues': WHATEVER THE INPUT: true; the input reads as it did. -/
def sortValuesSpec : ChangeSpec := { name := "sortValues", fn := fun _ => fun
  | [d1, d2, d3] => { results := [.lit (.bool true)], args := [d1, d2, d3] }
  | _ => none }
def sortValuesRow : OpenClaim := { program := "ytlibklfianghlaa", sum := "1620d45316d1077ee3ac70d3e4af3e793cd9916b07d2ebda5b7177320d0ed243", func := "espalier/espalierlaw5.SortValues", spec := "sortValues", inPlace := ["internal/bytealg.IndexByteString", "internal/abi.NoEscape", "internal/bytealg.MakeNoZero", "internal/bytealg.abigen_runtime_cmpstring"], unfollowed := true, recurses := true, loops := true, apart := false }
def SortValuesSaid : Prop := sortValuesRow.holds Try.pinned (OpenSpec.ofChange sortValuesSpec)

/-- ITS FALSE NEIGHBOUR: 'it returns false'. Refute it at one input. -/
def sortValuesWrong : ChangeSpec := { name := "sortValues", fn := fun _ => fun
  | [d1, d2, d3] => { results := [.lit (.bool false)], args := [d1, d2, d3] }
  | _ => none }
def SortValuesWrongFalsely : Prop := sortValuesRow.holds Try.pinned (OpenSpec.ofChange sortValuesWrong)

/- THE SECOND FORM. 'bulk': how many values and letters a reading holds, each counted each time it is reached (what is shared counts as often as it is met; a slice's spare places count too). A statement '..UptoSaid' is the law's where the arguments, and the package variables that the reading takes, are together of bulk at most 1048576: NARROWER than '..Said'. Prove '..Said' where nothing that the law and all that it calls make is longer than what came in: it says more and counts as full. Else prove '..UptoSaid'. A law counts once. -/
mutual
def uptoBulk {H : Type} : DataW H → Nat
  | .lit (.string bytes) => bytes.length + 1
  | .lit _ => 1
  | .nil => 1
  | .ptr d => uptoBulk d + 1
  | .slice elems spare => uptoBulkAll elems + uptoBulkAll spare + 1
  | .agg parts => uptoBulkAll parts + 1
  | .iface _ d => uptoBulk d + 1
  | .map entries => uptoBulkEntries entries + 1
  | .held _ => 1
def uptoBulkAll {H : Type} : List (DataW H) → Nat
  | [] => 0
  | d :: r => uptoBulk d + uptoBulkAll r
def uptoBulkEntries {H : Type} : List (Lit × DataW H) → Nat
  | [] => 0
  | x :: r => uptoBulkEntry x + uptoBulkEntries r
def uptoBulkEntry {H : Type} : Lit × DataW H → Nat
  | (.string bytes, d) => bytes.length + uptoBulk d + 1
  | (_, d) => uptoBulk d + 1
 end
def uptoSmall : (H : Type) → List (DataW H) → Bool := fun _ ds => decide (uptoBulkAll ds ≤ 1048576)
def OpenSpec.upto (s : _root_.Go.ChangeSpec) : _root_.Go.OpenSpec := { _root_.Go.OpenSpec.ofChange s with cond := some uptoSmall }

/-- 'espalierlaw5.SortThere', WHERE WHAT IT READS IS OF BULK AT MOST 1048576: true; the input reads as it did. -/
def sortThereUptoRow : OpenClaim := { program := "ytlibklfianghlaa", sum := "1620d45316d1077ee3ac70d3e4af3e793cd9916b07d2ebda5b7177320d0ed243", func := "espalier/espalierlaw5.SortThere", spec := "sortThere", inPlace := ["internal/bytealg.IndexByteString", "internal/abi.NoEscape", "internal/bytealg.MakeNoZero", "internal/bytealg.abigen_runtime_cmpstring"], unfollowed := true, recurses := true, loops := true, apart := false, narrowed := true }
def SortThereUptoSaid : Prop := sortThereUptoRow.holds Try.pinned (OpenSpec.upto sortThereSpec)

/-- 'espalierlaw5.SortAll', WHERE WHAT IT READS IS OF BULK AT MOST 1048576: true; the input reads as it did. -/
def sortAllUptoRow : OpenClaim := { program := "ytlibklfianghlaa", sum := "1620d45316d1077ee3ac70d3e4af3e793cd9916b07d2ebda5b7177320d0ed243", func := "espalier/espalierlaw5.SortAll", spec := "sortAll", inPlace := ["internal/bytealg.IndexByteString", "internal/abi.NoEscape", "internal/bytealg.MakeNoZero", "internal/bytealg.abigen_runtime_cmpstring"], unfollowed := true, recurses := true, loops := true, apart := false, narrowed := true }
def SortAllUptoSaid : Prop := sortAllUptoRow.holds Try.pinned (OpenSpec.upto sortAllSpec)

/-- 'espalierlaw5.SortUnifies', WHERE WHAT IT READS IS OF BULK AT MOST 1048576: true; the input reads as it did. -/
def sortUnifiesUptoRow : OpenClaim := { program := "ytlibklfianghlaa", sum := "1620d45316d1077ee3ac70d3e4af3e793cd9916b07d2ebda5b7177320d0ed243", func := "espalier/espalierlaw5.SortUnifies", spec := "sortUnifies", inPlace := ["internal/bytealg.IndexByteString", "internal/abi.NoEscape", "internal/bytealg.MakeNoZero", "internal/bytealg.abigen_runtime_cmpstring"], unfollowed := true, recurses := true, loops := true, apart := false, narrowed := true }
def SortUnifiesUptoSaid : Prop := sortUnifiesUptoRow.holds Try.pinned (OpenSpec.upto sortUnifiesSpec)

/-- 'espalierlaw5.SortValues', WHERE WHAT IT READS IS OF BULK AT MOST 1048576: true; the input reads as it did. -/
def sortValuesUptoRow : OpenClaim := { program := "ytlibklfianghlaa", sum := "1620d45316d1077ee3ac70d3e4af3e793cd9916b07d2ebda5b7177320d0ed243", func := "espalier/espalierlaw5.SortValues", spec := "sortValues", inPlace := ["internal/bytealg.IndexByteString", "internal/abi.NoEscape", "internal/bytealg.MakeNoZero", "internal/bytealg.abigen_runtime_cmpstring"], unfollowed := true, recurses := true, loops := true, apart := false, narrowed := true }
def SortValuesUptoSaid : Prop := sortValuesUptoRow.holds Try.pinned (OpenSpec.upto sortValuesSpec)

end Rows
end Go.Proofs.Ytlibklfianghlaa

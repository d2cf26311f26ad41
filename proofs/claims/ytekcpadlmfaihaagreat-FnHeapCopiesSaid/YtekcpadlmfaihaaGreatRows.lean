/-
  NARROWER THAN 'FOR EVERY INPUT', by the rows' own cells (each row's printed sentence says how): FnExactRunHeap: loops · FnExactStepHeap: loops.
  DERIVED. THE GIVEN ROWS OF THIS SEAT. 4 by the template 'for every input the law returns true; each argument reads behind the call as it read before'; 0 by the template 'total and deterministic' (their statements: YtekcpadlmfaihaaGreatTotals.lean).
  GIVEN WITH THE SEED: the statements are not yours to turn. If you find one false, say at which input.
  Laid BY PROGRAM, IN A SANDBOX (cutbox-rows.mjs): the forced cells as the released guide's own fill.sh prints them over the translation 4d47691831ab536b… (all of the seat's roots in one cut). By AI agents, Wed Nov 11 2026. No macro, syntax, notation, axiom, sorry.
-/
import Derived.Test.YtekcpadlmfaihaaGreatChecked
import GoSem.Claim
import GoSem.ClaimJoined
import GoSem.ClaimMapViews
import Derived.JoinedTies
import Derived.KernelRfl
namespace Go.Proofs.YtekcpadlmfaihaaGreat
/- THE CELL 'sum', in the pinned program and in every row, IS THE sha256 OF THE DUMP (.gsa) THAT YtekcpadlmfaihaaGreatProg.lean LOADS. Nothing in Lean hashes anything: it is a label: what it is worth is what the hold of that sum in a sandbox is worth. -/
noncomputable def Tryz.pinned : Pinned := { name := "ytekcpadlmfaihaagreat", sum := "4d47691831ab536b113a26385d1f4307f7f5757ce75d1377580852fb50c8ea3a", checked := Tryz.checked }
namespace Rows
def none {H : Type} : Left H := { results := [], args := [] }

/-- 'laws.FnCounts': WHATEVER THE INPUT: true; the input reads as it did. -/
def fnCountsSpec : ChangeSpec := { name := "fnCounts", fn := fun _ => fun
  | [d] => { results := [.lit (.bool true)], args := [d] }
  | _ => none }
def fnCountsRow : OpenClaim := { program := "ytekcpadlmfaihaagreat", sum := "4d47691831ab536b113a26385d1f4307f7f5757ce75d1377580852fb50c8ea3a", func := "loop.example/g03406/laws.FnCounts", spec := "fnCounts", recurses := true, apart := false }
def FnCountsSaid : Prop := fnCountsRow.holds Tryz.pinned (OpenSpec.ofChange fnCountsSpec)

/-- ITS FALSE NEIGHBOUR: 'it returns false'. Refute it at one input. -/
def fnCountsWrong : ChangeSpec := { name := "fnCounts", fn := fun _ => fun
  | [d] => { results := [.lit (.bool false)], args := [d] }
  | _ => none }
def FnCountsWrongFalsely : Prop := fnCountsRow.holds Tryz.pinned (OpenSpec.ofChange fnCountsWrong)

/-- 'laws.FnHeapCopies': WHATEVER THE INPUT: true; the input reads as it did. -/
def fnHeapCopiesSpec : ChangeSpec := { name := "fnHeapCopies", fn := fun _ => fun
  | [d] => { results := [.lit (.bool true)], args := [d] }
  | _ => none }
def fnHeapCopiesRow : OpenClaim := { program := "ytekcpadlmfaihaagreat", sum := "4d47691831ab536b113a26385d1f4307f7f5757ce75d1377580852fb50c8ea3a", func := "loop.example/g03406/laws.FnHeapCopies", spec := "fnHeapCopies", recurses := true, apart := false }
def FnHeapCopiesSaid : Prop := fnHeapCopiesRow.holds Tryz.pinned (OpenSpec.ofChange fnHeapCopiesSpec)

/-- ITS FALSE NEIGHBOUR: 'it returns false'. Refute it at one input. -/
def fnHeapCopiesWrong : ChangeSpec := { name := "fnHeapCopies", fn := fun _ => fun
  | [d] => { results := [.lit (.bool false)], args := [d] }
  | _ => none }
def FnHeapCopiesWrongFalsely : Prop := fnHeapCopiesRow.holds Tryz.pinned (OpenSpec.ofChange fnHeapCopiesWrong)

/-- 'laws.FnExactRunHeap': WHATEVER THE INPUT: true; the input reads as it did. -/
def fnExactRunHeapSpec : ChangeSpec := { name := "fnExactRunHeap", fn := fun _ => fun
  | [d] => { results := [.lit (.bool true)], args := [d] }
  | _ => none }
def fnExactRunHeapRow : OpenClaim := { program := "ytekcpadlmfaihaagreat", sum := "4d47691831ab536b113a26385d1f4307f7f5757ce75d1377580852fb50c8ea3a", func := "loop.example/g03406/laws.FnExactRunHeap", spec := "fnExactRunHeap", recurses := true, loops := true, apart := false }
def FnExactRunHeapSaid : Prop := fnExactRunHeapRow.holds Tryz.pinned (OpenSpec.ofChange fnExactRunHeapSpec)

/-- ITS FALSE NEIGHBOUR: 'it returns false'. Refute it at one input. -/
def fnExactRunHeapWrong : ChangeSpec := { name := "fnExactRunHeap", fn := fun _ => fun
  | [d] => { results := [.lit (.bool false)], args := [d] }
  | _ => none }
def FnExactRunHeapWrongFalsely : Prop := fnExactRunHeapRow.holds Tryz.pinned (OpenSpec.ofChange fnExactRunHeapWrong)

/-- 'laws.FnExactStepHeap': WHATEVER THE INPUT: true; the input reads as it did. -/
def fnExactStepHeapSpec : ChangeSpec := { name := "fnExactStepHeap", fn := fun _ => fun
  | [d1, d2] => { results := [.lit (.bool true)], args := [d1, d2] }
  | _ => none }
def fnExactStepHeapRow : OpenClaim := { program := "ytekcpadlmfaihaagreat", sum := "4d47691831ab536b113a26385d1f4307f7f5757ce75d1377580852fb50c8ea3a", func := "loop.example/g03406/laws.FnExactStepHeap", spec := "fnExactStepHeap", recurses := true, loops := true, apart := false }
def FnExactStepHeapSaid : Prop := fnExactStepHeapRow.holds Tryz.pinned (OpenSpec.ofChange fnExactStepHeapSpec)

/-- ITS FALSE NEIGHBOUR: 'it returns false'. Refute it at one input. -/
def fnExactStepHeapWrong : ChangeSpec := { name := "fnExactStepHeap", fn := fun _ => fun
  | [d1, d2] => { results := [.lit (.bool false)], args := [d1, d2] }
  | _ => none }
def FnExactStepHeapWrongFalsely : Prop := fnExactStepHeapRow.holds Tryz.pinned (OpenSpec.ofChange fnExactStepHeapWrong)

/- THE SECOND FORM. 'bulk': how many values and letters a reading holds, each counted each time it is reached (what is shared counts as often as it is met; a slice's spare places count too). A statement '..UptoSaid' is the law's where the arguments, and the package variables that the reading takes, are together of bulk at most 1048576: NARROWER than '..Said'. Prove '..Said' where nothing that the law and all that it calls make is longer than what came in: it says more and counts as full. Else prove '..UptoSaid'. A law counts once. -/
mutual
def uptoBulk {H : Type} : DataW H → Nat
  | .lit (.string bytes) => bytes.length + 1
  | .lit _ => 1
  | .nil => 1
  | .ptr d => uptoBulk d + 1
  | .slice elems spare => uptoBulkAll elems + uptoBulkAll spare + 1
  | .agg parts => uptoBulkAll parts + 1
  | .iface _ d => uptoBulk d + 1
  | .map entries => uptoBulkEntries entries + 1
  | .held _ => 1
def uptoBulkAll {H : Type} : List (DataW H) → Nat
  | [] => 0
  | d :: r => uptoBulk d + uptoBulkAll r
def uptoBulkEntries {H : Type} : List (Lit × DataW H) → Nat
  | [] => 0
  | x :: r => uptoBulkEntry x + uptoBulkEntries r
def uptoBulkEntry {H : Type} : Lit × DataW H → Nat
  | (.string bytes, d) => bytes.length + uptoBulk d + 1
  | (_, d) => uptoBulk d + 1
 end
def uptoSmall : (H : Type) → List (DataW H) → Bool := fun _ ds => decide (uptoBulkAll ds ≤ 1048576)
def OpenSpec.upto (s : _root_.Go.ChangeSpec) : _root_.Go.OpenSpec := { _root_.Go.OpenSpec.ofChange s with cond := some uptoSmall }

/-- 'laws.FnCounts', WHERE WHAT IT READS IS OF BULK AT MOST 1048576: true; the input reads as it did. -/
def fnCountsUptoRow : OpenClaim := { program := "ytekcpadlmfaihaagreat", sum := "4d47691831ab536b113a26385d1f4307f7f5757ce75d1377580852fb50c8ea3a", func := "loop.example/g03406/laws.FnCounts", spec := "fnCounts", recurses := true, apart := false, narrowed := true }
def FnCountsUptoSaid : Prop := fnCountsUptoRow.holds Tryz.pinned (OpenSpec.upto fnCountsSpec)

/-- 'laws.FnHeapCopies', WHERE WHAT IT READS IS OF BULK AT MOST 1048576: true; the input reads as it did. -/
def fnHeapCopiesUptoRow : OpenClaim := { program := "ytekcpadlmfaihaagreat", sum := "4d47691831ab536b113a26385d1f4307f7f5757ce75d1377580852fb50c8ea3a", func := "loop.example/g03406/laws.FnHeapCopies", spec := "fnHeapCopies", recurses := true, apart := false, narrowed := true }
def FnHeapCopiesUptoSaid : Prop := fnHeapCopiesUptoRow.holds Tryz.pinned (OpenSpec.upto fnHeapCopiesSpec)

/-- 'laws.FnExactRunHeap', WHERE WHAT IT READS IS OF BULK AT MOST 1048576: true; the input reads as it did. -/
def fnExactRunHeapUptoRow : OpenClaim := { program := "ytekcpadlmfaihaagreat", sum := "4d47691831ab536b113a26385d1f4307f7f5757ce75d1377580852fb50c8ea3a", func := "loop.example/g03406/laws.FnExactRunHeap", spec := "fnExactRunHeap", recurses := true, loops := true, apart := false, narrowed := true }
def FnExactRunHeapUptoSaid : Prop := fnExactRunHeapUptoRow.holds Tryz.pinned (OpenSpec.upto fnExactRunHeapSpec)

/-- 'laws.FnExactStepHeap', WHERE WHAT IT READS IS OF BULK AT MOST 1048576: true; the input reads as it did. -/
def fnExactStepHeapUptoRow : OpenClaim := { program := "ytekcpadlmfaihaagreat", sum := "4d47691831ab536b113a26385d1f4307f7f5757ce75d1377580852fb50c8ea3a", func := "loop.example/g03406/laws.FnExactStepHeap", spec := "fnExactStepHeap", recurses := true, loops := true, apart := false, narrowed := true }
def FnExactStepHeapUptoSaid : Prop := fnExactStepHeapUptoRow.holds Tryz.pinned (OpenSpec.upto fnExactStepHeapSpec)

end Rows
end Go.Proofs.YtekcpadlmfaihaaGreat

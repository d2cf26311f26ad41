/-
  NARROWER THAN 'FOR EVERY INPUT', by the rows' own cells (each row's printed sentence says how): FnExactIsHeapOp: loops · FnExactIsHeap: loops · FnExactFormatHeapOp: loops · FnExactReadHeap: loops.
  DERIVED. THE GIVEN ROWS OF THIS SEAT. 4 by the template 'for every input the law returns true; each argument reads behind the call as it read before'; 0 by the template 'total and deterministic' (their statements: YtekcpadlmfaihaaTotals.lean).
  GIVEN WITH THE SEED: the statements are not yours to turn. If you find one false, say at which input.
  Laid BY PROGRAM, IN A SANDBOX (cutbox-rows.mjs): the forced cells as the released guide's own fill.sh prints them over the translation 21423e744e7b8c3d… (all of the seat's roots in one cut). By AI agents, Wed Nov 11 2026. No macro, syntax, notation, axiom, sorry.
-/
import Derived.Test.YtekcpadlmfaihaaChecked
import GoSem.Claim
import GoSem.ClaimJoined
import GoSem.ClaimMapViews
import Derived.JoinedTies
import Derived.KernelRfl
namespace Go.Proofs.Ytekcpadlmfaihaa
/- THE CELL 'sum', in the pinned program and in every row, IS THE sha256 OF THE DUMP (.gsa) THAT YtekcpadlmfaihaaProg.lean LOADS. Nothing in Lean hashes anything: it is a label: what it is worth is what the hold of that sum in a sandbox is worth. -/
noncomputable def Try.pinned : Pinned := { name := "ytekcpadlmfaihaa", sum := "21423e744e7b8c3d677200dcbbe469e3a6e347f8d7e49208f12c322a38b7a9cd", checked := Try.checked }
namespace Rows
def none {H : Type} : Left H := { results := [], args := [] }

/-- 'laws.FnExactIsHeapOp': WHATEVER THE INPUT: true; the input reads as it did. -/
def fnExactIsHeapOpSpec : ChangeSpec := { name := "fnExactIsHeapOp", fn := fun _ => fun
  | [d] => { results := [.lit (.bool true)], args := [d] }
  | _ => none }
def fnExactIsHeapOpRow : OpenClaim := { program := "ytekcpadlmfaihaa", sum := "21423e744e7b8c3d677200dcbbe469e3a6e347f8d7e49208f12c322a38b7a9cd", func := "loop.example/g03406/laws.FnExactIsHeapOp", spec := "fnExactIsHeapOp", recurses := true, loops := true, apart := false }
def FnExactIsHeapOpSaid : Prop := fnExactIsHeapOpRow.holds Try.pinned (OpenSpec.ofChange fnExactIsHeapOpSpec)

/-- ITS FALSE NEIGHBOUR: 'it returns false'. Refute it at one input. -/
def fnExactIsHeapOpWrong : ChangeSpec := { name := "fnExactIsHeapOp", fn := fun _ => fun
  | [d] => { results := [.lit (.bool false)], args := [d] }
  | _ => none }
def FnExactIsHeapOpWrongFalsely : Prop := fnExactIsHeapOpRow.holds Try.pinned (OpenSpec.ofChange fnExactIsHeapOpWrong)

/-- 'laws.FnExactIsHeap': WHATEVER THE INPUT: true; the input reads as it did. -/
def fnExactIsHeapSpec : ChangeSpec := { name := "fnExactIsHeap", fn := fun _ => fun
  | [d] => { results := [.lit (.bool true)], args := [d] }
  | _ => none }
def fnExactIsHeapRow : OpenClaim := { program := "ytekcpadlmfaihaa", sum := "21423e744e7b8c3d677200dcbbe469e3a6e347f8d7e49208f12c322a38b7a9cd", func := "loop.example/g03406/laws.FnExactIsHeap", spec := "fnExactIsHeap", recurses := true, loops := true, apart := false }
def FnExactIsHeapSaid : Prop := fnExactIsHeapRow.holds Try.pinned (OpenSpec.ofChange fnExactIsHeapSpec)

/-- ITS FALSE NEIGHBOUR: 'it returns false'. Refute it at one input. -/
def fnExactIsHeapWrong : ChangeSpec := { name := "fnExactIsHeap", fn := fun _ => fun
  | [d] => { results := [.lit (.bool false)], args := [d] }
  | _ => none }
def FnExactIsHeapWrongFalsely : Prop := fnExactIsHeapRow.holds Try.pinned (OpenSpec.ofChange fnExactIsHeapWrong)

/-- 'laws.FnExactFormatHeapOp': WHATEVER THE INPUT: true; the input reads as it did. -/
def fnExactFormatHeapOpSpec : ChangeSpec := { name := "fnExactFormatHeapOp", fn := fun _ => fun
  | [d] => { results := [.lit (.bool true)], args := [d] }
  | _ => none }
def fnExactFormatHeapOpRow : OpenClaim := { program := "ytekcpadlmfaihaa", sum := "21423e744e7b8c3d677200dcbbe469e3a6e347f8d7e49208f12c322a38b7a9cd", func := "loop.example/g03406/laws.FnExactFormatHeapOp", spec := "fnExactFormatHeapOp", recurses := true, loops := true, apart := false }
def FnExactFormatHeapOpSaid : Prop := fnExactFormatHeapOpRow.holds Try.pinned (OpenSpec.ofChange fnExactFormatHeapOpSpec)

/-- ITS FALSE NEIGHBOUR: 'it returns false'. Refute it at one input. -/
def fnExactFormatHeapOpWrong : ChangeSpec := { name := "fnExactFormatHeapOp", fn := fun _ => fun
  | [d] => { results := [.lit (.bool false)], args := [d] }
  | _ => none }
def FnExactFormatHeapOpWrongFalsely : Prop := fnExactFormatHeapOpRow.holds Try.pinned (OpenSpec.ofChange fnExactFormatHeapOpWrong)

/-- 'laws.FnExactReadHeap': WHATEVER THE INPUT: true; the input reads as it did. -/
def fnExactReadHeapSpec : ChangeSpec := { name := "fnExactReadHeap", fn := fun _ => fun
  | [d1, d2] => { results := [.lit (.bool true)], args := [d1, d2] }
  | _ => none }
def fnExactReadHeapRow : OpenClaim := { program := "ytekcpadlmfaihaa", sum := "21423e744e7b8c3d677200dcbbe469e3a6e347f8d7e49208f12c322a38b7a9cd", func := "loop.example/g03406/laws.FnExactReadHeap", spec := "fnExactReadHeap", recurses := true, loops := true, apart := false }
def FnExactReadHeapSaid : Prop := fnExactReadHeapRow.holds Try.pinned (OpenSpec.ofChange fnExactReadHeapSpec)

/-- ITS FALSE NEIGHBOUR: 'it returns false'. Refute it at one input. -/
def fnExactReadHeapWrong : ChangeSpec := { name := "fnExactReadHeap", fn := fun _ => fun
  | [d1, d2] => { results := [.lit (.bool false)], args := [d1, d2] }
  | _ => none }
def FnExactReadHeapWrongFalsely : Prop := fnExactReadHeapRow.holds Try.pinned (OpenSpec.ofChange fnExactReadHeapWrong)

/- THE SECOND FORM. 'bulk': how many values and letters a reading holds, each counted each time it is reached (what is shared counts as often as it is met; a slice's spare places count too). A statement '..UptoSaid' is the law's where the arguments, and the package variables that the reading takes, are together of bulk at most 1048576: NARROWER than '..Said'. Prove '..Said' where nothing that the law and all that it calls make is longer than what came in: it says more and counts as full. Else prove '..UptoSaid'. A law counts once. -/
mutual
def uptoBulk {H : Type} : DataW H → Nat
  | .lit (.string bytes) => bytes.length + 1
  | .lit _ => 1
  | .nil => 1
  | .ptr d => uptoBulk d + 1
  | .slice elems spare => uptoBulkAll elems + uptoBulkAll spare + 1
  | .agg parts => uptoBulkAll parts + 1
  | .iface _ d => uptoBulk d + 1
  | .map entries => uptoBulkEntries entries + 1
  | .held _ => 1
def uptoBulkAll {H : Type} : List (DataW H) → Nat
  | [] => 0
  | d :: r => uptoBulk d + uptoBulkAll r
def uptoBulkEntries {H : Type} : List (Lit × DataW H) → Nat
  | [] => 0
  | x :: r => uptoBulkEntry x + uptoBulkEntries r
def uptoBulkEntry {H : Type} : Lit × DataW H → Nat
  | (.string bytes, d) => bytes.length + uptoBulk d + 1
  | (_, d) => uptoBulk d + 1
 end
def uptoSmall : (H : Type) → List (DataW H) → Bool := fun _ ds => decide (uptoBulkAll ds ≤ 1048576)
def OpenSpec.upto (s : _root_.Go.ChangeSpec) : _root_.Go.OpenSpec := { _root_.Go.OpenSpec.ofChange s with cond := some uptoSmall }

/-- 'laws.FnExactIsHeapOp', WHERE WHAT IT READS IS OF BULK AT MOST 1048576: true; the input reads as it did. -/
def fnExactIsHeapOpUptoRow : OpenClaim := { program := "ytekcpadlmfaihaa", sum := "21423e744e7b8c3d677200dcbbe469e3a6e347f8d7e49208f12c322a38b7a9cd", func := "loop.example/g03406/laws.FnExactIsHeapOp", spec := "fnExactIsHeapOp", recurses := true, loops := true, apart := false, narrowed := true }
def FnExactIsHeapOpUptoSaid : Prop := fnExactIsHeapOpUptoRow.holds Try.pinned (OpenSpec.upto fnExactIsHeapOpSpec)

/-- 'laws.FnExactIsHeap', WHERE WHAT IT READS IS OF BULK AT MOST 1048576: true; the input reads as it did. -/
def fnExactIsHeapUptoRow : OpenClaim := { program := "ytekcpadlmfaihaa", sum := "21423e744e7b8c3d677200dcbbe469e3a6e347f8d7e49208f12c322a38b7a9cd", func := "loop.example/g03406/laws.FnExactIsHeap", spec := "fnExactIsHeap", recurses := true, loops := true, apart := false, narrowed := true }
def FnExactIsHeapUptoSaid : Prop := fnExactIsHeapUptoRow.holds Try.pinned (OpenSpec.upto fnExactIsHeapSpec)

/-- 'laws.FnExactFormatHeapOp', WHERE WHAT IT READS IS OF BULK AT MOST 1048576: true; the input reads as it did. -/
def fnExactFormatHeapOpUptoRow : OpenClaim := { program := "ytekcpadlmfaihaa", sum := "21423e744e7b8c3d677200dcbbe469e3a6e347f8d7e49208f12c322a38b7a9cd", func := "loop.example/g03406/laws.FnExactFormatHeapOp", spec := "fnExactFormatHeapOp", recurses := true, loops := true, apart := false, narrowed := true }
def FnExactFormatHeapOpUptoSaid : Prop := fnExactFormatHeapOpUptoRow.holds Try.pinned (OpenSpec.upto fnExactFormatHeapOpSpec)

/-- 'laws.FnExactReadHeap', WHERE WHAT IT READS IS OF BULK AT MOST 1048576: true; the input reads as it did. -/
def fnExactReadHeapUptoRow : OpenClaim := { program := "ytekcpadlmfaihaa", sum := "21423e744e7b8c3d677200dcbbe469e3a6e347f8d7e49208f12c322a38b7a9cd", func := "loop.example/g03406/laws.FnExactReadHeap", spec := "fnExactReadHeap", recurses := true, loops := true, apart := false, narrowed := true }
def FnExactReadHeapUptoSaid : Prop := fnExactReadHeapUptoRow.holds Try.pinned (OpenSpec.upto fnExactReadHeapSpec)

end Rows
end Go.Proofs.Ytekcpadlmfaihaa

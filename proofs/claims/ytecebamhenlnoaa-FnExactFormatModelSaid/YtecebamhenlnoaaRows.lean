/-
  No cell of these rows narrows 'for every input' (looked for: loops, veiled, ifaces, maps, wideKeys, modest, calm, conditions, laid).
  DERIVED. THE GIVEN ROWS OF THIS SEAT. 10 by the template 'for every input the law returns true; each argument reads behind the call as it read before'; 0 by the template 'total and deterministic' (their statements: YtecebamhenlnoaaTotals.lean).
  GIVEN WITH THE SEED: the statements are not yours to turn. If you find one false, say at which input.
  Laid BY PROGRAM, IN A SANDBOX (cutbox-rows.mjs): the forced cells as the released guide's own fill.sh prints them over the translation b04ca292c7f88558… (all of the seat's roots in one cut). By AI agents, Wed Nov 11 2026. No macro, syntax, notation, axiom, sorry.
-/
import Derived.Test.YtecebamhenlnoaaChecked
import GoSem.Claim
import GoSem.ClaimJoined
import GoSem.ClaimMapViews
import Derived.JoinedTies
import Derived.KernelRfl
namespace Go.Proofs.Ytecebamhenlnoaa
/- THE CELL 'sum', in the pinned program and in every row, IS THE sha256 OF THE DUMP (.gsa) THAT YtecebamhenlnoaaProg.lean LOADS. Nothing in Lean hashes anything: it is a label: what it is worth is what the hold of that sum in a sandbox is worth. -/
noncomputable def Try.pinned : Pinned := { name := "ytecebamhenlnoaa", sum := "b04ca292c7f88558a08ada6a51e32c3cb50ff25a0366071e33a5ee017b29e7bc", checked := Try.checked }
namespace Rows
def none {H : Type} : Left H := { results := [], args := [] }

/-- 'laws.FnExactIsCache': WHATEVER THE INPUT: true; the input reads as it did. -/
def fnExactIsCacheSpec : ChangeSpec := { name := "fnExactIsCache", fn := fun _ => fun
  | [d] => { results := [.lit (.bool true)], args := [d] }
  | _ => none }
def fnExactIsCacheRow : OpenClaim := { program := "ytecebamhenlnoaa", sum := "b04ca292c7f88558a08ada6a51e32c3cb50ff25a0366071e33a5ee017b29e7bc", func := "loop.example/g03406/laws.FnExactIsCache", spec := "fnExactIsCache", apart := false }
def FnExactIsCacheSaid : Prop := fnExactIsCacheRow.holds Try.pinned (OpenSpec.ofChange fnExactIsCacheSpec)

/-- ITS FALSE NEIGHBOUR: 'it returns false'. Refute it at one input. -/
def fnExactIsCacheWrong : ChangeSpec := { name := "fnExactIsCache", fn := fun _ => fun
  | [d] => { results := [.lit (.bool false)], args := [d] }
  | _ => none }
def FnExactIsCacheWrongFalsely : Prop := fnExactIsCacheRow.holds Try.pinned (OpenSpec.ofChange fnExactIsCacheWrong)

/-- 'laws.FnCaches': WHATEVER THE INPUT: true; the input reads as it did. -/
def fnCachesSpec : ChangeSpec := { name := "fnCaches", fn := fun _ => fun
  | [d] => { results := [.lit (.bool true)], args := [d] }
  | _ => none }
def fnCachesRow : OpenClaim := { program := "ytecebamhenlnoaa", sum := "b04ca292c7f88558a08ada6a51e32c3cb50ff25a0366071e33a5ee017b29e7bc", func := "loop.example/g03406/laws.FnCaches", spec := "fnCaches", apart := false }
def FnCachesSaid : Prop := fnCachesRow.holds Try.pinned (OpenSpec.ofChange fnCachesSpec)

/-- ITS FALSE NEIGHBOUR: 'it returns false'. Refute it at one input. -/
def fnCachesWrong : ChangeSpec := { name := "fnCaches", fn := fun _ => fun
  | [d] => { results := [.lit (.bool false)], args := [d] }
  | _ => none }
def FnCachesWrongFalsely : Prop := fnCachesRow.holds Try.pinned (OpenSpec.ofChange fnCachesWrong)

/-- 'laws.FnExactStoreEntry': WHATEVER THE INPUT: true; the input reads as it did. -/
def fnExactStoreEntrySpec : ChangeSpec := { name := "fnExactStoreEntry", fn := fun _ => fun
  | [d1, d2, d3] => { results := [.lit (.bool true)], args := [d1, d2, d3] }
  | _ => none }
def fnExactStoreEntryRow : OpenClaim := { program := "ytecebamhenlnoaa", sum := "b04ca292c7f88558a08ada6a51e32c3cb50ff25a0366071e33a5ee017b29e7bc", func := "loop.example/g03406/laws.FnExactStoreEntry", spec := "fnExactStoreEntry", apart := false }
def FnExactStoreEntrySaid : Prop := fnExactStoreEntryRow.holds Try.pinned (OpenSpec.ofChange fnExactStoreEntrySpec)

/-- ITS FALSE NEIGHBOUR: 'it returns false'. Refute it at one input. -/
def fnExactStoreEntryWrong : ChangeSpec := { name := "fnExactStoreEntry", fn := fun _ => fun
  | [d1, d2, d3] => { results := [.lit (.bool false)], args := [d1, d2, d3] }
  | _ => none }
def FnExactStoreEntryWrongFalsely : Prop := fnExactStoreEntryRow.holds Try.pinned (OpenSpec.ofChange fnExactStoreEntryWrong)

/-- 'laws.FnExactLookEntry': WHATEVER THE INPUT: true; the input reads as it did. -/
def fnExactLookEntrySpec : ChangeSpec := { name := "fnExactLookEntry", fn := fun _ => fun
  | [d1, d2] => { results := [.lit (.bool true)], args := [d1, d2] }
  | _ => none }
def fnExactLookEntryRow : OpenClaim := { program := "ytecebamhenlnoaa", sum := "b04ca292c7f88558a08ada6a51e32c3cb50ff25a0366071e33a5ee017b29e7bc", func := "loop.example/g03406/laws.FnExactLookEntry", spec := "fnExactLookEntry", apart := false }
def FnExactLookEntrySaid : Prop := fnExactLookEntryRow.holds Try.pinned (OpenSpec.ofChange fnExactLookEntrySpec)

/-- ITS FALSE NEIGHBOUR: 'it returns false'. Refute it at one input. -/
def fnExactLookEntryWrong : ChangeSpec := { name := "fnExactLookEntry", fn := fun _ => fun
  | [d1, d2] => { results := [.lit (.bool false)], args := [d1, d2] }
  | _ => none }
def FnExactLookEntryWrongFalsely : Prop := fnExactLookEntryRow.holds Try.pinned (OpenSpec.ofChange fnExactLookEntryWrong)

/-- 'laws.FnExactIsReport': WHATEVER THE INPUT: true; the input reads as it did. -/
def fnExactIsReportSpec : ChangeSpec := { name := "fnExactIsReport", fn := fun _ => fun
  | [d] => { results := [.lit (.bool true)], args := [d] }
  | _ => none }
def fnExactIsReportRow : OpenClaim := { program := "ytecebamhenlnoaa", sum := "b04ca292c7f88558a08ada6a51e32c3cb50ff25a0366071e33a5ee017b29e7bc", func := "loop.example/g03406/laws.FnExactIsReport", spec := "fnExactIsReport", apart := false }
def FnExactIsReportSaid : Prop := fnExactIsReportRow.holds Try.pinned (OpenSpec.ofChange fnExactIsReportSpec)

/-- ITS FALSE NEIGHBOUR: 'it returns false'. Refute it at one input. -/
def fnExactIsReportWrong : ChangeSpec := { name := "fnExactIsReport", fn := fun _ => fun
  | [d] => { results := [.lit (.bool false)], args := [d] }
  | _ => none }
def FnExactIsReportWrongFalsely : Prop := fnExactIsReportRow.holds Try.pinned (OpenSpec.ofChange fnExactIsReportWrong)

/-- 'laws.FnExactFormatReport': WHATEVER THE INPUT: true; the input reads as it did. -/
def fnExactFormatReportSpec : ChangeSpec := { name := "fnExactFormatReport", fn := fun _ => fun
  | [d] => { results := [.lit (.bool true)], args := [d] }
  | _ => none }
def fnExactFormatReportRow : OpenClaim := { program := "ytecebamhenlnoaa", sum := "b04ca292c7f88558a08ada6a51e32c3cb50ff25a0366071e33a5ee017b29e7bc", func := "loop.example/g03406/laws.FnExactFormatReport", spec := "fnExactFormatReport", apart := false }
def FnExactFormatReportSaid : Prop := fnExactFormatReportRow.holds Try.pinned (OpenSpec.ofChange fnExactFormatReportSpec)

/-- ITS FALSE NEIGHBOUR: 'it returns false'. Refute it at one input. -/
def fnExactFormatReportWrong : ChangeSpec := { name := "fnExactFormatReport", fn := fun _ => fun
  | [d] => { results := [.lit (.bool false)], args := [d] }
  | _ => none }
def FnExactFormatReportWrongFalsely : Prop := fnExactFormatReportRow.holds Try.pinned (OpenSpec.ofChange fnExactFormatReportWrong)

/-- 'laws.FnExactParseReport': WHATEVER THE INPUT: true; the input reads as it did. -/
def fnExactParseReportSpec : ChangeSpec := { name := "fnExactParseReport", fn := fun _ => fun
  | [d] => { results := [.lit (.bool true)], args := [d] }
  | _ => none }
def fnExactParseReportRow : OpenClaim := { program := "ytecebamhenlnoaa", sum := "b04ca292c7f88558a08ada6a51e32c3cb50ff25a0366071e33a5ee017b29e7bc", func := "loop.example/g03406/laws.FnExactParseReport", spec := "fnExactParseReport", apart := false }
def FnExactParseReportSaid : Prop := fnExactParseReportRow.holds Try.pinned (OpenSpec.ofChange fnExactParseReportSpec)

/-- ITS FALSE NEIGHBOUR: 'it returns false'. Refute it at one input. -/
def fnExactParseReportWrong : ChangeSpec := { name := "fnExactParseReport", fn := fun _ => fun
  | [d] => { results := [.lit (.bool false)], args := [d] }
  | _ => none }
def FnExactParseReportWrongFalsely : Prop := fnExactParseReportRow.holds Try.pinned (OpenSpec.ofChange fnExactParseReportWrong)

/-- 'laws.FnExactChunkSources': WHATEVER THE INPUT: true; the input reads as it did. -/
def fnExactChunkSourcesSpec : ChangeSpec := { name := "fnExactChunkSources", fn := fun _ => fun
  | [d] => { results := [.lit (.bool true)], args := [d] }
  | _ => none }
def fnExactChunkSourcesRow : OpenClaim := { program := "ytecebamhenlnoaa", sum := "b04ca292c7f88558a08ada6a51e32c3cb50ff25a0366071e33a5ee017b29e7bc", func := "loop.example/g03406/laws.FnExactChunkSources", spec := "fnExactChunkSources", apart := false }
def FnExactChunkSourcesSaid : Prop := fnExactChunkSourcesRow.holds Try.pinned (OpenSpec.ofChange fnExactChunkSourcesSpec)

/-- ITS FALSE NEIGHBOUR: 'it returns false'. Refute it at one input. -/
def fnExactChunkSourcesWrong : ChangeSpec := { name := "fnExactChunkSources", fn := fun _ => fun
  | [d] => { results := [.lit (.bool false)], args := [d] }
  | _ => none }
def FnExactChunkSourcesWrongFalsely : Prop := fnExactChunkSourcesRow.holds Try.pinned (OpenSpec.ofChange fnExactChunkSourcesWrong)

/-- 'laws.FnExactFormatModel': WHATEVER THE INPUT: true; the input reads as it did. -/
def fnExactFormatModelSpec : ChangeSpec := { name := "fnExactFormatModel", fn := fun _ => fun
  | [d1, d2] => { results := [.lit (.bool true)], args := [d1, d2] }
  | _ => none }
def fnExactFormatModelRow : OpenClaim := { program := "ytecebamhenlnoaa", sum := "b04ca292c7f88558a08ada6a51e32c3cb50ff25a0366071e33a5ee017b29e7bc", func := "loop.example/g03406/laws.FnExactFormatModel", spec := "fnExactFormatModel", apart := false }
def FnExactFormatModelSaid : Prop := fnExactFormatModelRow.holds Try.pinned (OpenSpec.ofChange fnExactFormatModelSpec)

/-- ITS FALSE NEIGHBOUR: 'it returns false'. Refute it at one input. -/
def fnExactFormatModelWrong : ChangeSpec := { name := "fnExactFormatModel", fn := fun _ => fun
  | [d1, d2] => { results := [.lit (.bool false)], args := [d1, d2] }
  | _ => none }
def FnExactFormatModelWrongFalsely : Prop := fnExactFormatModelRow.holds Try.pinned (OpenSpec.ofChange fnExactFormatModelWrong)

/-- 'laws.FnReports': WHATEVER THE INPUT: true; the input reads as it did. -/
def fnReportsSpec : ChangeSpec := { name := "fnReports", fn := fun _ => fun
  | [d] => { results := [.lit (.bool true)], args := [d] }
  | _ => none }
def fnReportsRow : OpenClaim := { program := "ytecebamhenlnoaa", sum := "b04ca292c7f88558a08ada6a51e32c3cb50ff25a0366071e33a5ee017b29e7bc", func := "loop.example/g03406/laws.FnReports", spec := "fnReports", recurses := true, apart := false }
def FnReportsSaid : Prop := fnReportsRow.holds Try.pinned (OpenSpec.ofChange fnReportsSpec)

/-- ITS FALSE NEIGHBOUR: 'it returns false'. Refute it at one input. -/
def fnReportsWrong : ChangeSpec := { name := "fnReports", fn := fun _ => fun
  | [d] => { results := [.lit (.bool false)], args := [d] }
  | _ => none }
def FnReportsWrongFalsely : Prop := fnReportsRow.holds Try.pinned (OpenSpec.ofChange fnReportsWrong)

/- THE SECOND FORM. 'bulk': how many values and letters a reading holds, each counted each time it is reached (what is shared counts as often as it is met; a slice's spare places count too). A statement '..UptoSaid' is the law's where the arguments, and the package variables that the reading takes, are together of bulk at most 1048576: NARROWER than '..Said'. Prove '..Said' where nothing that the law and all that it calls make is longer than what came in: it says more and counts as full. Else prove '..UptoSaid'. A law counts once. -/
mutual
def uptoBulk {H : Type} : DataW H → Nat
  | .lit (.string bytes) => bytes.length + 1
  | .lit _ => 1
  | .nil => 1
  | .ptr d => uptoBulk d + 1
  | .slice elems spare => uptoBulkAll elems + uptoBulkAll spare + 1
  | .agg parts => uptoBulkAll parts + 1
  | .iface _ d => uptoBulk d + 1
  | .map entries => uptoBulkEntries entries + 1
  | .held _ => 1
def uptoBulkAll {H : Type} : List (DataW H) → Nat
  | [] => 0
  | d :: r => uptoBulk d + uptoBulkAll r
def uptoBulkEntries {H : Type} : List (Lit × DataW H) → Nat
  | [] => 0
  | x :: r => uptoBulkEntry x + uptoBulkEntries r
def uptoBulkEntry {H : Type} : Lit × DataW H → Nat
  | (.string bytes, d) => bytes.length + uptoBulk d + 1
  | (_, d) => uptoBulk d + 1
 end
def uptoSmall : (H : Type) → List (DataW H) → Bool := fun _ ds => decide (uptoBulkAll ds ≤ 1048576)
def OpenSpec.upto (s : _root_.Go.ChangeSpec) : _root_.Go.OpenSpec := { _root_.Go.OpenSpec.ofChange s with cond := some uptoSmall }

/-- 'laws.FnExactIsCache', WHERE WHAT IT READS IS OF BULK AT MOST 1048576: true; the input reads as it did. -/
def fnExactIsCacheUptoRow : OpenClaim := { program := "ytecebamhenlnoaa", sum := "b04ca292c7f88558a08ada6a51e32c3cb50ff25a0366071e33a5ee017b29e7bc", func := "loop.example/g03406/laws.FnExactIsCache", spec := "fnExactIsCache", apart := false, narrowed := true }
def FnExactIsCacheUptoSaid : Prop := fnExactIsCacheUptoRow.holds Try.pinned (OpenSpec.upto fnExactIsCacheSpec)

/-- 'laws.FnCaches', WHERE WHAT IT READS IS OF BULK AT MOST 1048576: true; the input reads as it did. -/
def fnCachesUptoRow : OpenClaim := { program := "ytecebamhenlnoaa", sum := "b04ca292c7f88558a08ada6a51e32c3cb50ff25a0366071e33a5ee017b29e7bc", func := "loop.example/g03406/laws.FnCaches", spec := "fnCaches", apart := false, narrowed := true }
def FnCachesUptoSaid : Prop := fnCachesUptoRow.holds Try.pinned (OpenSpec.upto fnCachesSpec)

/-- 'laws.FnExactStoreEntry', WHERE WHAT IT READS IS OF BULK AT MOST 1048576: true; the input reads as it did. -/
def fnExactStoreEntryUptoRow : OpenClaim := { program := "ytecebamhenlnoaa", sum := "b04ca292c7f88558a08ada6a51e32c3cb50ff25a0366071e33a5ee017b29e7bc", func := "loop.example/g03406/laws.FnExactStoreEntry", spec := "fnExactStoreEntry", apart := false, narrowed := true }
def FnExactStoreEntryUptoSaid : Prop := fnExactStoreEntryUptoRow.holds Try.pinned (OpenSpec.upto fnExactStoreEntrySpec)

/-- 'laws.FnExactLookEntry', WHERE WHAT IT READS IS OF BULK AT MOST 1048576: true; the input reads as it did. -/
def fnExactLookEntryUptoRow : OpenClaim := { program := "ytecebamhenlnoaa", sum := "b04ca292c7f88558a08ada6a51e32c3cb50ff25a0366071e33a5ee017b29e7bc", func := "loop.example/g03406/laws.FnExactLookEntry", spec := "fnExactLookEntry", apart := false, narrowed := true }
def FnExactLookEntryUptoSaid : Prop := fnExactLookEntryUptoRow.holds Try.pinned (OpenSpec.upto fnExactLookEntrySpec)

/-- 'laws.FnExactIsReport', WHERE WHAT IT READS IS OF BULK AT MOST 1048576: true; the input reads as it did. -/
def fnExactIsReportUptoRow : OpenClaim := { program := "ytecebamhenlnoaa", sum := "b04ca292c7f88558a08ada6a51e32c3cb50ff25a0366071e33a5ee017b29e7bc", func := "loop.example/g03406/laws.FnExactIsReport", spec := "fnExactIsReport", apart := false, narrowed := true }
def FnExactIsReportUptoSaid : Prop := fnExactIsReportUptoRow.holds Try.pinned (OpenSpec.upto fnExactIsReportSpec)

/-- 'laws.FnExactFormatReport', WHERE WHAT IT READS IS OF BULK AT MOST 1048576: true; the input reads as it did. -/
def fnExactFormatReportUptoRow : OpenClaim := { program := "ytecebamhenlnoaa", sum := "b04ca292c7f88558a08ada6a51e32c3cb50ff25a0366071e33a5ee017b29e7bc", func := "loop.example/g03406/laws.FnExactFormatReport", spec := "fnExactFormatReport", apart := false, narrowed := true }
def FnExactFormatReportUptoSaid : Prop := fnExactFormatReportUptoRow.holds Try.pinned (OpenSpec.upto fnExactFormatReportSpec)

/-- 'laws.FnExactParseReport', WHERE WHAT IT READS IS OF BULK AT MOST 1048576: true; the input reads as it did. -/
def fnExactParseReportUptoRow : OpenClaim := { program := "ytecebamhenlnoaa", sum := "b04ca292c7f88558a08ada6a51e32c3cb50ff25a0366071e33a5ee017b29e7bc", func := "loop.example/g03406/laws.FnExactParseReport", spec := "fnExactParseReport", apart := false, narrowed := true }
def FnExactParseReportUptoSaid : Prop := fnExactParseReportUptoRow.holds Try.pinned (OpenSpec.upto fnExactParseReportSpec)

/-- 'laws.FnExactChunkSources', WHERE WHAT IT READS IS OF BULK AT MOST 1048576: true; the input reads as it did. -/
def fnExactChunkSourcesUptoRow : OpenClaim := { program := "ytecebamhenlnoaa", sum := "b04ca292c7f88558a08ada6a51e32c3cb50ff25a0366071e33a5ee017b29e7bc", func := "loop.example/g03406/laws.FnExactChunkSources", spec := "fnExactChunkSources", apart := false, narrowed := true }
def FnExactChunkSourcesUptoSaid : Prop := fnExactChunkSourcesUptoRow.holds Try.pinned (OpenSpec.upto fnExactChunkSourcesSpec)

/-- 'laws.FnExactFormatModel', WHERE WHAT IT READS IS OF BULK AT MOST 1048576: true; the input reads as it did. -/
def fnExactFormatModelUptoRow : OpenClaim := { program := "ytecebamhenlnoaa", sum := "b04ca292c7f88558a08ada6a51e32c3cb50ff25a0366071e33a5ee017b29e7bc", func := "loop.example/g03406/laws.FnExactFormatModel", spec := "fnExactFormatModel", apart := false, narrowed := true }
def FnExactFormatModelUptoSaid : Prop := fnExactFormatModelUptoRow.holds Try.pinned (OpenSpec.upto fnExactFormatModelSpec)

/-- 'laws.FnReports', WHERE WHAT IT READS IS OF BULK AT MOST 1048576: true; the input reads as it did. -/
def fnReportsUptoRow : OpenClaim := { program := "ytecebamhenlnoaa", sum := "b04ca292c7f88558a08ada6a51e32c3cb50ff25a0366071e33a5ee017b29e7bc", func := "loop.example/g03406/laws.FnReports", spec := "fnReports", recurses := true, apart := false, narrowed := true }
def FnReportsUptoSaid : Prop := fnReportsUptoRow.holds Try.pinned (OpenSpec.upto fnReportsSpec)

end Rows
end Go.Proofs.Ytecebamhenlnoaa

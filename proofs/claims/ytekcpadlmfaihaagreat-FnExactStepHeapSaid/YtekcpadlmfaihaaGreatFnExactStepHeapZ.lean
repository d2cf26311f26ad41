/- Every call of the law FnExactStepHeap returns true and leaves its arguments as they were. No conditions. -/
import Derived.Test.YtekcpadlmfaihaaGreatZQh
namespace Go.Proofs.YtekcpadlmfaihaaGreat.fnExactStepHeap
open Go.ChangeShapes Go.WideShapes Go.ChangeAt Go.RowKit Go.Deep
open Go.ChangeMaps (open_string shut_string)
set_option linter.unusedVariables false
set_option maxRecDepth 100000 in
theorem lifted (os : Os) (LJ : os.Started) (H : Type) (enc : TypeId × Value → H) :
    ReturnsInHanded {} Tryz.checked os 6 .any (Rows.fnExactStepHeapSpec.pre6 enc Tryz.prog Tryz.f6 Rows.fnExactStepHeapRow.domain false) (Rows.fnExactStepHeapSpec.post enc Tryz.prog Tryz.f6 false true false false) := by
  refine returnsInHanded_of_change (C := Tryz.checked) aeN LJ (by kernel_rfl) Tryz.func6
    (ChangeSpec.witness6 (enc := enc) (C := Tryz.checked) false ⟨#[], #[.agg #[.slice none 0 0, .slice none 0 0, .slice none 0 0, .int .i64 0], .agg #[.int .i64 0, .string ⟨#[]⟩, .string ⟨#[]⟩, .int .i64 0, .int .i64 0, .slice none 0 0, .slice none 0 0, .slice none 0 0, .slice none 0 0, .slice none 0 0, .int .i64 0, .int .i64 0]], []⟩ 8 (by kernel_rfl) (by kernel_rfl) (by kernel_rfl) (by kernel_rfl)) ?_
  intro W base args ds gs agn ZI hW hcnd _
  have abz : ∀ (j : Nat) t v, Tryz.f6.params[j]? = some t → args[j]? = some v → Value.okWide Tryz.prog W .any base t v := ZI
  have hW' := hW
  obtain ⟨p, q, hA0, hV, rfl, hfz, sM⟩ := hW
  have hA : DataW.TrodAll enc Tryz.prog W 0 (fun _ => true) true Tryz.f6.params.toList args.toList ds p := hA0
  rw [Tryz.params6] at hA abz
  obtain ⟨v0, vs0, d0, ds0, p0, q0, ajr, rfl, rfl, h0, r0⟩ := trodAll_cons hA
  obtain ⟨v1, vs1, d1, ds1, p1, q1, rfl, rfl, rfl, h1, r1⟩ := trodAll_cons r0
  obtain ⟨rfl, rfl, rfl⟩ := trodAll_nil r1
  obtain rfl : args = #[v0, v1] := by cases args; simp_all
  obtain ⟨rfl, rfl⟩ := trodVars_none hV
  have hT0 := h0
  obtain ⟨cs0, rfl, hsz0⟩ := okWide_struct Tryz.underlying59 (abz 0 59 v0 rfl rfl)
  obtain ⟨fu0, hf0⟩ := h0
  obtain ⟨D0, aed, aeh⟩ := JW (S := [59, 57, 150, 3, 63, 60, 176, 9, 61, 25, 26]) (by kernel_rfl) fu0 59 _ _ (by rfl) hf0
  obtain ⟨x0, k0, ahb, QS⟩ := PU aeh rfl aed
  obtain rfl : cs0 = _ := by have := cU List.toArray ahb; simpa [Value.cells] using this
  have lt0 : ∀ x ∈ p0, x.block < W.heap.size := DataW.trod_lt fu0 _ _ _ hf0
  have hT1 := h1
  obtain ⟨cs1, rfl, hsz1⟩ := okWide_struct Tryz.underlying65 (abz 1 65 v1 rfl rfl)
  obtain ⟨fu1, hf1⟩ := h1
  obtain ⟨D1, aee, aei⟩ := JW (S := [65, 3, 9, 63, 60, 176, 61, 25]) (by kernel_rfl) fu1 65 _ _ (by rfl) hf1
  obtain ⟨x1, k1, ahc, WE⟩ := SR aei rfl aee
  obtain rfl : cs1 = _ := by have := cU List.toArray ahc; simpa [Value.cells] using this
  have lt1 : ∀ x ∈ p1, x.block < W.heap.size := DataW.trod_lt fu1 _ _ _ hf1
  clear hA0 ZI
  refine (vd x0 k0 x1 k1 W QS WE).mono fun e W' ⟨he, bel⟩ => ?_
  subst he
  exact ⟨_, rfl, _, _, _, [], _, [], hW', trodAll_mk1 (shut_bool Tryz.underlying4 _), (trodAll_cons_mk (Below.trod Q1 (by kernel_rfl) (cD (by kernel_rfl)) hT0 bel lt0) (trodAll_cons_mk (Below.trod Q1 (by kernel_rfl) (cD (by kernel_rfl)) hT1 bel lt1) trodAll_mk0)), rfl, bel.frame _, fun h => by cases h⟩
theorem over : Rows.fnExactStepHeapRow.holds Tryz.pinned (OpenSpec.ofChange Rows.fnExactStepHeapSpec) :=
  OpenClaim.holds_of_wide 6 Tryz.f6 rfl rfl rfl rfl rfl rfl rfl ⟨rfl, rfl, rfl, rfl, rfl⟩ rfl rfl rfl rfl rfl (by kernel_rfl) Tryz.func6 (by kernel_rfl)
    (cD (by kernel_rfl)) (by unfold Func.isWrapper; first | (rw [aN (by decide +kernel)]; kernel_rfl) | (rw [aH (by decide +kernel)]; exact ⟨rfl, rfl⟩))
    (fun os LJ H enc _ => lifted os LJ H enc)
theorem proved : Rows.FnExactStepHeapSaid := over
end Go.Proofs.YtekcpadlmfaihaaGreat.fnExactStepHeap

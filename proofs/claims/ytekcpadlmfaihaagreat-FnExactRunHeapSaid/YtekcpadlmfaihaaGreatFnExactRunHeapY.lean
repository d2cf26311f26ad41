/- Every call of the law FnExactRunHeap returns true and leaves its arguments as they were. No conditions. -/
import Derived.Test.YtekcpadlmfaihaaGreatYPQf
namespace Go.Proofs.YtekcpadlmfaihaaGreat.fnExactRunHeap
open Go.ChangeShapes Go.WideShapes Go.ChangeAt Go.RowKit Go.Deep
open Go.ChangeMaps (open_string shut_string)
set_option linter.unusedVariables false
set_option maxRecDepth 100000 in
theorem lifted (os : Os) (LJ : os.Started) (H : Type) (enc : TypeId × Value → H) :
    ReturnsInHanded {} Tryz.checked os 5 .any (Rows.fnExactRunHeapSpec.pre6 enc Tryz.prog Tryz.f5 Rows.fnExactRunHeapRow.domain false) (Rows.fnExactRunHeapSpec.post enc Tryz.prog Tryz.f5 false true false false) := by
  refine returnsInHanded_of_change (C := Tryz.checked) aeN LJ (by kernel_rfl) Tryz.func5
    (ChangeSpec.witness6 (enc := enc) (C := Tryz.checked) false ⟨#[], #[.slice none 0 0], []⟩ 8 (by kernel_rfl) (by kernel_rfl) (by kernel_rfl) (by kernel_rfl)) ?_
  intro W base args ds gs agn ZI hW hcnd _
  have abz : ∀ (j : Nat) t v, Tryz.f5.params[j]? = some t → args[j]? = some v → Value.okWide Tryz.prog W .any base t v := ZI
  have hW' := hW
  obtain ⟨p, q, hA0, hV, rfl, hfz, sM⟩ := hW
  have hA : DataW.TrodAll enc Tryz.prog W 0 (fun _ => true) true Tryz.f5.params.toList args.toList ds p := hA0
  rw [Tryz.params5] at hA abz
  obtain ⟨v0, vs0, d0, ds0, p0, q0, ajr, rfl, rfl, h0, r0⟩ := trodAll_cons hA
  obtain ⟨rfl, rfl, rfl⟩ := trodAll_nil r0
  obtain rfl : args = #[v0] := by cases args; simp_all
  obtain ⟨rfl, rfl⟩ := trodVars_none hV
  have hT0 := h0
  obtain ⟨a0, afs, aes, rfl⟩ := okWide_slice Tryz.underlying49 (abz 0 49 v0 rfl rfl)
  obtain ⟨fu0, hf0⟩ := h0
  obtain ⟨D0, aed, aeh⟩ := JW (S := [49, 65, 3, 9, 63, 60, 176, 61, 25]) (by kernel_rfl) fu0 49 _ _ (by rfl) hf0
  obtain ⟨l0, k0, ahb, QS⟩ := aaZ aeh rfl aed
  have lt0 : ∀ x ∈ p0, x.block < W.heap.size := DataW.trod_lt fu0 _ _ _ hf0
  clear hA0 ZI
  refine (P5 l0 a0 afs aes W (by have e : [Value.slice a0 afs aes] = k0 := ahb; rw [e]; exact QS)).mono fun e W' ⟨he, bel⟩ => ?_
  subst he
  exact ⟨_, rfl, _, _, _, [], _, [], hW', trodAll_mk1 (shut_bool Tryz.underlying4 _), (trodAll_cons_mk (Below.trod Q1 (by kernel_rfl) (cD (by kernel_rfl)) hT0 bel lt0) trodAll_mk0), rfl, bel.frame _, fun h => by cases h⟩
theorem over : Rows.fnExactRunHeapRow.holds Tryz.pinned (OpenSpec.ofChange Rows.fnExactRunHeapSpec) :=
  OpenClaim.holds_of_wide 5 Tryz.f5 rfl rfl rfl rfl rfl rfl rfl ⟨rfl, rfl, rfl, rfl, rfl⟩ rfl rfl rfl rfl rfl (by kernel_rfl) Tryz.func5 (by kernel_rfl)
    (cD (by kernel_rfl)) (by unfold Func.isWrapper; first | (rw [aN (by decide +kernel)]; kernel_rfl) | (rw [aH (by decide +kernel)]; exact ⟨rfl, rfl⟩))
    (fun os LJ H enc _ => lifted os LJ H enc)
theorem proved : Rows.FnExactRunHeapSaid := over
end Go.Proofs.YtekcpadlmfaihaaGreat.fnExactRunHeap

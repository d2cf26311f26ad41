/- Every call of the law FnHeapCopies returns true and leaves its arguments as they were. No conditions. -/
import Derived.Test.YtekcpadlmfaihaaGreatVQr
import Derived.Test.YtekcpadlmfaihaaGreatVQe
namespace Go.Proofs.YtekcpadlmfaihaaGreat.fnHeapCopies
open Go.ChangeShapes Go.WideShapes Go.ChangeAt Go.RowKit Go.Deep
open Go.ChangeMaps (open_string shut_string)
set_option linter.unusedVariables false
set_option maxRecDepth 100000 in
theorem lifted (os : Os) (LJ : os.Started) (H : Type) (enc : TypeId × Value → H) :
    ReturnsInHanded {} Tryz.checked os 4 .any (Rows.fnHeapCopiesSpec.pre6 enc Tryz.prog Tryz.f4 Rows.fnHeapCopiesRow.domain false) (Rows.fnHeapCopiesSpec.post enc Tryz.prog Tryz.f4 false true false false) := by
  refine returnsInHanded_of_change (C := Tryz.checked) aeN LJ (by kernel_rfl) Tryz.func4
    (ChangeSpec.witness6 (enc := enc) (C := Tryz.checked) false ⟨#[], #[.slice none 0 0], []⟩ 8 (by kernel_rfl) (by kernel_rfl) (by kernel_rfl) (by kernel_rfl)) ?_
  intro W base args ds gs agn ZI hW hcnd _
  have abz : ∀ (j : Nat) t v, Tryz.f4.params[j]? = some t → args[j]? = some v → Value.okWide Tryz.prog W .any base t v := ZI
  have hW' := hW
  obtain ⟨p, q, hA0, hV, rfl, hfz, sM⟩ := hW
  have hA : DataW.TrodAll enc Tryz.prog W 0 (fun _ => true) true Tryz.f4.params.toList args.toList ds p := hA0
  rw [Tryz.params4] at hA abz
  obtain ⟨v0, vs0, d0, ds0, p0, q0, ajr, rfl, rfl, h0, r0⟩ := trodAll_cons hA
  obtain ⟨rfl, rfl, rfl⟩ := trodAll_nil r0
  obtain rfl : args = #[v0] := by cases args; simp_all
  obtain ⟨rfl, rfl⟩ := trodVars_none hV
  obtain ⟨a0, afs, aes, rfl⟩ := okWide_slice Tryz.underlying22 (abz 0 22 v0 rfl rfl)
  obtain ⟨l0, QS, WC⟩ := abB Tryz.underlying22 Tryz.underlying5 (by kernel_rfl) h0
  have lt0 : ∀ x ∈ p0, x.block < W.heap.size := by obtain ⟨m, hm⟩ := h0; exact DataW.trod_lt m _ _ _ hm
  clear hA0 ZI
  refine (acH a0 afs aes l0 W QS WC).mono fun e W' ⟨he, bel⟩ => ?_
  subst he
  exact ⟨_, rfl, _, _, _, [], _, [], hW', trodAll_mk1 (shut_bool Tryz.underlying4 _), (trodAll_cons_mk (Below.trod Q1 (by kernel_rfl) (cD (by kernel_rfl)) h0 bel lt0) trodAll_mk0), rfl, bel.frame _, fun h => by cases h⟩
theorem over : Rows.fnHeapCopiesRow.holds Tryz.pinned (OpenSpec.ofChange Rows.fnHeapCopiesSpec) :=
  OpenClaim.holds_of_wide 4 Tryz.f4 rfl rfl rfl rfl rfl rfl rfl ⟨rfl, rfl, rfl, rfl, rfl⟩ rfl rfl rfl rfl rfl (by kernel_rfl) Tryz.func4 (by kernel_rfl)
    (cD (by kernel_rfl)) (by unfold Func.isWrapper; first | (rw [aN (by decide +kernel)]; kernel_rfl) | (rw [aH (by decide +kernel)]; exact ⟨rfl, rfl⟩))
    (fun os LJ H enc _ => lifted os LJ H enc)
theorem proved : Rows.FnHeapCopiesSaid := over
end Go.Proofs.YtekcpadlmfaihaaGreat.fnHeapCopies

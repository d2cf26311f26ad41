/- Every call of the law FnExactReadHeap returns true and leaves its arguments as they were. No conditions. -/
import Derived.Test.YtekcpadlmfaihaaFnExactReadHeapJaa
import Derived.Test.YtekcpadlmfaihaaJU
namespace Go.Proofs.Ytekcpadlmfaihaa.fnExactReadHeap
open Go.ChangeShapes Go.WideShapes Go.ChangeAt Go.RowKit Go.Deep
open Go.ChangeMaps (open_string shut_string)
set_option linter.unusedVariables false
set_option maxRecDepth 100000 in
theorem lifted (os : Os) (started : os.Started) (H : Type) (enc : TypeId × Value → H) :
    ReturnsInHanded {} Try.checked os 6 .any (Rows.fnExactReadHeapSpec.pre6 enc Try.prog Try.f6 Rows.fnExactReadHeapRow.domain false) (Rows.fnExactReadHeapSpec.post enc Try.prog Try.f6 false true false false) := by
  refine returnsInHanded_of_change (C := Try.checked) ownKn started (by kernel_rfl) Try.func6
    (ChangeSpec.witness6 (enc := enc) (C := Try.checked) false ⟨#[], #[.agg #[.slice none 0 0, .slice none 0 0, .slice none 0 0, .int .i64 0], .string ⟨#[]⟩], []⟩ 8 (by kernel_rfl) (by kernel_rfl) (by kernel_rfl) (by kernel_rfl)) ?_
  intro W base args ds gs before hval0 hW hcnd _
  have hval : ∀ (j : Nat) t v, Try.f6.params[j]? = some t → args[j]? = some v → Value.okWide Try.prog W .any base t v := hval0
  have hW' := hW
  obtain ⟨p, q, hA0, hV, rfl, hfz, hnd⟩ := hW
  have hA : DataW.TrodAll enc Try.prog W 0 (fun _ => true) true Try.f6.params.toList args.toList ds p := hA0
  rw [Try.params6] at hA hval
  obtain ⟨v0, vs0, d0, ds0, p0, q0, hargs, rfl, rfl, h0, r0⟩ := trodAll_cons hA
  obtain ⟨v1, vs1, d1, ds1, p1, q1, rfl, rfl, rfl, h1, r1⟩ := trodAll_cons r0
  obtain ⟨rfl, rfl, rfl⟩ := trodAll_nil r1
  obtain rfl : args = #[v0, v1] := by cases args; simp_all
  obtain ⟨rfl, rfl⟩ := trodVars_none hV
  have hT0 := h0
  obtain ⟨cs0, rfl, hsz0⟩ := okWide_struct Try.underlying43 (hval 0 43 v0 rfl rfl)
  obtain ⟨fu0, hf0⟩ := h0
  obtain ⟨D0, hrep0, hshp0⟩ := open_data (S := [43, 40, 98, 3, 26, 22, 107, 9, 23, 24, 41]) (by kernel_rfl) fu0 43 _ _ (by rfl) hf0
  obtain ⟨x0, k0, hcs0, hr0⟩ := open_heap hshp0 rfl hrep0
  obtain rfl : cs0 = _ := by have := congrArg List.toArray hcs0; simpa [Value.cells] using this
  have lt0 : ∀ x ∈ p0, x.block < W.heap.size := DataW.trod_lt fu0 _ _ _ hf0
  obtain ⟨b1, rfl, rfl, rfl, hs1⟩ := open_string Try.underlying9 (hval 1 9 v1 rfl rfl) h1
  obtain ⟨s1, hb1⟩ := str_eta b1
  have hn1 : s1.length ≤ maxLen := by rw [hb1] at hs1; exact hs1
  subst hb1
  clear hA0 hval0
  refine (fnExactReadHeap_walk x0 k0 s1 W hr0 hn1).mono fun e W' ⟨he, bel⟩ => ?_
  subst he
  exact ⟨_, rfl, _, _, _, [], _, [], hW', trodAll_mk1 (shut_bool Try.underlying4 _), (trodAll_cons_mk (Below.trod laidOut (by kernel_rfl) (of_decide_eq_true (by kernel_rfl)) hT0 bel lt0) (trodAll_cons_mk (shut_string Try.underlying9 hs1) trodAll_mk0)), rfl, bel.frame _, fun h => by cases h⟩
theorem over : Rows.fnExactReadHeapRow.holds Try.pinned (OpenSpec.ofChange Rows.fnExactReadHeapSpec) :=
  OpenClaim.holds_of_wide 6 Try.f6 rfl rfl rfl rfl rfl rfl rfl ⟨rfl, rfl, rfl, rfl, rfl⟩ rfl rfl rfl rfl rfl (by kernel_rfl) Try.func6 (by kernel_rfl)
    (of_decide_eq_true (by kernel_rfl)) (by unfold Func.isWrapper; first | (rw [if_pos (by decide +kernel)]; kernel_rfl) | (rw [if_neg (by decide +kernel)]; exact ⟨rfl, rfl⟩))
    (fun os started H enc _ => lifted os started H enc)
theorem proved : Rows.FnExactReadHeapSaid := over
end Go.Proofs.Ytekcpadlmfaihaa.fnExactReadHeap

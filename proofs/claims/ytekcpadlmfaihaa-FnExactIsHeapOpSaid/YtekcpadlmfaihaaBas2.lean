/- More words for memory: a store into a row of the call's own. -/
import Derived.Test.YtekcpadlmfaihaaBase
namespace Go.Proofs.Ytekcpadlmfaihaa
open Go.RowKit
theorem flat_set {α : Type} {enc : α → List Value} {s : Nat} (hs : ∀ x, (enc x).length = s) (l : List α) (k j : Nat) (x x' : α) (u : Value) (h : l[k]? = some x) (hj : j < s) (he : enc x' = (enc x).set j u) : (l.flatMap enc).set (k * s + j) u = (l.set k x').flatMap enc := by
  induction l generalizing k with
  | nil => simp at h
  | cons a t ih =>
    cases k with
    | zero =>
      simp at h; subst h
      rw [List.flatMap_cons, List.set_cons_zero, List.flatMap_cons, he, Nat.zero_mul, Nat.zero_add, List.set_append_left _ _ (by rw [hs]; exact hj)]
    | succ k =>
      simp at h
      have e1 : (k + 1) * s + j = (enc a).length + (k * s + j) := by rw [hs, Nat.succ_mul]; omega
      rw [List.flatMap_cons, List.set_cons_succ, List.flatMap_cons, e1, List.set_append_right _ _ (by omega), Nat.add_sub_cancel_left, ih k h]
theorem Own.set_ {α : Type} {enc : α → List Value} {s : Nat} (hs : ∀ x, (enc x).length = s) {e : TypeId} {w : World} {base n c g : Nat} {l : List α} (h : Own enc s e w base (some ⟨g, 0, none⟩) n c l) (k j : Nat) (x x' : α) (u : Value) (hx : l[k]? = some x) (hj : j < s) (he : enc x' = (enc x).set j u) :
    Own enc s e (w.setCell ⟨g, k * s + j, none⟩ u) base (some ⟨g, 0, none⟩) n c (l.set k x') := by
  have hk : k < l.length := (List.getElem?_eq_some_iff.1 hx).1
  refine ⟨by simpa using h.1, by rw [flat_length hs]; simp [h.1], ?_⟩
  rcases h.2.2 with ⟨h0, h1⟩ | ⟨g', cap, cur, h0, hg, hh, hc, hm, hz, ht⟩
  · cases h0
  · injection h0 with h0 _ h3; injection h0 with h0; injection h0 with h0; subst h0 h3
    refine .inr ⟨g, c, cur.setIfInBounds (k * s + j) u, rfl, hg, ?_, hc, hm, by simpa using hz, ?_⟩
    · simp [World.setCell, Array.getElem?_modify, hh]
    · have hlt : k * s + j < n * s := by
        have h4 := h.1
        have h5 : k + 1 ≤ n := by omega
        have h6 := Nat.mul_le_mul_right s h5
        rw [Nat.succ_mul] at h6
        omega
      rw [Array.toList_setIfInBounds, List.take_set, ht, flat_set hs l k j x x' u hx hj he]
end Go.Proofs.Ytekcpadlmfaihaa

/- Opening arguments: a slice of structs that came in reads as a list. No conditions. -/
import Derived.Test.YtekcpadlmfaihaaBase
import Derived.ProofKit
import Derived.OpenShut
import Derived.ShutString
import Derived.ChangeOld
import Derived.Deep.Slices
import Derived.Deep.Fields
import Derived.ChangeSame
namespace Go.Proofs.Ytekcpadlmfaihaa
open Go.ChangeShapes Go.WideShapes Go.Deep Go.RowKit
theorem ownKn : ownKnob Try.prog.godebug = none := by kernel_rfl
theorem laidOut : laidOutB Try.prog = true := by kernel_rfl
section
variable {H : Type} {enc : TypeId × Value → H} {P : Program} {w : World} {base : Nat} {spare : Nat → Bool} {held : Bool}
theorem open_slice_fields {t e : TypeId} {fs : Array Field} {fuel : Nat} {cs : List Value} {x : DataW H × List MemPlace} (ht : P.underlying t = some (.slice e)) (he : P.underlying e = some (.struct fs))
    (hone : oneCellFields P fs = true) (hC : P.cellsOf e = fs.size) (h : DataW.trod enc P w base spare held fuel t cs = some x) :
    (cs = [.slice none 0 0] ∧ x = (.nil, [])) ∨
    ∃ (a : Addr) (len cap m : Nat) (D : Nat → DataW H) (Pl : Nat → List MemPlace), cs = [.slice (some a) len cap] ∧ base ≤ a.block ∧ len ≤ cap ∧ cap ≤ maxLen ∧ m = (if spare a.block then cap else len) ∧
      x = (.slice ((List.range len).map D) ((List.range (m - len)).map fun j => D (len + j)), MemPlace.row a (m * fs.size) ++ (List.range m).flatMap Pl) ∧
      ∀ i, i < m → ∃ (ys : List (DataW H × List MemPlace)) (n : Nat), D i = .agg (ys.map (·.1)) ∧ Pl i = ys.flatMap (·.2) ∧ ys.length = fs.size ∧
        ∀ (j : Nat) (f : Field), fs[j]? = some f → ∃ (v : Value) (y : DataW H × List MemPlace), w.cell? (a.add (i * fs.size + j)) = some v ∧ ys[j]? = some y ∧ DataW.trod enc P w base spare held n f.type [v] = some y := by
  rcases open_slice ht h with h0 | ⟨a, len, cap, m, n, D, Pl, hcs, hb, hl, hm, hmm, hx, hi⟩
  · exact .inl h0
  · refine .inr ⟨a, len, cap, m, D, Pl, hcs, hb, hl, hm, hmm, by rw [hC] at hx; exact hx, fun i him => ?_⟩
    obtain ⟨cs', hc, ht'⟩ := hi i him
    rw [hC] at hc
    obtain ⟨ys, n', hn', hy, hlen, hyl, hf⟩ := DataW.trod_struct he ht'
    obtain ⟨_, hcl, hat⟩ := World.cells?_some hc
    simp only [Prod.mk.injEq] at hy
    refine ⟨ys, n', hy.1, hy.2, hyl, fun j f hj => ?_⟩
    obtain ⟨ho, hk⟩ := hone_of hone j f hj
    have hjl : j < fs.size := (Array.getElem?_eq_some_iff.1 hj).1
    have hcell := hat j hjl
    have hv : cs'[j]? = some (cs'[j]'(by omega)) := List.getElem?_eq_getElem (by omega)
    have h1 := hf j f hj
    rw [ho, hk] at h1
    have hone' : (cs'.drop j).take 1 = [cs'[j]'(by omega)] := by
      rw [List.drop_eq_getElem_cons (by omega)]
      rfl
    rw [hone'] at h1
    have hys : ys[j]? = some (ys[j]'(by omega)) := List.getElem?_eq_getElem (by omega)
    refine ⟨_, _, ?_, hys, h1.trans hys⟩
    rw [← Go.Deep.add_add, hcell, hv]

/-- The address of a slice whose cells are there is a plain one. -/
theorem addr_plain {w : World} {a : Addr} {u : Value} (h : w.cell? (a.add 0) = some u) : ∃ b off, a = ⟨b, off, none⟩ ∧ b < w.heap.size := by
  have h0 : w.cell? a = some u := by simpa [Addr.add] using h
  obtain ⟨b, off, spot⟩ := a
  have := World.cell?_spot h0
  simp at this; subst this
  exact ⟨b, off, rfl, World.block_lt_of_cell? w _ h0⟩
theorem add_plain (b off n : Nat) : (⟨b, off, none⟩ : Addr).add n = ⟨b, off + n, none⟩ := by
  unfold Addr.add; by_cases h : n = 0 <;> simp [h]

/-- A slice of structs of two strings. -/
theorem open_pairs {t e s0 s1 : TypeId} {f0 f1 : Field} {A : Option Addr} {len cap : Nat} {d : DataW H} {p : List MemPlace} (ht : P.underlying t = some (.slice e)) (he : P.underlying e = some (.struct #[f0, f1]))
    (hone : oneCellFields P #[f0, f1] = true) (hC : P.cellsOf e = 2) (e0 : f0.type = s0) (e1 : f1.type = s1) (h0 : P.underlying s0 = some .string) (h1 : P.underlying s1 = some .string)
    (h : DataW.Trod enc P w base spare held t (.slice A len cap) d p) :
    ∃ l : List Pair, Reads enc2 2 w w.heap.size A len l ∧ (∀ e ∈ l, e.1.length ≤ maxLen ∧ e.2.length ≤ maxLen) ∧ len ≤ maxLen := by
  obtain ⟨fuel, hf⟩ := h
  rcases open_slice_fields ht he hone hC hf with ⟨hcs, _⟩ | ⟨a, len', cap', m, D, Pl, hcs, _, hl, hm, hmm, _, hi⟩
  · simp [Value.cells] at hcs
    obtain ⟨rfl, rfl, rfl⟩ := hcs
    exact ⟨[], Reads.nil_, by simp, by unfold maxLen; omega⟩
  · simp [Value.cells] at hcs
    obtain ⟨rfl, rfl, rfl⟩ := hcs
    have hlm : len ≤ m := by rw [hmm]; split <;> omega
    have hel : ∀ i, i < len → ∃ x y : Str, w.cell? (a.add (i * 2)) = some (sv x) ∧ w.cell? (a.add (i * 2 + 1)) = some (sv y) ∧ x.length ≤ maxLen ∧ y.length ≤ maxLen := by
      intro i hi'
      obtain ⟨ys, n, _, _, _, hfi⟩ := hi i (by omega)
      obtain ⟨v0, y0, hc0, _, ht0⟩ := hfi 0 f0 rfl
      obtain ⟨v1, y1, hc1, _, ht1⟩ := hfi 1 f1 rfl
      rw [e0] at ht0
      rw [e1] at ht1
      obtain ⟨x0, hx0, _, hs0⟩ := DataW.trod_string h0 ht0
      obtain ⟨x1, hx1, _, hs1⟩ := DataW.trod_string h1 ht1
      simp at hx0 hx1
      subst hx0 hx1
      obtain ⟨z0, rfl⟩ := str_eta x0
      obtain ⟨z1, rfl⟩ := str_eta x1
      exact ⟨z0, z1, hc0, hc1, hs0, hs1⟩
    have hch : ∃ f : Nat → Pair, ∀ i, i < len → w.cell? (a.add (i * 2)) = some (sv (f i).1) ∧ w.cell? (a.add (i * 2 + 1)) = some (sv (f i).2) ∧ (f i).1.length ≤ maxLen ∧ (f i).2.length ≤ maxLen := by
      refine ⟨fun i => if h : i < len then (Classical.choose (hel i h), Classical.choose (Classical.choose_spec (hel i h))) else ([], []), fun i hi' => ?_⟩
      simp only [hi', dif_pos]
      exact Classical.choose_spec (Classical.choose_spec (hel i hi'))
    obtain ⟨f, hfp⟩ := hch
    refine ⟨(List.range len).map f, ⟨by simp, fun hn => ?_⟩, ?_, by omega⟩
    · have h00 := (hfp 0 hn).1
      rw [Nat.zero_mul] at h00
      obtain ⟨b, off, rfl, hb⟩ := addr_plain h00
      refine ⟨b, off, rfl, hb, fun k x j u hx hu => ?_⟩
      have hk : k < len := by have := (List.getElem?_eq_some_iff.1 hx).1; simpa using this
      have hxk : x = f k := by simp [List.getElem?_map, List.getElem?_range hk] at hx; exact hx.symm
      subst hxk
      have := hfp k hk
      match j, hu with
      | 0, hu => simp [enc2] at hu; subst hu; rw [add_plain] at this; exact this.1
      | 1, hu => simp [enc2] at hu; subst hu; have h2 := this.2.1; rw [add_plain] at h2; exact h2
      | j + 2, hu => simp [enc2] at hu
    · intro e he'
      simp at he'
      obtain ⟨i, hi', rfl⟩ := he'
      exact (hfp i hi').2.2
end
end Go.Proofs.Ytekcpadlmfaihaa

/- Opening arguments: a slice of bytes that came in. No conditions. -/
import Derived.Test.YtecebamhenlnoaaOpen
import Derived.Test.YtecebamhenlnoaaDraw
namespace Go.Proofs.Ytecebamhenlnoaa
open Go.ChangeShapes Go.WideShapes Go.Deep Go.RowKit
theorem u8_of_wf {z : Int} (h : (Lit.int .u8 z).wf = true) : z = ((UInt8.ofNat z.toNat).toNat : Int) := by
  have hx : 0 ≤ z ∧ z ≤ 255 := by simpa [Lit.wf, IntKind.min, IntKind.max, IntKind.signed, IntKind.bits] using h
  rw [UInt8.toNat_ofNat_of_lt' (by show z.toNat < 256; omega)]; omega
theorem open_bytes {H : Type} {enc : TypeId × Value → H} {P : Program} {w : World} {base : Nat} {spare : Nat → Bool} {held : Bool} {t e : TypeId} {A : Option Addr} {len cap : Nat} {d : DataW H} {p : List MemPlace} (ht : P.underlying t = some (.slice e)) (he : P.underlying e = some (.int .u8)) (hC : P.cellsOf e = 1)
    (h : DataW.Trod enc P w base spare held t (.slice A len cap) d p) : ∃ l : List UInt8, Reads encB 1 w w.heap.size A len l ∧ len ≤ maxLen := by
  obtain ⟨fuel, hf⟩ := h
  rcases open_ints ht he hC hf with ⟨hcs, _⟩ | ⟨a, len', cap', zs, hcs, _, hl, hm, hz, _, hcell, hwz⟩
  · simp [Value.cells] at hcs
    obtain ⟨rfl, rfl, rfl⟩ := hcs
    exact ⟨[], Reads.nil_, by unfold maxLen; omega⟩
  · simp [Value.cells] at hcs
    obtain ⟨rfl, rfl, rfl⟩ := hcs
    have hlz : len ≤ zs.length := by rw [hz]; split <;> omega
    refine ⟨(zs.take len).map fun z => UInt8.ofNat z.toNat, ⟨by simp; omega, fun hn => ?_⟩, by omega⟩
    obtain ⟨b, off, rfl, hb⟩ := addr_plain (hcell 0 (by omega))
    refine ⟨b, off, rfl, hb, fun k x j u hx hu => ?_⟩
    have hk : k < len := by have := (List.getElem?_eq_some_iff.1 hx).1; simp at this; omega
    match j, hu with
    | j + 1, hu => simp [encB] at hu
    | 0, hu =>
      simp [encB] at hu
      subst hu
      have hc := hcell k (by omega)
      rw [add_plain] at hc
      rw [Nat.mul_one, Nat.add_zero, hc]
      have hzk : zs[k]? = some zs[k] := List.getElem?_eq_getElem (by omega)
      rw [List.getElem?_map, List.getElem?_take, if_pos hk, hzk] at hx
      simp at hx
      subst hx
      rw [List.getD_eq_getElem?_getD, hzk]
      simp only [Option.getD_some]
      have := u8_of_wf (hwz _ (List.mem_of_getElem? hzk))
      rw [← this]
end Go.Proofs.Ytecebamhenlnoaa

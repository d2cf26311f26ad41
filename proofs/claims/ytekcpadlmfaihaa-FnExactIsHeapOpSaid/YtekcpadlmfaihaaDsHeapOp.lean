/- Whatever reads as data of the law's type HeapOp is such a datum. -/
import Derived.Test.YtekcpadlmfaihaaDtHeapOp
import Derived.Test.YtekcpadlmfaihaaDop
import Derived.Test.YtekcpadlmfaihaaDsVector
namespace Go.Proofs.Ytekcpadlmfaihaa
open Go.RowKit
theorem HeapOp_shp {d : D} (h : shp Try.prog d 28) : ∃ x : Hop, d = x.toD := by
  obtain ⟨xs, rfl, g⟩ := shp_struct Try.underlying28 h
  clear h
  obtain ⟨x0, ys0, rfl, h0, g0⟩ := shpL_cons g
  obtain ⟨x1, ys1, rfl, h1, g1⟩ := shpL_cons g0
  obtain ⟨x2, ys2, rfl, h2, g2⟩ := shpL_cons g1
  obtain ⟨x3, ys3, rfl, h3, g3⟩ := shpL_cons g2
  obtain ⟨x4, ys4, rfl, h4, g4⟩ := shpL_cons g3
  obtain rfl := shpL_nil g4
  obtain ⟨v0, rfl⟩ := shp_int Try.underlying3 h0
  obtain ⟨v1, rfl⟩ := shp_str Try.underlying9 h1
  obtain ⟨v2, rfl⟩ := shp_str Try.underlying9 h2
  obtain ⟨v3, rfl⟩ := shp_int Try.underlying3 h3
  obtain ⟨v4, rfl⟩ := Vector_shp h4
  exact ⟨⟨v0, v1, v2, v3, v4⟩, by rw [HeapOp_toD]⟩
end Go.Proofs.Ytekcpadlmfaihaa
